/- States as values, and how they are compared. -/
import Derived.Test.YtggjmdgonjhioaaGreatProg
import Derived.Test.YtggjmdgonjhioaaGreatQZ00
import Derived.Test.YtggjmdgonjhioaaGreatQZ43
import Derived.Deep.CutBlock
import Derived.Deep.DeepCutAuto
namespace Go.Proofs.YtggjmdgonjhioaaGreat
open Go.RowKit Go.Dio

/-- A state by value. -/
structure StV where
  pc : Nat
  regs : List Nat
  csrs : List Nat
  A : Option Addr
  mem : List Nat
  cap : Nat

def StV.arr (s : StV) : Array Value := (.int .u32 (s.pc : Int) :: ((s.regs.map fun (n : Nat) => Value.int .u32 (n : Int)) ++ ((s.csrs.map fun (n : Nat) => Value.int .u32 (n : Int)) ++ [.slice s.A s.mem.length s.cap]))).toArray
structure StV.OK (s : StV) (w : World) : Prop where
  regs : s.regs.length = 32
  csrs : s.csrs.length = 5
  mem : NumsAt w .u32 s.A s.mem
  cap : s.mem.length ≤ s.cap
  big : s.cap ≤ 9223372036854775807

theorem StV.arr_size {s : StV} (hr : s.regs.length = 32) (hc : s.csrs.length = 5) : s.arr.size = 39 := by simp [StV.arr, hr, hc]
theorem StV.arr_pc (s : StV) : s.arr[0]? = some (.int .u32 (s.pc : Int)) := by simp [StV.arr]
theorem StV.arr_mem {s : StV} (hr : s.regs.length = 32) (hc : s.csrs.length = 5) : s.arr[38]? = some (.slice s.A s.mem.length s.cap) := by
  simp [StV.arr, hr, hc]

theorem StV.range_regs {w : World} {b : Nat} {s : StV} {fr : Nat × Nat} (hr : s.regs.length = 32) (h : w.heap[b]? = some (.cells s.arr 60 fr)) : w.rangeAt b 1 (nums .u32 s.regs).toList := fun j v hv => by
  rw [cell_of_row w b (1 + j) _ _ _ h]
  simp only [nums, List.getElem?_map] at hv
  have hj : j < 32 := by
    rcases Nat.lt_or_ge j 32 with h | h
    · exact h
    · rw [List.getElem?_eq_none (by simpa [hr] using h)] at hv; cases hv
  have e : 1 + j = j + 1 := by omega
  rw [e, StV.arr]
  simp only [List.getElem?_toArray, List.getElem?_cons_succ]
  rw [List.getElem?_append_left (by simp [hr, hj])]
  simpa using hv
theorem StV.range_csrs {w : World} {b : Nat} {s : StV} {fr : Nat × Nat} (hr : s.regs.length = 32) (hc : s.csrs.length = 5) (h : w.heap[b]? = some (.cells s.arr 60 fr)) : w.rangeAt b 33 (nums .u32 s.csrs).toList := fun j v hv => by
  rw [cell_of_row w b (33 + j) _ _ _ h]
  simp only [nums, List.getElem?_map] at hv
  have hj : j < 5 := by
    rcases Nat.lt_or_ge j 5 with h | h
    · exact h
    · rw [List.getElem?_eq_none (by simpa [hc] using h)] at hv; cases hv
  have e : 33 + j = (32 + j) + 1 := by omega
  rw [e, StV.arr]
  simp only [List.getElem?_toArray, List.getElem?_cons_succ]
  rw [List.getElem?_append_right (by simp [hr]), List.getElem?_append_left (by simp [hr, hc, hj])]
  simpa [hr] using hv

theorem info_regs : (Tryz.prog.info? 57).map (·.size) = some 32 := by kernel_rfl
theorem info_csrs : (Tryz.prog.info? 58).map (·.size) = some 5 := by kernel_rfl
theorem info_state : (Tryz.prog.info? 60).map (·.size) = some 39 := by kernel_rfl
def stEq (s t : StV) : Bool := decide (s.pc = t.pc) && (decide (s.regs = t.regs) && (decide (s.csrs = t.csrs) && decide (s.mem = t.mem)))

end Go.Proofs.YtggjmdgonjhioaaGreat

namespace Go.Proofs.YtggjmdgonjhioaaGreat
open Go.RowKit Go.Dio
set_option maxHeartbeats 1500000 in
theorem RefStates_calls (s t : StV) (w : World) (hs : s.OK w) (ht : t.OK w) :
    Calls Tryz.prog 35 #[.agg s.arr, .agg t.arr] w fun e w' => e = .returned (.bool (stEq s t)) ∧ Below w.heap.size w w' := by
  obtain ⟨hr1, hc1, hm1, hp1, hg1⟩ := hs
  obtain ⟨hr2, hc2, hm2, hp2, hg2⟩ := ht
  have HM1 := Lib.hid hm1
  have HM2 := Lib.hid hm2
  clear hm1 hm2
  have hq1 : ∀ w, (Op.equalIn 10000 57 (.agg (nums .u32 s.regs)) (.agg (nums .u32 t.regs))).run Tryz.prog w = .ok (decide (s.regs = t.regs)) w := fun w =>
    run_equalIn_nums w 9998 _ _ 32 .u32 Tryz.underlying57 Tryz.underlying36 (fun _ => by kernel_rfl) _ _ hr1 hr2
  have hq2 : ∀ w, (Op.equalIn 10000 58 (.agg (nums .u32 s.csrs)) (.agg (nums .u32 t.csrs))).run Tryz.prog w = .ok (decide (s.csrs = t.csrs)) w := fun w =>
    run_equalIn_nums w 9998 _ _ 5 .u32 Tryz.underlying58 Tryz.underlying36 (fun _ => by kernel_rfl) _ _ hc1 hc2
  go_enter Tryz.func35, Tryz.ntmps35
  go_upto_region 1 with (fail)
  obtain ⟨W, hW⟩ : ∃ W, W = (w.alloc (.cells s.arr 60)).alloc (.cells t.arr 60) := ⟨_, rfl⟩
  have hb1 : W.heap[w.heap.size]? = some (.cells s.arr 60 (0, 0)) := by rw [hW]; exact heap_old (Go.heap_alloc_last _ _) _
  have hb2 : W.heap[w.heap.size + 1]? = some (.cells t.arr 60 (0, 0)) := by rw [hW]; simpa using Go.heap_alloc_last (w.alloc (.cells s.arr 60)) (.cells t.arr 60)
  have hB : Below w.heap.size w W := by rw [hW]; exact ((Below.refl _ _).alloc (Nat.le_refl _) _).alloc (by simp) _
  rw [← hW]
  clear hW
  have l1 := StV.range_regs hr1 hb1
  have l2 := StV.range_regs hr2 hb2
  have l3 := StV.range_csrs hr1 hc1 hb1
  have l4 := StV.range_csrs hr2 hc2 hb2
  have n1 : (nums .u32 s.regs).size = 32 := by rw [nums_size, hr1]
  have n2 : (nums .u32 t.regs).size = 32 := by rw [nums_size, hr2]
  have n3 : (nums .u32 s.csrs).size = 5 := by rw [nums_size, hc1]
  have n4 : (nums .u32 t.csrs).size = 5 := by rw [nums_size, hc2]
  have c1 : W.cell? ⟨w.heap.size, 0, none⟩ = some (.int .u32 (s.pc : Int)) := by rw [cells_of hb1, StV.arr_pc]
  have c2 : W.cell? ⟨w.heap.size + 1, 0, none⟩ = some (.int .u32 (t.pc : Int)) := by rw [cells_of hb2, StV.arr_pc]
  have c3 : W.cell? ⟨w.heap.size, 38, none⟩ = some (.slice s.A s.mem.length s.cap) := by rw [cells_of hb1, StV.arr_mem hr1 hc1]
  have c4 : W.cell? ⟨w.heap.size + 1, 38, none⟩ = some (.slice t.A t.mem.length t.cap) := by rw [cells_of hb2, StV.arr_mem hr2 hc2]
  have HB1 := Lib.hid hb1
  have HB2 := Lib.hid hb2
  clear hb1 hb2
  by_cases e1 : s.pc = t.pc
  · obtain ⟨x1, x2⟩ := cast_eq_b e1
    by_cases e2 : s.regs = t.regs
    · have y2 := decide_eq_true e2
      by_cases e3 : s.csrs = t.csrs
      · have y3 := decide_eq_true e3
        by_cases e4 : s.mem.length = t.mem.length
        · obtain ⟨z1, z2⟩ := cast_eq_b e4
          have HE : Hid (stEq s t = decide (s.mem = t.mem)) := by show stEq s t = _; simp [stEq, e1, e2, e3]
          have hml : t.mem.length ≤ s.mem.length := by omega
          have hml' : s.mem.length ≤ t.mem.length := by omega
          clear e1 e2 e3 e4
          go_wp2_with (first
            | go_skip
            | (refine L_load 57 (.tmp 12) rfl (by kernel_rfl) _ _ rfl _ l1 Tryz.underlying57 rfl 32 info_regs n1 ?_)
            | (refine L_load 57 (.tmp 14) rfl (by kernel_rfl) _ _ rfl _ l2 Tryz.underlying57 rfl 32 info_regs n2 ?_)
            | (refine L_load 58 (.tmp 19) rfl (by kernel_rfl) _ _ rfl _ l3 Tryz.underlying58 rfl 5 info_csrs n3 ?_)
            | (refine L_load 58 (.tmp 21) rfl (by kernel_rfl) _ _ rfl _ l4 Tryz.underlying58 rfl 5 info_csrs n4 ?_))
          rcases Nat.eq_zero_or_pos s.mem.length with h0 | h0
          · have hm0 : s.mem = [] := List.eq_nil_of_length_eq_zero h0
            have hm1 : t.mem = [] := List.eq_nil_of_length_eq_zero (by omega)
            have HD := Lib.hid (show stEq s t = true by rw [HE.out, hm0, hm1]; rfl)
            have z0 : ((s.mem.length : Nat) : Int) ≤ 0 := by omega
            clear hm0 hm1 HE
            refine wp_loop_rounds 1 ?_
            rw [rounds_succ]
            go_wp2
            go_ret
            exact ⟨by rw [HD.out]; rfl, hB⟩
          · obtain ⟨b1, o1, hA1, hlt1, hd1⟩ := HM1.out h0
            obtain ⟨b2, o2, hA2, hlt2, hd2⟩ := HM2.out (by omega)
            rw [hA1] at c3
            rw [hA2] at c4
            have C1 := Lib.hid hd1
            have C2 := Lib.hid hd2
            have k1 : ∀ i, W.cell? ⟨b1, i, none⟩ = w.cell? ⟨b1, i, none⟩ := fun i => hB.cell hlt1
            have k2 : ∀ i, W.cell? ⟨b2, i, none⟩ = w.cell? ⟨b2, i, none⟩ := fun i => hB.cell hlt2
            clear hd1 hd2 hA1 hA2
            go_loopw [5, 37] (fun _ i wr => ∃ k : Nat, k ≤ s.mem.length ∧ i = .int .i64 k ∧ Hid (s.mem.take k = t.mem.take k) ∧ ∃ n, wr = W.drewN n) (fun _ i _ => s.mem.length - (intOf i).toNat)
            case atStart => exact ⟨0, Nat.zero_le _, rfl, rfl, 0, rfl⟩
            case round =>
              obtain ⟨k, hk, rfl, HT, n, rfl⟩ := hrel
              by_cases hlt : k < s.mem.length
              · have g1 := C1.out k hlt
                have g2 := C2.out k (by omega)
                by_cases he : nth s.mem k = nth t.mem k
                · obtain ⟨hb1, hb2⟩ := cast_eq_b he
                  have HN : Hid (s.mem.take (k + 1) = t.mem.take (k + 1)) := take_eq_of k HT.out hlt (by omega) he
                  clear he
                  have hkm : k < t.mem.length := by omega
                  go_wp2
                  go_quiet (fail)
                  go_wp2
                  go_roundw
                  case rel => exact ⟨k + 1, by omega, by go_num, HN, _, rfl⟩
                  case measure => simp [intOf]; omega
                · obtain ⟨hb1, hb2⟩ := cast_ne_b he
                  have hd : stEq s t = false := by
                    rw [HE.out, decide_eq_false_iff_not]
                    exact ne_of_nth k he
                  have HD := Lib.hid hd
                  clear he hd
                  have hkm : k < t.mem.length := by omega
                  go_wp2
                  go_quiet (fail)
                  go_wp2
                  go_ret
                  exact ⟨by rw [HD.out]; rfl, hB.trans (((drewN_below _ _).mono (by simpa using hB.size)).trans ((drewN_below _ _).mono (by simpa using hB.size)))⟩
              · have hd : stEq s t = true := by
                  have := HT.out
                  rw [List.take_of_length_le (by omega), List.take_of_length_le (by omega)] at this
                  rw [HE.out, this]
                  simp
                have HD := Lib.hid hd
                clear hd
                go_wp2
                go_ret
                exact ⟨by rw [HD.out]; rfl, hB.trans ((drewN_below _ _).mono (by simpa using hB.size))⟩
        · obtain ⟨z1, z2⟩ := cast_ne_b e4
          have HE : Hid (stEq s t = false) := by
            show stEq s t = _
            have : ¬ s.mem = t.mem := fun e => e4 (by rw [e])
            simp [stEq, this]
          clear e1 e2 e3 e4
          go_wp2_with (first
            | go_skip
            | (refine L_load 57 (.tmp 12) rfl (by kernel_rfl) _ _ rfl _ l1 Tryz.underlying57 rfl 32 info_regs n1 ?_)
            | (refine L_load 57 (.tmp 14) rfl (by kernel_rfl) _ _ rfl _ l2 Tryz.underlying57 rfl 32 info_regs n2 ?_)
            | (refine L_load 58 (.tmp 19) rfl (by kernel_rfl) _ _ rfl _ l3 Tryz.underlying58 rfl 5 info_csrs n3 ?_)
            | (refine L_load 58 (.tmp 21) rfl (by kernel_rfl) _ _ rfl _ l4 Tryz.underlying58 rfl 5 info_csrs n4 ?_))
          go_ret
          exact ⟨by rw [HE.out]; rfl, hB⟩
      · have y3 := decide_eq_false e3
        have HE : Hid (stEq s t = false) := by show stEq s t = _; simp [stEq, e3]
        clear e1 e2 e3
        go_wp2_with (first
          | go_skip
          | (refine L_load 57 (.tmp 12) rfl (by kernel_rfl) _ _ rfl _ l1 Tryz.underlying57 rfl 32 info_regs n1 ?_)
          | (refine L_load 57 (.tmp 14) rfl (by kernel_rfl) _ _ rfl _ l2 Tryz.underlying57 rfl 32 info_regs n2 ?_)
          | (refine L_load 58 (.tmp 19) rfl (by kernel_rfl) _ _ rfl _ l3 Tryz.underlying58 rfl 5 info_csrs n3 ?_)
          | (refine L_load 58 (.tmp 21) rfl (by kernel_rfl) _ _ rfl _ l4 Tryz.underlying58 rfl 5 info_csrs n4 ?_))
        go_ret
        exact ⟨by rw [HE.out]; rfl, hB⟩
    · have y2 := decide_eq_false e2
      have HE : Hid (stEq s t = false) := by show stEq s t = _; simp [stEq, e2]
      clear e1 e2
      go_wp2_with (first
          | go_skip
          | (refine L_load 57 (.tmp 12) rfl (by kernel_rfl) _ _ rfl _ l1 Tryz.underlying57 rfl 32 info_regs n1 ?_)
          | (refine L_load 57 (.tmp 14) rfl (by kernel_rfl) _ _ rfl _ l2 Tryz.underlying57 rfl 32 info_regs n2 ?_)
          | (refine L_load 58 (.tmp 19) rfl (by kernel_rfl) _ _ rfl _ l3 Tryz.underlying58 rfl 5 info_csrs n3 ?_)
          | (refine L_load 58 (.tmp 21) rfl (by kernel_rfl) _ _ rfl _ l4 Tryz.underlying58 rfl 5 info_csrs n4 ?_))
      go_ret
      exact ⟨by rw [HE.out]; rfl, hB⟩
  · obtain ⟨x1, x2⟩ := cast_ne_b e1
    have HE : Hid (stEq s t = false) := by show stEq s t = _; simp [stEq, e1]
    clear e1
    go_wp2
    go_ret
    exact ⟨by rw [HE.out]; rfl, hB⟩
end Go.Proofs.YtggjmdgonjhioaaGreat

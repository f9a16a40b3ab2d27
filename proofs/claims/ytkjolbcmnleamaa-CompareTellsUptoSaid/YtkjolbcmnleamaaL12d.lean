/- Law 12: CompareTells. -/
import Derived.Test.YtkjolbcmnleamaaL12c
import Derived.Test.YtkjolbcmnleamaaSeg
import Derived.Test.YtkjolbcmnleamaaCel
namespace Go.Proofs.Ytkjolbcmnleamaa
open Go.RowKit Go.Dio
set_option linter.unusedSimpArgs false
set_option linter.unusedVariables false

def retVals (l : List RetV) : List Value := l.flatMap fun r => r.arr.toList
theorem retVals_len : ∀ l : List RetV, (retVals l).length = l.length * 7
  | [] => rfl
  | a :: l => by
    have := retVals_len l
    simp only [retVals, List.flatMap_cons, List.length_append, List.length_cons] at this ⊢
    rw [this]; simp [RetV.arr]; omega
theorem retVals_append (l m : List RetV) : retVals (l ++ m) = retVals l ++ retVals m := by simp [retVals]
theorem retVals_one (l : List RetV) : ∀ u ∈ retVals l, u.oneCell' = true := fun u hu => by
  obtain ⟨r, _, hr⟩ := List.mem_flatMap.1 hu
  simp [RetV.arr] at hr
  rcases hr with rfl | rfl | rfl | rfl | rfl | rfl | rfl <;> rfl
theorem retVals_at : ∀ (l : List RetV) (k j : Nat) (v : Value) (h : k < l.length), l[k].arr.toList[j]? = some v → (retVals l)[k * 7 + j]? = some v
  | [], _, _, _, h, _ => by simp at h
  | a :: l, 0, j, v, _, h => by
    have hj : j < 7 := (List.getElem?_eq_some_iff.1 h).1
    simp only [retVals, List.flatMap_cons, Nat.zero_mul, Nat.zero_add]
    rw [List.getElem?_append_left (by simpa [RetV.arr] using hj)]
    exact h
  | a :: l, k + 1, j, v, hk, h => by
    have ih := retVals_at l k j v (by simpa using hk) (by simpa using h)
    simp only [retVals, List.flatMap_cons] at ih ⊢
    have e0 : a.arr.toList.length = 7 := rfl
    rw [List.getElem?_append_right (by rw [e0]; omega), e0]
    have e : (k + 1) * 7 + j - 7 = k * 7 + j := by omega
    rw [e]; exact ih
theorem retVals_mod (l : List RetV) (n : Nat) (v : Value) (h : (retVals l)[n]? = some v) : ∃ (h1 : n / 7 < l.length), l[n / 7].arr.toList[n % 7]? = some v := by
  have hn : n < (retVals l).length := (List.getElem?_eq_some_iff.1 h).1
  rw [retVals_len] at hn
  have h1 : n / 7 < l.length := by omega
  refine ⟨h1, ?_⟩
  have h7 : n % 7 < l[n / 7].arr.toList.length := by show n % 7 < 7; omega
  have := retVals_at l (n / 7) (n % 7) _ h1 (List.getElem?_eq_getElem h7)
  rw [show n / 7 * 7 + n % 7 = n by omega, h] at this
  rw [List.getElem?_eq_getElem h7, this]
theorem srcAt_rets {w : World} {A : Option Addr} {l : List RetV} (h : RetsAt w A l) : SrcAt w A (retVals l) := fun hne => by
  have h0 : 0 < l.length := by
    rcases Nat.eq_zero_or_pos l.length with h0 | h0
    · rw [List.length_eq_zero_iff] at h0; subst h0; exact absurd rfl hne
    · exact h0
  obtain ⟨b, o, hA, hb, hc⟩ := h h0
  refine ⟨b, o, hA, fun j v hv => ?_⟩
  obtain ⟨h1, h2⟩ := retVals_mod l j v hv
  have := hc (j / 7) h1 (j % 7) v h2
  rw [← this]; congr 2; omega
theorem rets_of_own {w : World} {base e : Nat} {v : Value} {n : Nat} {l : List RetV} (h : w.ownsRow base e 7 v n (retVals l)) :
    ∃ A cap, v = .slice A l.length cap ∧ n = l.length ∧ RetsAt w A l := by
  have hn : n = l.length := by have := h.1; rw [retVals_len] at this; omega
  rcases h.2 with ⟨rfl, h0⟩ | ⟨g, cap, cur, rfl, hg, hh, hc1, hc2, _, _⟩
  · exact ⟨none, 0, by rw [← hn, h0], hn, fun h1 => by omega⟩
  · refine ⟨some ⟨g, 0, none⟩, cap, by rw [hn], hn, fun _ => ⟨g, 0, rfl, (h.lt g rfl).2, fun k hk j v hv => ?_⟩⟩
    have := h.cells (g := g) rfl (k * 7 + j) v (retVals_at l k j v hk hv)
    rw [Addr.add_mid] at this
    rw [← this]
    simp
theorem RetsAt.take {w : World} {A : Option Addr} {l : List RetV} (h : RetsAt w A l) (n : Nat) : RetsAt w A (l.take n) := fun h0 => by
  have h1 : 0 < l.length := by rw [List.length_take] at h0; omega
  obtain ⟨b, o, hA, hb, hc⟩ := h h1
  refine ⟨b, o, hA, hb, fun i hi => ?_⟩
  have hi' : i < l.length := by rw [List.length_take] at hi; omega
  have := hc i hi'
  simpa using this
theorem info_retV : (Try.prog.info? 24).map (fun i => (i.zero, i.size, i.bytes)) = some (some (.agg #[.int .u32 0, .int .u32 0, .int .i64 0, .bool false, .int .u32 0, .int .u32 0, .int .i64 0]), 7, 40) := by kernel_rfl

/-- A state that has another one's memory and registers. -/
def StV.mix (s t : StV) : StV := ⟨t.pc, s.regs, t.csrs, s.A, s.mem, s.cap⟩
theorem StV.mix_ok {s t : StV} {w : World} (hs : s.OK w) (ht : t.OK w) : (s.mix t).OK w := ⟨hs.regs, ht.csrs, hs.mem, hs.cap, hs.big⟩
theorem StV.mix_cells {s t : StV} {w : World} (hs : s.OK w) (ht : t.OK w) : spl (t.arr.toList.set 38 (.slice s.A s.mem.length s.cap)) 1 (nums .u32 s.regs).toList = (s.mix t).arr.toList := by
  have r1 := hs.regs
  have r2 := ht.regs
  have r3 := ht.csrs
  have e1 : (nums .u32 s.regs).toList = s.regs.map fun (n : Nat) => Value.int .u32 (n : Int) := by simp [nums]
  simp only [spl, e1, StV.arr, StV.mix, List.length_map, r1]
  generalize hR : (t.regs.map fun (n : Nat) => Value.int .u32 (n : Int)) = R
  generalize hC : (t.csrs.map fun (n : Nat) => Value.int .u32 (n : Int)) = C
  have lR : R.length = 32 := by rw [← hR]; simpa using r2
  have lC : C.length = 5 := by rw [← hC]; simpa using r3
  have e2 : ∀ x y z : Value, (x :: (R ++ (C ++ [y]))).set 38 z = x :: (R ++ (C ++ [z])) := fun x y z => by
    simp [List.set_append, lR, lC]
  rw [e2]
  simp [lR, List.drop_append, List.drop_eq_nil_of_le]

theorem StV.arr_one (s : StV) : s.arr.all (·.oneCell') = true := by
  rw [Array.all_eq_true_iff_forall_mem]
  intro v hv
  simp only [StV.arr, List.mem_toArray, List.mem_cons, List.mem_append, List.mem_map, List.not_mem_nil, or_false] at hv
  rcases hv with rfl | ⟨_, _, rfl⟩ | ⟨_, _, rfl⟩ | rfl <;> rfl
set_option maxRecDepth 20000 in
set_option maxHeartbeats 4000000 in
theorem tells_walk (A B P Q : Option Addr) (l m : List RetV) (p q : List Nat) (c1 c2 c3 c4 : Nat) (s t : StV) (n : Int) (w : World) (ha : RetsAt w A l) (hb : RetsAt w B m) (hp : NumsAt w .u32 P p) (hq : NumsAt w .u32 Q q) (hs : s.OK w) (ht : t.OK w)
    (hl : l.length ≤ 1048576) (hm : m.length ≤ 1048576) (hpl : p.length ≤ 1048576) (hql : q.length ≤ 1048576) (hc1 : l.length ≤ c1) (hc3 : p.length ≤ c3) (hc4 : q.length ≤ c4) (hc1b : c1 ≤ 9223372036854775807) :
    Calls Try.prog 4 #[.slice A l.length c1, .slice B m.length c2, .slice P p.length c3, .slice Q q.length c4, .agg s.arr, .agg t.arr, .int .i64 n] w fun e w' => e = .returned (.bool true) ∧ Below w.heap.size w w' := by
  have HA := Lib.hid ha
  have HB := Lib.hid hb
  have HP := Lib.hid hp
  have HQ := Lib.hid hq
  have HS := Lib.hid hs
  have HT := Lib.hid ht
  have sz1 : s.arr.size = 39 := StV.arr_size hs.regs hs.csrs
  have sz2 : t.arr.size = 39 := StV.arr_size ht.regs ht.csrs
  clear ha hb hp hq hs ht
  obtain ⟨L, hL⟩ : ∃ L, L = l.length := ⟨_, rfl⟩
  rw [← hL] at hl hc1 ⊢
  have HL := Lib.hid hL
  clear hL
  have hP1 := Lib.hid (place_ok n L)
  go_enter Try.func4, Try.ntmps4
  go_upto_region 1 with (fail)
  obtain ⟨W, hW⟩ : ∃ W, W = (w.alloc (.cells s.arr 32)).alloc (.cells t.arr 32) := ⟨_, rfl⟩
  have l1 : W.heap[w.heap.size]? = some (.cells s.arr 32 (0, 0)) := by rw [hW]; exact heap_old (Go.heap_alloc_last _ _) _
  have l2 : W.heap[w.heap.size + 1]? = some (.cells t.arr 32 (0, 0)) := by rw [hW]; simpa using Go.heap_alloc_last (w.alloc (.cells s.arr 32)) (.cells t.arr 32)
  have zW : W.heap.size = w.heap.size + 2 := by rw [hW]; simp
  have uW : Upd [] w W := by rw [hW]; exact ((Upd.refl _ _).alloc _).alloc _
  rw [← hW]
  clear hW
  have UW := Lib.hid uW
  have L1 := Lib.hid l1
  have L2 := Lib.hid l2
  have ZW := Lib.hid zW
  clear uW l1 l2 zW
  generalize w.heap.size + 1 = b2 at L2 ⊢
  go_upto_if 19 with (fail)
  go_cut [15] (fun v15 wc => ∃ k : Nat, v15 = .int .i64 (k : Int) ∧ Hid (k < L ∨ (k = 0 ∧ L = 0)) ∧ Hid (wc = W))
  case first =>
    rcases Nat.eq_zero_or_pos L with h0 | h0
    · subst h0
      go_wp2
      go_meet
      case rel => exact ⟨0, rfl, Lib.hid (by simp), Lib.hid rfl⟩
    · obtain ⟨p1, p2, p3, p4⟩ := hP1.out (by omega) (by omega)
      have hz : ((L : Int) == 0) = false := by simp; omega
      go_wp2
      go_meet
      case rel =>
        have hL0 : (L : Int) ≠ 0 := by omega
        have r1 := Int.emod_nonneg (n.tmod L + L) hL0
        have r3 := Int.emod_lt_of_pos (n.tmod L + L) (b := (L : Int)) (by omega)
        exact ⟨((n.tmod L + L) % L).toNat, by rw [Int.toNat_of_nonneg r1], Lib.hid (.inl (by omega)), Lib.hid rfl⟩
  case rest =>
    obtain ⟨k, rfl, hk, hw⟩ := hcut
    obtain rfl := hw.out
    clear hw
    go_wp2_with (first
      | go_skip
      | (refine L_load 32 (.tmp 12) rfl (by kernel_rfl) _ _ rfl t.arr (row_range L2.out) Try.underlying32 rfl 39 info_state sz2 ?_)
      | (refine L_store_new 32 (.tmp 16) (.tmp 30) rfl (by kernel_rfl) _ t.arr rfl rfl 39 info_state rfl sz2 (StV.arr_one t) ?_))
    obtain ⟨W3, hW3⟩ : ∃ W3, W3 = wc.alloc (.cells t.arr 32) := ⟨_, rfl⟩
    have l3 : W3.heap[wc.heap.size]? = some (.cells t.arr 32 (0, 0)) := by rw [hW3]; exact Go.heap_alloc_last _ _
    have u3 : Upd [] wc W3 := by rw [hW3]; exact (Upd.refl _ _).alloc _
    rw [← hW3]
    clear hW3
    have hb1 : w.heap.size ≠ wc.heap.size := by have := ZW.out; omega
    have L13 := Lib.hid (u3.keep L1.out (by simp))
    have LT3 := Lib.hid (u3.keep L2.out (by simp))
    have hb2 : b2 ≠ wc.heap.size := by have := lt_of_block L2.out; omega
    have L3 := Lib.hid l3
    have U3 := Lib.hid (UW.out.trans u3)
    have hb3 : w.heap.size < wc.heap.size := by have := ZW.out; omega
    clear u3 l3 L1 L2 UW ZW
    generalize wc.heap.size = b3 at L3 hb1 hb2 hb3 ⊢
    have n38 : ∀ x : Near [b3] W3, x.1.cell? ⟨w.heap.size, 38, none⟩ = some (.slice s.A s.mem.length s.cap) := fun x => by rw [cells_of (x.2.keep L13.out (by simpa using hb1))]; exact StV.arr_mem HS.out.regs HS.out.csrs
    have n1 : ∀ x : Near [b3] W3, x.1.rangeAt w.heap.size 1 (nums .u32 s.regs).toList := fun x => StV.range_regs HS.out.regs (x.2.keep L13.out (by simpa using hb1))
    have N1 := Lib.hid n1
    clear n1
    refine wp_region_plan (fun z => ∃ x : Near [b3] W3, z = x.1) [([0, 1, 2, 3, 4], 5), ([6], 7)] [] (by kernel_rfl) (by kernel_rfl) (by kernel_rfl) (by kernel_rfl) (fun _ d _ _ _ h => by cases d <;> exact h) ⟨⟨(W3).drew, (Upd.refl _ _).drew⟩, rfl⟩ ?_
    refine plan_next ?_
    simp only [opsAt, List.map_cons, List.map_nil, List.getElem?_toArray, List.getElem?_cons_zero, List.getElem?_cons_succ, Option.getD_some]
    go_simp
    repeat (go_big_quiet_step (fail))
    refine Q_load 29 (.tmp 33) rfl (by kernel_rfl) _ _ rfl (nums .u32 s.regs) (by rintro _ ⟨x, rfl⟩; exact N1.out x) Try.underlying29 rfl 32 info_regs (by rw [nums_size]; exact HS.out.regs) ?_
    go_simp
    repeat (go_big_quiet_step (fail))
    refine wpQuiet_nil ?_
    refine plan_one rfl ?_
    have c38 : W3.drew.cell? ⟨b3, 38, none⟩ = some (.slice t.A t.mem.length t.cap) := by rw [cells_of (show W3.drew.heap[b3]? = _ from L3.out)]; exact StV.arr_mem HT.out.regs HT.out.csrs
    have f38 : W3.drew.frozen? ⟨b3, 38, none⟩ = false := free_of (show W3.drew.heap[b3]? = _ from L3.out) 38
    go_wp2_with fail
    have U4 : Upd [b3] W3 (W3.setCell ⟨b3, 38, none⟩ (.slice s.A s.mem.length s.cap)).drew := ((Upd.refl [b3] W3).setCell (p := ⟨b3, 38, none⟩) (by simp) _).drew
    have l4 : (W3.setCell ⟨b3, 38, none⟩ (.slice s.A s.mem.length s.cap)).drew.heap[b3]? = some (.cells (t.arr.toList.set 38 (.slice s.A s.mem.length s.cap)).toArray 32 (0, 0)) := by
      show (W3.setCell ⟨b3, 38, none⟩ (.slice s.A s.mem.length s.cap)).heap[b3]? = _
      rw [heap_setCell_eq L3.out]
      congr 2
      apply Array.ext'; simp
    generalize (W3.setCell ⟨b3, 38, none⟩ (.slice s.A s.mem.length s.cap)).drew = W4 at U4 l4 ⊢
    have L4 := Lib.hid l4
    clear l4 c38 f38
    refine plan_same ⟨⟨_, U4⟩, rfl⟩ ?_
    refine plan_next ?_
    simp only [opsAt, List.map_cons, List.map_nil, List.getElem?_toArray, List.getElem?_cons_zero, List.getElem?_cons_succ, Option.getD_some]
    repeat (go_big_quiet_step (fail))
    refine wpQuiet_nil ?_
    refine plan_one rfl ?_
    refine L_store_row 29 (.tmp 36) (.tmp 34) rfl (by kernel_rfl) b3 1 rfl _ 32 L4.out (nums .u32 s.regs) rfl 32 info_regs (by rw [nums_size]; exact HS.out.regs) (by simp [sz2]) (nums_one _ _) ?_
    intro W5 l5 u5 z5
    rw [StV.mix_cells HS.out HT.out] at l5
    have L5 := Lib.hid l5
    have U5 := Lib.hid (U4.trans u5)
    clear l5 u5 z5 U4 L4
    go_wp2_with fail
    refine plan_same ⟨⟨_, U5.out⟩, rfl⟩ ?_
    refine plan_last ?_
    simp only [opsAt, List.map_cons, List.map_nil, List.getElem?_toArray, List.getElem?_cons_zero, List.getElem?_cons_succ, Option.getD_some]
    repeat (go_big_quiet_step (fail))
    refine wpQuiet_nil ?_
    unfold planEnd
    go_wp2_with fail
    go_simp
    clear n38 N1
    have K1 := Lib.hid (L13.out)
    have U0 := Lib.hid (Upd.refl [] W5)
    have UW := Lib.hid (U3.out.then U5.out (fun x hx hlt => by simp at hx; omega))
    have L15 := Lib.hid (U5.out.keep L13.out (by simpa using hb1))
    have h5 : w.heap.size ≤ W5.heap.size := Nat.le_trans U3.out.size U5.out.size
    have LT := Lib.hid (U5.out.keep LT3.out (by simpa using hb2))
    clear LT3 hb2
    have HX := Lib.hid (StV.mix_ok HS.out HT.out)
    have sz3 : (s.mix t).arr.size = 39 := StV.arr_size HX.out.regs HX.out.csrs
    generalize s.mix t = x at HX sz3 L5
    have hkl : k ≤ L := by rcases hk.out with h | ⟨h, _⟩ <;> omega
    have hkc : k ≤ c1 := by omega
    have TK := Lib.hid (show (l.take k).length = k by rw [List.length_take, ← HL.out]; omega)
    have dL : decide ((0 : Int) ≤ (k : Int)) = true := by rw [decide_eq_true_iff]; omega
    clear hb1 hb3 L3 L13 U3 U5 K1
    obtain ⟨b1, hb1⟩ : ∃ b1, b1 = w.heap.size := ⟨_, rfl⟩
    have N1 := Lib.hid (show ∀ z : Near [] W5, z.1.rangeAt w.heap.size 0 s.arr.toList from fun z => row_range (z.2.keep L15.out (by simp)))
    have N2 := Lib.hid (show ∀ z : Near [] W5, z.1.rangeAt b2 0 t.arr.toList from fun z => row_range (z.2.keep LT.out (by simp)))
    have N3 := Lib.hid (show ∀ z : Near [] W5, z.1.rangeAt b3 0 x.arr.toList from fun z => row_range (z.2.keep L5.out (by simp)))
    have S1 := Lib.hid fun w' (u : Upd [] w w') => same_calls A B P Q l m p q c1 c2 c3 c4 s t w' (HA.out.of_upd u) (HB.out.of_upd u) (HP.out.of_upd u) (HQ.out.of_upd u) (HS.out.of_upd u) (HT.out.of_upd u) (by rw [← HL.out]; omega) (by omega) (by omega) (by omega)
    rw [← HL.out] at S1
    refine wp_region_plan (fun z => ∃ x : Near [] W5, z = x.1) [([0, 1, 2, 3, 4, 5], 6), ([7, 8, 9, 10, 11, 12, 14, 16, 18, 19], 13), ([], 15), ([], 17), ([], 20), ([21, 22, 23, 25, 26, 27, 29, 31, 32, 33, 34], 24), ([], 28), ([], 30), ([], 35), ([36, 37, 38, 39, 40, 41, 42, 43, 44, 45, 46, 47, 48, 50, 51, 52, 53, 54, 55, 56, 57], 49), ([58, 59, 60, 61], 62)] [63, 64] (by kernel_rfl) (by kernel_rfl) (by kernel_rfl) (by kernel_rfl) (fun _ d _ _ _ h => by cases d <;> exact h) ⟨⟨(W5).drew, (Upd.refl _ _).drew⟩, rfl⟩ ?_
    refine plan_next ?_
    simp only [opsAt, List.map_cons, List.map_nil, List.getElem?_toArray, List.getElem?_cons_zero, List.getElem?_cons_succ, Option.getD_some]
    go_simp
    repeat (go_big_quiet_step (fail))
    refine Q_load 32 (.tmp 11) rfl (by kernel_rfl) _ _ rfl s.arr (by rintro _ ⟨z, rfl⟩; exact N1.out z) Try.underlying32 rfl 39 info_state sz1 ?_
    go_simp
    repeat (go_big_quiet_step (fail))
    refine Q_load 32 (.tmp 12) rfl (by kernel_rfl) _ _ rfl t.arr (by rintro _ ⟨z, rfl⟩; exact N2.out z) Try.underlying32 rfl 39 info_state sz2 ?_
    go_simp
    repeat (go_big_quiet_step (fail))
    refine wpQuiet_nil ?_
    refine plan_one rfl ?_
    go_wp2_with fail
    have UD := Lib.hid (UW.out.drew)
    have UF := Lib.hid ((Upd.refl [] W5).drew)
    refine (S1.out _ UD.out).mono ?_
    rintro e w' ⟨rfl, hb⟩
    replace UD := Lib.hid (UD.out.trans (Upd.of_below hb))
    replace UF := Lib.hid (UF.out.trans (Upd.of_below hb))
    clear hb
    go_wp2_with fail
    refine plan_same ⟨⟨_, UF.out⟩, rfl⟩ ?_
    refine plan_next ?_
    simp only [opsAt, List.map_cons, List.map_nil, List.getElem?_toArray, List.getElem?_cons_zero, List.getElem?_cons_succ, Option.getD_some]
    go_simp
    repeat (go_big_quiet_step (fail))
    refine Q_load 32 (.tmp 11) rfl (by kernel_rfl) _ _ rfl s.arr (by rintro _ ⟨z, rfl⟩; exact N1.out z) Try.underlying32 rfl 39 info_state sz1 ?_
    go_simp
    repeat (go_big_quiet_step (fail))
    refine Q_load 32 (.tmp 16) rfl (by kernel_rfl) _ _ rfl x.arr (by rintro _ ⟨z, rfl⟩; exact N3.out z) Try.underlying32 rfl 39 info_state sz3 ?_
    go_simp
    repeat (go_big_quiet_step (fail))
    refine wpQuiet_nil ?_
    refine plan_one rfl ?_
    clear S1
    go_wp2_with fail
    have hsz : W5.heap.size ≤ w'.heap.size := UF.out.size
    replace UD := Lib.hid (UD.out.alloc (.cells #[] 22))
    replace UF := Lib.hid (UF.out.alloc (.cells #[] 22))
    refine plan_same ⟨⟨_, UF.out⟩, rfl⟩ ?_
    refine plan_next ?_
    simp only [opsAt, List.map_cons, List.map_nil, List.getElem?_toArray, List.getElem?_cons_zero, List.getElem?_cons_succ, Option.getD_some]
    repeat (go_big_quiet_step (fail))
    refine wpQuiet_nil ?_
    refine plan_one rfl ?_
    refine L_append _ (.tmp 50) (.tmp 51) 28 rfl (by kernel_rfl) W5.heap.size 22 _ 1 4 Try.underlying28 info_u32 rfl (by omega) (.slice (some ⟨w'.heap.size, 0, none⟩) 0 0) 0 [] rfl (World.ownsRow_lit _ #[] 0 hsz (by simp [maxLen]) rfl) Q q.length c4 (vals .u32 q) rfl (by simp [vals]) (srcAt_nums (HQ.out.of_upd UD.out)) (vals_one _ _) (by simp only [maxLen]; omega) (by omega) UF.out.size ?_
    intro v1 w1 own1 g1 at1
    have hb1 : ∀ g, v1.ownBlock = some g → W5.heap.size ≤ g := fun g hg => (own1.lt g hg).1
    replace UD := Lib.hid (UD.out.grown g1 (fun g hg hlt => by simp [Value.ownBlock] at hg; omega))
    replace UF := Lib.hid (UF.out.grown g1 (fun g hg hlt => by simp [Value.ownBlock] at hg; omega))
    have OW := Lib.hid own1
    clear own1 g1 at1
    go_simp
    refine wpList_nil ?_
    refine plan_same ⟨⟨_, UF.out⟩, rfl⟩ ?_
    refine plan_next ?_
    simp only [opsAt, List.map_cons, List.map_nil, List.getElem?_toArray, List.getElem?_cons_zero, List.getElem?_cons_succ, Option.getD_some]
    repeat (go_big_quiet_step (fail))
    refine wpQuiet_nil ?_
    refine plan_one rfl ?_
    refine L_append _ (.tmp 52) (.tmp 53) 28 rfl (by kernel_rfl) W5.heap.size 22 _ 1 4 Try.underlying28 info_u32 rfl (by omega) v1 (0 + q.length) ([] ++ vals .u32 q) rfl OW.out P p.length c3 (vals .u32 p) rfl (by simp [vals]) (srcAt_nums (HP.out.of_upd UD.out)) (vals_one _ _) (by simp only [maxLen]; omega) (by omega) UF.out.size ?_
    intro v2 w2 own2 g1 at1
    replace UD := Lib.hid (UD.out.grown g1 (fun g hg hlt => by have := hb1 g hg; omega))
    replace UF := Lib.hid (UF.out.grown g1 (fun g hg hlt => by have := hb1 g hg; omega))
    clear g1 at1 hb1
    have own3 : w2.ownsRow W5.heap.size 22 1 v2 (0 + q.length + p.length) (vals .u32 (q ++ p)) := by rw [vals_append]; exact own2
    obtain ⟨C, cap, rfl, hn, hcc, hcb, hC, hC2⟩ := nums_of_own own3
    have S2 := Lib.hid (same_calls A A Q C l (l.take k) q (q ++ p) c1 c1 c4 cap s x w2 (HA.out.of_upd UD.out) ((HA.out.of_upd UD.out).take k) (HQ.out.of_upd UD.out) hC (HS.out.of_upd UD.out) (HX.out.of_upd UD.out) (by rw [← HL.out]; omega) (by rw [TK.out]; omega) (by omega) hcc)
    rw [← HL.out, TK.out] at S2
    generalize (q ++ p).length = M at S2 ⊢
    clear own2 own3 hn hcc hcb hC hC2 OW
    go_simp
    refine wpList_nil ?_
    refine plan_same ⟨⟨_, UF.out⟩, rfl⟩ ?_
    refine plan_next ?_
    simp only [opsAt, List.map_cons, List.map_nil, List.getElem?_toArray, List.getElem?_cons_zero, List.getElem?_cons_succ, Option.getD_some]
    repeat (go_big_quiet_step (fail))
    refine wpQuiet_nil ?_
    refine plan_one rfl ?_
    go_wp2_with fail
    refine S2.out.mono ?_
    rintro e w' ⟨rfl, hb⟩
    replace UD := Lib.hid (UD.out.trans (Upd.of_below hb))
    replace UF := Lib.hid (UF.out.trans (Upd.of_below hb))
    clear hb S2
    go_wp2_with fail
    refine plan_same ⟨⟨_, UF.out⟩, rfl⟩ ?_
    refine plan_next ?_
    simp only [opsAt, List.map_cons, List.map_nil, List.getElem?_toArray, List.getElem?_cons_zero, List.getElem?_cons_succ, Option.getD_some]
    go_simp
    repeat (go_big_quiet_step (fail))
    refine Q_load 32 (.tmp 11) rfl (by kernel_rfl) _ _ rfl s.arr (by rintro _ ⟨z, rfl⟩; exact N1.out z) Try.underlying32 rfl 39 info_state sz1 ?_
    go_simp
    repeat (go_big_quiet_step (fail))
    refine Q_load 32 (.tmp 11) rfl (by kernel_rfl) _ _ rfl s.arr (by rintro _ ⟨z, rfl⟩; exact N1.out z) Try.underlying32 rfl 39 info_state sz1 ?_
    go_simp
    repeat (go_big_quiet_step (fail))
    refine wpQuiet_nil ?_
    refine plan_one rfl ?_
    go_wp2_with fail
    have hsz : W5.heap.size ≤ w'.heap.size := UF.out.size
    replace UD := Lib.hid (UD.out.alloc (.cells #[] 24))
    replace UF := Lib.hid (UF.out.alloc (.cells #[] 24))
    refine plan_same ⟨⟨_, UF.out⟩, rfl⟩ ?_
    refine plan_next ?_
    simp only [opsAt, List.map_cons, List.map_nil, List.getElem?_toArray, List.getElem?_cons_zero, List.getElem?_cons_succ, Option.getD_some]
    repeat (go_big_quiet_step (fail))
    refine wpQuiet_nil ?_
    refine plan_one rfl ?_
    refine L_append _ (.tmp 61) (.tmp 64) 26 rfl (by kernel_rfl) W5.heap.size 24 _ 7 40 Try.underlying26 info_retV rfl (by omega) (.slice (some ⟨w'.heap.size, 0, none⟩) 0 0) 0 [] rfl (World.ownsRow_lit _ #[] 0 hsz (by simp [maxLen]) rfl) A k c1 (retVals (l.take k)) rfl (by rw [retVals_len, TK.out]) (srcAt_rets ((HA.out.of_upd UD.out).take k)) (retVals_one _) (by simp only [maxLen]; omega) (by omega) UF.out.size ?_
    intro v1 w1 own1 g1 at1
    have hb1 : ∀ g, v1.ownBlock = some g → W5.heap.size ≤ g := fun g hg => (own1.lt g hg).1
    replace UD := Lib.hid (UD.out.grown g1 (fun g hg hlt => by simp [Value.ownBlock] at hg; omega))
    replace UF := Lib.hid (UF.out.grown g1 (fun g hg hlt => by simp [Value.ownBlock] at hg; omega))
    have OW := Lib.hid own1
    clear own1 g1 at1
    go_simp
    refine wpList_nil ?_
    refine plan_same ⟨⟨_, UF.out⟩, rfl⟩ ?_
    refine plan_next ?_
    simp only [opsAt, List.map_cons, List.map_nil, List.getElem?_toArray, List.getElem?_cons_zero, List.getElem?_cons_succ, Option.getD_some]
    repeat (go_big_quiet_step (fail))
    refine wpQuiet_nil ?_
    refine plan_one rfl ?_
    refine L_append _ (.tmp 65) (.tmp 66) 26 rfl (by kernel_rfl) W5.heap.size 24 _ 7 40 Try.underlying26 info_retV rfl (by omega) v1 (0 + k) ([] ++ retVals (l.take k)) rfl OW.out B m.length c2 (retVals m) rfl (by rw [retVals_len]) (srcAt_rets (HB.out.of_upd UD.out)) (retVals_one _) (by simp only [maxLen]; omega) (by omega) UF.out.size ?_
    intro v2 w2 own2 g1 at1
    replace UD := Lib.hid (UD.out.grown g1 (fun g hg hlt => by have := hb1 g hg; omega))
    replace UF := Lib.hid (UF.out.grown g1 (fun g hg hlt => by have := hb1 g hg; omega))
    clear g1 at1 hb1
    have own3 : w2.ownsRow W5.heap.size 24 7 v2 (0 + k + m.length) (retVals (l.take k ++ m)) := by rw [retVals_append]; exact own2
    obtain ⟨D, cap2, rfl, hn, hD⟩ := rets_of_own own3
    have S2 := Lib.hid (same_calls A D P P l (l.take k ++ m) p p c1 cap2 c3 c3 s s w2 (HA.out.of_upd UD.out) hD (HP.out.of_upd UD.out) (HP.out.of_upd UD.out) (HS.out.of_upd UD.out) (HS.out.of_upd UD.out) (by rw [← HL.out]; omega) (by omega) (by omega) (by omega))
    rw [← HL.out] at S2
    generalize (l.take k ++ m).length = M2 at S2 ⊢
    clear own2 own3 hn hD OW
    go_simp
    refine wpList_nil ?_
    refine plan_same ⟨⟨_, UF.out⟩, rfl⟩ ?_
    refine plan_next ?_
    simp only [opsAt, List.map_cons, List.map_nil, List.getElem?_toArray, List.getElem?_cons_zero, List.getElem?_cons_succ, Option.getD_some]
    repeat (go_big_quiet_step (fail))
    refine wpQuiet_nil ?_
    refine plan_one rfl ?_
    go_wp2_with fail
    refine S2.out.mono ?_
    rintro e w' ⟨rfl, hb⟩
    replace UD := Lib.hid (UD.out.trans (Upd.of_below hb))
    replace UF := Lib.hid (UF.out.trans (Upd.of_below hb))
    clear hb S2
    go_wp2_with fail
    refine plan_same ⟨⟨_, UF.out⟩, rfl⟩ ?_
    clear N1 N2 N3 L15 L5 LT
    rcases Nat.eq_zero_or_pos L with h0 | h0
    · have hz : ((L : Int) == 0) = true := by rw [beq_iff_eq]; omega
      refine plan_next ?_
      simp only [opsAt, List.map_cons, List.map_nil, List.getElem?_toArray, List.getElem?_cons_zero, List.getElem?_cons_succ, Option.getD_some]
      repeat (go_big_quiet_step (fail))
      refine wpQuiet_nil ?_
      refine plan_one rfl ?_
      go_wp2_with fail
      refine plan_same ⟨⟨_, UF.out⟩, rfl⟩ ?_
      refine plan_next ?_
      simp only [opsAt, List.map_cons, List.map_nil, List.getElem?_toArray, List.getElem?_cons_zero, List.getElem?_cons_succ, Option.getD_some]
      repeat (go_big_quiet_step (fail))
      refine wpQuiet_nil ?_
      refine plan_one rfl ?_
      go_wp2_with fail
      refine (known_calls _).mono ?_
      rintro e w' ⟨rfl, hb⟩
      replace UD := Lib.hid (UD.out.trans (Upd.of_below hb))
      replace UF := Lib.hid (UF.out.trans (Upd.of_below hb))
      clear hb
      go_wp2_with fail
      refine plan_same ⟨⟨_, UF.out⟩, rfl⟩ ?_
      refine plan_last ?_
      simp only [opsAt, List.map_cons, List.map_nil, List.getElem?_toArray, List.getElem?_cons_zero, List.getElem?_cons_succ, Option.getD_some]
      repeat (go_big_quiet_step (fail))
      refine wpQuiet_nil ?_
      unfold planEnd
      go_wp2_with fail
      go_ret
      exact ⟨rfl, UD.out.below⟩
    · have hz : ((L : Int) == 0) = false := by rw [beq_eq_false_iff_ne]; omega
      have hkL : k < L := by rcases hk.out with h | ⟨_, h⟩ <;> omega
      obtain ⟨ba, oa, rfl, hba, hca⟩ := HA.out (by rw [← HL.out]; exact h0)
      have r0 := Lib.hid (hca 0 (by rw [← HL.out]; exact h0))
      have rk := Lib.hid (hca k (by rw [← HL.out]; exact hkL))
      clear hca
      generalize l[0]'(by rw [← HL.out]; exact h0) = x0 at r0
      generalize l[k]'(by rw [← HL.out]; exact hkL) = xk at rk
      rw [Nat.zero_mul, Nat.add_zero] at r0
      have M0 := Lib.hid (show ∀ z : Near [] W5, z.1.rangeAt ba oa x0.arr.toList from fun z => rangeAt_upd r0.out hba (UW.out.trans z.2))
      have MK := Lib.hid (show ∀ z : Near [] W5, z.1.rangeAt ba (oa + k * 7) xk.arr.toList from fun z => rangeAt_upd rk.out hba (UW.out.trans z.2))
      have q0 := ret_eq x0 xk
      have SC := Lib.hid fun w' => Same_calls x0 xk w'
      generalize decide (x0 = xk) = bb at q0 SC
      have d0 : decide ((0 : Int) < (L : Int)) = true := by rw [decide_eq_true_iff]; omega
      have d1 : decide ((k : Int) < (L : Int)) = true := by rw [decide_eq_true_iff]; omega
      refine plan_next ?_
      simp only [opsAt, List.map_cons, List.map_nil, List.getElem?_toArray, List.getElem?_cons_zero, List.getElem?_cons_succ, Option.getD_some]
      go_simp
      repeat (go_big_quiet_step (fail))
      refine Q_load 24 (.tmp 80) rfl (by kernel_rfl) _ _ rfl x0.arr (by rintro _ ⟨z, rfl⟩; exact M0.out z) Try.underlying24 rfl 7 info_ret rfl ?_
      go_simp
      repeat (go_big_quiet_step (fail))
      refine Q_load 24 (.tmp 84) rfl (by kernel_rfl) _ _ rfl xk.arr (by rintro _ ⟨z, rfl⟩; exact MK.out z) Try.underlying24 rfl 7 info_ret rfl ?_
      go_simp
      repeat (go_big_quiet_step (fail))
      refine Q_load 24 (.tmp 88) rfl (by kernel_rfl) _ _ rfl x0.arr (by rintro _ ⟨z, rfl⟩; exact M0.out z) Try.underlying24 rfl 7 info_ret rfl ?_
      go_simp
      repeat (go_big_quiet_step (fail))
      refine Q_load 24 (.tmp 92) rfl (by kernel_rfl) _ _ rfl xk.arr (by rintro _ ⟨z, rfl⟩; exact MK.out z) Try.underlying24 rfl 7 info_ret rfl ?_
      go_simp
      repeat (go_big_quiet_step (fail))
      refine wpQuiet_nil ?_
      refine plan_one rfl ?_
      clear q0 M0 MK
      go_wp2_with fail
      refine (SC.out _).mono ?_
      rintro e w' ⟨rfl, hb⟩
      replace UD := Lib.hid (UD.out.trans (Upd.of_below hb))
      replace UF := Lib.hid (UF.out.trans (Upd.of_below hb))
      clear hb
      go_wp2_with fail
      refine plan_same ⟨⟨_, UF.out⟩, rfl⟩ ?_
      refine plan_next ?_
      simp only [opsAt, List.map_cons, List.map_nil, List.getElem?_toArray, List.getElem?_cons_zero, List.getElem?_cons_succ, Option.getD_some]
      repeat (go_big_quiet_step (fail))
      refine wpQuiet_nil ?_
      refine plan_one rfl ?_
      go_wp2_with fail
      refine (known_calls _).mono ?_
      rintro e w' ⟨rfl, hb⟩
      replace UD := Lib.hid (UD.out.trans (Upd.of_below hb))
      replace UF := Lib.hid (UF.out.trans (Upd.of_below hb))
      clear hb
      go_wp2_with fail
      refine plan_same ⟨⟨_, UF.out⟩, rfl⟩ ?_
      refine plan_last ?_
      simp only [opsAt, List.map_cons, List.map_nil, List.getElem?_toArray, List.getElem?_cons_zero, List.getElem?_cons_succ, Option.getD_some]
      repeat (go_big_quiet_step (fail))
      refine wpQuiet_nil ?_
      unfold planEnd
      go_wp2_with fail
      go_ret
      exact ⟨rfl, UD.out.below⟩
end Go.Proofs.Ytkjolbcmnleamaa

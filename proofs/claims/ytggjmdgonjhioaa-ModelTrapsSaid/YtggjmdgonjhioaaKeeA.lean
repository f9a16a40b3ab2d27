/- Tapes: the next number; words of instructions by twos and threes. -/
import Derived.Test.YtggjmdgonjhioaaKee
namespace Go.Proofs.Ytggjmdgonjhioaa
open Go.RowKit Go.Dio
set_option linter.unusedSimpArgs false
set_option linter.unusedVariables false

set_option maxHeartbeats 1000000 in
theorem Next_calls (tb : Nat) (A : Option Addr) (L : List Int) (c at' n : Nat) (w : World) (T : TapeAt tb A L c at' w) (h1 : 1 ≤ n) (h2 : n ≤ 1099511627776) :
    Calls Try.prog 24 #[.pointer (some ⟨tb, 0, none⟩), .int .i64 (n : Int)] w fun e w' => ∃ r a2, r < n ∧ e = .returned (.int .i64 (r : Int)) ∧ TapeAt tb A L c a2 w' ∧ Upd [tb] w w' := by
  have d1 : decide ((n : Int) < 1) = false := decide_eq_false (by omega)
  have TT := Lib.hid T
  have n0 : ∀ x : Near [] w, x.1.cell? ⟨tb, 0, none⟩ = some (.slice A L.length c) := fun x => by rw [cells_of (x.2.keep T.cell (by simp))]; rfl
  have n1 : ∀ x : Near [] w, x.1.cell? ⟨tb, 1, none⟩ = some (.int .i64 (at' : Int)) := fun x => by rw [cells_of (x.2.keep T.cell (by simp))]; rfl
  have c0 : w.cell? ⟨tb, 0, none⟩ = some (.slice A L.length c) := n0 ⟨w, Upd.refl _ _⟩
  have c1 : w.cell? ⟨tb, 1, none⟩ = some (.int .i64 (at' : Int)) := n1 ⟨w, Upd.refl _ _⟩
  have f1 : w.frozen? ⟨tb, 1, none⟩ = false := free_of T.cell 1
  have hle := T.le
  have hsm := T.small
  rcases Nat.lt_or_ge at' L.length with hlt | hge
  · have d2 : decide ((L.length : Int) ≤ (at' : Int)) = false := decide_eq_false (by omega)
    obtain ⟨b, o, hA, hb, hc⟩ := T.ints (by omega)
    have hbt := T.lt b o none hA
    have hcc := hc at' hlt
    have hvw : -9223372036854775808 ≤ nthZ L at' ∧ nthZ L at' ≤ 9223372036854775807 := by
      refine T.wf _ ?_
      unfold nthZ; rw [List.getD_eq_getElem?_getD, List.getElem?_eq_getElem hlt]; exact List.getElem_mem hlt
    have hadd : IntKind.i64.wrap ((at' : Int) + 1) = ((at' + 1 : Nat) : Int) := by rw [IntKind.wrap_i64]; omega
    have WN := Lib.hid (fun z => Within_calls (nthZ L at') 0 1073741824 z (by omega) (by omega) (by omega) hvw)
    have hwr := within_range (n := nthZ L at') (lo := 0) (hi := 1073741824) (by omega)
    generalize nthZ L at' = v at hcc hvw WN hwr
    generalize within v 0 1073741824 = y at WN hwr
    obtain ⟨r, hr⟩ : ∃ r : Nat, r = y.toNat % n := ⟨_, rfl⟩
    have hrn : r < n := by rw [hr]; exact Nat.mod_lt _ (by omega)
    have hmod : y.tmod (n : Int) = (r : Int) := by
      rw [hr, Int.tmod_eq_emod_of_nonneg hwr.1]; push_cast; rw [Int.toNat_of_nonneg hwr.1]
    have hn0 : ((n : Int) == 0) = false := by rw [beq_eq_false_iff_ne]; omega
    have hnw : IntKind.i64.wrap (r : Int) = (r : Int) := wrapi64 (by omega) (by omega)
    have hcn : decide ((L.length : Int) ≤ (L.length : Int)) = true := by simp
    clear hr hwr hc
    subst hA
    have b1 : decide ((0 : Int) ≤ (at' : Int)) = true := decide_eq_true (by omega)
    have b2 : decide ((at' : Int) < (L.length : Int)) = true := decide_eq_true (by omega)
    have TL := Lib.hid hlt
    obtain ⟨N, hN⟩ : ∃ N, N = L.length := ⟨_, rfl⟩
    rw [← hN] at c0 n0 d2 b2 hcn hsm hle hlt
    have HN := Lib.hid hN
    clear hN T
    go_enter Try.func24, Try.ntmps24
    go_wp2_with (fail)
    go_quiet (fail)
    go_wp2_with (fail)
    generalize hW : World.setCell (World.drewN w _) _ _ = W
    have T2 : Hid (TapeAt tb (some ⟨b, o, none⟩) L c (at' + 1) W) := Lib.hid ⟨by
        rw [← hW, heap_setCell_eq (show (World.drewN w _).heap[tb]? = _ from TT.out.cell)]; rfl, by rw [← hW]; exact ints_keepS TT.out.ints ((Upd.drewN _ (Upd.refl [tb] w)).setCell (p := ⟨tb, 1, none⟩) (by simp) _) (fun b2 o2 s2 hA hm => by have := TT.out.lt b2 o2 s2 hA; simp at hm; omega), TT.out.lt, TL.out, TT.out.small, TT.out.wf⟩
    have U2 : Hid (Upd [tb] w W) := Lib.hid (by rw [← hW]; exact (Upd.drewN _ (Upd.refl [tb] w)).setCell (p := ⟨tb, 1, none⟩) (by simp) _)
    clear hW n0 n1 c0 c1 f1
    have n0 : ∀ x : Near [] W, x.1.cell? ⟨tb, 0, none⟩ = some (.slice (some ⟨b, o, none⟩) N c) := fun x => by rw [cells_of (x.2.keep T2.out.cell (by simp)), HN.out]; rfl
    have n1 : ∀ x : Near [] W, x.1.cell? ⟨tb, 1, none⟩ = some (.int .i64 ((at' : Int) + 1)) := fun x => by rw [cells_of (x.2.keep T2.out.cell (by simp))]; rfl
    have n2 : ∀ x : Near [] W, x.1.cell? ⟨b, o + at', none⟩ = some (.int .i64 v) := fun x => by
      rw [← hcc]; exact (World.cell?_of_block (w := W) (x.2.block b (Nat.lt_of_lt_of_le hb U2.out.size) (by simp))).trans (World.cell?_of_block (w := w) (U2.out.block b hb (by simp; omega)))
    refine wp_region_plan (fun z => ∃ x : Near [] W, z = x.1) [([0, 1, 2, 3, 4, 5, 6, 7, 8, 9, 10, 12], 11)] [13, 14] (by kernel_rfl) (by kernel_rfl) (by kernel_rfl) (by kernel_rfl) (fun _ d _ _ _ h => by cases d <;> exact h) ⟨⟨(W).drew, (Upd.refl _ _).drew⟩, rfl⟩ ?_
    refine plan_next ?_
    simp only [opsAt, List.map_cons, List.map_nil, List.getElem?_toArray, List.getElem?_cons_zero, List.getElem?_cons_succ, Option.getD_some]
    repeat (go_big_quiet_step (fail))
    refine wpQuiet_nil ?_
    refine plan_one rfl ?_
    go_wp2_with fail
    refine (WN.out _).mono ?_
    rintro e z1 ⟨rfl, rfl⟩
    go_wp2_with fail
    refine plan_same ⟨⟨_, (Upd.refl _ _).drew⟩, rfl⟩ ?_
    refine plan_last ?_
    simp only [opsAt, List.map_cons, List.map_nil, List.getElem?_toArray, List.getElem?_cons_zero, List.getElem?_cons_succ, Option.getD_some]
    repeat (go_big_quiet_step (fail))
    refine wpQuiet_nil ?_
    unfold planEnd
    go_wp2_with fail
    go_ret
    exact ⟨r, at' + 1, hrn, rfl, T2.out.upd ((Upd.refl [] _).drew) (fun g hg => by simp at hg), U2.out.drew⟩
  · have d2 : decide ((L.length : Int) ≤ (at' : Int)) = true := decide_eq_true (by omega)
    obtain ⟨N, hN⟩ : ∃ N, N = L.length := ⟨_, rfl⟩
    rw [← hN] at c0 n0 d2 hsm hle hge
    clear hN T
    go_enter Try.func24, Try.ntmps24
    go_wp2_with (fail)
    go_quiet (fail)
    go_wp2_with (fail)
    go_ret
    exact ⟨0, at', h1, rfl, TT.out.upd (Upd.drewN _ (Upd.refl [] _)) (fun g hg => by simp at hg), Upd.drewN _ (Upd.refl _ _)⟩

def setL (rd n : Nat) : List Nat := [wordP 1 rd 0 0 (s32 (u32 ((n : Int) - sx n 12) / 4096 * 4096)), wordP 19 rd rd 0 (sx n 12)]
theorem setL_lt (rd n : Nat) (hd : rd < 32) : ∀ x ∈ setL rd n, x < 2 ^ 32 := by
  intro x hx
  simp only [setL, List.mem_cons, List.not_mem_nil, or_false] at hx
  rcases hx with rfl | rfl
  · exact wordP_lt _ _ _ _ _ (by decide) (by decide) hd (by decide) (by decide)
  · exact wordP_lt _ _ _ _ _ (by decide) (by decide) hd hd (by decide)
theorem Set_calls (rd n : Nat) (w : World) (hd : rd < 32) (hn : n < 2 ^ 32) :
    Calls Try.prog 21 #[.int .i64 (rd : Int), .int .u32 (n : Int)] w fun e w' => ∃ A c, e = .returned (.slice A 2 c) ∧ Ow w.heap.size w' (.slice A 2 c) (setL rd n) ∧ Upd [] w w' := by
  have e1 := sx12 n
  have hs := sx_lo n 12 (by decide) (by decide)
  have W1 := Lib.hid (fun z => word_calls 1 rd 0 0 (s32 (u32 ((n : Int) - sx n 12) / 4096 * 4096)) z (by decide) (by decide) hd (by decide) (by decide))
  have W2 := Lib.hid (fun z => word_calls 19 rd rd 0 (sx n 12) z (by decide) (by decide) hd hd (by decide))
  have HL : Hid (setL rd n = [wordP 1 rd 0 0 (s32 (u32 ((n : Int) - sx n 12) / 4096 * 4096)), wordP 19 rd rd 0 (sx n 12)]) := Lib.hid rfl
  generalize wordP 1 rd 0 0 (s32 (u32 ((n : Int) - sx n 12) / 4096 * 4096)) = x1 at *
  generalize wordP 19 rd rd 0 (sx n 12) = x2 at *
  have e3 : IntKind.u32.wrap ((n : Int) - ((u32 (sx n 12) : Nat) : Int)) = ((u32 ((n : Int) - sx n 12) : Nat) : Int) := by
    rw [wrap_u32]; unfold u32; omega
  have e2 := wrap_u32 (sx n 12)
  have h4 := u32_lt ((n : Int) - sx n 12)
  have e4 := high12 (u32 ((n : Int) - sx n 12)) h4
  have e5 := wrap_s32 (u32 ((n : Int) - sx n 12) / 4096 * 4096) (Nat.lt_of_le_of_lt (Nat.div_mul_le_self _ _) h4)
  generalize s32 (u32 ((n : Int) - sx n 12) / 4096 * 4096) = I1 at *
  generalize u32 ((n : Int) - sx n 12) / 4096 * 4096 = n4 at *
  generalize u32 ((n : Int) - sx n 12) = n3 at *
  generalize u32 (sx n 12) = n2 at *
  generalize sx n 12 = I2 at *
  clear hs h4
  go_enter Try.func21, Try.ntmps21
  go_wp2_with (fail)
  refine (W1.out _).mono ?_
  rintro e w1 ⟨rfl, u1⟩
  go_wp2_with (fail)
  refine (W2.out _).mono ?_
  rintro e w2 ⟨rfl, u2⟩
  go_wp2_with (fail)
  go_ret
  refine ⟨some ⟨w2.heap.size, 0, none⟩, 2, rfl, ?_, (u1.trans u2).alloc _⟩
  rw [HL.out]
  exact Ow.lit w2 [x1, x2] w.heap.size (u1.trans u2).size (show 2 ≤ 5000 by decide)

def outL (rs : Nat) : List Nat := setL 31 268435456 ++ [wordP 18 0 31 rs 0]
def stopL (rs : Nat) : List Nat := setL 31 268435460 ++ [wordP 18 0 31 rs 0]
theorem outL_lt (rs : Nat) (hd : rs < 32) : ∀ x ∈ outL rs, x < 2 ^ 32 := by
  intro x hx
  simp only [outL, List.mem_append, List.mem_cons, List.not_mem_nil, or_false] at hx
  rcases hx with h | rfl
  · exact setL_lt _ _ (by decide) x h
  · exact wordP_lt _ _ _ _ _ (by decide) (by decide) (by decide) (by decide) hd
theorem stopL_lt (rs : Nat) (hd : rs < 32) : ∀ x ∈ stopL rs, x < 2 ^ 32 := by
  intro x hx
  simp only [stopL, List.mem_append, List.mem_cons, List.not_mem_nil, or_false] at hx
  rcases hx with h | rfl
  · exact setL_lt _ _ (by decide) x h
  · exact wordP_lt _ _ _ _ _ (by decide) (by decide) (by decide) (by decide) hd
theorem Out_calls (rs : Nat) (w : World) (hd : rs < 32) :
    Calls Try.prog 22 #[.int .i64 (rs : Int)] w fun e w' => ∃ A c, e = .returned (.slice A 3 c) ∧ Ow w.heap.size w' (.slice A 3 c) (outL rs) ∧ Upd [] w w' := by
  unfold outL
  have W1 := Lib.hid (fun z => word_calls 18 0 31 rs 0 z (by decide) (by decide) (by decide) (by decide) hd)
  generalize wordP 18 0 31 rs 0 = x1 at *
  go_enter Try.func22, Try.ntmps22
  go_wp2_with (fail)
  refine (Set_calls 31 268435456 _ (by decide) (by decide)).mono ?_
  rintro e w1 ⟨A, c, rfl, O1, u1⟩
  go_wp2_with (fail)
  refine (W1.out _).mono ?_
  rintro e w2 ⟨rfl, u2⟩
  have O2 := Lib.hid ((O1.upd u2 (fun g hg => by simp at hg)).upd ((Upd.refl [] w2).alloc (.cells (nums .u32 [x1]) 31)) (fun g hg => by simp at hg))
  have U2 := Lib.hid ((u1.trans u2).alloc (.cells (nums .u32 [x1]) 31))
  clear O1
  go_wp2_with (at_builtin; refine L_app (.tmp 3) (.tmp 6) rfl (by kernel_rfl) w.heap.size _ _ rfl O2.out _ _ _ [x1] rfl rfl (numsAt_new w2 .u32 [x1] 31) (by simp [setL]) U2.out.size ?_)
  intro v' w3 O3 u3
  have u4 := U2.out.then u3 (fun g hg hlt => by have := O2.out.lt g hg; omega)
  obtain ⟨A2, c2, rfl, hc1, hc2, hn, hb⟩ := O3.words
  go_wp2_with (fail)
  go_ret
  exact ⟨A2, c2, rfl, O3, u4⟩
theorem Stop_calls (rs : Nat) (w : World) (hd : rs < 32) :
    Calls Try.prog 23 #[.int .i64 (rs : Int)] w fun e w' => ∃ A c, e = .returned (.slice A 3 c) ∧ Ow w.heap.size w' (.slice A 3 c) (stopL rs) ∧ Upd [] w w' := by
  unfold stopL
  have W1 := Lib.hid (fun z => word_calls 18 0 31 rs 0 z (by decide) (by decide) (by decide) (by decide) hd)
  generalize wordP 18 0 31 rs 0 = x1 at *
  go_enter Try.func23, Try.ntmps23
  go_wp2_with (fail)
  refine (Set_calls 31 268435460 _ (by decide) (by decide)).mono ?_
  rintro e w1 ⟨A, c, rfl, O1, u1⟩
  go_wp2_with (fail)
  refine (W1.out _).mono ?_
  rintro e w2 ⟨rfl, u2⟩
  have O2 := Lib.hid ((O1.upd u2 (fun g hg => by simp at hg)).upd ((Upd.refl [] w2).alloc (.cells (nums .u32 [x1]) 31)) (fun g hg => by simp at hg))
  have U2 := Lib.hid ((u1.trans u2).alloc (.cells (nums .u32 [x1]) 31))
  clear O1
  go_wp2_with (at_builtin; refine L_app (.tmp 3) (.tmp 6) rfl (by kernel_rfl) w.heap.size _ _ rfl O2.out _ _ _ [x1] rfl rfl (numsAt_new w2 .u32 [x1] 31) (by simp [setL]) U2.out.size ?_)
  intro v' w3 O3 u3
  have u4 := U2.out.then u3 (fun g hg hlt => by have := O2.out.lt g hg; omega)
  obtain ⟨A2, c2, rfl, hc1, hc2, hn, hb⟩ := O3.words
  go_wp2_with (fail)
  go_ret
  exact ⟨A2, c2, rfl, O3, u4⟩
end Go.Proofs.Ytggjmdgonjhioaa

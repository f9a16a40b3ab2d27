/- Law 17: known. -/
import Derived.Test.YthoaofbhppdfoaaDoorEnvS
import Derived.Test.YthoaofbhppdfoaaDoorAt
namespace Go.Proofs.YthoaofbhppdfoaaDoor
open Go.RowKit Go.Dio
set_option linter.unusedSimpArgs false
set_option linter.unusedVariables false

def regs9 : List Nat := (List.replicate 32 0).set 5 9
set_option maxRecDepth 20000 in
theorem known17_l : saveW (svRow zeroC zeroC 0) (saveV 4 regs9 [1, 0, 0, 0, 0] 7) = svRow zeroC (saveV 4 regs9 [1, 0, 0, 0, 0] 7) 1 ∧ TwoC zeroC (saveV 4 regs9 [1, 0, 0, 0, 0] 7) 1 := by
  have h1 : (saveV 4 regs9 [1, 0, 0, 0, 0] 7).length = 39 := saveV_len (by decide) (by decide)
  have h2 : ∀ x ∈ saveV 4 regs9 [1, 0, 0, 0, 0] 7, x < 2 ^ 32 := saveV_lt (by decide) (by decide +kernel) (by decide)
  generalize saveV 4 regs9 [1, 0, 0, 0, 0] 7 = V at h1 h2 ⊢
  exact (newS_two.save h1 h2).1 rfl
def lk1 : List Nat := svRow zeroC (saveV 4 regs9 [1, 0, 0, 0, 0] 7) 1
def lk2 : List Nat := flipL lk1 1521
set_option maxRecDepth 20000 in
theorem lk2_load : loadV lk2 = cpV (saveV 4 regs9 [1, 0, 0, 0, 0] 7) := by
  refine load_latest (by decide +kernel) (k := 1) (by decide +kernel) (by decide +kernel) ?_ (by decide +kernel)
  unfold CopyIs
  decide +kernel
theorem lk0_load : loadV (svRow zeroC zeroC 0) = .tuple #[.int .u32 0, .agg (nums .u32 (List.replicate 32 0)), .agg (nums .u32 (List.replicate 5 0)), .int .i64 0, .bool true] := by
  rw [newS_two.load (by decide +kernel)]; rfl
theorem lk2_load' : loadV lk2 = .tuple #[.int .u32 4, .agg (nums .u32 regs9), .agg (nums .u32 [1, 0, 0, 0, 0]), .int .i64 7, .bool true] := by
  rw [lk2_load]; rfl
theorem lk2_rest : flipB lk1 1521 = true ∧ (loadL lk2).length = 79 ∧ flipB (loadL lk2) 3081 = false ∧ flipL (loadL lk2) 3081 = loadL lk2 ∧ (peekL (loadL lk2) ((0 : Nat) : Int)).2 = 0 := by
  have h1 : (loadL lk2).length = 79 := by decide +kernel
  have h3 : flipB (loadL lk2) 3081 = false := by unfold flipB; rw [h1]; decide
  exact ⟨by decide +kernel, h1, h3, by rw [flipL, if_neg (by rw [h3]; decide)], by decide +kernel⟩
set_option maxRecDepth 20000 in
set_option maxHeartbeats 2000000 in
theorem known17_calls (w : World) (hT : Tz w) : Calls Tryd.prog 6 #[] w fun e w' => e = .returned (.bool true) ∧ Below w.heap.size w w' := by
  have HT := Lib.hid hT
  have N1 := Lib.hid (E_snew (Env.none hT))
  clear hT
  have l0 : (svRow zeroC zeroC 0).length = 79 := svRow_len newS_two.l0 newS_two.l1
  have B1 := Lib.hid fun w1 mb b d (h : Env w [holdA 47 mb b d (svRow zeroC zeroC 0) 0 0] w1) => E_sbits h HT.out 0 rfl
  rw [l0] at B1
  have L1 := Lib.hid fun w1 mb b d (h : Env w [holdA 47 mb b d (svRow zeroC zeroC 0) 0 0] w1) => E_sload h HT.out 0 rfl l0 (by decide)
  rw [lk0_load, newS_two.loadL.1, newS_two.loadL.2] at L1
  have S1 := Lib.hid fun w1 mb b d X (h : Env w [X, holdA 47 mb b d (svRow zeroC zeroC 0) 0 0] w1) => E_ssave h HT.out 1 rfl 4 regs9 [1, 0, 0, 0, 0] 7 l0 (by decide) rfl rfl (by decide) (by decide +kernel) (by decide) (by decide)
  rw [known17_l.1, show getF (svRow zeroC zeroC 0) 78 = 0 from (newS_two.get (show 78 < 79 by decide)).2] at S1
  obtain ⟨q1, q2, q3, q4, q5⟩ := lk2_rest
  have F1 := Lib.hid fun w1 mb b d X (h : Env w [X, holdA 47 mb b d lk1 0 0] w1) => E_sflip h HT.out 1 rfl 1521
  rw [q1] at F1
  have L2 := Lib.hid fun w1 mb b d X (h : Env w [X, holdA 47 mb b d lk2 0 0] w1) => E_sload h HT.out 1 rfl (by decide +kernel) (by decide)
  rw [lk2_load'] at L2
  have hf := loadF_le lk2
  have F2 := Lib.hid fun w1 mb b d X Y (h : Env w [Y, X, holdA 47 mb b d (loadL lk2) (0 + loadF lk2) 0] w1) => E_sflip h HT.out 2 rfl 3081
  rw [q3, q4] at F2
  have C1 := Lib.hid fun w1 mb b d X Y (h : Env w [Y, X, holdA 47 mb b d (loadL lk2) (0 + loadF lk2) 0] w1) => E_sscrub h HT.out 2 rfl q2 (by decide) (by omega)
  rw [q5] at C1
  clear q1 q2 q3 q4 q5 l0
  generalize loadL lk2 = l3 at L2 F2 C1
  generalize 0 + loadF lk2 = f3 at L2 F2 C1
  go_enter Tryd.func6, Tryd.ntmps6
  go_wp2_with (fail)
  refine N1.out.mono ?_
  rintro e w1 ⟨rfl, H⟩
  replace H := Lib.hid H
  generalize w.heap.size + 2 = mb at H ⊢
  generalize w.heap.size + 1 = b at H
  generalize hd : w.heap.size = d at H ⊢
  have HD := Lib.hid hd
  clear hd N1
  go_wp2_with (fail)
  refine (B1.out _ _ _ _ H.out).mono ?_
  rintro e w' ⟨rfl, rfl⟩
  go_wp2_with (fail)
  refine (L1.out _ _ _ _ H.out).mono ?_
  rintro e w2 ⟨rfl, H', u⟩
  simp only [List.set_cons_zero, Nat.add_zero] at H'
  replace H := Lib.hid H'
  clear H' u B1 L1
  go_wp2_with (first
    | go_skip
    | ((with_reducible refine at_st 3 ?_); refine L_store_row 27 (.tmp 3) (.tmp 26) rfl (by kernel_rfl) (w2).heap.size 0 rfl (nums .u32 (List.replicate 32 0)).toList 27 (heap_old (Go.heap_alloc_last w2 _) _) (nums .u32 (List.replicate 32 0)) rfl 32 info_r32' (by rw [nums_size]; exact rfl) (Nat.le_refl _) (nums_one _ _) ?_))
  intro wA b2 u2 z2
  rw [spl_all (by first | rfl | (simp only [Array.length_toList, nums_size, List.length_replicate]; exact rfl))] at b2
  have A1 := Lib.hid b2
  have A2 : Hid (wA.heap[(w2).heap.size + 1]? = some (.cells (nums .u32 (List.replicate 5 0)).toList.toArray 28 (0, 0))) := Lib.hid (u2.keep (alloc_two w2 _ _) (by simp))
  have V2 := Lib.hid ((((Upd.refl [] w2).alloc _).alloc _).then u2 (fun x hx hlt => by simp at hx; omega))
  clear b2 u2 z2
  go_wp2_with (first
    | go_skip
    | ((with_reducible refine at_st 4 ?_); refine L_store_row 28 (.tmp 4) (.tmp 27) rfl (by kernel_rfl) ((w2).heap.size + 1) 0 rfl (nums .u32 (List.replicate 5 0)).toList 28 A2.out (nums .u32 (List.replicate 5 0)) rfl 5 info_r5 (by rw [nums_size]; exact rfl) (Nat.le_refl _) (nums_one _ _) ?_))
  intro wB b3 u3 z3
  rw [spl_all (by first | rfl | (simp only [Array.length_toList, nums_size, List.length_replicate]; exact rfl))] at b3
  have A3 := Lib.hid b3
  have A4 := Lib.hid (u3.keep A1.out (by simp))
  have V3 := Lib.hid (V2.out.then u3 (fun x hx hlt => by simp at hx; omega))
  have hA3 := lt_of_block A3.out
  clear b3 u3 z3 A1 A2 V2
  replace H := Lib.hid (H.out.add V3.out (blk2 (w2).heap.size (nums .u32 (List.replicate 32 0)).toList 27 ((w2).heap.size + 1) (nums .u32 (List.replicate 5 0)).toList 28) ⟨A4.out, A3.out⟩ (by simp [blk2]) (fun x hx => by simp [blk2] at hx; omega))
  clear A3 A4 V3 hA3
  go_wp2_with (first
    | go_skip
    | (refine L_load 27 (.tmp 7) rfl (by kernel_rfl) _ _ rfl (nums .u32 regs9) (row_range (Go.heap_alloc_last wB _)) Tryd.underlying27 rfl 32 info_r32' rfl ?_))
  replace H := Lib.hid (H.out.near ((Upd.refl _ _).alloc (.cells (nums .u32 regs9) 27)))
  refine (S1.out _ _ _ _ _ H.out).mono ?_
  rintro e w4 ⟨rfl, H', u⟩
  simp only [List.set_cons_succ, List.set_cons_zero, Nat.add_zero] at H'
  replace H := Lib.hid H'
  clear H' u S1
  go_wp2_with (fail)
  refine (F1.out _ _ _ _ _ H.out).mono ?_
  rintro e w5 ⟨rfl, H', u⟩
  simp only [List.set_cons_succ, List.set_cons_zero] at H'
  replace H := Lib.hid H'
  clear H' u F1
  go_wp2_with (fail)
  refine (L2.out _ _ _ _ _ H.out).mono ?_
  rintro e w6 ⟨rfl, H', u⟩
  simp only [List.set_cons_succ, List.set_cons_zero] at H'
  replace H := Lib.hid H'
  clear H' u L2
  go_wp2_with (first
    | go_skip
    | ((with_reducible refine at_st 10 ?_); refine L_store_row 27 (.tmp 10) (.tmp 41) rfl (by kernel_rfl) (w6).heap.size 0 rfl (nums .u32 (List.replicate 32 0)).toList 27 (heap_old (Go.heap_alloc_last w6 _) _) (nums .u32 regs9) rfl 32 info_r32' (by rw [nums_size]; exact rfl) (Nat.le_refl _) (nums_one _ _) ?_))
  intro wA b2 u2 z2
  rw [spl_all (by first | rfl | (simp only [Array.length_toList, nums_size, List.length_replicate]; exact rfl))] at b2
  have A1 := Lib.hid b2
  have A2 : Hid (wA.heap[(w6).heap.size + 1]? = some (.cells (nums .u32 (List.replicate 5 0)).toList.toArray 28 (0, 0))) := Lib.hid (u2.keep (alloc_two w6 _ _) (by simp))
  have V2 := Lib.hid ((((Upd.refl [] w6).alloc _).alloc _).then u2 (fun x hx hlt => by simp at hx; omega))
  clear b2 u2 z2
  go_wp2_with (first
    | go_skip
    | ((with_reducible refine at_st 11 ?_); refine L_store_row 28 (.tmp 11) (.tmp 42) rfl (by kernel_rfl) ((w6).heap.size + 1) 0 rfl (nums .u32 (List.replicate 5 0)).toList 28 A2.out (nums .u32 [1, 0, 0, 0, 0]) rfl 5 info_r5 (by rw [nums_size]; exact rfl) (Nat.le_refl _) (nums_one _ _) ?_))
  intro wB b3 u3 z3
  rw [spl_all (by first | rfl | (simp only [Array.length_toList, nums_size, List.length_replicate]; exact rfl))] at b3
  have A3 := Lib.hid b3
  have A4 := Lib.hid (u3.keep A1.out (by simp))
  have V3 := Lib.hid (V2.out.then u3 (fun x hx hlt => by simp at hx; omega))
  have hA3 := lt_of_block A3.out
  clear b3 u3 z3 A1 A2 V2
  replace H := Lib.hid (H.out.add V3.out (blk2 (w6).heap.size (nums .u32 regs9).toList 27 ((w6).heap.size + 1) (nums .u32 [1, 0, 0, 0, 0]).toList 28) ⟨A4.out, A3.out⟩ (by simp [blk2]) (fun x hx => by simp [blk2] at hx; omega))
  clear A3 A4 V3 hA3
  have HB := Lib.hid (H.out.ok 0 _ rfl)
  generalize w6.heap.size = q at H HB ⊢
  have c5 : wB.cell? ⟨q, 5, none⟩ = some (.int .u32 9) := by rw [cells_of HB.out.1]; rfl
  have c0 : wB.cell? ⟨q + 1, 0, none⟩ = some (.int .u32 1) := by rw [cells_of HB.out.2]; rfl
  go_wp2_with (fail)
  refine (F2.out _ _ _ _ _ _ H.out).mono ?_
  rintro e w7 ⟨rfl, H', u⟩
  simp only [List.set_cons_succ, List.set_cons_zero] at H'
  replace H := Lib.hid H'
  clear H' u F2 c5 c0 HB
  go_wp2_with (fail)
  refine (C1.out _ _ _ _ _ _ H.out).mono ?_
  rintro e w8 ⟨rfl, H', u⟩
  go_wp2_with (fail)
  go_ret
  exact ⟨rfl, H'.below⟩
end Go.Proofs.YthoaofbhppdfoaaDoor

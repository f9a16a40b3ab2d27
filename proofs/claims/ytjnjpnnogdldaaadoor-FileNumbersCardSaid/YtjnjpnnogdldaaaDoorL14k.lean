/- Law 14: what is known. -/
import Derived.Test.YtjnjpnnogdldaaaDoorEnvF
namespace Go.Proofs.YtjnjpnnogdldaaaDoor
open Go.RowKit Go.Dio
set_option linter.unusedSimpArgs false
set_option linter.unusedVariables false

set_option maxRecDepth 20000 in
set_option maxHeartbeats 2000000 in
theorem known14_calls (w : World) (hT : Tz w) : Calls Tryd.prog 41 #[] w fun e w' => e = .returned (.bool true) ∧ Below w.heap.size w w' := by
  have N2 := Lib.hid (E_fnew w hT)
  obtain ⟨l0, hl0⟩ : ∃ l0, l0 = List.replicate 31 0 := ⟨_, rfl⟩
  obtain ⟨l1, hl1⟩ : ∃ l1, l1 = wrL l0 31 7 := ⟨_, rfl⟩
  obtain ⟨l2, hl2⟩ : ∃ l2, l2 = flipL l1 1170 := ⟨_, rfl⟩
  obtain ⟨v, hv⟩ : ∃ v, v = allV l2 := ⟨_, rfl⟩
  obtain ⟨l3, hl3⟩ : ∃ l3, l3 = rdL l2 31 := ⟨_, rfl⟩
  have n0 : l0.length = 31 := by subst hl0; rfl
  have n2 : l2.length = 31 := by subst hl2 hl1 hl0; decide +kernel
  have n3 : l3.length = 31 := by subst hl3 hl2 hl1 hl0; decide +kernel
  have b1 : wrB l0 0 = true := rfl
  have b2 : wrL l0 0 5 = l0 := rfl
  have b3 : wrB l0 31 = true := by subst hl0; decide +kernel
  have p1 : rdV l1 0 = (0, 0) := rfl
  have p2 : rdL l1 0 = l1 := rfl
  have p3 : rdF l1 0 = 0 := rfl
  have p4 : rdV l1 32 = (0, 2) := by subst hl1 hl0; decide +kernel
  have p5 : rdL l1 32 = l1 := by subst hl1 hl0; decide +kernel
  have p6 : rdF l1 32 = 0 := by subst hl1 hl0; decide +kernel
  have f1 : flipB l1 1170 = true := by subst hl1 hl0; decide +kernel
  have a1 : allB l2 = true := by subst hl2 hl1 hl0; decide +kernel
  have a2 : nth v 31 = 7 := by subst hv hl2 hl1 hl0; decide +kernel
  have a3 : v.length = 32 := by subst hv hl2 hl1 hl0; decide +kernel
  have p7 : rdV l2 31 = (7, 1) := by subst hl2 hl1 hl0; decide +kernel
  have p8 : rdF l2 31 = 1 := by subst hl2 hl1 hl0; decide +kernel
  have b4 : wrB l3 (-1) = false := by subst hl3 hl2 hl1 hl0; decide +kernel
  have b5 : wrL l3 (-1) 0 = l3 := by subst hl3 hl2 hl1 hl0; decide +kernel
  have p9 : (peekL l3 ((0 : Nat) : Int)).2 = 0 := by subst hl3 hl2 hl1 hl0; decide +kernel
  rw [← hl0] at N2
  have hu : ∀ As w', Env w As w' → Below w.heap.size w w' := fun _ _ h => h.below
  have HU := Lib.hid hu
  clear hu
  generalize w.heap.size + 2 = fb at N2
  generalize w.heap.size + 1 = b at N2
  generalize w.heap.size = d at N2 HU ⊢
  have A1 := Lib.hid fun w1 (h : Env w [fileA fb b d l0 0 0] w1) => E_fbits h hT 0 rfl
  have A2 := Lib.hid fun w1 (h : Env w [fileA fb b d l0 0 0] w1) => E_fwrite h hT 0 rfl 0 5 (by decide) (by decide)
  have A3 := Lib.hid fun w1 (h : Env w [fileA fb b d l0 0 0] w1) => E_fwrite h hT 0 rfl 31 7 (by decide) (by decide)
  have A4 := Lib.hid fun w1 (h : Env w [fileA fb b d l1 0 0] w1) => E_fread h hT 0 rfl 0 (by decide) (by decide)
  have A5 := Lib.hid fun w1 (h : Env w [fileA fb b d l1 0 0] w1) => E_fread h hT 0 rfl 32 (by decide) (by decide)
  have A6 := Lib.hid fun w1 (h : Env w [fileA fb b d l1 0 0] w1) => E_fflip h hT 0 rfl 1170
  have A7 := Lib.hid fun w1 (h : Env w [fileA fb b d l2 0 0] w1) => E_fall h hT 0 rfl n2
  have A8 := Lib.hid fun q w1 (h : Env w [blk q (nums .u32 v).toList 57, fileA fb b d l2 0 0] w1) => E_fread h hT 1 rfl 31 (by decide) (by decide)
  have A9 := Lib.hid fun q w1 (h : Env w [blk q (nums .u32 v).toList 57, fileA fb b d l3 1 0] w1) => E_fwrite h hT 1 rfl (-1) 0 (by decide) (by decide)
  have A10 := Lib.hid fun q w1 (h : Env w [blk q (nums .u32 v).toList 57, fileA fb b d l3 1 0] w1) => E_fscrub h hT 1 rfl (by omega) (by decide) (by decide)
  simp only [List.set_cons_zero, List.set_cons_succ] at A2 A3 A4 A5 A6 A8 A9 A10
  rw [n0] at A1
  rw [b1, b2] at A2
  rw [b3, ← hl1] at A3
  rw [p1, p2, p3] at A4
  rw [p4, p5, p6] at A5
  rw [f1, ← hl2] at A6
  rw [if_pos a1, a1, ← hv] at A7
  rw [p7, p8, ← hl3] at A8
  rw [b4, b5] at A9
  rw [p9] at A10
  have HA2 := Lib.hid a2
  have HA3 := Lib.hid a3
  have sv : (nums .u32 v).size = 32 := by rw [nums_size]; exact a3
  clear hl0 hl1 hl2 hl3 hv n0 n2 n3 b1 b2 b3 p1 p2 p3 p4 p5 p6 f1 a1 a2 a3 p7 p8 b4 b5 p9
  go_enter Tryd.func41, Tryd.ntmps41
  go_wp2_with (fail)
  refine N2.out.mono ?_
  rintro e w' ⟨rfl, H'⟩
  replace H := Lib.hid H'
  clear H'
  go_wp2_with (fail)
  refine (A1.out _ H.out).mono ?_
  rintro e w' ⟨rfl, rfl⟩
  go_wp2_with (fail)
  refine (A2.out _ H.out).mono ?_
  rintro e w' ⟨rfl, H', u⟩
  replace H := Lib.hid H'
  clear H' u
  go_wp2_with (fail)
  refine (A3.out _ H.out).mono ?_
  rintro e w' ⟨rfl, H', u⟩
  replace H := Lib.hid H'
  clear H' u
  go_wp2_with (fail)
  refine (A4.out _ H.out).mono ?_
  rintro e w' ⟨rfl, H', u⟩
  replace H := Lib.hid H'
  clear H' u
  go_wp2_with (fail)
  refine (A5.out _ H.out).mono ?_
  rintro e w' ⟨rfl, H', u⟩
  replace H := Lib.hid H'
  clear H' u
  go_wp2_with (fail)
  refine (A6.out _ H.out).mono ?_
  rintro e w' ⟨rfl, H', u⟩
  replace H := Lib.hid H'
  clear H' u
  go_wp2_with (fail)
  refine (A7.out _ H.out).mono ?_
  rintro e w' ⟨rfl, H', u⟩
  replace H := Lib.hid H'
  clear H' u
  go_wp2_with (first
    | go_skip
    | (refine L_store_new 57 (.tmp 9) (.tmp 40) rfl (by kernel_rfl) _ (nums .u32 v) rfl rfl 32 info_r32 rfl sv (nums_one _ _) ?_))
  have hq : w'.heap.size < (w'.alloc (.cells (nums .u32 v) 57)).heap.size := by simp
  replace H := Lib.hid (H.out.add ((Upd.refl _ _).alloc (.cells (nums .u32 v) 57)) (blk w'.heap.size (nums .u32 v).toList 57) (Go.heap_alloc_last w' _) (by simp [blk]) (fun x hx => by simp [blk] at hx; subst hx; exact ⟨Nat.le_refl _, hq⟩))
  generalize w'.alloc (.cells (nums .u32 v) 57) = W at H ⊢
  clear hq
  generalize w'.heap.size = q at H ⊢
  refine (A8.out _ _ H.out).mono ?_
  rintro e w' ⟨rfl, H', u⟩
  replace H := Lib.hid H'
  clear H' u
  have c31 : w'.cell? ⟨q, 31, none⟩ = some (.int .u32 7) := by
    have := cells_of (H.out.ok 0 _ rfl) 31
    rw [this]
    have := nums_nth .u32 v 31 (by rw [HA3.out]; omega)
    rw [HA2.out] at this
    simpa using this
  go_wp2_with (fail)
  refine (A9.out _ _ H.out).mono ?_
  rintro e w' ⟨rfl, H', u⟩
  replace H := Lib.hid H'
  clear H' u
  clear c31
  go_wp2_with (fail)
  refine (A10.out _ _ H.out).mono ?_
  rintro e w' ⟨rfl, H', u⟩
  replace H := Lib.hid H'
  clear H' u
  go_wp2_with (fail)
  go_ret
  exact ⟨rfl, HU.out _ _ H.out⟩
end Go.Proofs.YtjnjpnnogdldaaaDoor

/- Law 3: what is known. -/
import Derived.Test.YtfnemolaoijbhabDoorOwn
namespace Go.Proofs.YtfnemolaoijbhabDoor
open Go.RowKit Go.Dio

set_option maxHeartbeats 2000000 in
theorem known3_calls (w : World) (hT : Tz w) : Calls Tryd.prog 10 #[] w fun e w' => e = .returned (.bool true) ∧ Below w.heap.size w w' := by
  have N2 := Lib.hid (O_new 2 2 w hT (by decide))
  obtain ⟨l0, hl0⟩ : ∃ l0, l0 = List.replicate 2 0 := ⟨_, rfl⟩
  obtain ⟨l1, hl1⟩ : ∃ l1, l1 = putL l0 1 9 := ⟨_, rfl⟩
  obtain ⟨l2, hl2⟩ : ∃ l2, l2 = flipL l1 40 := ⟨_, rfl⟩
  obtain ⟨l3, hl3⟩ : ∃ l3, l3 = getL l2 1 := ⟨_, rfl⟩
  obtain ⟨l4, hl4⟩ : ∃ l4, l4 = getL l3 1 := ⟨_, rfl⟩
  obtain ⟨l5, hl5⟩ : ∃ l5, l5 = getL l4 (-1) := ⟨_, rfl⟩
  have n0 : l0.length = 2 := by subst hl0; rfl
  have i0 : inn l0 1 = true := by subst hl0; decide
  have f1 : flipB l1 40 = true := by subst hl1 hl0; decide +kernel
  have p2 : peekL l2 1 = (9, 1) := by subst hl2 hl1 hl0; decide +kernel
  have g2 : getF l2 1 = 1 := by subst hl2 hl1 hl0; decide +kernel
  have p3 : peekL l3 1 = (9, 0) := by subst hl3 hl2 hl1 hl0; decide +kernel
  have g3 : getF l3 1 = 0 := by subst hl3 hl2 hl1 hl0; decide +kernel
  have p4 : peekL l4 (-1) = (0, 2) := by subst hl4 hl3 hl2 hl1 hl0; decide +kernel
  have g4 : getF l4 (-1) = 0 := by subst hl4 hl3 hl2 hl1 hl0; decide +kernel
  have f5 : flipB l5 (-1) = false := by subst hl5 hl4 hl3 hl2 hl1 hl0; decide +kernel
  have e6 : flipL l5 (-1) = l5 := by rw [flipL, f5]; rfl
  have i5 : inn l5 2 = false := by subst hl5 hl4 hl3 hl2 hl1 hl0; decide +kernel
  have hu : ∀ b d l f w', Own w b d l f w' → Below w.heap.size w w' := fun _ _ _ _ _ h => h.upd.below
  have HU := Lib.hid hu
  rw [← hl0] at N2
  generalize w.heap.size + 1 = b at N2
  clear hu
  generalize w.heap.size = d at N2 HU ⊢
  have A1 := Lib.hid fun w1 (h : Own w b d l0 0 w1) => O_len h
  have A2 := Lib.hid fun w1 (h : Own w b d l0 0 w1) => O_bits h
  have A3 := Lib.hid fun w1 (h : Own w b d l0 0 w1) => O_put h 1 9 (by decide)
  have A4 := Lib.hid fun w1 (h : Own w b d l1 0 w1) => O_flip h 40
  have A5 := Lib.hid fun w1 (h : Own w b d l2 0 w1) => O_peek h 1
  have A6 := Lib.hid fun w1 (h : Own w b d l2 0 w1) => O_get h 1 (by decide)
  have A7 := Lib.hid fun w1 (h : Own w b d l3 1 w1) => O_get h 1 (by decide)
  have A8 := Lib.hid fun w1 (h : Own w b d l4 1 w1) => O_get h (-1) (by decide)
  have A9 := Lib.hid fun w1 (h : Own w b d l5 1 w1) => O_fixes h
  have A10 := Lib.hid fun w1 (h : Own w b d l5 1 w1) => O_flip h (-1)
  have A11 := Lib.hid fun w1 (h : Own w b d l5 1 w1) => O_put h 2 0 (by decide)
  rw [n0] at A1 A2
  rw [i0, ← hl1] at A3
  rw [f1, ← hl2] at A4
  rw [p2] at A5
  rw [p2, g2, ← hl3] at A6
  rw [p3, g3, ← hl4] at A7
  rw [p4, g4, ← hl5] at A8
  rw [f5, e6] at A10
  rw [i5] at A11
  clear hl0 hl1 hl2 hl3 hl4 hl5 n0 i0 f1 p2 g2 p3 g3 p4 g4 f5 e6 i5
  go_enter Tryd.func10, Tryd.ntmps10
  go_wp2_with (fail)
  refine N2.out.mono ?_
  rintro e w' ⟨rfl, H⟩
  replace H := Lib.hid H
  go_wp2_with (fail)
  refine (A1.out _ H.out).mono ?_
  rintro e w' ⟨rfl, H'⟩
  replace H := Lib.hid H'
  clear H'
  go_wp2_with (fail)
  refine (A2.out _ H.out).mono ?_
  rintro e w' ⟨rfl, H'⟩
  replace H := Lib.hid H'
  clear H'
  go_wp2_with (fail)
  refine (A3.out _ H.out).mono ?_
  rintro e w' ⟨rfl, H'⟩
  replace H := Lib.hid H'
  clear H'
  go_wp2_with (fail)
  refine (A4.out _ H.out).mono ?_
  rintro e w' ⟨rfl, H'⟩
  replace H := Lib.hid H'
  clear H'
  go_wp2_with (fail)
  refine (A5.out _ H.out).mono ?_
  rintro e w' ⟨rfl, H'⟩
  replace H := Lib.hid H'
  clear H'
  go_wp2_with (fail)
  refine (A6.out _ H.out).mono ?_
  rintro e w' ⟨rfl, H'⟩
  replace H := Lib.hid H'
  clear H'
  go_wp2_with (fail)
  refine (A7.out _ H.out).mono ?_
  rintro e w' ⟨rfl, H'⟩
  replace H := Lib.hid H'
  clear H'
  go_wp2_with (fail)
  refine (A8.out _ H.out).mono ?_
  rintro e w' ⟨rfl, H'⟩
  replace H := Lib.hid H'
  clear H'
  go_wp2_with (fail)
  refine (A9.out _ H.out).mono ?_
  rintro e w' ⟨rfl, H'⟩
  replace H := Lib.hid H'
  clear H'
  go_wp2_with (fail)
  refine (A10.out _ H.out).mono ?_
  rintro e w' ⟨rfl, H'⟩
  replace H := Lib.hid H'
  clear H'
  go_wp2_with (fail)
  refine (A11.out _ H.out).mono ?_
  rintro e w' ⟨rfl, H'⟩
  replace H := Lib.hid H'
  clear H'
  go_wp2_with (fail)
  go_ret
  exact ⟨rfl, HU.out _ _ _ _ _ H.out⟩
end Go.Proofs.YtfnemolaoijbhabDoor

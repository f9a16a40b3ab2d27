/- Law 13: what is known. -/
import Derived.Test.YtfnemolaoijbhacDoorEnvM
import Derived.Test.YtfnemolaoijbhacDoorMem4
import Derived.Test.YtfnemolaoijbhacDoorMem5
namespace Go.Proofs.YtfnemolaoijbhacDoor
open Go.RowKit Go.Dio
set_option linter.unusedSimpArgs false
set_option linter.unusedVariables false

theorem peek0 {l : List Nat} (h : l.length = 1024) : peekL l ((0 / 4 : Nat) : Int) = dec (nth l 0) := by
  have := peek_nat' (l := l) (k := 0) (by omega)
  simpa using this
theorem get0 {l : List Nat} (h : l.length = 1024) (h1 : (dec (nth l 0)).2 ≠ 1) : getL l ((0 / 4 : Nat) : Int) = l ∧ getF l ((0 / 4 : Nat) : Int) = 0 :=
  getL_other (by rw [peek0 h]; exact h1)
theorem mload0 {l : List Nat} {x y : Nat} (h : l.length = 1024) (hd : dec (nth l 0) = (x, y)) (hy : y ≠ 1) : mloadV l 0 = (if y = 2 then (0, 25) else (x, 0)) ∧ mloadL l 0 = l ∧ mloadF l 0 = 0 := by
  have e : mayE 0 = 0 := by decide
  obtain ⟨g1, g2⟩ := get0 h (by rw [hd]; exact hy)
  refine ⟨?_, ?_, ?_⟩
  · rw [mloadV, e, peek0 h, hd]; simp
  · rw [mloadL, e, g1]; simp
  · rw [mloadF, e, g2]; simp
theorem mstore0 {l : List Nat} {x y : Nat} {mask : Int} (h : l.length = 1024) (hd : dec (nth l 0) = (x, y)) (hy : y ≠ 1) (v : Nat) : mstoreE l 0 mask = (if y = 2 ∧ mask % 16 ≠ 15 then 25 else 0) ∧ mstoreL l 0 v mask = (if y = 2 ∧ mask % 16 ≠ 15 then l else l.set 0 (enc (mrg x v mask))) := by
  have e : mayE 0 = 0 := by decide
  obtain ⟨g1, g2⟩ := get0 h (by rw [hd]; exact hy)
  have g3 := put_nat (l := l) (k := 0) (v := mrg x v mask) (by omega)
  refine ⟨?_, ?_⟩
  · rw [mstoreE, e, peek0 h, hd]; simp
  · rw [mstoreL, e, peek0 h, hd, g1, show ((0 / 4 : Nat) : Int) = ((0 : Nat) : Int) by decide, g3]; simp
/-- Behind the scrub. -/
theorem known13_pure {l2 : List Nat} (h2 : HeldN 1024 l2 (nth [5]) (fun _ => none)) : ∃ l3 l4 : List Nat,
    flipB l2 1 = true ∧ flipL l2 1 = l3 ∧ flipB l3 2 = true ∧ flipL l3 2 = l4 ∧
    (mloadV l4 0 = (0, 25) ∧ mloadL l4 0 = l4 ∧ mloadF l4 0 = 0) ∧ (mstoreE l4 0 1 = 25 ∧ mstoreL l4 0 9 1 = l4) ∧
    ∃ l5, mstoreE l4 0 15 = 0 ∧ mstoreL l4 0 9 15 = l5 ∧ mloadV l5 0 = (9, 0) ∧ mloadL l5 0 = l5 ∧ mloadF l5 0 = 0 ∧ l5.length = 1024 := by
  have n2 := h2.1
  have z2 : nth l2 0 = enc 5 := h2.2 0 (by decide)
  obtain ⟨a1, a2⟩ := flip_nat (l := l2) (c := 1) (k := 0) (m := 1) (by omega) rfl (by decide)
  obtain ⟨l3, hl3⟩ : ∃ l3, l3 = l2.set 0 (nth l2 0 ^^^ 2 ^ 1) := ⟨_, rfl⟩
  rw [← hl3] at a2
  have n3 : l3.length = 1024 := by rw [hl3]; simpa using n2
  have z3 : nth l3 0 = enc 5 ^^^ 2 ^ 1 := by rw [hl3, nth_set_eq (by omega), z2]
  obtain ⟨b1, b2⟩ := flip_nat (l := l3) (c := 2) (k := 0) (m := 2) (by omega) rfl (by decide)
  obtain ⟨l4, hl4⟩ : ∃ l4, l4 = l3.set 0 (nth l3 0 ^^^ 2 ^ 2) := ⟨_, rfl⟩
  rw [← hl4] at b2
  have n4 : l4.length = 1024 := by rw [hl4]; simpa using n3
  have z4 : nth l4 0 = enc 5 ^^^ 2 ^ 1 ^^^ 2 ^ 2 := by rw [hl4, nth_set_eq (by omega), z3]
  obtain ⟨x, hx⟩ : ∃ x, dec (nth l4 0) = (x, 2) := ⟨(dec (nth l4 0)).1, Prod.ext rfl (by rw [z4]; decide +kernel)⟩
  have L4 := mload0 n4 hx (by decide)
  have S1 := mstore0 (mask := 1) n4 hx (by decide) 9
  have S2 := mstore0 (mask := 15) n4 hx (by decide) 9
  obtain ⟨l5, hl5⟩ : ∃ l5, l5 = l4.set 0 (enc (mrg x 9 15)) := ⟨_, rfl⟩
  have n5 : l5.length = 1024 := by rw [hl5]; simpa using n4
  have hx2 : x < 2 ^ 32 := by
    have := peek_lt l4 ((0 / 4 : Nat) : Int)
    rw [peek0 n4, hx] at this
    exact this
  have z5 : dec (nth l5 0) = (9, 0) := by rw [hl5, nth_set_eq (by omega), mrg_full hx2 (by decide) (by decide)]; decide +kernel
  have L5 := mload0 n5 z5 (by decide)
  simp only [if_true, ne_eq, true_and] at L4 S1 S2 L5
  rw [if_pos (by decide), if_pos (by decide)] at S1
  rw [if_neg (by decide), if_neg (by decide), ← hl5] at S2
  refine ⟨l3, l4, a1, a2, b1, b2, L4, S1, l5, S2.1, S2.2, ?_, L5.2.1, L5.2.2, n5⟩
  simpa using L5.1

set_option maxRecDepth 20000 in
set_option maxHeartbeats 2000000 in
theorem known13_calls (w : World) (hT : Tz w) : Calls Tryd.prog 23 #[] w fun e w' => e = .returned (.bool true) ∧ Below w.heap.size w w' := by
  obtain ⟨i0, hi, hz0, hz1, hz2⟩ := info_parts info_w32
  have hmk : ∀ u : World, (Instr.makeSlice 43 (.int .i64 1025) (.int .i64 1025)).run Tryd.prog u =
      .ok (.slice (some ⟨u.heap.size, 0, none⟩) 1025 1025) (u.alloc (.cells (nums .u32 (List.replicate 1025 0)) 26)) := fun u => by
    have h := run_make (P := Tryd.prog) u 43 26 i0 (.int .u32 0) Tryd.underlying43 hi hz0 .i64 .i64 1025 1025 (by omega) (Int.le_refl _) (by rw [hz2]; decide) (by decide)
    have e : (1025 : Int).toNat = 1025 := rfl
    rw [e] at h
    rw [← made_w32]
    simpa [hz1, Value.cells] using h
  generalize List.replicate 1025 0 = o0 at hmk
  have HT := Lib.hid hT
  clear hi hz0 hz1 hz2
  go_enter Tryd.func23, Tryd.ntmps23
  go_wp2_with (fail)
  have A0 : NumsAt (w.alloc (.cells #[.int .u32 5] 26)) .u32 (some ⟨w.heap.size, 0, none⟩) [5] := numsAt_new w .u32 [5] 26
  have E0 : Env w [] (w.alloc (.cells #[.int .u32 5] 26)) := (Env.none hT).near ((Upd.refl _ _).alloc _)
  have N1 := E_mnew E0 _ [5] 1 A0 (by decide) (by decide)
  refine N1.mono ?_
  rintro e w' ⟨rfl, H'⟩
  replace H := Lib.hid H'
  clear H' N1 E0 A0
  have h0 := Lib.hid (newL_held [5])
  generalize newL [5] = l0 at h0 H
  generalize (w.alloc (.cells #[.int .u32 5] 26)).heap.size + 2 = mb at H ⊢
  generalize (w.alloc (.cells #[.int .u32 5] 26)).heap.size + 1 = b at H ⊢
  generalize (w.alloc (.cells #[.int .u32 5] 26)).heap.size = d at H ⊢
  go_wp2_with (fail)
  refine (MNew_long _ 1025 1025 _ (by decide) (by decide)).mono ?_
  rintro e w2 ⟨rfl, rfl⟩
  replace H := Lib.hid (H.out.near ((Upd.refl _ _).alloc (.cells (nums .u32 o0) 26)))
  generalize w'.alloc (.cells (nums .u32 o0) 26) = w2 at H ⊢
  have F := h0.out.2 0 (by decide)
  have fl := flip_nat (l := l0) (c := 0) (k := 0) (m := 0) (by rw [h0.out.1]; decide) rfl (by decide)
  obtain ⟨l1, hl1⟩ : ∃ l1, l1 = l0.set 0 (nth l0 0 ^^^ 2 ^ 0) := ⟨_, rfl⟩
  rw [← hl1] at fl
  have h1 : HeldN 1024 l1 (nth [5]) (fun j => if j = 0 then some 0 else none) := by
    rw [hl1]
    exact h0.out.set (by decide) (by rw [F]; rfl) (fun j hj hne => ⟨rfl, by simp only [if_neg hne]⟩)
  have c1 : cnt (fun j => if j = 0 then some 0 else none) 1024 = 1 := by decide +kernel
  have m0 : mloadV l0 2 = (0, 13) ∧ mloadL l0 2 = l0 ∧ mloadF l0 2 = 0 := by
    have e : mayE 2 = 13 := by decide
    exact ⟨by rw [mloadV, e]; rfl, by rw [mloadL, e]; rfl, by rw [mloadF, e]; rfl⟩
  have A1 := E_mload H.out HT.out 0 rfl 2 (by decide) (by decide)
  rw [m0.1, m0.2.1, m0.2.2] at A1
  replace A1 := Lib.hid A1
  have A2 := Lib.hid fun w1 (h : Env w [memA mb b d l0 0 0] w1) => E_mflip h HT.out 0 rfl 0
  have A3 := Lib.hid fun w1 (h : Env w [memA mb b d l1 0 0] w1) => E_mscrub_all h HT.out 0 rfl rfl (by decide) h1 (fun j => nth_lt (l := [5]) (B := 2 ^ 32) (by decide) (by decide) j) (fun j m h => by by_cases e : j = 0 <;> simp [e] at h; subst h; decide)
  simp only [List.set_cons_zero, Int.ofNat_zero] at A2 A3
  have e0 : flipB l0 0 = true ∧ flipL l0 0 = l1 := fl
  rw [e0.1, e0.2] at A2
  rw [c1] at A3
  clear m0 F fl hl1 h0 c1 h1 e0 hmk
  go_wp2_with (fail)
  refine (A1.out).mono ?_
  rintro e w' ⟨rfl, H', u⟩
  replace H := Lib.hid H'
  clear H' u
  simp only [List.set_cons_zero] at H
  clear A1
  go_wp2_with (fail)
  refine (A2.out _ H.out).mono ?_
  rintro e w' ⟨rfl, H', u⟩
  replace H := Lib.hid H'
  clear H' u
  clear A2
  go_wp2_with (fail)
  refine (A3.out _ H.out).mono ?_
  rintro e w' ⟨rfl, l2, h2, H', u⟩
  replace H := Lib.hid H'
  clear H' u A3
  obtain ⟨l3, l4, a1, a2, b1, b2, L4, S1, l5, s1, s2, x1, x2, x3, n5⟩ := known13_pure h2
  have B1 := Lib.hid fun w1 (h : Env w [memA mb b d l2 1 0] w1) => E_mflip h HT.out 0 rfl 1
  have B2 := Lib.hid fun w1 (h : Env w [memA mb b d l3 1 0] w1) => E_mflip h HT.out 0 rfl 2
  have B3 := Lib.hid fun w1 (h : Env w [memA mb b d l4 1 0] w1) => E_mload h HT.out 0 rfl 0 (by decide) (by decide)
  have B4 := Lib.hid fun w1 (h : Env w [memA mb b d l4 1 0] w1) => E_mstore h HT.out 0 rfl 0 9 1 (by decide) (by decide) (by decide)
  have B5 := Lib.hid fun w1 (h : Env w [memA mb b d l4 1 0] w1) => E_mstore h HT.out 0 rfl 0 9 15 (by decide) (by decide) (by decide)
  have B6 := Lib.hid fun w1 (h : Env w [memA mb b d l5 1 0] w1) => E_mload h HT.out 0 rfl 0 (by decide) (by decide)
  have B7 := Lib.hid fun w1 (h : Env w [memA mb b d l5 1 0] w1) => E_mfixes h HT.out 0 rfl
  have B8 := Lib.hid fun w1 (h : Env w [memA mb b d l5 1 0] w1) => E_mbits h HT.out 0 rfl
  simp only [List.set_cons_zero] at B1 B2 B3 B4 B5 B6
  rw [a1, a2] at B1
  rw [b1, b2] at B2
  rw [L4.1, L4.2.1, L4.2.2] at B3
  rw [S1.1, S1.2, L4.2.2] at B4
  rw [s1, s2, L4.2.2] at B5
  rw [x1, x2, x3] at B6
  rw [n5] at B8
  clear a1 a2 b1 b2 L4 S1 s1 s2 x1 x2 x3 n5 h2
  go_wp2_with (fail)
  refine (B1.out _ H.out).mono ?_
  rintro e w' ⟨rfl, H', u⟩
  replace H := Lib.hid H'
  clear H' u
  go_wp2_with (fail)
  refine (B2.out _ H.out).mono ?_
  rintro e w' ⟨rfl, H', u⟩
  replace H := Lib.hid H'
  clear H' u
  go_wp2_with (fail)
  refine (B3.out _ H.out).mono ?_
  rintro e w' ⟨rfl, H', u⟩
  replace H := Lib.hid H'
  clear H' u
  go_wp2_with (fail)
  refine (B4.out _ H.out).mono ?_
  rintro e w' ⟨rfl, H', u⟩
  replace H := Lib.hid H'
  clear H' u
  go_wp2_with (fail)
  refine (B5.out _ H.out).mono ?_
  rintro e w' ⟨rfl, H', u⟩
  replace H := Lib.hid H'
  clear H' u
  go_wp2_with (fail)
  refine (B6.out _ H.out).mono ?_
  rintro e w' ⟨rfl, H', u⟩
  replace H := Lib.hid H'
  clear H' u
  go_wp2_with (fail)
  refine (B7.out _ H.out).mono ?_
  rintro e w' ⟨rfl, rfl⟩
  go_wp2_with (fail)
  refine (B8.out _ H.out).mono ?_
  rintro e w' ⟨rfl, rfl⟩
  go_wp2_with (fail)
  go_ret
  exact ⟨rfl, H.out.below⟩
end Go.Proofs.YtfnemolaoijbhacDoor

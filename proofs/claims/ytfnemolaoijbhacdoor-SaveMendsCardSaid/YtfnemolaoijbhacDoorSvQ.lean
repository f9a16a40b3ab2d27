/- What two checkpoints tell with one bit turned, or two, without memory. -/
import Derived.Test.YtfnemolaoijbhacDoorSvP
namespace Go.Proofs.YtfnemolaoijbhacDoor
open Go.RowKit Go.Dio

theorem flip_nth {l : List Nat} {c : Nat} (hc : c < 39 * l.length) (j : Nat) : nth (flipL l (c : Int)) j = if j = c / 39 then nth l j ^^^ 2 ^ (c % 39) else nth l j := by
  obtain ⟨_, h⟩ := flip_nat (l := l) (c := c) (k := c / 39) (m := c % 39) (by omega) (by omega) (Nat.mod_lt _ (by decide))
  rw [h]
  by_cases e : j = c / 39
  · subst e; rw [nth_set_eq (by omega), if_pos rfl]
  · rw [nth_set_ne (fun h => e h.symm), if_neg e]
theorem flip_ok {l : List Nat} {c : Nat} (hc : c < 39 * l.length) : flipB l (c : Int) = true := decide_eq_true (by omega)

variable {c0 c1 : List Nat}
theorem TwoC.lt (h : TwoC c0 c1 0) (j : Nat) : svN c0 c1 0 j < 2 ^ 32 := svN_lt h.b0 h.b1 h.k1 j
/-- One bit turned: each word is told as it was. -/
theorem one_dec (h : TwoC c0 c1 0) {i j : Nat} (hi : i < 3081) (hj : j < 79) : (dec (nth (flipL (svRow c0 c1 0) (i : Int)) j)).1 = svN c0 c1 0 j ∧ (dec (nth (flipL (svRow c0 c1 0) (i : Int)) j)).2 ≠ 2 := by
  rw [flip_nth (by rw [svRow_len h.l0 h.l1]; omega), svRow_nth h.l0 h.l1 hj]
  split
  · rw [dec_flip (h.lt j) (Nat.mod_lt _ (by decide))]; exact ⟨rfl, by simp⟩
  · rw [dec_enc (h.lt j)]; exact ⟨rfl, by simp⟩
theorem copies_of {l : List Nat} (h : TwoC c0 c1 0) (hd : ∀ j, j < 78 → (dec (nth l j)).1 = svN c0 c1 0 j ∧ (dec (nth l j)).2 ≠ 2) : CopyIs l 0 c0 ∧ CopyIs l 1 c1 :=
  ⟨fun i hi => by have := hd (39 * 0 + i) (by omega); rw [show 39 * 0 + i = i by omega] at this ⊢; rwa [svN_0 h.l0 hi] at this,
   fun i hi => by have := hd (39 * 1 + i) (by omega); rw [show 39 * 1 + i = 39 + i by omega] at this ⊢; rwa [svN_1 h.l0 h.l1 hi] at this⟩
theorem one_load (h : TwoC c0 c1 0) (hm : nth c0 38 = markP (nth c0 37)) {i : Nat} (hi : i < 3081) : loadV (flipL (svRow c0 c1 0) (i : Int)) = cpV c0 := by
  obtain ⟨h1, h2⟩ := one_dec h hi (show 78 < 79 by decide)
  rw [svN_k h.l0 h.l1] at h1
  exact load_latest h2 (k := 0) (by rw [latP, h1]) h.l0 (copies_of h (fun j hj => one_dec h hi (by omega))).1 hm
/-- Two bits turned: the latest is told, or the elder one, or none. -/
theorem two_load (h : TwoC c0 c1 0) (hm : nth c0 38 = markP (nth c0 37)) (hm1 : nth c1 38 = markP (nth c1 37)) {i k : Nat} (hi : i < 3081) (hk : k < 3081) :
    loadV (flipL (flipL (svRow c0 c1 0) (i : Int)) (k : Int)) = cpV c0 ∨ loadV (flipL (flipL (svRow c0 c1 0) (i : Int)) (k : Int)) = cpV c1 ∨ loadV (flipL (flipL (svRow c0 c1 0) (i : Int)) (k : Int)) = zeroV := by
  have hl := svRow_len (k := 0) h.l0 h.l1
  have e : ∀ j, j < 79 → nth (flipL (flipL (svRow c0 c1 0) (i : Int)) (k : Int)) j = if j = k / 39 then (if j = i / 39 then enc (svN c0 c1 0 j) ^^^ 2 ^ (i % 39) else enc (svN c0 c1 0 j)) ^^^ 2 ^ (k % 39) else (if j = i / 39 then enc (svN c0 c1 0 j) ^^^ 2 ^ (i % 39) else enc (svN c0 c1 0 j)) := fun j hj => by
    rw [flip_nth (by rw [flipL_len, hl]; omega), flip_nth (by rw [hl]; omega), svRow_nth h.l0 h.l1 hj]
  generalize flipL (flipL (svRow c0 c1 0) (i : Int)) (k : Int) = l at e ⊢
  have hmi := Nat.mod_lt i (show 0 < 39 by decide)
  have hmk := Nat.mod_lt k (show 0 < 39 by decide)
  by_cases same : i / 39 = k / 39 ∧ i % 39 ≠ k % 39
  · obtain ⟨s1, s2⟩ := same
    have bad : (dec (nth l (i / 39))).2 = 2 := by
      rw [e _ (by omega), if_pos s1, if_pos rfl]
      exact dec_two (h.lt _) hmi hmk s2
    have good : ∀ j, j < 79 → j ≠ i / 39 → (dec (nth l j)).1 = svN c0 c1 0 j ∧ (dec (nth l j)).2 ≠ 2 := fun j hj hne => by
      rw [e j hj, if_neg (by omega), if_neg hne, dec_enc (h.lt j)]; exact ⟨rfl, by simp⟩
    rcases (by omega : i / 39 = 78 ∨ i / 39 < 39 ∨ (39 ≤ i / 39 ∧ i / 39 < 78)) with g | g | ⟨g, g2⟩
    · exact .inr (.inr (load_bad (by rw [← g]; exact bad)))
    · obtain ⟨h1, h2⟩ := good 78 (by decide) (by omega)
      rw [svN_k h.l0 h.l1] at h1
      refine .inr (.inl (load_elder h2 (k := 0) (by rw [latP, h1]) g (by rw [Nat.mul_zero, Nat.zero_add]; exact bad) h.l1 ?_ hm1))
      intro j hj
      have := good (39 * 1 + j) (by omega) (by omega)
      rw [show 39 * 1 + j = 39 + j by omega, svN_1 h.l0 h.l1 hj] at this
      rw [show 39 * (1 - 0) + j = 39 + j by omega]
      exact this
    · obtain ⟨h1, h2⟩ := good 78 (by decide) (by omega)
      rw [svN_k h.l0 h.l1] at h1
      refine .inl (load_latest h2 (k := 0) (by rw [latP, h1]) h.l0 ?_ hm)
      intro j hj
      have := good j (by omega) (by omega)
      rw [svN_0 h.l0 hj] at this
      rw [show 39 * 0 + j = j by omega]
      exact this
  · have good : ∀ j, j < 79 → (dec (nth l j)).1 = svN c0 c1 0 j ∧ (dec (nth l j)).2 ≠ 2 := fun j hj => by
      rw [e j hj]
      by_cases g1 : j = k / 39
      · rw [if_pos g1]
        by_cases g2 : j = i / 39
        · have g3 : i % 39 = k % 39 := by omega
          rw [if_pos g2, g3, Go.Dio.flip_flip, dec_enc (h.lt j)]; exact ⟨rfl, by simp⟩
        · rw [if_neg g2, dec_flip (h.lt j) hmk]; exact ⟨rfl, by simp⟩
      · rw [if_neg g1]
        by_cases g2 : j = i / 39
        · rw [if_pos g2, dec_flip (h.lt j) hmi]; exact ⟨rfl, by simp⟩
        · rw [if_neg g2, dec_enc (h.lt j)]; exact ⟨rfl, by simp⟩
    obtain ⟨h1, h2⟩ := good 78 (by decide)
    rw [svN_k h.l0 h.l1] at h1
    exact .inl (load_latest h2 (k := 0) (by rw [latP, h1]) h.l0 (copies_of h (fun j hj => good j (by omega))).1 hm)
end Go.Proofs.YtfnemolaoijbhacDoor

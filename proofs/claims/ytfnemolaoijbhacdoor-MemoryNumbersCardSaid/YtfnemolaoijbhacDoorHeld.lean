/- Rows whose words are code words of some numbers, with one bit turned or none. -/
import Derived.Test.YtfnemolaoijbhacDoorMem3
import Derived.Test.YtfnemolaoijbhacDoorMem5
set_option linter.unusedVariables false
namespace Go.Proofs.YtfnemolaoijbhacDoor
open Go.RowKit Go.Dio

def HeldN (N : Nat) (l : List Nat) (n : Nat → Nat) (o : Nat → Option Nat) : Prop := l.length = N ∧ ∀ j, j < N → nth l j = wd (n j) (o j)
theorem HeldN.set {N : Nat} {l : List Nat} {n : Nat → Nat} {o : Nat → Option Nat} (h : HeldN N l n o) {k v : Nat} (hk : k < N) {n' : Nat → Nat} {o' : Nat → Option Nat} (hv : v = wd (n' k) (o' k)) (hs : ∀ j, j < N → j ≠ k → n' j = n j ∧ o' j = o j) : HeldN N (l.set k v) n' o' :=
  ⟨by simpa using h.1, fun j hj => by
    by_cases e : j = k
    · subst e; rw [nth_set_eq (by rw [h.1]; exact hk)]; exact hv
    · rw [nth_set_ne (fun h => e h.symm), h.2 j hj, (hs j hj e).1, (hs j hj e).2]⟩
theorem newL_held (ns : List Nat) : HeldN 1024 (newL ns) (nth ns) (fun _ => none) := ⟨newL_len ns, fun j hj => newL_nth ns hj⟩
theorem get_wdF {l : List Nat} {k n : Nat} {o : Option Nat} (h : k < l.length) (hn : n < 2 ^ 32) (ho : ∀ m, o = some m → m < 39) (hw : nth l k = wd n o) : getF l (k : Int) = if o.isSome then 1 else 0 := by
  unfold getF
  rw [inn_of (by omega) (by omega), Int.toNat_natCast, hw, dec_wd hn ho]
  cases o <;> simp
/-- How many of them have one bit turned. -/
def cnt (o : Nat → Option Nat) : Nat → Nat
  | 0 => 0
  | k + 1 => cnt o k + (if (o k).isSome then 1 else 0)
theorem cnt_le (o : Nat → Option Nat) : ∀ k, cnt o k ≤ k
  | 0 => Nat.le_refl _
  | k + 1 => by have := cnt_le o k; rw [cnt]; split <;> omega
theorem cnt_zero {o : Nat → Option Nat} : ∀ k, (∀ j, j < k → o j = none) → cnt o k = 0
  | 0, _ => rfl
  | k + 1, h => by rw [cnt, cnt_zero k (fun j hj => h j (by omega)), h k (by omega)]; rfl
theorem scr_held {l : List Nat} {f : Nat} {n : Nat → Nat} {o : Nat → Option Nat} (h : HeldN 1024 l n o) (hn : ∀ j, n j < 2 ^ 32) (ho : ∀ j m, o j = some m → m < 39) : ∀ k, k ≤ 1024 →
    HeldN 1024 (scrN k ⟨l, f, 0, 0, false⟩).l n (fun j => if j < k then none else o j) ∧ (scrN k ⟨l, f, 0, 0, false⟩).f = f + cnt o k ∧ (scrN k ⟨l, f, 0, 0, false⟩).a = k % 1024 ∧ (scrN k ⟨l, f, 0, 0, false⟩).x = cnt o k ∧ (scrN k ⟨l, f, 0, 0, false⟩).e = false
  | 0, _ => ⟨by simpa [scrN] using h, rfl, rfl, rfl, rfl⟩
  | k + 1, hk => by
    obtain ⟨h1, h2, h3, h4, h5⟩ := scr_held (f := f) h hn ho k (by omega)
    generalize hs : scrN k ⟨l, f, 0, 0, false⟩ = s at h1 h2 h3 h4 h5
    have e : scrN (k + 1) ⟨l, f, 0, 0, false⟩ = scr1 s := by rw [scrN, hs]
    rw [e]
    have ka : s.a = k := by rw [h3]; omega
    have hkl : k < s.l.length := by rw [h1.1]; omega
    have hw : nth s.l k = wd (n k) (o k) := by rw [h1.2 k (by omega)]; simp only [if_neg (Nat.lt_irrefl k)]
    obtain ⟨p1, p2, p3, p4⟩ := get_wd hkl (hn k) (ho k) hw
    have p5 := get_wdF hkl (hn k) (ho k) hw
    unfold scr1
    rw [ka]
    simp only [p1, p5]
    refine ⟨⟨p2.trans h1.1, fun j hj => ?_⟩, ?_, by first | rfl | trivial, ?_, ?_⟩
    · by_cases e : j = k
      · subst e; rw [p3]; simp only [if_pos (Nat.lt_succ_self j)]
      · rw [p4 j e, h1.2 j hj]
        simp only
        congr 1
        split <;> split <;> first | rfl | omega
    · rw [h2, cnt]; omega
    · rw [h4, cnt]; cases o k <;> simp
    · rw [h5]; cases o k <;> simp
theorem words_held {l : List Nat} {n : Nat → Nat} {o : Nat → Option Nat} (h : HeldN 1024 l n o) (hn : ∀ j, n j < 2 ^ 32) (ho : ∀ j m, o j = some m → m < 39) : wrdB l = true ∧ (wrdV l).length = 1024 ∧ ∀ j, j < 1024 → nth (wrdV l) j = n j := by
  refine ⟨wrdB_of h.1 fun j hj => ?_, by simp [wrdV, h.1], fun j hj => ?_⟩
  · rw [h.2 j hj, dec_wd (hn j) (ho j)]; simp only; split <;> omega
  · rw [wrdV_nth l (by rw [h.1]; exact hj), h.2 j hj, dec_wd (hn j) (ho j)]

theorem mstep_bit (o d k i : Nat) (hi : i < 32) : (mstep o d k).testBit i = if 8 * k ≤ i ∧ i < 8 * k + 8 then d.testBit i else o.testBit i := by
  have h255 : (255 * 2 ^ (8 * k)).testBit i = decide (8 * k ≤ i ∧ i < 8 * k + 8) := by
    rw [Nat.testBit_mul_two_pow, show (255 : Nat) = 2 ^ 8 - 1 by decide, Nat.testBit_two_pow_sub_one, Bool.eq_iff_iff]
    simp only [Bool.and_eq_true, decide_eq_true_eq]
    omega
  have h32 : (4294967295 : Nat).testBit i = true := by
    rw [show (4294967295 : Nat) = 2 ^ 32 - 1 by decide, Nat.testBit_two_pow_sub_one]; simp [hi]
  rw [mstep, Nat.testBit_or, Nat.testBit_and, Nat.testBit_and, Nat.testBit_xor, h255, h32]
  by_cases hc : 8 * k ≤ i ∧ i < 8 * k + 8
  · simp [hc]
  · simp [hc]
theorem mrg_full {old data : Nat} {mask : Int} (ho : old < 2 ^ 32) (hd : data < 2 ^ 32) (hm : mask % 16 = 15) : mrg old data mask = data := by
  have b0 : mbit mask 0 = true := decide_eq_true (by simp; omega)
  have b1 : mbit mask 1 = true := decide_eq_true (by simp; omega)
  have b2 : mbit mask 2 = true := decide_eq_true (by simp; omega)
  have b3 : mbit mask 3 = true := decide_eq_true (by simp; omega)
  have hl := mrgK_lt (mask := mask) ho hd 4
  apply Nat.eq_of_testBit_eq
  intro i
  by_cases hi : i < 32
  · simp only [mrg, mrgK, b0, b1, b2, b3, if_true]
    rw [mstep_bit _ _ _ _ hi, mstep_bit _ _ _ _ hi, mstep_bit _ _ _ _ hi, mstep_bit _ _ _ _ hi]
    split <;> try rfl
    split <;> try rfl
    split <;> try rfl
    split <;> try rfl
    omega
  · have hp : 2 ^ 32 ≤ 2 ^ i := Nat.pow_le_pow_right (by decide) (by omega)
    rw [mrg, Nat.testBit_lt_two_pow (Nat.lt_of_lt_of_le hl hp), Nat.testBit_lt_two_pow (Nat.lt_of_lt_of_le hd hp)]
end Go.Proofs.YtfnemolaoijbhacDoor

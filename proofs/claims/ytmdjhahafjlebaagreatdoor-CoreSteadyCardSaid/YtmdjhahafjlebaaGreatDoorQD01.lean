/- A code that mends one bit: its numbers, with no program in sight. -/
import Derived.Test.YtmdjhahafjlebaaGreatDoorQD00
import Derived.Lib.TrailingZeros
namespace Go.Dio

/-- The lowest bit taken off. -/
def low (n : Nat) : Nat := n &&& (n - 1)
theorem low_lt {n : Nat} (h : 0 < n) : low n < n := Nat.lt_of_le_of_lt Nat.and_le_right (by omega)
theorem low_le (n : Nat) : low n ≤ n := Nat.and_le_left

theorem low_bits {n : Nat} (h : 0 < n) (h2 : n < 2 ^ 64) : ∃ k, k = Lib.ctz 64 n ∧ k < 64 ∧ n.testBit k = true ∧ ∀ i, (low n).testBit i = (n.testBit i && decide (i ≠ k)) := by
  obtain ⟨m, hm, hk⟩ := Lib.ctzFrom_spec 64 n h h2
  obtain ⟨k, hk0⟩ : ∃ k, k = Lib.ctzFrom 64 n := ⟨_, rfl⟩
  rw [← hk0] at hm hk
  have hc : k = Lib.ctz 64 n := by rw [Lib.ctz, if_neg (by omega)]; exact hk0
  have hp : 0 < 2 ^ k := Nat.two_pow_pos k
  have e1 : n = 2 ^ k * (2 * m + 1) + 0 := by simpa using hm
  have e2 : n - 1 = 2 ^ k * (2 * m) + (2 ^ k - 1) := by rw [hm, Nat.mul_add]; omega
  have b1 : ∀ i, n.testBit i = if i < k then false else (2 * m + 1).testBit (i - k) := fun i => by
    rw [e1, Nat.testBit_two_pow_mul_add _ hp]; simp
  have b2 : ∀ i, (n - 1).testBit i = if i < k then true else (2 * m).testBit (i - k) := fun i => by
    rw [e2, Nat.testBit_two_pow_mul_add _ (by omega)]
    split
    · next hi => rw [Nat.testBit_two_pow_sub_one]; simp [hi]
    · rfl
  refine ⟨k, hc, hk, ?_, fun i => ?_⟩
  · rw [b1]; simp
  · rw [low, Nat.testBit_and, b1, b2]
    by_cases hi : i < k
    · simp [hi]
    · by_cases he : i = k
      · subst he; simp
      · obtain ⟨j, rfl⟩ : ∃ j, i = k + (j + 1) := ⟨i - k - 1, by omega⟩
        have e3 : k + (j + 1) - k = j + 1 := by omega
        have d1 : (2 * m + 1) / 2 = m := by omega
        simp only [hi, if_false, e3, Nat.testBit_succ, d1, Nat.mul_div_cancel_left m (by decide : 0 < 2)]
        simp

/-- How many bits are 1, of the first so many. -/
def popN : Nat → Nat → Nat
  | 0, _ => 0
  | N + 1, w => popN N w + (if w.testBit N then 1 else 0)
def pop (w : Nat) : Nat := popN 64 w
theorem popN_turn {w v k : Nat} (hk : w.testBit k = true) (h : ∀ i, v.testBit i = (w.testBit i && decide (i ≠ k))) : ∀ N, popN N w = popN N v + (if k < N then 1 else 0)
  | 0 => by simp [popN]
  | N + 1 => by
    rw [popN, popN, popN_turn hk h N, h N]
    by_cases e : N = k
    · subst e; simp [hk]
    · have e2 : k < N + 1 ↔ k < N := by omega
      simp [e, e2]; omega
theorem pop_low {n : Nat} (h : 0 < n) (h2 : n < 2 ^ 64) : pop n = pop (low n) + 1 := by
  obtain ⟨k, _, hk, hb, ht⟩ := low_bits h h2
  rw [pop, pop, popN_turn hb ht 64, if_pos hk]
theorem popN_zero : ∀ N, popN N 0 = 0
  | 0 => rfl
  | N + 1 => by rw [popN, popN_zero N]; simp
theorem popN_le (w : Nat) : ∀ N, popN N w ≤ N
  | 0 => by simp [popN]
  | N + 1 => by have := popN_le w N; rw [popN]; split <;> omega
theorem pop_zero : pop 0 = 0 := popN_zero 64
theorem pop_le (w : Nat) : pop w ≤ 64 := popN_le w 64

/-- The columns. -/
def cols : List Nat := [7, 11, 13, 14, 19, 21, 22, 25, 26, 28, 35, 37, 38, 41, 42, 44, 49, 50, 52, 56, 67, 69, 70, 73, 74, 76, 81, 82, 84, 88, 97, 98, 1, 2, 4, 8, 16, 32, 64]
def col (i : Nat) : Nat := nth cols i
theorem col_lt : ∀ i, i < 39 → col i < 128 := by decide +kernel
theorem col_pos : ∀ i, i < 39 → col i ≠ 0 := by decide +kernel
theorem col_inj : ∀ i, i < 39 → ∀ k, k < 39 → col i = col k → i = k := by decide +kernel
theorem col_two : ∀ i, i < 39 → ∀ k, k < 39 → ∀ m, m < 39 → i ≠ k → col i ^^^ col k ≠ col m := by decide +kernel
theorem col_high : ∀ i, i < 39 → 32 ≤ i → col i = 2 ^ (i - 32) := by decide +kernel

/-- What a word's columns come to. -/
def synN : Nat → Nat → Nat
  | 0, _ => 0
  | N + 1, w => synN N w ^^^ (if w.testBit N then col N else 0)
def syn (w : Nat) : Nat := synN 39 w
theorem synN_xor (a b : Nat) : ∀ N, synN N (a ^^^ b) = synN N a ^^^ synN N b
  | 0 => by simp [synN]
  | N + 1 => by
    rw [synN, synN, synN, synN_xor a b N, Nat.testBit_xor]
    have e : (if (a.testBit N ^^ b.testBit N) = true then col N else 0) = (if a.testBit N then col N else 0) ^^^ (if b.testBit N then col N else 0) := by
      cases a.testBit N <;> cases b.testBit N <;> simp
    rw [e]
    ac_rfl
theorem syn_xor (a b : Nat) : syn (a ^^^ b) = syn a ^^^ syn b := synN_xor a b 39
theorem synN_zero : ∀ N, synN N 0 = 0
  | 0 => rfl
  | N + 1 => by rw [synN, synN_zero N]; simp
theorem syn_zero : syn 0 = 0 := synN_zero 39
theorem synN_lt (w : Nat) : ∀ N, N ≤ 39 → synN N w < 128
  | 0, _ => by simp [synN]
  | N + 1, h => by
    rw [synN]
    have h1 := synN_lt w N (by omega)
    have h2 : (if w.testBit N = true then col N else 0) < 128 := by split; exact col_lt N (by omega); omega
    exact Nat.xor_lt_two_pow (n := 7) h1 h2
theorem syn_lt (w : Nat) : syn w < 128 := synN_lt w 39 (by omega)
theorem synN_turn {w v k : Nat} (hk : w.testBit k = true) (h : ∀ i, v.testBit i = (w.testBit i && decide (i ≠ k))) : ∀ N, synN N w = synN N v ^^^ (if k < N then col k else 0)
  | 0 => by simp [synN]
  | N + 1 => by
    rw [synN, synN, synN_turn hk h N, h N]
    by_cases e : N = k
    · subst e; simp [hk]
    · have e2 : k < N + 1 ↔ k < N := by omega
      simp only [e2, ne_eq, e, not_false_eq_true, decide_true, Bool.and_true]
      ac_rfl
theorem synN_ext {a b : Nat} : ∀ N, (∀ i, i < N → a.testBit i = b.testBit i) → synN N a = synN N b
  | 0, _ => rfl
  | N + 1, h => by rw [synN, synN, synN_ext N (fun i hi => h i (by omega)), h N (by omega)]
theorem syn_mod (w : Nat) : syn (w % 2 ^ 39) = syn w := synN_ext 39 fun i hi => by rw [Nat.testBit_mod_two_pow]; simp [hi]
theorem syn_low {n : Nat} (h : 0 < n) (h2 : n < 2 ^ 39) : ∃ k, k = Lib.ctz 64 n ∧ k < 39 ∧ syn n = syn (low n) ^^^ col k := by
  obtain ⟨k, e, hk, hb, ht⟩ := low_bits h (Nat.lt_trans h2 (by decide))
  have hk39 : k < 39 := by
    rcases Nat.lt_or_ge k 39 with h | h
    · exact h
    · rw [Nat.testBit_lt_two_pow (Nat.lt_of_lt_of_le h2 (Nat.pow_le_pow_right (by decide) h))] at hb; cases hb
  refine ⟨k, e, hk39, ?_⟩
  rw [syn, syn, synN_turn hb ht 39, if_pos hk39]
theorem syn_one : ∀ i, i < 39 → syn (2 ^ i) = col i := by decide +kernel
theorem syn_check : ∀ s, s < 128 → syn (s <<< 32) = s := by decide +kernel

/-- A number's code word. -/
def enc (n : Nat) : Nat := n ||| (syn n <<< 32)
theorem enc_xor {n : Nat} (h : n < 2 ^ 32) : enc n = n ^^^ (syn n <<< 32) := by
  apply Nat.eq_of_testBit_eq
  intro i
  rw [enc, Nat.testBit_or, Nat.testBit_xor, Nat.testBit_shiftLeft]
  by_cases hi : i < 32
  · simp [show ¬ 32 ≤ i by omega]
  · rw [Nat.testBit_lt_two_pow (Nat.lt_of_lt_of_le h (Nat.pow_le_pow_right (by decide) (by omega : 32 ≤ i)))]; simp
theorem enc_lt {n : Nat} (h : n < 2 ^ 32) : enc n < 2 ^ 39 := by
  have h1 := syn_lt n
  have h2 : syn n <<< 32 < 2 ^ 39 := by rw [Nat.shiftLeft_eq]; omega
  exact Nat.or_lt_two_pow (by omega) h2
theorem syn_enc {n : Nat} (h : n < 2 ^ 32) : syn (enc n) = 0 := by
  rw [enc_xor h, syn_xor, syn_check _ (syn_lt n), Nat.xor_self]
theorem enc_mod {n : Nat} (h : n < 2 ^ 32) : enc n % 2 ^ 32 = n := by
  apply Nat.eq_of_testBit_eq
  intro i
  rw [Nat.testBit_mod_two_pow, enc, Nat.testBit_or, Nat.testBit_shiftLeft]
  by_cases hi : i < 32
  · simp [hi, show ¬ 32 ≤ i by omega]
  · rw [Nat.testBit_lt_two_pow (Nat.lt_of_lt_of_le h (Nat.pow_le_pow_right (by decide) (by omega : 32 ≤ i)))]; simp [hi]

/-- The place of the column that is so, if one is. -/
def colAt (s : Nat) : Option Nat := (List.range 39).find? fun i => decide (col i = s)
/-- The code word that was meant, and its status (0 good, 1 fixed, 2 bad). -/
def mend (w : Nat) : Nat × Nat :=
  if syn w = 0 then (w % 2 ^ 39, 0) else
    match colAt (syn w) with
    | some i => (w % 2 ^ 39 ^^^ 2 ^ i, 1)
    | none => (w % 2 ^ 39, 2)
def dec (w : Nat) : Nat × Nat := ((mend w).1 % 2 ^ 32, (mend w).2)

theorem colAt_some {s i : Nat} (h : colAt s = some i) : i < 39 ∧ col i = s := by
  unfold colAt at h
  have h1 := List.find?_some h
  have h2 := List.mem_of_find?_eq_some h
  simp at h1 h2
  exact ⟨h2, h1⟩
theorem colAt_col : ∀ i, i < 39 → colAt (col i) = some i := by decide +kernel
theorem colAt_none {s : Nat} (h : ∀ i, i < 39 → col i ≠ s) : colAt s = none := by
  unfold colAt
  rw [List.find?_eq_none]
  intro i hi
  simp at hi
  simpa using h i hi
theorem mod39 {w : Nat} (h : w < 2 ^ 39) : w % 2 ^ 39 = w := Nat.mod_eq_of_lt h
theorem mend_lt (w : Nat) : (mend w).1 < 2 ^ 39 := by
  have h1 : w % 2 ^ 39 < 2 ^ 39 := Nat.mod_lt _ (by decide)
  unfold mend
  split
  · exact h1
  · split
    · next i h =>
      have := (colAt_some h).1
      exact Nat.xor_lt_two_pow h1 (Nat.pow_lt_pow_right (by decide) this)
    · exact h1
theorem mend_enc {n : Nat} (h : n < 2 ^ 32) : mend (enc n) = (enc n, 0) := by
  rw [mend, if_pos (syn_enc h), mod39 (enc_lt h)]
theorem syn_flip {n i : Nat} (h : n < 2 ^ 32) (hi : i < 39) : syn (enc n ^^^ 2 ^ i) = col i := by
  rw [syn_xor, syn_enc h, syn_one i hi, Nat.zero_xor]
theorem flip_lt {w i : Nat} (h : w < 2 ^ 39) (hi : i < 39) : w ^^^ 2 ^ i < 2 ^ 39 := Nat.xor_lt_two_pow h (Nat.pow_lt_pow_right (by decide) hi)
theorem flip_flip (w i : Nat) : w ^^^ 2 ^ i ^^^ 2 ^ i = w := by rw [Nat.xor_assoc, Nat.xor_self, Nat.xor_zero]
theorem mend_flip {n i : Nat} (h : n < 2 ^ 32) (hi : i < 39) : mend (enc n ^^^ 2 ^ i) = (enc n, 1) := by
  rw [mend, syn_flip h hi, if_neg (col_pos i hi), colAt_col i hi, mod39 (flip_lt (enc_lt h) hi)]
  simp only [flip_flip]
theorem mend_two {n i k : Nat} (h : n < 2 ^ 32) (hi : i < 39) (hk : k < 39) (hne : i ≠ k) : mend (enc n ^^^ 2 ^ i ^^^ 2 ^ k) = (enc n ^^^ 2 ^ i ^^^ 2 ^ k, 2) := by
  have e : syn (enc n ^^^ 2 ^ i ^^^ 2 ^ k) = col i ^^^ col k := by rw [syn_xor, syn_flip h hi, syn_one k hk]
  have e0 : col i ^^^ col k ≠ 0 := fun e1 => by
    have e2 : col i ^^^ col k ^^^ col k = col k := by rw [e1, Nat.zero_xor]
    rw [Nat.xor_assoc, Nat.xor_self, Nat.xor_zero] at e2
    exact hne (col_inj i hi k hk e2)
  rw [mend, e, if_neg e0, colAt_none (fun m hm => (col_two i hi k hk m hm hne).symm), mod39 (flip_lt (flip_lt (enc_lt h) hi) hk)]
theorem dec_enc {n : Nat} (h : n < 2 ^ 32) : dec (enc n) = (n, 0) := by rw [dec, mend_enc h]; simp only [enc_mod h]
theorem dec_flip {n i : Nat} (h : n < 2 ^ 32) (hi : i < 39) : dec (enc n ^^^ 2 ^ i) = (n, 1) := by rw [dec, mend_flip h hi]; simp only [enc_mod h]
theorem dec_two {n i k : Nat} (h : n < 2 ^ 32) (hi : i < 39) (hk : k < 39) (hne : i ≠ k) : (dec (enc n ^^^ 2 ^ i ^^^ 2 ^ k)).2 = 2 := by rw [dec, mend_two h hi hk hne]
theorem mend_two_st {n i k : Nat} (h : n < 2 ^ 32) (hi : i < 39) (hk : k < 39) : (mend (enc n ^^^ 2 ^ i ^^^ 2 ^ k)).2 = if i = k then 0 else 2 := by
  split
  · next e => subst e; rw [flip_flip, mend_enc h]
  · next e => rw [mend_two h hi hk e]
theorem mend_st (w : Nat) : (mend w).2 ≤ 2 := by
  by_cases hs : syn w = 0
  · rw [mend, if_pos hs]; exact Nat.zero_le _
  · rw [mend, if_neg hs]
    cases colAt (syn w)
    · exact Nat.le_refl _
    · exact Nat.le_succ _
theorem enc_add {n m : Nat} (h : n < 2 ^ 32) (h2 : m < 2 ^ 32) : enc (n ^^^ m) = enc n ^^^ enc m := by
  rw [enc_xor (Nat.xor_lt_two_pow h h2), enc_xor h, enc_xor h2, syn_xor, Nat.shiftLeft_xor_distrib]
  generalize syn n <<< 32 = x
  generalize syn m <<< 32 = y
  ac_rfl
theorem enc_zero : enc 0 = 0 := by decide +kernel

/-- How many numbers below k have three bits. -/
def cntN : Nat → Nat
  | 0 => 0
  | k + 1 => cntN k + (if pop k = 3 then 1 else 0)
theorem cnt_col : ∀ k, k < 128 → pop k = 3 → cntN k < 32 → col (cntN k) = k := by decide +kernel
theorem cnt_all : cntN 128 = 35 := by decide +kernel
theorem cnt_le : ∀ k, cntN k ≤ k
  | 0 => Nat.le_refl _
  | k + 1 => by have := cnt_le k; rw [cntN]; split <;> omega
end Go.Dio

namespace Go.Dio
open Go Go.RowKit

/-- The parity of a word. -/
def par (w : Nat) : Nat := pop w % 2
/-- A number with its parity. -/
def pput (n : Nat) : Nat := n ||| (par n <<< 32)
def pget (w : Nat) : Nat := w % 4294967296
def pok (w : Nat) : Bool := decide (par w = 0) && decide (w / 8589934592 = 0)
theorem par_le (w : Nat) : par w ≤ 1 := by unfold par; omega
theorem popN_flip {w i : Nat} : ∀ N, (popN N (w ^^^ 2 ^ i) + popN N w + (if i < N then 1 else 0)) % 2 = 0
  | 0 => by simp [popN]
  | N + 1 => by
    have h := @popN_flip w i N
    rw [popN, popN, Nat.testBit_xor, Nat.testBit_two_pow]
    by_cases e : i = N
    · subst e
      simp only [Nat.lt_irrefl, if_false, Nat.lt_succ_self, if_true, decide_true, Bool.xor_true] at h ⊢
      cases w.testBit i <;> simp <;> omega
    · have e2 : i < N + 1 ↔ i < N := by omega
      simp only [e2, e, decide_false, Bool.xor_false]
      cases w.testBit N <;> simp <;> omega
theorem par_flip (w : Nat) {i : Nat} (hi : i < 64) : par (w ^^^ 2 ^ i) = 1 - par w := by
  have h := @popN_flip w i 64
  rw [if_pos hi] at h
  unfold par pop
  omega
theorem par_zero : par 0 = 0 := by rw [par, pop_zero]
theorem pput_eq {n : Nat} (h : n < 2 ^ 32) : pput n = n + par n * 4294967296 := by
  unfold pput
  rw [Nat.shiftLeft_eq]
  have h2 := par_le n
  rcases (by omega : par n = 0 ∨ par n = 1) with e | e
  · rw [e]; simp
  · rw [e, Nat.one_mul, Nat.or_comm, ← Nat.one_mul (2 ^ 32), ← Nat.shiftLeft_eq, ← Nat.shiftLeft_add_eq_or_of_lt h, Nat.shiftLeft_eq]; omega
theorem pput_xor {n : Nat} (h : n < 2 ^ 32) (e : par n = 1) : pput n = n ^^^ 2 ^ 32 := by
  rw [pput_eq h, e]
  have hb : n.testBit 32 = false := Nat.testBit_lt_two_pow h
  apply Nat.eq_of_testBit_eq
  intro j
  rw [Nat.testBit_xor, Nat.testBit_two_pow, Nat.one_mul, show n + 4294967296 = 2 ^ 32 * 1 + n by omega, Nat.testBit_two_pow_mul_add 1 h]
  by_cases hj : j < 32
  · have e : ¬ 32 = j := by omega
    simp [hj, e]
  · have : n.testBit j = false := Nat.testBit_lt_two_pow (Nat.lt_of_lt_of_le h (Nat.pow_le_pow_right (by decide) (by omega)))
    rw [this]
    simp only [hj, if_false, Bool.false_xor]
    by_cases e : j = 32
    · subst e; rfl
    · rw [decide_eq_false (by omega)]
      exact Nat.testBit_lt_two_pow (Nat.one_lt_two_pow (by omega))
theorem par_pput {n : Nat} (h : n < 2 ^ 32) : par (pput n) = 0 := by
  have h2 := par_le n
  rcases (by omega : par n = 0 ∨ par n = 1) with e | e
  · rw [pput_eq h, e]; simpa using e
  · rw [pput_xor h e, par_flip n (by decide), e]
theorem pput_lt {n : Nat} (h : n < 2 ^ 32) : pput n < 8589934592 := by
  have := par_le n
  rw [pput_eq h]
  rcases (by omega : par n = 0 ∨ par n = 1) with e | e <;> rw [e] <;> omega
theorem pget_pput {n : Nat} (h : n < 2 ^ 32) : pget (pput n) = n := by
  have := par_le n
  rw [pput_eq h, pget]
  rcases (by omega : par n = 0 ∨ par n = 1) with e | e <;> rw [e] <;> omega
theorem pget_lt (w : Nat) : pget w < 2 ^ 32 := Nat.mod_lt _ (by decide)
theorem pok_pput {n : Nat} (h : n < 2 ^ 32) : pok (pput n) = true := by
  have := pput_lt h
  rw [pok, par_pput h, decide_eq_true rfl, decide_eq_true (by omega)]; rfl
theorem pok_flip {w i : Nat} (h : pok w = true) (hi : i < 33) : pok (w ^^^ 2 ^ i) = false := by
  rw [pok, Bool.and_eq_true, decide_eq_true_eq] at h
  rw [pok, par_flip w (by omega), h.1, decide_eq_false (by decide)]; rfl
theorem pput_zero : pput 0 = 0 := by rw [pput, par_zero]; rfl
theorem pflip_lt {w i : Nat} (h : w < 8589934592) (hi : i < 33) : w ^^^ 2 ^ i < 8589934592 := by
  have : w ^^^ 2 ^ i < 2 ^ 33 := Nat.xor_lt_two_pow (by omega) (Nat.pow_lt_pow_right (by decide) hi)
  omega
end Go.Dio

/- A code that mends one bit: its numbers, with no program in sight. -/
import Derived.Test.YtggjmdgonjhioaaGreatQZ00
import Derived.Lib.TrailingZeros
import Derived.Laws.BitsLemmas
import Derived.WalkKit
import Derived.Test.YtggjmdgonjhioaaGreatProg
import Derived.Deep.LoopGhost
namespace Go.Dio

/-- The lowest bit taken off. -/
def low (n : Nat) : Nat := n &&& (n - 1)
theorem low_lt {n : Nat} (h : 0 < n) : low n < n := Nat.lt_of_le_of_lt Nat.and_le_right (by omega)
theorem low_le (n : Nat) : low n ≤ n := Nat.and_le_left

theorem low_bits {n : Nat} (h : 0 < n) (h2 : n < 2 ^ 64) : ∃ k, k = Lib.ctz 64 n ∧ k < 64 ∧ n.testBit k = true ∧ ∀ i, (low n).testBit i = (n.testBit i && decide (i ≠ k)) := by
  obtain ⟨m, hm, hk⟩ := Lib.ctzFrom_spec 64 n h h2
  obtain ⟨k, hk0⟩ : ∃ k, k = Lib.ctzFrom 64 n := ⟨_, rfl⟩
  rw [← hk0] at hm hk
  have hc : k = Lib.ctz 64 n := by rw [Lib.ctz, if_neg (by omega)]; exact hk0
  have hp : 0 < 2 ^ k := Nat.two_pow_pos k
  have e1 : n = 2 ^ k * (2 * m + 1) + 0 := by simpa using hm
  have e2 : n - 1 = 2 ^ k * (2 * m) + (2 ^ k - 1) := by rw [hm, Nat.mul_add]; omega
  have b1 : ∀ i, n.testBit i = if i < k then false else (2 * m + 1).testBit (i - k) := fun i => by
    rw [e1, Nat.testBit_two_pow_mul_add _ hp]; simp
  have b2 : ∀ i, (n - 1).testBit i = if i < k then true else (2 * m).testBit (i - k) := fun i => by
    rw [e2, Nat.testBit_two_pow_mul_add _ (by omega)]
    split
    · next hi => rw [Nat.testBit_two_pow_sub_one]; simp [hi]
    · rfl
  refine ⟨k, hc, hk, ?_, fun i => ?_⟩
  · rw [b1]; simp
  · rw [low, Nat.testBit_and, b1, b2]
    by_cases hi : i < k
    · simp [hi]
    · by_cases he : i = k
      · subst he; simp
      · obtain ⟨j, rfl⟩ : ∃ j, i = k + (j + 1) := ⟨i - k - 1, by omega⟩
        have e3 : k + (j + 1) - k = j + 1 := by omega
        have d1 : (2 * m + 1) / 2 = m := by omega
        simp only [hi, if_false, e3, Nat.testBit_succ, d1, Nat.mul_div_cancel_left m (by decide : 0 < 2)]
        simp

/-- How many bits are 1, of the first so many. -/
def popN : Nat → Nat → Nat
  | 0, _ => 0
  | N + 1, w => popN N w + (if w.testBit N then 1 else 0)
def pop (w : Nat) : Nat := popN 64 w
theorem popN_turn {w v k : Nat} (hk : w.testBit k = true) (h : ∀ i, v.testBit i = (w.testBit i && decide (i ≠ k))) : ∀ N, popN N w = popN N v + (if k < N then 1 else 0)
  | 0 => by simp [popN]
  | N + 1 => by
    rw [popN, popN, popN_turn hk h N, h N]
    by_cases e : N = k
    · subst e; simp [hk]
    · have e2 : k < N + 1 ↔ k < N := by omega
      simp [e, e2]; omega
theorem pop_low {n : Nat} (h : 0 < n) (h2 : n < 2 ^ 64) : pop n = pop (low n) + 1 := by
  obtain ⟨k, _, hk, hb, ht⟩ := low_bits h h2
  rw [pop, pop, popN_turn hb ht 64, if_pos hk]
theorem popN_zero : ∀ N, popN N 0 = 0
  | 0 => rfl
  | N + 1 => by rw [popN, popN_zero N]; simp
theorem popN_le (w : Nat) : ∀ N, popN N w ≤ N
  | 0 => by simp [popN]
  | N + 1 => by have := popN_le w N; rw [popN]; split <;> omega
theorem pop_zero : pop 0 = 0 := popN_zero 64
theorem pop_le (w : Nat) : pop w ≤ 64 := popN_le w 64

/-- The columns. -/
def cols : List Nat := [7, 11, 13, 14, 19, 21, 22, 25, 26, 28, 35, 37, 38, 41, 42, 44, 49, 50, 52, 56, 67, 69, 70, 73, 74, 76, 81, 82, 84, 88, 97, 98, 1, 2, 4, 8, 16, 32, 64]
def col (i : Nat) : Nat := nth cols i
theorem col_lt : ∀ i, i < 39 → col i < 128 := by decide +kernel
theorem col_pos : ∀ i, i < 39 → col i ≠ 0 := by decide +kernel
theorem col_inj : ∀ i, i < 39 → ∀ k, k < 39 → col i = col k → i = k := by decide +kernel
theorem col_two : ∀ i, i < 39 → ∀ k, k < 39 → ∀ m, m < 39 → i ≠ k → col i ^^^ col k ≠ col m := by decide +kernel
theorem col_high : ∀ i, i < 39 → 32 ≤ i → col i = 2 ^ (i - 32) := by decide +kernel

/-- What a word's columns come to. -/
def synN : Nat → Nat → Nat
  | 0, _ => 0
  | N + 1, w => synN N w ^^^ (if w.testBit N then col N else 0)
def syn (w : Nat) : Nat := synN 39 w
theorem synN_xor (a b : Nat) : ∀ N, synN N (a ^^^ b) = synN N a ^^^ synN N b
  | 0 => by simp [synN]
  | N + 1 => by
    rw [synN, synN, synN, synN_xor a b N, Nat.testBit_xor]
    have e : (if (a.testBit N ^^ b.testBit N) = true then col N else 0) = (if a.testBit N then col N else 0) ^^^ (if b.testBit N then col N else 0) := by
      cases a.testBit N <;> cases b.testBit N <;> simp
    rw [e]
    ac_rfl
theorem syn_xor (a b : Nat) : syn (a ^^^ b) = syn a ^^^ syn b := synN_xor a b 39
theorem synN_zero : ∀ N, synN N 0 = 0
  | 0 => rfl
  | N + 1 => by rw [synN, synN_zero N]; simp
theorem syn_zero : syn 0 = 0 := synN_zero 39
theorem synN_lt (w : Nat) : ∀ N, N ≤ 39 → synN N w < 128
  | 0, _ => by simp [synN]
  | N + 1, h => by
    rw [synN]
    have h1 := synN_lt w N (by omega)
    have h2 : (if w.testBit N = true then col N else 0) < 128 := by split; exact col_lt N (by omega); omega
    exact Nat.xor_lt_two_pow (n := 7) h1 h2
theorem syn_lt (w : Nat) : syn w < 128 := synN_lt w 39 (by omega)
theorem synN_turn {w v k : Nat} (hk : w.testBit k = true) (h : ∀ i, v.testBit i = (w.testBit i && decide (i ≠ k))) : ∀ N, synN N w = synN N v ^^^ (if k < N then col k else 0)
  | 0 => by simp [synN]
  | N + 1 => by
    rw [synN, synN, synN_turn hk h N, h N]
    by_cases e : N = k
    · subst e; simp [hk]
    · have e2 : k < N + 1 ↔ k < N := by omega
      simp only [e2, ne_eq, e, not_false_eq_true, decide_true, Bool.and_true]
      ac_rfl
theorem synN_ext {a b : Nat} : ∀ N, (∀ i, i < N → a.testBit i = b.testBit i) → synN N a = synN N b
  | 0, _ => rfl
  | N + 1, h => by rw [synN, synN, synN_ext N (fun i hi => h i (by omega)), h N (by omega)]
theorem syn_mod (w : Nat) : syn (w % 2 ^ 39) = syn w := synN_ext 39 fun i hi => by rw [Nat.testBit_mod_two_pow]; simp [hi]
theorem syn_low {n : Nat} (h : 0 < n) (h2 : n < 2 ^ 39) : ∃ k, k = Lib.ctz 64 n ∧ k < 39 ∧ syn n = syn (low n) ^^^ col k := by
  obtain ⟨k, e, hk, hb, ht⟩ := low_bits h (Nat.lt_trans h2 (by decide))
  have hk39 : k < 39 := by
    rcases Nat.lt_or_ge k 39 with h | h
    · exact h
    · rw [Nat.testBit_lt_two_pow (Nat.lt_of_lt_of_le h2 (Nat.pow_le_pow_right (by decide) h))] at hb; cases hb
  refine ⟨k, e, hk39, ?_⟩
  rw [syn, syn, synN_turn hb ht 39, if_pos hk39]
theorem syn_one : ∀ i, i < 39 → syn (2 ^ i) = col i := by decide +kernel
theorem syn_check : ∀ s, s < 128 → syn (s <<< 32) = s := by decide +kernel

/-- A number's code word. -/
def enc (n : Nat) : Nat := n ||| (syn n <<< 32)
theorem enc_xor {n : Nat} (h : n < 2 ^ 32) : enc n = n ^^^ (syn n <<< 32) := by
  apply Nat.eq_of_testBit_eq
  intro i
  rw [enc, Nat.testBit_or, Nat.testBit_xor, Nat.testBit_shiftLeft]
  by_cases hi : i < 32
  · simp [show ¬ 32 ≤ i by omega]
  · rw [Nat.testBit_lt_two_pow (Nat.lt_of_lt_of_le h (Nat.pow_le_pow_right (by decide) (by omega : 32 ≤ i)))]; simp
theorem enc_lt {n : Nat} (h : n < 2 ^ 32) : enc n < 2 ^ 39 := by
  have h1 := syn_lt n
  have h2 : syn n <<< 32 < 2 ^ 39 := by rw [Nat.shiftLeft_eq]; omega
  exact Nat.or_lt_two_pow (by omega) h2
theorem syn_enc {n : Nat} (h : n < 2 ^ 32) : syn (enc n) = 0 := by
  rw [enc_xor h, syn_xor, syn_check _ (syn_lt n), Nat.xor_self]
theorem enc_mod {n : Nat} (h : n < 2 ^ 32) : enc n % 2 ^ 32 = n := by
  apply Nat.eq_of_testBit_eq
  intro i
  rw [Nat.testBit_mod_two_pow, enc, Nat.testBit_or, Nat.testBit_shiftLeft]
  by_cases hi : i < 32
  · simp [hi, show ¬ 32 ≤ i by omega]
  · rw [Nat.testBit_lt_two_pow (Nat.lt_of_lt_of_le h (Nat.pow_le_pow_right (by decide) (by omega : 32 ≤ i)))]; simp [hi]

/-- The place of the column that is so, if one is. -/
def colAt (s : Nat) : Option Nat := (List.range 39).find? fun i => decide (col i = s)
/-- The code word that was meant, and its status (0 good, 1 fixed, 2 bad). -/
def mend (w : Nat) : Nat × Nat :=
  if syn w = 0 then (w % 2 ^ 39, 0) else
    match colAt (syn w) with
    | some i => (w % 2 ^ 39 ^^^ 2 ^ i, 1)
    | none => (w % 2 ^ 39, 2)
def dec (w : Nat) : Nat × Nat := ((mend w).1 % 2 ^ 32, (mend w).2)

theorem colAt_some {s i : Nat} (h : colAt s = some i) : i < 39 ∧ col i = s := by
  unfold colAt at h
  have h1 := List.find?_some h
  have h2 := List.mem_of_find?_eq_some h
  simp at h1 h2
  exact ⟨h2, h1⟩
theorem colAt_col : ∀ i, i < 39 → colAt (col i) = some i := by decide +kernel
theorem colAt_none {s : Nat} (h : ∀ i, i < 39 → col i ≠ s) : colAt s = none := by
  unfold colAt
  rw [List.find?_eq_none]
  intro i hi
  simp at hi
  simpa using h i hi
theorem mod39 {w : Nat} (h : w < 2 ^ 39) : w % 2 ^ 39 = w := Nat.mod_eq_of_lt h
theorem mend_lt (w : Nat) : (mend w).1 < 2 ^ 39 := by
  have h1 : w % 2 ^ 39 < 2 ^ 39 := Nat.mod_lt _ (by decide)
  unfold mend
  split
  · exact h1
  · split
    · next i h =>
      have := (colAt_some h).1
      exact Nat.xor_lt_two_pow h1 (Nat.pow_lt_pow_right (by decide) this)
    · exact h1
theorem mend_enc {n : Nat} (h : n < 2 ^ 32) : mend (enc n) = (enc n, 0) := by
  rw [mend, if_pos (syn_enc h), mod39 (enc_lt h)]
theorem syn_flip {n i : Nat} (h : n < 2 ^ 32) (hi : i < 39) : syn (enc n ^^^ 2 ^ i) = col i := by
  rw [syn_xor, syn_enc h, syn_one i hi, Nat.zero_xor]
theorem flip_lt {w i : Nat} (h : w < 2 ^ 39) (hi : i < 39) : w ^^^ 2 ^ i < 2 ^ 39 := Nat.xor_lt_two_pow h (Nat.pow_lt_pow_right (by decide) hi)
theorem flip_flip (w i : Nat) : w ^^^ 2 ^ i ^^^ 2 ^ i = w := by rw [Nat.xor_assoc, Nat.xor_self, Nat.xor_zero]
theorem mend_flip {n i : Nat} (h : n < 2 ^ 32) (hi : i < 39) : mend (enc n ^^^ 2 ^ i) = (enc n, 1) := by
  rw [mend, syn_flip h hi, if_neg (col_pos i hi), colAt_col i hi, mod39 (flip_lt (enc_lt h) hi)]
  simp only [flip_flip]
theorem mend_two {n i k : Nat} (h : n < 2 ^ 32) (hi : i < 39) (hk : k < 39) (hne : i ≠ k) : mend (enc n ^^^ 2 ^ i ^^^ 2 ^ k) = (enc n ^^^ 2 ^ i ^^^ 2 ^ k, 2) := by
  have e : syn (enc n ^^^ 2 ^ i ^^^ 2 ^ k) = col i ^^^ col k := by rw [syn_xor, syn_flip h hi, syn_one k hk]
  have e0 : col i ^^^ col k ≠ 0 := fun e1 => by
    have e2 : col i ^^^ col k ^^^ col k = col k := by rw [e1, Nat.zero_xor]
    rw [Nat.xor_assoc, Nat.xor_self, Nat.xor_zero] at e2
    exact hne (col_inj i hi k hk e2)
  rw [mend, e, if_neg e0, colAt_none (fun m hm => (col_two i hi k hk m hm hne).symm), mod39 (flip_lt (flip_lt (enc_lt h) hi) hk)]
theorem dec_enc {n : Nat} (h : n < 2 ^ 32) : dec (enc n) = (n, 0) := by rw [dec, mend_enc h]; simp only [enc_mod h]
theorem dec_flip {n i : Nat} (h : n < 2 ^ 32) (hi : i < 39) : dec (enc n ^^^ 2 ^ i) = (n, 1) := by rw [dec, mend_flip h hi]; simp only [enc_mod h]
theorem dec_two {n i k : Nat} (h : n < 2 ^ 32) (hi : i < 39) (hk : k < 39) (hne : i ≠ k) : (dec (enc n ^^^ 2 ^ i ^^^ 2 ^ k)).2 = 2 := by rw [dec, mend_two h hi hk hne]
theorem mend_two_st {n i k : Nat} (h : n < 2 ^ 32) (hi : i < 39) (hk : k < 39) : (mend (enc n ^^^ 2 ^ i ^^^ 2 ^ k)).2 = if i = k then 0 else 2 := by
  split
  · next e => subst e; rw [flip_flip, mend_enc h]
  · next e => rw [mend_two h hi hk e]
theorem mend_st (w : Nat) : (mend w).2 ≤ 2 := by
  by_cases hs : syn w = 0
  · rw [mend, if_pos hs]; exact Nat.zero_le _
  · rw [mend, if_neg hs]
    cases colAt (syn w)
    · exact Nat.le_refl _
    · exact Nat.le_succ _
theorem enc_add {n m : Nat} (h : n < 2 ^ 32) (h2 : m < 2 ^ 32) : enc (n ^^^ m) = enc n ^^^ enc m := by
  rw [enc_xor (Nat.xor_lt_two_pow h h2), enc_xor h, enc_xor h2, syn_xor, Nat.shiftLeft_xor_distrib]
  generalize syn n <<< 32 = x
  generalize syn m <<< 32 = y
  ac_rfl
theorem enc_zero : enc 0 = 0 := by decide +kernel

/-- How many numbers below k have three bits. -/
def cntN : Nat → Nat
  | 0 => 0
  | k + 1 => cntN k + (if pop k = 3 then 1 else 0)
theorem cnt_col : ∀ k, k < 128 → pop k = 3 → cntN k < 32 → col (cntN k) = k := by decide +kernel
theorem cnt_all : cntN 128 = 35 := by decide +kernel
theorem cnt_le : ∀ k, cntN k ≤ k
  | 0 => Nat.le_refl _
  | k + 1 => by have := cnt_le k; rw [cntN]; split <;> omega
end Go.Dio

namespace Go.Dio

theorem wrap64 {n : Int} (h₀ : 0 ≤ n) (h₁ : n < 2 ^ 64) : IntKind.u64.wrap n = n := by
  simp only [IntKind.wrap, IntKind.bits, IntKind.signed]; simp; omega
theorem wrapi64 {n : Int} (h₀ : 0 ≤ n) (h₁ : n < 2 ^ 63) : IntKind.i64.wrap n = n := by rw [IntKind.wrap_i64]; omega
theorem wrap32 {n : Int} (h₀ : 0 ≤ n) (h₁ : n < 2 ^ 32) : IntKind.u32.wrap n = n := by rw [IntKind.wrap_u32]; omega

theorem bits_xor_nat (k : IntKind) (j : Nat) (hj : j ≤ k.bits) (hk : ∀ n : Int, 0 ≤ n → n < 2 ^ j → k.wrap n = n) (a b : Nat) (ha : a < 2 ^ j) (hb : b < 2 ^ j) : bits .xor k a b = ((a ^^^ b : Nat) : Int) := by
  have hp : 2 ^ j ≤ 2 ^ k.bits := Nat.pow_le_pow_right (by decide) hj
  have ha' : a % 2 ^ k.bits = a := Nat.mod_eq_of_lt (Nat.lt_of_lt_of_le ha hp)
  have hb' : b % 2 ^ k.bits = b := Nat.mod_eq_of_lt (Nat.lt_of_lt_of_le hb hp)
  simp only [bits, BitVec.ofInt_natCast, BitVec.toNat_xor, BitVec.toNat_ofNat, ha', hb']
  exact hk _ (Int.natCast_nonneg _) (by exact_mod_cast Nat.xor_lt_two_pow ha hb)

theorem and64 (a b : Nat) (ha : a < 2 ^ 64) (hb : b < 2 ^ 64) : bits .and .u64 (a : Int) (b : Int) = ((a &&& b : Nat) : Int) := (bits_nat .u64 64 (by decide) (fun _ h h' => wrap64 h h') a b ha hb).1
theorem or64 (a b : Nat) (ha : a < 2 ^ 64) (hb : b < 2 ^ 64) : bits .or .u64 (a : Int) (b : Int) = ((a ||| b : Nat) : Int) := (bits_nat .u64 64 (by decide) (fun _ h h' => wrap64 h h') a b ha hb).2
theorem xor64 (a b : Nat) (ha : a < 2 ^ 64) (hb : b < 2 ^ 64) : bits .xor .u64 (a : Int) (b : Int) = ((a ^^^ b : Nat) : Int) := bits_xor_nat .u64 64 (by decide) (fun _ h h' => wrap64 h h') a b ha hb
theorem xor8 (a b : Nat) (ha : a < 2 ^ 8) (hb : b < 2 ^ 8) : bits .xor .u8 (a : Int) (b : Int) = ((a ^^^ b : Nat) : Int) := bits_xor_nat .u8 8 (by decide) wraps_u8 a b ha hb
theorem xor32 (a b : Nat) (ha : a < 2 ^ 32) (hb : b < 2 ^ 32) : bits .xor .u32 (a : Int) (b : Int) = ((a ^^^ b : Nat) : Int) := bits_xor_nat .u32 32 (by decide) (fun _ h h' => wrap32 h h') a b ha hb
theorem and32 (a b : Nat) (ha : a < 2 ^ 32) (hb : b < 2 ^ 32) : bits .and .u32 (a : Int) (b : Int) = ((a &&& b : Nat) : Int) := (bits_nat .u32 32 (by decide) (fun _ h h' => wrap32 h h') a b ha hb).1
theorem or32 (a b : Nat) (ha : a < 2 ^ 32) (hb : b < 2 ^ 32) : bits .or .u32 (a : Int) (b : Int) = ((a ||| b : Nat) : Int) := (bits_nat .u32 32 (by decide) (fun _ h h' => wrap32 h h') a b ha hb).2
theorem xori (a b : Nat) (ha : a < 2 ^ 63) (hb : b < 2 ^ 63) : bits .xor .i64 (a : Int) (b : Int) = ((a ^^^ b : Nat) : Int) := bits_xor_nat .i64 63 (by decide) (fun _ h h' => wrapi64 h h') a b ha hb
theorem andi (a b : Nat) (ha : a < 2 ^ 63) (hb : b < 2 ^ 63) : bits .and .i64 (a : Int) (b : Int) = ((a &&& b : Nat) : Int) := (bits_nat .i64 63 (by decide) (fun _ h h' => wrapi64 h h') a b ha hb).1

theorem and_low {a : Nat} (h0 : 0 < a) (ha : a < 2 ^ 64) : bits .and .u64 (a : Int) ((a : Int) - 1) = ((low a : Nat) : Int) := by
  have e : (a : Int) - 1 = ((a - 1 : Nat) : Int) := by omega
  rw [e, and64 a _ ha (by omega)]; rfl
theorem and_whole {a : Nat} (ha : a < 2 ^ 64) : bits .and .u64 (a : Int) 549755813887 = ((a % 2 ^ 39 : Nat) : Int) := by
  have e : (549755813887 : Int) = ((2 ^ 39 - 1 : Nat) : Int) := by decide
  rw [e, and64 a _ ha (by decide), Nat.and_two_pow_sub_one_eq_mod]
/-- A number's low bits in int, whatever its sign: 'a & 63'. -/
theorem andi63 (a : Int) : ∃ n : Nat, n < 64 ∧ bits .and .i64 a 63 = (n : Int) := by
  have e : bits .and .i64 a 63 = IntKind.i64.wrap (((BitVec.ofInt 64 a) &&& (BitVec.ofInt 64 63)).toNat : Int) := rfl
  have h63 : (BitVec.ofInt 64 63 : BitVec 64).toNat = 2 ^ 6 - 1 := by decide
  rw [BitVec.toNat_and, h63, Nat.and_two_pow_sub_one_eq_mod] at e
  have hl : (BitVec.ofInt 64 a).toNat % 2 ^ 6 < 64 := Nat.mod_lt _ (by decide)
  refine ⟨(BitVec.ofInt 64 a).toNat % 2 ^ 6, hl, ?_⟩
  rw [e]
  exact wrapi64 (Int.natCast_nonneg _) (by omega)
theorem pow64 (i : Nat) (h : i < 64) : IntKind.u64.wrap ((2 : Int) ^ i) = (2 : Int) ^ i := by
  have h1 : (2 ^ i : Nat) < 2 ^ 64 := Nat.pow_lt_pow_right (by decide) h
  have e : ((2 : Int) ^ i) = ((2 ^ i : Nat) : Int) := by simp
  rw [e]
  exact wrap64 (Int.natCast_nonneg _) (by exact_mod_cast h1)
theorem xor_pow (m i : Nat) (hm : m < 2 ^ 64) (h : i < 64) : bits .xor .u64 (m : Int) ((2 : Int) ^ i) = ((m ^^^ 2 ^ i : Nat) : Int) := by
  have h1 : (2 ^ i : Nat) < 2 ^ 64 := Nat.pow_lt_pow_right (by decide) h
  have e : ((2 : Int) ^ i) = ((2 ^ i : Nat) : Int) := by simp
  rw [e]
  exact xor64 m _ hm h1
theorem or_high (n s : Nat) (hn : n < 2 ^ 64) (hs : s < 4294967296) : bits .or .u64 (n : Int) ((s : Int) * 4294967296) = ((n ||| s * 4294967296 : Nat) : Int) := by
  have e : ((s : Int) * 4294967296) = ((s * 4294967296 : Nat) : Int) := by simp
  rw [e]
  exact or64 n _ hn (by omega)
theorem bit_at (n k : Nat) (hn : n < 2 ^ 64) : (bits .and .u64 ((n : Int) / (2 : Int) ^ k) 1 == 1) = n.testBit k := by
  have e : ((n : Int) / (2 : Int) ^ k) = ((n / 2 ^ k : Nat) : Int) := by simp
  have h1 : n / 2 ^ k < 2 ^ 64 := Nat.lt_of_le_of_lt (Nat.div_le_self _ _) hn
  have e2 : bits .and .u64 ((n / 2 ^ k : Nat) : Int) 1 = ((n / 2 ^ k &&& 1 : Nat) : Int) := and64 _ 1 h1 (by decide)
  rw [e, e2, Nat.and_one_is_mod, Nat.testBit_eq_decide_div_mod_eq, Bool.eq_iff_iff, beq_iff_eq, decide_eq_true_iff]
  omega
theorem pow_lt64 {i : Nat} (h : i < 64) : 2 ^ i < 2 ^ 64 := Nat.pow_lt_pow_right (by decide) h
end Go.Dio

namespace Go.Proofs.YtggjmdgonjhioaaGreat
open Go.RowKit Go.Dio
set_option linter.unusedSimpArgs false
set_option linter.unusedVariables false

/-- Is that byte meant? -/
def mbit (mask : Int) (k : Nat) : Bool := decide (mask / (2 : Int) ^ k % 2 = 1)
def mstep (old data : Nat) (k : Nat) : Nat := (old &&& (4294967295 ^^^ (255 * 2 ^ (8 * k)))) ||| (data &&& (255 * 2 ^ (8 * k)))
def mrgK (old data : Nat) (mask : Int) : Nat → Nat
  | 0 => old
  | k + 1 => if mbit mask k then mstep (mrgK old data mask k) data k else mrgK old data mask k
def mrg (old data : Nat) (mask : Int) : Nat := mrgK old data mask 4
theorem mstep_lt {old data k : Nat} (ho : old < 2 ^ 32) (hd : data < 2 ^ 32) : mstep old data k < 2 ^ 32 :=
  Nat.or_lt_two_pow (Nat.lt_of_le_of_lt Nat.and_le_left ho) (Nat.lt_of_le_of_lt Nat.and_le_left hd)
theorem mrgK_lt {old data : Nat} {mask : Int} (ho : old < 2 ^ 32) (hd : data < 2 ^ 32) : ∀ k, mrgK old data mask k < 2 ^ 32
  | 0 => ho
  | k + 1 => by unfold mrgK; split; exact mstep_lt (mrgK_lt ho hd k) hd; exact mrgK_lt ho hd k

theorem and_one (z : Int) : bits .and .i64 z 1 = z % 2 := by
  have e : bits .and .i64 z 1 = IntKind.i64.wrap (((BitVec.ofInt 64 z) &&& (BitVec.ofInt 64 1)).toNat : Int) := rfl
  have h1 : (BitVec.ofInt 64 1 : BitVec 64).toNat = 2 ^ 1 - 1 := by decide
  rw [BitVec.toNat_and, h1, Nat.and_two_pow_sub_one_eq_mod] at e
  rw [e, wrapi64 (Int.natCast_nonneg _) (by have := Nat.mod_lt (BitVec.ofInt 64 z).toNat (show 0 < 2 ^ 1 by decide); omega)]
  rw [BitVec.toNat_ofInt]
  omega
theorem andnot32 (a b : Nat) (ha : a < 2 ^ 32) (hb : b < 2 ^ 32) : bits .andNot .u32 (a : Int) (b : Int) = ((a &&& (4294967295 ^^^ b) : Nat) : Int) := by
  have ha' : a % 2 ^ 32 = a := Nat.mod_eq_of_lt ha
  have hb' : b % 2 ^ 32 = b := Nat.mod_eq_of_lt hb
  have hx : (4294967295 ^^^ b) = 2 ^ 32 - 1 - b := by
    apply Nat.eq_of_testBit_eq
    intro i
    rw [Nat.testBit_xor, show 2 ^ 32 - 1 - b = 2 ^ 32 - (b + 1) by omega, Nat.testBit_two_pow_sub_succ hb, show (4294967295 : Nat) = 2 ^ 32 - 1 by decide, Nat.testBit_two_pow_sub_one]
    by_cases hi : i < 32
    · simp [hi]
    · simp [hi, Nat.testBit_lt_two_pow (Nat.lt_of_lt_of_le hb (Nat.pow_le_pow_right (by decide) (show 32 ≤ i by omega)))]
  have e : bits .andNot .u32 (a : Int) (b : Int) = IntKind.u32.wrap ((((BitVec.ofInt 32 a) &&& ~~~(BitVec.ofInt 32 b)).toNat : Nat) : Int) := rfl
  rw [e, BitVec.toNat_and, BitVec.toNat_not, BitVec.ofInt_natCast, BitVec.ofInt_natCast, BitVec.toNat_ofNat, BitVec.toNat_ofNat, ha', hb', hx]
  exact wrap32 (Int.natCast_nonneg _) (by exact_mod_cast Nat.lt_of_le_of_lt Nat.and_le_left ha)

theorem Merge_calls (old data : Nat) (mask : Int) (w : World) (ho : old < 2 ^ 32) (hd : data < 2 ^ 32) :
    Calls Tryz.prog 47 #[.int .u32 (old : Int), .int .u32 (data : Int), .int .i64 mask] w fun e w' => e = .returned (.int .u32 (mrg old data mask : Int)) ∧ w' = w := by
  go_enter Tryz.func47, Tryz.ntmps47
  go_wp2_with (fail)
  go_loopg [0, 9] 4 (fun g v0 v9 wl => ∃ (k m : Nat), v9 = .int .i64 (k : Int) ∧ k ≤ 4 ∧ g = 4 - k ∧ v0 = .int .u32 (m : Int) ∧ Hid (m = mrgK old data mask k) ∧ m < 2 ^ 32 ∧ Hid (wl = w))
  case atStart => exact ⟨0, old, rfl, by omega, rfl, rfl, Lib.hid rfl, ho, Lib.hid rfl⟩
  case round =>
    obtain ⟨k, m, rfl, hk, hg, rfl, HM, hm, HW⟩ := hrel
    rcases (by omega : k = 0 ∨ k = 1 ∨ k = 2 ∨ k = 3 ∨ k = 4) with rfl | rfl | rfl | rfl | rfl
    · skip
      have hb : (bits .and .i64 mask 1 == 1) = mbit mask 0 := by
        rw [and_one, mbit, Bool.eq_iff_iff]
        simp
      have e1 : bits .andNot .u32 (m : Int) 255 = ((m &&& (4294967295 ^^^ 255) : Nat) : Int) := andnot32 m 255 hm (by decide)
      have e2 : bits .and .u32 (data : Int) 255 = ((data &&& 255 : Nat) : Int) := and32 data 255 hd (by decide)
      have e3 := or32 (m &&& (4294967295 ^^^ 255)) (data &&& 255) (Nat.lt_of_le_of_lt Nat.and_le_left hm) (Nat.lt_of_le_of_lt Nat.and_le_left hd)
      have hn := mstep_lt (k := 0) hm hd
      have hs : mstep m data 0 = (m &&& (4294967295 ^^^ 255)) ||| (data &&& 255) := rfl
      rw [← hs] at e3
      have HN : Hid (mrgK old data mask 1 = if mbit mask 0 then mstep m data 0 else m) := Lib.hid (by rw [HM.out]; rfl)
      clear hs
      generalize mstep m data 0 = m2 at e3 hn HN
      generalize m &&& (4294967295 ^^^ 255) = p1 at e1 e3
      generalize data &&& 255 = p2 at e2 e3
      cases hB : mbit mask 0
      · rw [hB] at hb HN
        clear hB e1 e2 e3
        go_wp2_with (fail)
        go_roundg (4 - 1)
        case measure => omega
        case rel => exact ⟨1, m, rfl, by omega, rfl, rfl, Lib.hid (by rw [HN.out]; rfl), hm, HW⟩
      · rw [hB] at hb HN
        clear hB
        go_wp2_with (fail)
        go_roundg (4 - 1)
        case measure => omega
        case rel => exact ⟨1, m2, rfl, by omega, rfl, rfl, Lib.hid (by rw [HN.out]; rfl), hn, HW⟩
    · skip
      have hb : (bits .and .i64 (mask / 2) 1 == 1) = mbit mask 1 := by
        rw [and_one, mbit, Bool.eq_iff_iff]
        simp
      have e1 : bits .andNot .u32 (m : Int) 65280 = ((m &&& (4294967295 ^^^ 65280) : Nat) : Int) := andnot32 m 65280 hm (by decide)
      have e2 : bits .and .u32 (data : Int) 65280 = ((data &&& 65280 : Nat) : Int) := and32 data 65280 hd (by decide)
      have e3 := or32 (m &&& (4294967295 ^^^ 65280)) (data &&& 65280) (Nat.lt_of_le_of_lt Nat.and_le_left hm) (Nat.lt_of_le_of_lt Nat.and_le_left hd)
      have hn := mstep_lt (k := 1) hm hd
      have hs : mstep m data 1 = (m &&& (4294967295 ^^^ 65280)) ||| (data &&& 65280) := rfl
      rw [← hs] at e3
      have HN : Hid (mrgK old data mask 2 = if mbit mask 1 then mstep m data 1 else m) := Lib.hid (by rw [HM.out]; rfl)
      clear hs
      generalize mstep m data 1 = m2 at e3 hn HN
      generalize m &&& (4294967295 ^^^ 65280) = p1 at e1 e3
      generalize data &&& 65280 = p2 at e2 e3
      cases hB : mbit mask 1
      · rw [hB] at hb HN
        clear hB e1 e2 e3
        go_wp2_with (fail)
        go_roundg (4 - 2)
        case measure => omega
        case rel => exact ⟨2, m, rfl, by omega, rfl, rfl, Lib.hid (by rw [HN.out]; rfl), hm, HW⟩
      · rw [hB] at hb HN
        clear hB
        go_wp2_with (fail)
        go_roundg (4 - 2)
        case measure => omega
        case rel => exact ⟨2, m2, rfl, by omega, rfl, rfl, Lib.hid (by rw [HN.out]; rfl), hn, HW⟩
    · skip
      have hb : (bits .and .i64 (mask / 4) 1 == 1) = mbit mask 2 := by
        rw [and_one, mbit, Bool.eq_iff_iff]
        simp
      have e1 : bits .andNot .u32 (m : Int) 16711680 = ((m &&& (4294967295 ^^^ 16711680) : Nat) : Int) := andnot32 m 16711680 hm (by decide)
      have e2 : bits .and .u32 (data : Int) 16711680 = ((data &&& 16711680 : Nat) : Int) := and32 data 16711680 hd (by decide)
      have e3 := or32 (m &&& (4294967295 ^^^ 16711680)) (data &&& 16711680) (Nat.lt_of_le_of_lt Nat.and_le_left hm) (Nat.lt_of_le_of_lt Nat.and_le_left hd)
      have hn := mstep_lt (k := 2) hm hd
      have hs : mstep m data 2 = (m &&& (4294967295 ^^^ 16711680)) ||| (data &&& 16711680) := rfl
      rw [← hs] at e3
      have HN : Hid (mrgK old data mask 3 = if mbit mask 2 then mstep m data 2 else m) := Lib.hid (by rw [HM.out]; rfl)
      clear hs
      generalize mstep m data 2 = m2 at e3 hn HN
      generalize m &&& (4294967295 ^^^ 16711680) = p1 at e1 e3
      generalize data &&& 16711680 = p2 at e2 e3
      cases hB : mbit mask 2
      · rw [hB] at hb HN
        clear hB e1 e2 e3
        go_wp2_with (fail)
        go_roundg (4 - 3)
        case measure => omega
        case rel => exact ⟨3, m, rfl, by omega, rfl, rfl, Lib.hid (by rw [HN.out]; rfl), hm, HW⟩
      · rw [hB] at hb HN
        clear hB
        go_wp2_with (fail)
        go_roundg (4 - 3)
        case measure => omega
        case rel => exact ⟨3, m2, rfl, by omega, rfl, rfl, Lib.hid (by rw [HN.out]; rfl), hn, HW⟩
    · skip
      have hb : (bits .and .i64 (mask / 8) 1 == 1) = mbit mask 3 := by
        rw [and_one, mbit, Bool.eq_iff_iff]
        simp
      have e1 : bits .andNot .u32 (m : Int) 4278190080 = ((m &&& (4294967295 ^^^ 4278190080) : Nat) : Int) := andnot32 m 4278190080 hm (by decide)
      have e2 : bits .and .u32 (data : Int) 4278190080 = ((data &&& 4278190080 : Nat) : Int) := and32 data 4278190080 hd (by decide)
      have e3 := or32 (m &&& (4294967295 ^^^ 4278190080)) (data &&& 4278190080) (Nat.lt_of_le_of_lt Nat.and_le_left hm) (Nat.lt_of_le_of_lt Nat.and_le_left hd)
      have hn := mstep_lt (k := 3) hm hd
      have hs : mstep m data 3 = (m &&& (4294967295 ^^^ 4278190080)) ||| (data &&& 4278190080) := rfl
      rw [← hs] at e3
      have HN : Hid (mrgK old data mask 4 = if mbit mask 3 then mstep m data 3 else m) := Lib.hid (by rw [HM.out]; rfl)
      clear hs
      generalize mstep m data 3 = m2 at e3 hn HN
      generalize m &&& (4294967295 ^^^ 4278190080) = p1 at e1 e3
      generalize data &&& 4278190080 = p2 at e2 e3
      cases hB : mbit mask 3
      · rw [hB] at hb HN
        clear hB e1 e2 e3
        go_wp2_with (fail)
        go_roundg (4 - 4)
        case measure => omega
        case rel => exact ⟨4, m, rfl, by omega, rfl, rfl, Lib.hid (by rw [HN.out]; rfl), hm, HW⟩
      · rw [hB] at hb HN
        clear hB
        go_wp2_with (fail)
        go_roundg (4 - 4)
        case measure => omega
        case rel => exact ⟨4, m2, rfl, by omega, rfl, rfl, Lib.hid (by rw [HN.out]; rfl), hn, HW⟩
    · go_wp2_with (fail)
      go_ret
      obtain rfl := HW.out
      exact ⟨by rw [HM.out]; rfl, rfl⟩
end Go.Proofs.YtggjmdgonjhioaaGreat

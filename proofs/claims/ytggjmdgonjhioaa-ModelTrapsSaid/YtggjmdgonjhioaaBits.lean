/- The walk's spellings of '&', '|', '^' on whole numbers that are not below 0. -/
import Derived.Test.YtggjmdgonjhioaaEcc
import Derived.Laws.BitsLemmas
import Derived.WalkKit
namespace Go.Dio

theorem wrap64 {n : Int} (h₀ : 0 ≤ n) (h₁ : n < 2 ^ 64) : IntKind.u64.wrap n = n := by
  simp only [IntKind.wrap, IntKind.bits, IntKind.signed]; simp; omega
theorem wrapi64 {n : Int} (h₀ : 0 ≤ n) (h₁ : n < 2 ^ 63) : IntKind.i64.wrap n = n := by rw [IntKind.wrap_i64]; omega
theorem wrap32 {n : Int} (h₀ : 0 ≤ n) (h₁ : n < 2 ^ 32) : IntKind.u32.wrap n = n := by rw [IntKind.wrap_u32]; omega

theorem bits_xor_nat (k : IntKind) (j : Nat) (hj : j ≤ k.bits) (hk : ∀ n : Int, 0 ≤ n → n < 2 ^ j → k.wrap n = n) (a b : Nat) (ha : a < 2 ^ j) (hb : b < 2 ^ j) : bits .xor k a b = ((a ^^^ b : Nat) : Int) := by
  have hp : 2 ^ j ≤ 2 ^ k.bits := Nat.pow_le_pow_right (by decide) hj
  have ha' : a % 2 ^ k.bits = a := Nat.mod_eq_of_lt (Nat.lt_of_lt_of_le ha hp)
  have hb' : b % 2 ^ k.bits = b := Nat.mod_eq_of_lt (Nat.lt_of_lt_of_le hb hp)
  simp only [bits, BitVec.ofInt_natCast, BitVec.toNat_xor, BitVec.toNat_ofNat, ha', hb']
  exact hk _ (Int.natCast_nonneg _) (by exact_mod_cast Nat.xor_lt_two_pow ha hb)

theorem and64 (a b : Nat) (ha : a < 2 ^ 64) (hb : b < 2 ^ 64) : bits .and .u64 (a : Int) (b : Int) = ((a &&& b : Nat) : Int) := (bits_nat .u64 64 (by decide) (fun _ h h' => wrap64 h h') a b ha hb).1
theorem or64 (a b : Nat) (ha : a < 2 ^ 64) (hb : b < 2 ^ 64) : bits .or .u64 (a : Int) (b : Int) = ((a ||| b : Nat) : Int) := (bits_nat .u64 64 (by decide) (fun _ h h' => wrap64 h h') a b ha hb).2
theorem xor64 (a b : Nat) (ha : a < 2 ^ 64) (hb : b < 2 ^ 64) : bits .xor .u64 (a : Int) (b : Int) = ((a ^^^ b : Nat) : Int) := bits_xor_nat .u64 64 (by decide) (fun _ h h' => wrap64 h h') a b ha hb
theorem xor8 (a b : Nat) (ha : a < 2 ^ 8) (hb : b < 2 ^ 8) : bits .xor .u8 (a : Int) (b : Int) = ((a ^^^ b : Nat) : Int) := bits_xor_nat .u8 8 (by decide) wraps_u8 a b ha hb
theorem xor32 (a b : Nat) (ha : a < 2 ^ 32) (hb : b < 2 ^ 32) : bits .xor .u32 (a : Int) (b : Int) = ((a ^^^ b : Nat) : Int) := bits_xor_nat .u32 32 (by decide) (fun _ h h' => wrap32 h h') a b ha hb
theorem and32 (a b : Nat) (ha : a < 2 ^ 32) (hb : b < 2 ^ 32) : bits .and .u32 (a : Int) (b : Int) = ((a &&& b : Nat) : Int) := (bits_nat .u32 32 (by decide) (fun _ h h' => wrap32 h h') a b ha hb).1
theorem or32 (a b : Nat) (ha : a < 2 ^ 32) (hb : b < 2 ^ 32) : bits .or .u32 (a : Int) (b : Int) = ((a ||| b : Nat) : Int) := (bits_nat .u32 32 (by decide) (fun _ h h' => wrap32 h h') a b ha hb).2
theorem xori (a b : Nat) (ha : a < 2 ^ 63) (hb : b < 2 ^ 63) : bits .xor .i64 (a : Int) (b : Int) = ((a ^^^ b : Nat) : Int) := bits_xor_nat .i64 63 (by decide) (fun _ h h' => wrapi64 h h') a b ha hb
theorem andi (a b : Nat) (ha : a < 2 ^ 63) (hb : b < 2 ^ 63) : bits .and .i64 (a : Int) (b : Int) = ((a &&& b : Nat) : Int) := (bits_nat .i64 63 (by decide) (fun _ h h' => wrapi64 h h') a b ha hb).1

theorem and_low {a : Nat} (h0 : 0 < a) (ha : a < 2 ^ 64) : bits .and .u64 (a : Int) ((a : Int) - 1) = ((low a : Nat) : Int) := by
  have e : (a : Int) - 1 = ((a - 1 : Nat) : Int) := by omega
  rw [e, and64 a _ ha (by omega)]; rfl
theorem and_whole {a : Nat} (ha : a < 2 ^ 64) : bits .and .u64 (a : Int) 549755813887 = ((a % 2 ^ 39 : Nat) : Int) := by
  have e : (549755813887 : Int) = ((2 ^ 39 - 1 : Nat) : Int) := by decide
  rw [e, and64 a _ ha (by decide), Nat.and_two_pow_sub_one_eq_mod]
/-- A number's low bits in int, whatever its sign: 'a & 63'. -/
theorem andi63 (a : Int) : ∃ n : Nat, n < 64 ∧ bits .and .i64 a 63 = (n : Int) := by
  have e : bits .and .i64 a 63 = IntKind.i64.wrap (((BitVec.ofInt 64 a) &&& (BitVec.ofInt 64 63)).toNat : Int) := rfl
  have h63 : (BitVec.ofInt 64 63 : BitVec 64).toNat = 2 ^ 6 - 1 := by decide
  rw [BitVec.toNat_and, h63, Nat.and_two_pow_sub_one_eq_mod] at e
  have hl : (BitVec.ofInt 64 a).toNat % 2 ^ 6 < 64 := Nat.mod_lt _ (by decide)
  refine ⟨(BitVec.ofInt 64 a).toNat % 2 ^ 6, hl, ?_⟩
  rw [e]
  exact wrapi64 (Int.natCast_nonneg _) (by omega)
theorem pow64 (i : Nat) (h : i < 64) : IntKind.u64.wrap ((2 : Int) ^ i) = (2 : Int) ^ i := by
  have h1 : (2 ^ i : Nat) < 2 ^ 64 := Nat.pow_lt_pow_right (by decide) h
  have e : ((2 : Int) ^ i) = ((2 ^ i : Nat) : Int) := by simp
  rw [e]
  exact wrap64 (Int.natCast_nonneg _) (by exact_mod_cast h1)
theorem xor_pow (m i : Nat) (hm : m < 2 ^ 64) (h : i < 64) : bits .xor .u64 (m : Int) ((2 : Int) ^ i) = ((m ^^^ 2 ^ i : Nat) : Int) := by
  have h1 : (2 ^ i : Nat) < 2 ^ 64 := Nat.pow_lt_pow_right (by decide) h
  have e : ((2 : Int) ^ i) = ((2 ^ i : Nat) : Int) := by simp
  rw [e]
  exact xor64 m _ hm h1
theorem or_high (n s : Nat) (hn : n < 2 ^ 64) (hs : s < 4294967296) : bits .or .u64 (n : Int) ((s : Int) * 4294967296) = ((n ||| s * 4294967296 : Nat) : Int) := by
  have e : ((s : Int) * 4294967296) = ((s * 4294967296 : Nat) : Int) := by simp
  rw [e]
  exact or64 n _ hn (by omega)
theorem bit_at (n k : Nat) (hn : n < 2 ^ 64) : (bits .and .u64 ((n : Int) / (2 : Int) ^ k) 1 == 1) = n.testBit k := by
  have e : ((n : Int) / (2 : Int) ^ k) = ((n / 2 ^ k : Nat) : Int) := by simp
  have h1 : n / 2 ^ k < 2 ^ 64 := Nat.lt_of_le_of_lt (Nat.div_le_self _ _) hn
  have e2 : bits .and .u64 ((n / 2 ^ k : Nat) : Int) 1 = ((n / 2 ^ k &&& 1 : Nat) : Int) := and64 _ 1 h1 (by decide)
  rw [e, e2, Nat.and_one_is_mod, Nat.testBit_eq_decide_div_mod_eq, Bool.eq_iff_iff, beq_iff_eq, decide_eq_true_iff]
  omega
theorem pow_lt64 {i : Nat} (h : i < 64) : 2 ^ i < 2 ^ 64 := Nat.pow_lt_pow_right (by decide) h
end Go.Dio

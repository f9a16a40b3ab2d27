/- Bytes of words: loads and stores, the code's. -/
import Derived.Test.YtmdjhahafjlebaaGreatDoorQD24
namespace Go.Proofs.YtmdjhahafjlebaaGreatDoor
open Go.RowKit Go.Dio
set_option linter.unusedSimpArgs false
set_option linter.unusedVariables false

theorem byte_bit (j i : Nat) : (255 * 2 ^ (8 * j)).testBit i = (decide (8 * j ≤ i) && decide (i - 8 * j < 8)) := by
  rw [← Nat.shiftLeft_eq, Nat.testBit_shiftLeft, show (255 : Nat) = 2 ^ 8 - 1 by decide, Nat.testBit_two_pow_sub_one]
theorem all_bit (i : Nat) : (4294967295 : Nat).testBit i = decide (i < 32) := by
  rw [show (4294967295 : Nat) = 2 ^ 32 - 1 by decide, Nat.testBit_two_pow_sub_one]
theorem u32_bit (n s i : Nat) : (u32 ((n : Int) * 2 ^ s)).testBit i = (decide (i < 32) && (decide (s ≤ i) && n.testBit (i - s))) := by
  have e : u32 ((n : Int) * 2 ^ s) = n * 2 ^ s % 2 ^ 32 := by
    unfold u32
    have e1 : ((n : Int) * 2 ^ s) = ((n * 2 ^ s : Nat) : Int) := by push_cast; rfl
    rw [e1]; omega
  rw [e, Nat.testBit_mod_two_pow, ← Nat.shiftLeft_eq, Nat.testBit_shiftLeft]
theorem part_bit (n m s i : Nat) : (n % 2 ^ m * 2 ^ s).testBit i = (decide (s ≤ i) && (decide (i - s < m) && n.testBit (i - s))) := by
  rw [← Nat.shiftLeft_eq, Nat.testBit_shiftLeft, Nat.testBit_mod_two_pow]
theorem mrgm_1 (D : Nat) : mrg 0 D 1 = (mstep 0 D 0) := rfl
theorem mrg_1_0 (n : Nat) (hn : n < 2 ^ 32) : mrg 0 (u32 ((n : Int) * 2 ^ 0)) 1 = n % 2 ^ 8 * 2 ^ 0 := by
  apply Nat.eq_of_testBit_eq
  intro i
  have hb := u32_bit n 0 i
  generalize u32 ((n : Int) * 2 ^ 0) = D at hb ⊢
  rw [mrgm_1]
  unfold mstep
  simp only [Nat.testBit_or, Nat.testBit_and, Nat.testBit_xor, byte_bit, all_bit, hb, part_bit, Nat.zero_testBit]
  generalize n.testBit (i - 0) = P
  rcases (by omega : i < 8 ∨ (8 ≤ i ∧ i < 16) ∨ (16 ≤ i ∧ i < 24) ∨ (24 ≤ i ∧ i < 32) ∨ 32 ≤ i) with h | h | h | h | h
  · simp only [show decide (8 * 0 ≤ i) = true from decide_eq_true (by omega), show decide (i - 8 * 0 < 8) = true from decide_eq_true (by omega), show decide (8 * 1 ≤ i) = false from decide_eq_false (by omega), show decide (8 * 2 ≤ i) = false from decide_eq_false (by omega), show decide (8 * 3 ≤ i) = false from decide_eq_false (by omega), show decide (i < 32) = true from decide_eq_true (by omega), show decide (0 ≤ i) = true from decide_eq_true (by omega), show decide (i - 0 < 8) = true from decide_eq_true (by omega), Bool.true_and, Bool.false_and, Bool.and_true, Bool.and_false, Bool.or_false, Bool.false_or, Bool.or_true, Bool.true_or, Bool.xor_false, Bool.xor_true, Bool.false_xor, Bool.true_xor, Bool.not_true, Bool.not_false]
  · simp only [show decide (8 * 0 ≤ i) = true from decide_eq_true (by omega), show decide (i - 8 * 0 < 8) = false from decide_eq_false (by omega), show decide (8 * 1 ≤ i) = true from decide_eq_true (by omega), show decide (i - 8 * 1 < 8) = true from decide_eq_true (by omega), show decide (8 * 2 ≤ i) = false from decide_eq_false (by omega), show decide (8 * 3 ≤ i) = false from decide_eq_false (by omega), show decide (i < 32) = true from decide_eq_true (by omega), show decide (0 ≤ i) = true from decide_eq_true (by omega), show decide (i - 0 < 8) = false from decide_eq_false (by omega), Bool.true_and, Bool.false_and, Bool.and_true, Bool.and_false, Bool.or_false, Bool.false_or, Bool.or_true, Bool.true_or, Bool.xor_false, Bool.xor_true, Bool.false_xor, Bool.true_xor, Bool.not_true, Bool.not_false]
  · simp only [show decide (8 * 0 ≤ i) = true from decide_eq_true (by omega), show decide (i - 8 * 0 < 8) = false from decide_eq_false (by omega), show decide (8 * 1 ≤ i) = true from decide_eq_true (by omega), show decide (i - 8 * 1 < 8) = false from decide_eq_false (by omega), show decide (8 * 2 ≤ i) = true from decide_eq_true (by omega), show decide (i - 8 * 2 < 8) = true from decide_eq_true (by omega), show decide (8 * 3 ≤ i) = false from decide_eq_false (by omega), show decide (i < 32) = true from decide_eq_true (by omega), show decide (0 ≤ i) = true from decide_eq_true (by omega), show decide (i - 0 < 8) = false from decide_eq_false (by omega), Bool.true_and, Bool.false_and, Bool.and_true, Bool.and_false, Bool.or_false, Bool.false_or, Bool.or_true, Bool.true_or, Bool.xor_false, Bool.xor_true, Bool.false_xor, Bool.true_xor, Bool.not_true, Bool.not_false]
  · simp only [show decide (8 * 0 ≤ i) = true from decide_eq_true (by omega), show decide (i - 8 * 0 < 8) = false from decide_eq_false (by omega), show decide (8 * 1 ≤ i) = true from decide_eq_true (by omega), show decide (i - 8 * 1 < 8) = false from decide_eq_false (by omega), show decide (8 * 2 ≤ i) = true from decide_eq_true (by omega), show decide (i - 8 * 2 < 8) = false from decide_eq_false (by omega), show decide (8 * 3 ≤ i) = true from decide_eq_true (by omega), show decide (i - 8 * 3 < 8) = true from decide_eq_true (by omega), show decide (i < 32) = true from decide_eq_true (by omega), show decide (0 ≤ i) = true from decide_eq_true (by omega), show decide (i - 0 < 8) = false from decide_eq_false (by omega), Bool.true_and, Bool.false_and, Bool.and_true, Bool.and_false, Bool.or_false, Bool.false_or, Bool.or_true, Bool.true_or, Bool.xor_false, Bool.xor_true, Bool.false_xor, Bool.true_xor, Bool.not_true, Bool.not_false]
  · simp only [show decide (8 * 0 ≤ i) = true from decide_eq_true (by omega), show decide (i - 8 * 0 < 8) = false from decide_eq_false (by omega), show decide (8 * 1 ≤ i) = true from decide_eq_true (by omega), show decide (i - 8 * 1 < 8) = false from decide_eq_false (by omega), show decide (8 * 2 ≤ i) = true from decide_eq_true (by omega), show decide (i - 8 * 2 < 8) = false from decide_eq_false (by omega), show decide (8 * 3 ≤ i) = true from decide_eq_true (by omega), show decide (i - 8 * 3 < 8) = false from decide_eq_false (by omega), show decide (i < 32) = false from decide_eq_false (by omega), show decide (0 ≤ i) = true from decide_eq_true (by omega), show decide (i - 0 < 8) = false from decide_eq_false (by omega), Bool.true_and, Bool.false_and, Bool.and_true, Bool.and_false, Bool.or_false, Bool.false_or, Bool.or_true, Bool.true_or, Bool.xor_false, Bool.xor_true, Bool.false_xor, Bool.true_xor, Bool.not_true, Bool.not_false]
theorem mrgm_2 (D : Nat) : mrg 0 D 2 = (mstep 0 D 1) := rfl
theorem mrg_1_1 (n : Nat) (hn : n < 2 ^ 32) : mrg 0 (u32 ((n : Int) * 2 ^ 8)) 2 = n % 2 ^ 8 * 2 ^ 8 := by
  apply Nat.eq_of_testBit_eq
  intro i
  have hb := u32_bit n 8 i
  generalize u32 ((n : Int) * 2 ^ 8) = D at hb ⊢
  rw [mrgm_2]
  unfold mstep
  simp only [Nat.testBit_or, Nat.testBit_and, Nat.testBit_xor, byte_bit, all_bit, hb, part_bit, Nat.zero_testBit]
  generalize n.testBit (i - 8) = P
  rcases (by omega : i < 8 ∨ (8 ≤ i ∧ i < 16) ∨ (16 ≤ i ∧ i < 24) ∨ (24 ≤ i ∧ i < 32) ∨ 32 ≤ i) with h | h | h | h | h
  · simp only [show decide (8 * 0 ≤ i) = true from decide_eq_true (by omega), show decide (i - 8 * 0 < 8) = true from decide_eq_true (by omega), show decide (8 * 1 ≤ i) = false from decide_eq_false (by omega), show decide (8 * 2 ≤ i) = false from decide_eq_false (by omega), show decide (8 * 3 ≤ i) = false from decide_eq_false (by omega), show decide (i < 32) = true from decide_eq_true (by omega), show decide (8 ≤ i) = false from decide_eq_false (by omega), Bool.true_and, Bool.false_and, Bool.and_true, Bool.and_false, Bool.or_false, Bool.false_or, Bool.or_true, Bool.true_or, Bool.xor_false, Bool.xor_true, Bool.false_xor, Bool.true_xor, Bool.not_true, Bool.not_false]
  · simp only [show decide (8 * 0 ≤ i) = true from decide_eq_true (by omega), show decide (i - 8 * 0 < 8) = false from decide_eq_false (by omega), show decide (8 * 1 ≤ i) = true from decide_eq_true (by omega), show decide (i - 8 * 1 < 8) = true from decide_eq_true (by omega), show decide (8 * 2 ≤ i) = false from decide_eq_false (by omega), show decide (8 * 3 ≤ i) = false from decide_eq_false (by omega), show decide (i < 32) = true from decide_eq_true (by omega), show decide (8 ≤ i) = true from decide_eq_true (by omega), show decide (i - 8 < 8) = true from decide_eq_true (by omega), Bool.true_and, Bool.false_and, Bool.and_true, Bool.and_false, Bool.or_false, Bool.false_or, Bool.or_true, Bool.true_or, Bool.xor_false, Bool.xor_true, Bool.false_xor, Bool.true_xor, Bool.not_true, Bool.not_false]
  · simp only [show decide (8 * 0 ≤ i) = true from decide_eq_true (by omega), show decide (i - 8 * 0 < 8) = false from decide_eq_false (by omega), show decide (8 * 1 ≤ i) = true from decide_eq_true (by omega), show decide (i - 8 * 1 < 8) = false from decide_eq_false (by omega), show decide (8 * 2 ≤ i) = true from decide_eq_true (by omega), show decide (i - 8 * 2 < 8) = true from decide_eq_true (by omega), show decide (8 * 3 ≤ i) = false from decide_eq_false (by omega), show decide (i < 32) = true from decide_eq_true (by omega), show decide (8 ≤ i) = true from decide_eq_true (by omega), show decide (i - 8 < 8) = false from decide_eq_false (by omega), Bool.true_and, Bool.false_and, Bool.and_true, Bool.and_false, Bool.or_false, Bool.false_or, Bool.or_true, Bool.true_or, Bool.xor_false, Bool.xor_true, Bool.false_xor, Bool.true_xor, Bool.not_true, Bool.not_false]
  · simp only [show decide (8 * 0 ≤ i) = true from decide_eq_true (by omega), show decide (i - 8 * 0 < 8) = false from decide_eq_false (by omega), show decide (8 * 1 ≤ i) = true from decide_eq_true (by omega), show decide (i - 8 * 1 < 8) = false from decide_eq_false (by omega), show decide (8 * 2 ≤ i) = true from decide_eq_true (by omega), show decide (i - 8 * 2 < 8) = false from decide_eq_false (by omega), show decide (8 * 3 ≤ i) = true from decide_eq_true (by omega), show decide (i - 8 * 3 < 8) = true from decide_eq_true (by omega), show decide (i < 32) = true from decide_eq_true (by omega), show decide (8 ≤ i) = true from decide_eq_true (by omega), show decide (i - 8 < 8) = false from decide_eq_false (by omega), Bool.true_and, Bool.false_and, Bool.and_true, Bool.and_false, Bool.or_false, Bool.false_or, Bool.or_true, Bool.true_or, Bool.xor_false, Bool.xor_true, Bool.false_xor, Bool.true_xor, Bool.not_true, Bool.not_false]
  · simp only [show decide (8 * 0 ≤ i) = true from decide_eq_true (by omega), show decide (i - 8 * 0 < 8) = false from decide_eq_false (by omega), show decide (8 * 1 ≤ i) = true from decide_eq_true (by omega), show decide (i - 8 * 1 < 8) = false from decide_eq_false (by omega), show decide (8 * 2 ≤ i) = true from decide_eq_true (by omega), show decide (i - 8 * 2 < 8) = false from decide_eq_false (by omega), show decide (8 * 3 ≤ i) = true from decide_eq_true (by omega), show decide (i - 8 * 3 < 8) = false from decide_eq_false (by omega), show decide (i < 32) = false from decide_eq_false (by omega), show decide (8 ≤ i) = true from decide_eq_true (by omega), show decide (i - 8 < 8) = false from decide_eq_false (by omega), Bool.true_and, Bool.false_and, Bool.and_true, Bool.and_false, Bool.or_false, Bool.false_or, Bool.or_true, Bool.true_or, Bool.xor_false, Bool.xor_true, Bool.false_xor, Bool.true_xor, Bool.not_true, Bool.not_false]
theorem mrgm_4 (D : Nat) : mrg 0 D 4 = (mstep 0 D 2) := rfl
theorem mrg_1_2 (n : Nat) (hn : n < 2 ^ 32) : mrg 0 (u32 ((n : Int) * 2 ^ 16)) 4 = n % 2 ^ 8 * 2 ^ 16 := by
  apply Nat.eq_of_testBit_eq
  intro i
  have hb := u32_bit n 16 i
  generalize u32 ((n : Int) * 2 ^ 16) = D at hb ⊢
  rw [mrgm_4]
  unfold mstep
  simp only [Nat.testBit_or, Nat.testBit_and, Nat.testBit_xor, byte_bit, all_bit, hb, part_bit, Nat.zero_testBit]
  generalize n.testBit (i - 16) = P
  rcases (by omega : i < 8 ∨ (8 ≤ i ∧ i < 16) ∨ (16 ≤ i ∧ i < 24) ∨ (24 ≤ i ∧ i < 32) ∨ 32 ≤ i) with h | h | h | h | h
  · simp only [show decide (8 * 0 ≤ i) = true from decide_eq_true (by omega), show decide (i - 8 * 0 < 8) = true from decide_eq_true (by omega), show decide (8 * 1 ≤ i) = false from decide_eq_false (by omega), show decide (8 * 2 ≤ i) = false from decide_eq_false (by omega), show decide (8 * 3 ≤ i) = false from decide_eq_false (by omega), show decide (i < 32) = true from decide_eq_true (by omega), show decide (16 ≤ i) = false from decide_eq_false (by omega), Bool.true_and, Bool.false_and, Bool.and_true, Bool.and_false, Bool.or_false, Bool.false_or, Bool.or_true, Bool.true_or, Bool.xor_false, Bool.xor_true, Bool.false_xor, Bool.true_xor, Bool.not_true, Bool.not_false]
  · simp only [show decide (8 * 0 ≤ i) = true from decide_eq_true (by omega), show decide (i - 8 * 0 < 8) = false from decide_eq_false (by omega), show decide (8 * 1 ≤ i) = true from decide_eq_true (by omega), show decide (i - 8 * 1 < 8) = true from decide_eq_true (by omega), show decide (8 * 2 ≤ i) = false from decide_eq_false (by omega), show decide (8 * 3 ≤ i) = false from decide_eq_false (by omega), show decide (i < 32) = true from decide_eq_true (by omega), show decide (16 ≤ i) = false from decide_eq_false (by omega), Bool.true_and, Bool.false_and, Bool.and_true, Bool.and_false, Bool.or_false, Bool.false_or, Bool.or_true, Bool.true_or, Bool.xor_false, Bool.xor_true, Bool.false_xor, Bool.true_xor, Bool.not_true, Bool.not_false]
  · simp only [show decide (8 * 0 ≤ i) = true from decide_eq_true (by omega), show decide (i - 8 * 0 < 8) = false from decide_eq_false (by omega), show decide (8 * 1 ≤ i) = true from decide_eq_true (by omega), show decide (i - 8 * 1 < 8) = false from decide_eq_false (by omega), show decide (8 * 2 ≤ i) = true from decide_eq_true (by omega), show decide (i - 8 * 2 < 8) = true from decide_eq_true (by omega), show decide (8 * 3 ≤ i) = false from decide_eq_false (by omega), show decide (i < 32) = true from decide_eq_true (by omega), show decide (16 ≤ i) = true from decide_eq_true (by omega), show decide (i - 16 < 8) = true from decide_eq_true (by omega), Bool.true_and, Bool.false_and, Bool.and_true, Bool.and_false, Bool.or_false, Bool.false_or, Bool.or_true, Bool.true_or, Bool.xor_false, Bool.xor_true, Bool.false_xor, Bool.true_xor, Bool.not_true, Bool.not_false]
  · simp only [show decide (8 * 0 ≤ i) = true from decide_eq_true (by omega), show decide (i - 8 * 0 < 8) = false from decide_eq_false (by omega), show decide (8 * 1 ≤ i) = true from decide_eq_true (by omega), show decide (i - 8 * 1 < 8) = false from decide_eq_false (by omega), show decide (8 * 2 ≤ i) = true from decide_eq_true (by omega), show decide (i - 8 * 2 < 8) = false from decide_eq_false (by omega), show decide (8 * 3 ≤ i) = true from decide_eq_true (by omega), show decide (i - 8 * 3 < 8) = true from decide_eq_true (by omega), show decide (i < 32) = true from decide_eq_true (by omega), show decide (16 ≤ i) = true from decide_eq_true (by omega), show decide (i - 16 < 8) = false from decide_eq_false (by omega), Bool.true_and, Bool.false_and, Bool.and_true, Bool.and_false, Bool.or_false, Bool.false_or, Bool.or_true, Bool.true_or, Bool.xor_false, Bool.xor_true, Bool.false_xor, Bool.true_xor, Bool.not_true, Bool.not_false]
  · simp only [show decide (8 * 0 ≤ i) = true from decide_eq_true (by omega), show decide (i - 8 * 0 < 8) = false from decide_eq_false (by omega), show decide (8 * 1 ≤ i) = true from decide_eq_true (by omega), show decide (i - 8 * 1 < 8) = false from decide_eq_false (by omega), show decide (8 * 2 ≤ i) = true from decide_eq_true (by omega), show decide (i - 8 * 2 < 8) = false from decide_eq_false (by omega), show decide (8 * 3 ≤ i) = true from decide_eq_true (by omega), show decide (i - 8 * 3 < 8) = false from decide_eq_false (by omega), show decide (i < 32) = false from decide_eq_false (by omega), show decide (16 ≤ i) = true from decide_eq_true (by omega), show decide (i - 16 < 8) = false from decide_eq_false (by omega), Bool.true_and, Bool.false_and, Bool.and_true, Bool.and_false, Bool.or_false, Bool.false_or, Bool.or_true, Bool.true_or, Bool.xor_false, Bool.xor_true, Bool.false_xor, Bool.true_xor, Bool.not_true, Bool.not_false]
theorem mrgm_8 (D : Nat) : mrg 0 D 8 = (mstep 0 D 3) := rfl
theorem mrg_1_3 (n : Nat) (hn : n < 2 ^ 32) : mrg 0 (u32 ((n : Int) * 2 ^ 24)) 8 = n % 2 ^ 8 * 2 ^ 24 := by
  apply Nat.eq_of_testBit_eq
  intro i
  have hb := u32_bit n 24 i
  generalize u32 ((n : Int) * 2 ^ 24) = D at hb ⊢
  rw [mrgm_8]
  unfold mstep
  simp only [Nat.testBit_or, Nat.testBit_and, Nat.testBit_xor, byte_bit, all_bit, hb, part_bit, Nat.zero_testBit]
  generalize n.testBit (i - 24) = P
  rcases (by omega : i < 8 ∨ (8 ≤ i ∧ i < 16) ∨ (16 ≤ i ∧ i < 24) ∨ (24 ≤ i ∧ i < 32) ∨ 32 ≤ i) with h | h | h | h | h
  · simp only [show decide (8 * 0 ≤ i) = true from decide_eq_true (by omega), show decide (i - 8 * 0 < 8) = true from decide_eq_true (by omega), show decide (8 * 1 ≤ i) = false from decide_eq_false (by omega), show decide (8 * 2 ≤ i) = false from decide_eq_false (by omega), show decide (8 * 3 ≤ i) = false from decide_eq_false (by omega), show decide (i < 32) = true from decide_eq_true (by omega), show decide (24 ≤ i) = false from decide_eq_false (by omega), Bool.true_and, Bool.false_and, Bool.and_true, Bool.and_false, Bool.or_false, Bool.false_or, Bool.or_true, Bool.true_or, Bool.xor_false, Bool.xor_true, Bool.false_xor, Bool.true_xor, Bool.not_true, Bool.not_false]
  · simp only [show decide (8 * 0 ≤ i) = true from decide_eq_true (by omega), show decide (i - 8 * 0 < 8) = false from decide_eq_false (by omega), show decide (8 * 1 ≤ i) = true from decide_eq_true (by omega), show decide (i - 8 * 1 < 8) = true from decide_eq_true (by omega), show decide (8 * 2 ≤ i) = false from decide_eq_false (by omega), show decide (8 * 3 ≤ i) = false from decide_eq_false (by omega), show decide (i < 32) = true from decide_eq_true (by omega), show decide (24 ≤ i) = false from decide_eq_false (by omega), Bool.true_and, Bool.false_and, Bool.and_true, Bool.and_false, Bool.or_false, Bool.false_or, Bool.or_true, Bool.true_or, Bool.xor_false, Bool.xor_true, Bool.false_xor, Bool.true_xor, Bool.not_true, Bool.not_false]
  · simp only [show decide (8 * 0 ≤ i) = true from decide_eq_true (by omega), show decide (i - 8 * 0 < 8) = false from decide_eq_false (by omega), show decide (8 * 1 ≤ i) = true from decide_eq_true (by omega), show decide (i - 8 * 1 < 8) = false from decide_eq_false (by omega), show decide (8 * 2 ≤ i) = true from decide_eq_true (by omega), show decide (i - 8 * 2 < 8) = true from decide_eq_true (by omega), show decide (8 * 3 ≤ i) = false from decide_eq_false (by omega), show decide (i < 32) = true from decide_eq_true (by omega), show decide (24 ≤ i) = false from decide_eq_false (by omega), Bool.true_and, Bool.false_and, Bool.and_true, Bool.and_false, Bool.or_false, Bool.false_or, Bool.or_true, Bool.true_or, Bool.xor_false, Bool.xor_true, Bool.false_xor, Bool.true_xor, Bool.not_true, Bool.not_false]
  · simp only [show decide (8 * 0 ≤ i) = true from decide_eq_true (by omega), show decide (i - 8 * 0 < 8) = false from decide_eq_false (by omega), show decide (8 * 1 ≤ i) = true from decide_eq_true (by omega), show decide (i - 8 * 1 < 8) = false from decide_eq_false (by omega), show decide (8 * 2 ≤ i) = true from decide_eq_true (by omega), show decide (i - 8 * 2 < 8) = false from decide_eq_false (by omega), show decide (8 * 3 ≤ i) = true from decide_eq_true (by omega), show decide (i - 8 * 3 < 8) = true from decide_eq_true (by omega), show decide (i < 32) = true from decide_eq_true (by omega), show decide (24 ≤ i) = true from decide_eq_true (by omega), show decide (i - 24 < 8) = true from decide_eq_true (by omega), Bool.true_and, Bool.false_and, Bool.and_true, Bool.and_false, Bool.or_false, Bool.false_or, Bool.or_true, Bool.true_or, Bool.xor_false, Bool.xor_true, Bool.false_xor, Bool.true_xor, Bool.not_true, Bool.not_false]
  · simp only [show decide (8 * 0 ≤ i) = true from decide_eq_true (by omega), show decide (i - 8 * 0 < 8) = false from decide_eq_false (by omega), show decide (8 * 1 ≤ i) = true from decide_eq_true (by omega), show decide (i - 8 * 1 < 8) = false from decide_eq_false (by omega), show decide (8 * 2 ≤ i) = true from decide_eq_true (by omega), show decide (i - 8 * 2 < 8) = false from decide_eq_false (by omega), show decide (8 * 3 ≤ i) = true from decide_eq_true (by omega), show decide (i - 8 * 3 < 8) = false from decide_eq_false (by omega), show decide (i < 32) = false from decide_eq_false (by omega), show decide (24 ≤ i) = true from decide_eq_true (by omega), show decide (i - 24 < 8) = false from decide_eq_false (by omega), Bool.true_and, Bool.false_and, Bool.and_true, Bool.and_false, Bool.or_false, Bool.false_or, Bool.or_true, Bool.true_or, Bool.xor_false, Bool.xor_true, Bool.false_xor, Bool.true_xor, Bool.not_true, Bool.not_false]
theorem mrgm_3 (D : Nat) : mrg 0 D 3 = (mstep (mstep 0 D 0) D 1) := rfl
theorem mrg_2_0 (n : Nat) (hn : n < 2 ^ 32) : mrg 0 (u32 ((n : Int) * 2 ^ 0)) 3 = n % 2 ^ 16 * 2 ^ 0 := by
  apply Nat.eq_of_testBit_eq
  intro i
  have hb := u32_bit n 0 i
  generalize u32 ((n : Int) * 2 ^ 0) = D at hb ⊢
  rw [mrgm_3]
  unfold mstep
  simp only [Nat.testBit_or, Nat.testBit_and, Nat.testBit_xor, byte_bit, all_bit, hb, part_bit, Nat.zero_testBit]
  generalize n.testBit (i - 0) = P
  rcases (by omega : i < 8 ∨ (8 ≤ i ∧ i < 16) ∨ (16 ≤ i ∧ i < 24) ∨ (24 ≤ i ∧ i < 32) ∨ 32 ≤ i) with h | h | h | h | h
  · simp only [show decide (8 * 0 ≤ i) = true from decide_eq_true (by omega), show decide (i - 8 * 0 < 8) = true from decide_eq_true (by omega), show decide (8 * 1 ≤ i) = false from decide_eq_false (by omega), show decide (8 * 2 ≤ i) = false from decide_eq_false (by omega), show decide (8 * 3 ≤ i) = false from decide_eq_false (by omega), show decide (i < 32) = true from decide_eq_true (by omega), show decide (0 ≤ i) = true from decide_eq_true (by omega), show decide (i - 0 < 16) = true from decide_eq_true (by omega), Bool.true_and, Bool.false_and, Bool.and_true, Bool.and_false, Bool.or_false, Bool.false_or, Bool.or_true, Bool.true_or, Bool.xor_false, Bool.xor_true, Bool.false_xor, Bool.true_xor, Bool.not_true, Bool.not_false]
  · simp only [show decide (8 * 0 ≤ i) = true from decide_eq_true (by omega), show decide (i - 8 * 0 < 8) = false from decide_eq_false (by omega), show decide (8 * 1 ≤ i) = true from decide_eq_true (by omega), show decide (i - 8 * 1 < 8) = true from decide_eq_true (by omega), show decide (8 * 2 ≤ i) = false from decide_eq_false (by omega), show decide (8 * 3 ≤ i) = false from decide_eq_false (by omega), show decide (i < 32) = true from decide_eq_true (by omega), show decide (0 ≤ i) = true from decide_eq_true (by omega), show decide (i - 0 < 16) = true from decide_eq_true (by omega), Bool.true_and, Bool.false_and, Bool.and_true, Bool.and_false, Bool.or_false, Bool.false_or, Bool.or_true, Bool.true_or, Bool.xor_false, Bool.xor_true, Bool.false_xor, Bool.true_xor, Bool.not_true, Bool.not_false]
  · simp only [show decide (8 * 0 ≤ i) = true from decide_eq_true (by omega), show decide (i - 8 * 0 < 8) = false from decide_eq_false (by omega), show decide (8 * 1 ≤ i) = true from decide_eq_true (by omega), show decide (i - 8 * 1 < 8) = false from decide_eq_false (by omega), show decide (8 * 2 ≤ i) = true from decide_eq_true (by omega), show decide (i - 8 * 2 < 8) = true from decide_eq_true (by omega), show decide (8 * 3 ≤ i) = false from decide_eq_false (by omega), show decide (i < 32) = true from decide_eq_true (by omega), show decide (0 ≤ i) = true from decide_eq_true (by omega), show decide (i - 0 < 16) = false from decide_eq_false (by omega), Bool.true_and, Bool.false_and, Bool.and_true, Bool.and_false, Bool.or_false, Bool.false_or, Bool.or_true, Bool.true_or, Bool.xor_false, Bool.xor_true, Bool.false_xor, Bool.true_xor, Bool.not_true, Bool.not_false]
  · simp only [show decide (8 * 0 ≤ i) = true from decide_eq_true (by omega), show decide (i - 8 * 0 < 8) = false from decide_eq_false (by omega), show decide (8 * 1 ≤ i) = true from decide_eq_true (by omega), show decide (i - 8 * 1 < 8) = false from decide_eq_false (by omega), show decide (8 * 2 ≤ i) = true from decide_eq_true (by omega), show decide (i - 8 * 2 < 8) = false from decide_eq_false (by omega), show decide (8 * 3 ≤ i) = true from decide_eq_true (by omega), show decide (i - 8 * 3 < 8) = true from decide_eq_true (by omega), show decide (i < 32) = true from decide_eq_true (by omega), show decide (0 ≤ i) = true from decide_eq_true (by omega), show decide (i - 0 < 16) = false from decide_eq_false (by omega), Bool.true_and, Bool.false_and, Bool.and_true, Bool.and_false, Bool.or_false, Bool.false_or, Bool.or_true, Bool.true_or, Bool.xor_false, Bool.xor_true, Bool.false_xor, Bool.true_xor, Bool.not_true, Bool.not_false]
  · simp only [show decide (8 * 0 ≤ i) = true from decide_eq_true (by omega), show decide (i - 8 * 0 < 8) = false from decide_eq_false (by omega), show decide (8 * 1 ≤ i) = true from decide_eq_true (by omega), show decide (i - 8 * 1 < 8) = false from decide_eq_false (by omega), show decide (8 * 2 ≤ i) = true from decide_eq_true (by omega), show decide (i - 8 * 2 < 8) = false from decide_eq_false (by omega), show decide (8 * 3 ≤ i) = true from decide_eq_true (by omega), show decide (i - 8 * 3 < 8) = false from decide_eq_false (by omega), show decide (i < 32) = false from decide_eq_false (by omega), show decide (0 ≤ i) = true from decide_eq_true (by omega), show decide (i - 0 < 16) = false from decide_eq_false (by omega), Bool.true_and, Bool.false_and, Bool.and_true, Bool.and_false, Bool.or_false, Bool.false_or, Bool.or_true, Bool.true_or, Bool.xor_false, Bool.xor_true, Bool.false_xor, Bool.true_xor, Bool.not_true, Bool.not_false]
theorem mrgm_12 (D : Nat) : mrg 0 D 12 = (mstep (mstep 0 D 2) D 3) := rfl
theorem mrg_2_2 (n : Nat) (hn : n < 2 ^ 32) : mrg 0 (u32 ((n : Int) * 2 ^ 16)) 12 = n % 2 ^ 16 * 2 ^ 16 := by
  apply Nat.eq_of_testBit_eq
  intro i
  have hb := u32_bit n 16 i
  generalize u32 ((n : Int) * 2 ^ 16) = D at hb ⊢
  rw [mrgm_12]
  unfold mstep
  simp only [Nat.testBit_or, Nat.testBit_and, Nat.testBit_xor, byte_bit, all_bit, hb, part_bit, Nat.zero_testBit]
  generalize n.testBit (i - 16) = P
  rcases (by omega : i < 8 ∨ (8 ≤ i ∧ i < 16) ∨ (16 ≤ i ∧ i < 24) ∨ (24 ≤ i ∧ i < 32) ∨ 32 ≤ i) with h | h | h | h | h
  · simp only [show decide (8 * 0 ≤ i) = true from decide_eq_true (by omega), show decide (i - 8 * 0 < 8) = true from decide_eq_true (by omega), show decide (8 * 1 ≤ i) = false from decide_eq_false (by omega), show decide (8 * 2 ≤ i) = false from decide_eq_false (by omega), show decide (8 * 3 ≤ i) = false from decide_eq_false (by omega), show decide (i < 32) = true from decide_eq_true (by omega), show decide (16 ≤ i) = false from decide_eq_false (by omega), Bool.true_and, Bool.false_and, Bool.and_true, Bool.and_false, Bool.or_false, Bool.false_or, Bool.or_true, Bool.true_or, Bool.xor_false, Bool.xor_true, Bool.false_xor, Bool.true_xor, Bool.not_true, Bool.not_false]
  · simp only [show decide (8 * 0 ≤ i) = true from decide_eq_true (by omega), show decide (i - 8 * 0 < 8) = false from decide_eq_false (by omega), show decide (8 * 1 ≤ i) = true from decide_eq_true (by omega), show decide (i - 8 * 1 < 8) = true from decide_eq_true (by omega), show decide (8 * 2 ≤ i) = false from decide_eq_false (by omega), show decide (8 * 3 ≤ i) = false from decide_eq_false (by omega), show decide (i < 32) = true from decide_eq_true (by omega), show decide (16 ≤ i) = false from decide_eq_false (by omega), Bool.true_and, Bool.false_and, Bool.and_true, Bool.and_false, Bool.or_false, Bool.false_or, Bool.or_true, Bool.true_or, Bool.xor_false, Bool.xor_true, Bool.false_xor, Bool.true_xor, Bool.not_true, Bool.not_false]
  · simp only [show decide (8 * 0 ≤ i) = true from decide_eq_true (by omega), show decide (i - 8 * 0 < 8) = false from decide_eq_false (by omega), show decide (8 * 1 ≤ i) = true from decide_eq_true (by omega), show decide (i - 8 * 1 < 8) = false from decide_eq_false (by omega), show decide (8 * 2 ≤ i) = true from decide_eq_true (by omega), show decide (i - 8 * 2 < 8) = true from decide_eq_true (by omega), show decide (8 * 3 ≤ i) = false from decide_eq_false (by omega), show decide (i < 32) = true from decide_eq_true (by omega), show decide (16 ≤ i) = true from decide_eq_true (by omega), show decide (i - 16 < 16) = true from decide_eq_true (by omega), Bool.true_and, Bool.false_and, Bool.and_true, Bool.and_false, Bool.or_false, Bool.false_or, Bool.or_true, Bool.true_or, Bool.xor_false, Bool.xor_true, Bool.false_xor, Bool.true_xor, Bool.not_true, Bool.not_false]
  · simp only [show decide (8 * 0 ≤ i) = true from decide_eq_true (by omega), show decide (i - 8 * 0 < 8) = false from decide_eq_false (by omega), show decide (8 * 1 ≤ i) = true from decide_eq_true (by omega), show decide (i - 8 * 1 < 8) = false from decide_eq_false (by omega), show decide (8 * 2 ≤ i) = true from decide_eq_true (by omega), show decide (i - 8 * 2 < 8) = false from decide_eq_false (by omega), show decide (8 * 3 ≤ i) = true from decide_eq_true (by omega), show decide (i - 8 * 3 < 8) = true from decide_eq_true (by omega), show decide (i < 32) = true from decide_eq_true (by omega), show decide (16 ≤ i) = true from decide_eq_true (by omega), show decide (i - 16 < 16) = true from decide_eq_true (by omega), Bool.true_and, Bool.false_and, Bool.and_true, Bool.and_false, Bool.or_false, Bool.false_or, Bool.or_true, Bool.true_or, Bool.xor_false, Bool.xor_true, Bool.false_xor, Bool.true_xor, Bool.not_true, Bool.not_false]
  · simp only [show decide (8 * 0 ≤ i) = true from decide_eq_true (by omega), show decide (i - 8 * 0 < 8) = false from decide_eq_false (by omega), show decide (8 * 1 ≤ i) = true from decide_eq_true (by omega), show decide (i - 8 * 1 < 8) = false from decide_eq_false (by omega), show decide (8 * 2 ≤ i) = true from decide_eq_true (by omega), show decide (i - 8 * 2 < 8) = false from decide_eq_false (by omega), show decide (8 * 3 ≤ i) = true from decide_eq_true (by omega), show decide (i - 8 * 3 < 8) = false from decide_eq_false (by omega), show decide (i < 32) = false from decide_eq_false (by omega), show decide (16 ≤ i) = true from decide_eq_true (by omega), show decide (i - 16 < 16) = false from decide_eq_false (by omega), Bool.true_and, Bool.false_and, Bool.and_true, Bool.and_false, Bool.or_false, Bool.false_or, Bool.or_true, Bool.true_or, Bool.xor_false, Bool.xor_true, Bool.false_xor, Bool.true_xor, Bool.not_true, Bool.not_false]
theorem mrgm_15 (D : Nat) : mrg 0 D 15 = (mstep (mstep (mstep (mstep 0 D 0) D 1) D 2) D 3) := rfl
theorem mrg_4_0 (n : Nat) (hn : n < 2 ^ 32) : mrg 0 (u32 ((n : Int) * 2 ^ 0)) 15 = n % 2 ^ 32 * 2 ^ 0 := by
  apply Nat.eq_of_testBit_eq
  intro i
  have hb := u32_bit n 0 i
  generalize u32 ((n : Int) * 2 ^ 0) = D at hb ⊢
  rw [mrgm_15]
  unfold mstep
  simp only [Nat.testBit_or, Nat.testBit_and, Nat.testBit_xor, byte_bit, all_bit, hb, part_bit, Nat.zero_testBit]
  generalize n.testBit (i - 0) = P
  rcases (by omega : i < 8 ∨ (8 ≤ i ∧ i < 16) ∨ (16 ≤ i ∧ i < 24) ∨ (24 ≤ i ∧ i < 32) ∨ 32 ≤ i) with h | h | h | h | h
  · simp only [show decide (8 * 0 ≤ i) = true from decide_eq_true (by omega), show decide (i - 8 * 0 < 8) = true from decide_eq_true (by omega), show decide (8 * 1 ≤ i) = false from decide_eq_false (by omega), show decide (8 * 2 ≤ i) = false from decide_eq_false (by omega), show decide (8 * 3 ≤ i) = false from decide_eq_false (by omega), show decide (i < 32) = true from decide_eq_true (by omega), show decide (0 ≤ i) = true from decide_eq_true (by omega), show decide (i - 0 < 32) = true from decide_eq_true (by omega), Bool.true_and, Bool.false_and, Bool.and_true, Bool.and_false, Bool.or_false, Bool.false_or, Bool.or_true, Bool.true_or, Bool.xor_false, Bool.xor_true, Bool.false_xor, Bool.true_xor, Bool.not_true, Bool.not_false]
  · simp only [show decide (8 * 0 ≤ i) = true from decide_eq_true (by omega), show decide (i - 8 * 0 < 8) = false from decide_eq_false (by omega), show decide (8 * 1 ≤ i) = true from decide_eq_true (by omega), show decide (i - 8 * 1 < 8) = true from decide_eq_true (by omega), show decide (8 * 2 ≤ i) = false from decide_eq_false (by omega), show decide (8 * 3 ≤ i) = false from decide_eq_false (by omega), show decide (i < 32) = true from decide_eq_true (by omega), show decide (0 ≤ i) = true from decide_eq_true (by omega), show decide (i - 0 < 32) = true from decide_eq_true (by omega), Bool.true_and, Bool.false_and, Bool.and_true, Bool.and_false, Bool.or_false, Bool.false_or, Bool.or_true, Bool.true_or, Bool.xor_false, Bool.xor_true, Bool.false_xor, Bool.true_xor, Bool.not_true, Bool.not_false]
  · simp only [show decide (8 * 0 ≤ i) = true from decide_eq_true (by omega), show decide (i - 8 * 0 < 8) = false from decide_eq_false (by omega), show decide (8 * 1 ≤ i) = true from decide_eq_true (by omega), show decide (i - 8 * 1 < 8) = false from decide_eq_false (by omega), show decide (8 * 2 ≤ i) = true from decide_eq_true (by omega), show decide (i - 8 * 2 < 8) = true from decide_eq_true (by omega), show decide (8 * 3 ≤ i) = false from decide_eq_false (by omega), show decide (i < 32) = true from decide_eq_true (by omega), show decide (0 ≤ i) = true from decide_eq_true (by omega), show decide (i - 0 < 32) = true from decide_eq_true (by omega), Bool.true_and, Bool.false_and, Bool.and_true, Bool.and_false, Bool.or_false, Bool.false_or, Bool.or_true, Bool.true_or, Bool.xor_false, Bool.xor_true, Bool.false_xor, Bool.true_xor, Bool.not_true, Bool.not_false]
  · simp only [show decide (8 * 0 ≤ i) = true from decide_eq_true (by omega), show decide (i - 8 * 0 < 8) = false from decide_eq_false (by omega), show decide (8 * 1 ≤ i) = true from decide_eq_true (by omega), show decide (i - 8 * 1 < 8) = false from decide_eq_false (by omega), show decide (8 * 2 ≤ i) = true from decide_eq_true (by omega), show decide (i - 8 * 2 < 8) = false from decide_eq_false (by omega), show decide (8 * 3 ≤ i) = true from decide_eq_true (by omega), show decide (i - 8 * 3 < 8) = true from decide_eq_true (by omega), show decide (i < 32) = true from decide_eq_true (by omega), show decide (0 ≤ i) = true from decide_eq_true (by omega), show decide (i - 0 < 32) = true from decide_eq_true (by omega), Bool.true_and, Bool.false_and, Bool.and_true, Bool.and_false, Bool.or_false, Bool.false_or, Bool.or_true, Bool.true_or, Bool.xor_false, Bool.xor_true, Bool.false_xor, Bool.true_xor, Bool.not_true, Bool.not_false]
  · simp only [show decide (8 * 0 ≤ i) = true from decide_eq_true (by omega), show decide (i - 8 * 0 < 8) = false from decide_eq_false (by omega), show decide (8 * 1 ≤ i) = true from decide_eq_true (by omega), show decide (i - 8 * 1 < 8) = false from decide_eq_false (by omega), show decide (8 * 2 ≤ i) = true from decide_eq_true (by omega), show decide (i - 8 * 2 < 8) = false from decide_eq_false (by omega), show decide (8 * 3 ≤ i) = true from decide_eq_true (by omega), show decide (i - 8 * 3 < 8) = false from decide_eq_false (by omega), show decide (i < 32) = false from decide_eq_false (by omega), show decide (0 ≤ i) = true from decide_eq_true (by omega), show decide (i - 0 < 32) = false from decide_eq_false (by omega), Bool.true_and, Bool.false_and, Bool.and_true, Bool.and_false, Bool.or_false, Bool.false_or, Bool.or_true, Bool.true_or, Bool.xor_false, Bool.xor_true, Bool.false_xor, Bool.true_xor, Bool.not_true, Bool.not_false]
end Go.Proofs.YtmdjhahafjlebaaGreatDoor

namespace Go.Proofs.YtmdjhahafjlebaaGreatDoor
open Go.RowKit Go.Dio
set_option linter.unusedSimpArgs false
set_option linter.unusedVariables false

theorem low4 (a : Nat) (ha : a < 2 ^ 32) : bits .and .u32 (a : Int) 3 = ((a % 4 : Nat) : Int) := lo_and a 2 ha (by decide)
theorem fits2 {op addr : Nat} (h : fitsP op addr = true) (hs : sizeP op = 2) : addr % 2 = 0 := by unfold fitsP at h; rw [hs] at h; simpa using h
theorem fits4 {op addr : Nat} (h : fitsP op addr = true) (hs : sizeP op = 4) : addr % 4 = 0 := by unfold fitsP at h; rw [hs] at h; simpa using h
theorem u32_one (n : Nat) (hn : n < 2 ^ 32) : u32 ((n : Int) * 2 ^ 0) = n := by rw [Int.pow_zero, Int.mul_one]; exact u32_id hn
theorem store_calls (op addr n : Nat) (z : World) (ho : 16 ≤ op ∧ op ≤ 18) (ha : addr < 2 ^ 32) (hn : n < 2 ^ 32) (hf : fitsP op addr = true) :
    Calls Tryz.prog 145 #[.int .i64 (op : Int), .int .u32 (addr : Int), .int .u32 (n : Int)] z fun e z' => e = .returned (.tuple #[.int .u32 ((storeD op addr n : Nat) : Int), .int .i64 ((storeM op addr : Nat) : Int)]) ∧ z' = z := by
  rcases (by omega : op = 16 ∨ op = 17 ∨ op = 18) with rfl | rfl | rfl
  · rcases (by omega : addr % 4 = 0 ∨ addr % 4 = 1 ∨ addr % 4 = 2 ∨ addr % 4 = 3) with hk | hk | hk | hk
    · have HD := Lib.hid (show storeD 16 addr n = n % 2 ^ 8 * 2 ^ 0 from by unfold storeD; rw [if_neg (by rw [hf]; decide), hk]; rfl)
      have HM := Lib.hid (show storeM 16 addr = 1 from by unfold storeM; rw [if_neg (by rw [hf]; decide), hk]; rfl)
      have HG := Lib.hid (show mrg 0 n 1 = n % 2 ^ 8 * 2 ^ 0 from by have := mrg_1_0 n hn; rwa [u32_one n hn] at this)
      have l4 : bits .and .u32 (addr : Int) 3 = 0 := by rw [low4 addr ha, hk]; rfl
      have S : Hid (∀ z : World, Calls Tryz.prog 140 #[.int .i64 16] z fun e z' => e = .returned (.int .i64 1) ∧ z' = z) := Lib.hid (fun z => size_calls 16 z (by decide))
      have I : Hid (∀ z : World, Calls Tryz.prog 153 #[.int .i64 16] z fun e z' => e = .returned (.bool true) ∧ z' = z) := Lib.hid (fun z => isst_calls 16 z (by decide))
      have F : Hid (∀ z : World, Calls Tryz.prog 141 #[.int .i64 16, .int .u32 (addr : Int)] z fun e z' => e = .returned (.bool true) ∧ z' = z) := Lib.hid (fun z => by have := fits_calls 16 addr z (by decide) ha; rwa [hf] at this)
      clear hf hk
      go_enter Tryz.func145, Tryz.ntmps145
      go_wp2_with (fail)
      refine (F.out _).mono ?_
      rintro e z1 ⟨rfl, rfl⟩
      go_wp2_with (fail)
      refine (I.out _).mono ?_
      rintro e z1 ⟨rfl, rfl⟩
      go_wp2_with (fail)
      refine (S.out _).mono ?_
      rintro e z1 ⟨rfl, rfl⟩
      go_wp2_with (fail)
      refine (Merge_calls 0 n 1 _ (by decide) hn).mono ?_
      rintro e z1 ⟨rfl, rfl⟩
      go_wp2_with (fail)
      go_ret2
      exact ⟨by rw [HD.out, HM.out, HG.out]; rfl, rfl⟩
    · have HD := Lib.hid (show storeD 16 addr n = n % 2 ^ 8 * 2 ^ 8 from by unfold storeD; rw [if_neg (by rw [hf]; decide), hk]; rfl)
      have HM := Lib.hid (show storeM 16 addr = 2 from by unfold storeM; rw [if_neg (by rw [hf]; decide), hk]; rfl)
      have HG := Lib.hid (mrg_1_1 n hn)
      have l4 : bits .and .u32 (addr : Int) 3 = 1 := by rw [low4 addr ha, hk]; rfl
      have S : Hid (∀ z : World, Calls Tryz.prog 140 #[.int .i64 16] z fun e z' => e = .returned (.int .i64 1) ∧ z' = z) := Lib.hid (fun z => size_calls 16 z (by decide))
      have I : Hid (∀ z : World, Calls Tryz.prog 153 #[.int .i64 16] z fun e z' => e = .returned (.bool true) ∧ z' = z) := Lib.hid (fun z => isst_calls 16 z (by decide))
      have F : Hid (∀ z : World, Calls Tryz.prog 141 #[.int .i64 16, .int .u32 (addr : Int)] z fun e z' => e = .returned (.bool true) ∧ z' = z) := Lib.hid (fun z => by have := fits_calls 16 addr z (by decide) ha; rwa [hf] at this)
      have hD := u32_lt ((n : Int) * 2 ^ 8)
      have v1 : IntKind.u32.wrap ((n : Int) * 256) = ((u32 ((n : Int) * 2 ^ 8) : Nat) : Int) := wrap_u32 _
      have v2 : ((n : Int) * 256) % 4294967296 = ((u32 ((n : Int) * 2 ^ 8) : Nat) : Int) := mod_u32 _
      generalize u32 ((n : Int) * 2 ^ 8) = D at *
      clear hf hk
      go_enter Tryz.func145, Tryz.ntmps145
      go_wp2_with (fail)
      refine (F.out _).mono ?_
      rintro e z1 ⟨rfl, rfl⟩
      go_wp2_with (fail)
      refine (I.out _).mono ?_
      rintro e z1 ⟨rfl, rfl⟩
      go_wp2_with (fail)
      refine (S.out _).mono ?_
      rintro e z1 ⟨rfl, rfl⟩
      go_wp2_with (fail)
      refine (Merge_calls 0 D 2 _ (by decide) hD).mono ?_
      rintro e z1 ⟨rfl, rfl⟩
      go_wp2_with (fail)
      go_ret2
      exact ⟨by rw [HD.out, HM.out, HG.out]; rfl, rfl⟩
    · have HD := Lib.hid (show storeD 16 addr n = n % 2 ^ 8 * 2 ^ 16 from by unfold storeD; rw [if_neg (by rw [hf]; decide), hk]; rfl)
      have HM := Lib.hid (show storeM 16 addr = 4 from by unfold storeM; rw [if_neg (by rw [hf]; decide), hk]; rfl)
      have HG := Lib.hid (mrg_1_2 n hn)
      have l4 : bits .and .u32 (addr : Int) 3 = 2 := by rw [low4 addr ha, hk]; rfl
      have S : Hid (∀ z : World, Calls Tryz.prog 140 #[.int .i64 16] z fun e z' => e = .returned (.int .i64 1) ∧ z' = z) := Lib.hid (fun z => size_calls 16 z (by decide))
      have I : Hid (∀ z : World, Calls Tryz.prog 153 #[.int .i64 16] z fun e z' => e = .returned (.bool true) ∧ z' = z) := Lib.hid (fun z => isst_calls 16 z (by decide))
      have F : Hid (∀ z : World, Calls Tryz.prog 141 #[.int .i64 16, .int .u32 (addr : Int)] z fun e z' => e = .returned (.bool true) ∧ z' = z) := Lib.hid (fun z => by have := fits_calls 16 addr z (by decide) ha; rwa [hf] at this)
      have hD := u32_lt ((n : Int) * 2 ^ 16)
      have v1 : IntKind.u32.wrap ((n : Int) * 65536) = ((u32 ((n : Int) * 2 ^ 16) : Nat) : Int) := wrap_u32 _
      have v2 : ((n : Int) * 65536) % 4294967296 = ((u32 ((n : Int) * 2 ^ 16) : Nat) : Int) := mod_u32 _
      generalize u32 ((n : Int) * 2 ^ 16) = D at *
      clear hf hk
      go_enter Tryz.func145, Tryz.ntmps145
      go_wp2_with (fail)
      refine (F.out _).mono ?_
      rintro e z1 ⟨rfl, rfl⟩
      go_wp2_with (fail)
      refine (I.out _).mono ?_
      rintro e z1 ⟨rfl, rfl⟩
      go_wp2_with (fail)
      refine (S.out _).mono ?_
      rintro e z1 ⟨rfl, rfl⟩
      go_wp2_with (fail)
      refine (Merge_calls 0 D 4 _ (by decide) hD).mono ?_
      rintro e z1 ⟨rfl, rfl⟩
      go_wp2_with (fail)
      go_ret2
      exact ⟨by rw [HD.out, HM.out, HG.out]; rfl, rfl⟩
    · have HD := Lib.hid (show storeD 16 addr n = n % 2 ^ 8 * 2 ^ 24 from by unfold storeD; rw [if_neg (by rw [hf]; decide), hk]; rfl)
      have HM := Lib.hid (show storeM 16 addr = 8 from by unfold storeM; rw [if_neg (by rw [hf]; decide), hk]; rfl)
      have HG := Lib.hid (mrg_1_3 n hn)
      have l4 : bits .and .u32 (addr : Int) 3 = 3 := by rw [low4 addr ha, hk]; rfl
      have S : Hid (∀ z : World, Calls Tryz.prog 140 #[.int .i64 16] z fun e z' => e = .returned (.int .i64 1) ∧ z' = z) := Lib.hid (fun z => size_calls 16 z (by decide))
      have I : Hid (∀ z : World, Calls Tryz.prog 153 #[.int .i64 16] z fun e z' => e = .returned (.bool true) ∧ z' = z) := Lib.hid (fun z => isst_calls 16 z (by decide))
      have F : Hid (∀ z : World, Calls Tryz.prog 141 #[.int .i64 16, .int .u32 (addr : Int)] z fun e z' => e = .returned (.bool true) ∧ z' = z) := Lib.hid (fun z => by have := fits_calls 16 addr z (by decide) ha; rwa [hf] at this)
      have hD := u32_lt ((n : Int) * 2 ^ 24)
      have v1 : IntKind.u32.wrap ((n : Int) * 16777216) = ((u32 ((n : Int) * 2 ^ 24) : Nat) : Int) := wrap_u32 _
      have v2 : ((n : Int) * 16777216) % 4294967296 = ((u32 ((n : Int) * 2 ^ 24) : Nat) : Int) := mod_u32 _
      generalize u32 ((n : Int) * 2 ^ 24) = D at *
      clear hf hk
      go_enter Tryz.func145, Tryz.ntmps145
      go_wp2_with (fail)
      refine (F.out _).mono ?_
      rintro e z1 ⟨rfl, rfl⟩
      go_wp2_with (fail)
      refine (I.out _).mono ?_
      rintro e z1 ⟨rfl, rfl⟩
      go_wp2_with (fail)
      refine (S.out _).mono ?_
      rintro e z1 ⟨rfl, rfl⟩
      go_wp2_with (fail)
      refine (Merge_calls 0 D 8 _ (by decide) hD).mono ?_
      rintro e z1 ⟨rfl, rfl⟩
      go_wp2_with (fail)
      go_ret2
      exact ⟨by rw [HD.out, HM.out, HG.out]; rfl, rfl⟩
  · have h2 := fits2 hf rfl
    rcases (by omega : addr % 4 = 0 ∨ addr % 4 = 2) with hk | hk
    · have HD := Lib.hid (show storeD 17 addr n = n % 2 ^ 16 * 2 ^ 0 from by unfold storeD; rw [if_neg (by rw [hf]; decide), hk]; rfl)
      have HM := Lib.hid (show storeM 17 addr = 3 from by unfold storeM; rw [if_neg (by rw [hf]; decide), hk]; rfl)
      have HG := Lib.hid (show mrg 0 n 3 = n % 2 ^ 16 * 2 ^ 0 from by have := mrg_2_0 n hn; rwa [u32_one n hn] at this)
      have l4 : bits .and .u32 (addr : Int) 3 = 0 := by rw [low4 addr ha, hk]; rfl
      have S : Hid (∀ z : World, Calls Tryz.prog 140 #[.int .i64 17] z fun e z' => e = .returned (.int .i64 2) ∧ z' = z) := Lib.hid (fun z => size_calls 17 z (by decide))
      have I : Hid (∀ z : World, Calls Tryz.prog 153 #[.int .i64 17] z fun e z' => e = .returned (.bool true) ∧ z' = z) := Lib.hid (fun z => isst_calls 17 z (by decide))
      have F : Hid (∀ z : World, Calls Tryz.prog 141 #[.int .i64 17, .int .u32 (addr : Int)] z fun e z' => e = .returned (.bool true) ∧ z' = z) := Lib.hid (fun z => by have := fits_calls 17 addr z (by decide) ha; rwa [hf] at this)
      clear hf hk
      go_enter Tryz.func145, Tryz.ntmps145
      go_wp2_with (fail)
      refine (F.out _).mono ?_
      rintro e z1 ⟨rfl, rfl⟩
      go_wp2_with (fail)
      refine (I.out _).mono ?_
      rintro e z1 ⟨rfl, rfl⟩
      go_wp2_with (fail)
      refine (S.out _).mono ?_
      rintro e z1 ⟨rfl, rfl⟩
      go_wp2_with (fail)
      refine (Merge_calls 0 n 3 _ (by decide) hn).mono ?_
      rintro e z1 ⟨rfl, rfl⟩
      go_wp2_with (fail)
      go_ret2
      exact ⟨by rw [HD.out, HM.out, HG.out]; rfl, rfl⟩
    · have HD := Lib.hid (show storeD 17 addr n = n % 2 ^ 16 * 2 ^ 16 from by unfold storeD; rw [if_neg (by rw [hf]; decide), hk]; rfl)
      have HM := Lib.hid (show storeM 17 addr = 12 from by unfold storeM; rw [if_neg (by rw [hf]; decide), hk]; rfl)
      have HG := Lib.hid (mrg_2_2 n hn)
      have l4 : bits .and .u32 (addr : Int) 3 = 2 := by rw [low4 addr ha, hk]; rfl
      have S : Hid (∀ z : World, Calls Tryz.prog 140 #[.int .i64 17] z fun e z' => e = .returned (.int .i64 2) ∧ z' = z) := Lib.hid (fun z => size_calls 17 z (by decide))
      have I : Hid (∀ z : World, Calls Tryz.prog 153 #[.int .i64 17] z fun e z' => e = .returned (.bool true) ∧ z' = z) := Lib.hid (fun z => isst_calls 17 z (by decide))
      have F : Hid (∀ z : World, Calls Tryz.prog 141 #[.int .i64 17, .int .u32 (addr : Int)] z fun e z' => e = .returned (.bool true) ∧ z' = z) := Lib.hid (fun z => by have := fits_calls 17 addr z (by decide) ha; rwa [hf] at this)
      have hD := u32_lt ((n : Int) * 2 ^ 16)
      have v1 : IntKind.u32.wrap ((n : Int) * 65536) = ((u32 ((n : Int) * 2 ^ 16) : Nat) : Int) := wrap_u32 _
      have v2 : ((n : Int) * 65536) % 4294967296 = ((u32 ((n : Int) * 2 ^ 16) : Nat) : Int) := mod_u32 _
      generalize u32 ((n : Int) * 2 ^ 16) = D at *
      clear hf hk
      go_enter Tryz.func145, Tryz.ntmps145
      go_wp2_with (fail)
      refine (F.out _).mono ?_
      rintro e z1 ⟨rfl, rfl⟩
      go_wp2_with (fail)
      refine (I.out _).mono ?_
      rintro e z1 ⟨rfl, rfl⟩
      go_wp2_with (fail)
      refine (S.out _).mono ?_
      rintro e z1 ⟨rfl, rfl⟩
      go_wp2_with (fail)
      refine (Merge_calls 0 D 12 _ (by decide) hD).mono ?_
      rintro e z1 ⟨rfl, rfl⟩
      go_wp2_with (fail)
      go_ret2
      exact ⟨by rw [HD.out, HM.out, HG.out]; rfl, rfl⟩
  · have hk := fits4 hf rfl
    · have HD := Lib.hid (show storeD 18 addr n = n % 2 ^ 32 * 2 ^ 0 from by unfold storeD; rw [if_neg (by rw [hf]; decide), hk]; rfl)
      have HM := Lib.hid (show storeM 18 addr = 15 from by unfold storeM; rw [if_neg (by rw [hf]; decide), hk]; rfl)
      have HG := Lib.hid (show mrg 0 n 15 = n % 2 ^ 32 * 2 ^ 0 from by have := mrg_4_0 n hn; rwa [u32_one n hn] at this)
      have l4 : bits .and .u32 (addr : Int) 3 = 0 := by rw [low4 addr ha, hk]; rfl
      have S : Hid (∀ z : World, Calls Tryz.prog 140 #[.int .i64 18] z fun e z' => e = .returned (.int .i64 4) ∧ z' = z) := Lib.hid (fun z => size_calls 18 z (by decide))
      have I : Hid (∀ z : World, Calls Tryz.prog 153 #[.int .i64 18] z fun e z' => e = .returned (.bool true) ∧ z' = z) := Lib.hid (fun z => isst_calls 18 z (by decide))
      have F : Hid (∀ z : World, Calls Tryz.prog 141 #[.int .i64 18, .int .u32 (addr : Int)] z fun e z' => e = .returned (.bool true) ∧ z' = z) := Lib.hid (fun z => by have := fits_calls 18 addr z (by decide) ha; rwa [hf] at this)
      clear hf hk
      go_enter Tryz.func145, Tryz.ntmps145
      go_wp2_with (fail)
      refine (F.out _).mono ?_
      rintro e z1 ⟨rfl, rfl⟩
      go_wp2_with (fail)
      refine (I.out _).mono ?_
      rintro e z1 ⟨rfl, rfl⟩
      go_wp2_with (fail)
      refine (S.out _).mono ?_
      rintro e z1 ⟨rfl, rfl⟩
      go_wp2_with (fail)
      refine (Merge_calls 0 n 15 _ (by decide) hn).mono ?_
      rintro e z1 ⟨rfl, rfl⟩
      go_wp2_with (fail)
      go_ret2
      exact ⟨by rw [HD.out, HM.out, HG.out]; rfl, rfl⟩
end Go.Proofs.YtmdjhahafjlebaaGreatDoor

namespace Go.Proofs.YtmdjhahafjlebaaGreatDoor
open Go.RowKit Go.Dio
set_option linter.unusedSimpArgs false
set_option linter.unusedVariables false

theorem sx8_lo (n : Nat) : -128 ≤ sx n 8 ∧ sx n 8 ≤ 127 := by unfold sx; split <;> omega
theorem sx16_lo (n : Nat) : -32768 ≤ sx n 16 ∧ sx n 16 ≤ 32767 := by unfold sx; split <;> omega
theorem wrap_i8' (n : Nat) : IntKind.i8.wrap (n : Int) = sx n 8 := by
  simp only [IntKind.wrap, IntKind.bits, IntKind.signed]
  show (if (true && decide ((n : Int) % 256 ≥ 128)) = true then (n : Int) % 256 - 256 else (n : Int) % 256) = (if n % 256 < 128 then ((n % 256 : Nat) : Int) else ((n % 256 : Nat) : Int) - 256)
  by_cases hh : n % 256 < 128
  · rw [if_pos hh, if_neg (by simp; omega)]; omega
  · rw [if_neg hh, if_pos (by simp; omega)]; omega
theorem wrap_i16' (n : Nat) : IntKind.i16.wrap (n : Int) = sx n 16 := by
  simp only [IntKind.wrap, IntKind.bits, IntKind.signed]
  show (if (true && decide ((n : Int) % 65536 ≥ 32768)) = true then (n : Int) % 65536 - 65536 else (n : Int) % 65536) = (if n % 65536 < 32768 then ((n % 65536 : Nat) : Int) else ((n % 65536 : Nat) : Int) - 65536)
  by_cases hh : n % 65536 < 32768
  · rw [if_pos hh, if_neg (by simp; omega)]; omega
  · rw [if_neg hh, if_pos (by simp; omega)]; omega
theorem load_calls (op addr word : Nat) (z : World) (ho : 11 ≤ op ∧ op ≤ 15) (ha : addr < 2 ^ 32) (hw : word < 2 ^ 32) (hf : fitsP op addr = true) :
    Calls Tryz.prog 144 #[.int .i64 (op : Int), .int .u32 (addr : Int), .int .u32 (word : Int)] z fun e z' => e = .returned (.int .u32 ((loadP op addr word : Nat) : Int)) ∧ z' = z := by
  rcases (by omega : op = 11 ∨ op = 12 ∨ op = 13 ∨ op = 14 ∨ op = 15) with rfl | rfl | rfl | rfl | rfl
  · rcases (by omega : addr % 4 = 0 ∨ addr % 4 = 1 ∨ addr % 4 = 2 ∨ addr % 4 = 3) with hk | hk | hk | hk
    · skip
      have HE := Lib.hid (show loadP 11 addr word = u32 (sx (word / 2 ^ 0) 8) from by unfold loadP; rw [if_neg (by rw [hf]; decide), hk]; rfl)
      rw [Nat.pow_zero, Nat.div_one] at HE
      have hy : word < 2 ^ 32 := hw
      generalize word = y at *
      have l4 : bits .and .u32 (addr : Int) 3 = 0 := by rw [low4 addr ha, hk]; rfl
      have I : Hid (∀ z : World, Calls Tryz.prog 153 #[.int .i64 11] z fun e z' => e = .returned (.bool false) ∧ z' = z) := Lib.hid (fun z => isst_calls 11 z (by decide))
      have F : Hid (∀ z : World, Calls Tryz.prog 141 #[.int .i64 11, .int .u32 (addr : Int)] z fun e z' => e = .returned (.bool true) ∧ z' = z) := Lib.hid (fun z => by have := fits_calls 11 addr z (by decide) ha; rwa [hf] at this)
      have v1 := wrap_i8' y
      have v2 := sx8_lo y
      have v4 := wrap_u32 (sx y 8)
      have v5 := mod_u32 (sx y 8)
      generalize u32 (sx y 8) = r at *
      generalize sx y 8 = x at *
      have v3 : IntKind.i32.wrap x = x := by rw [IntKind.wrap_i32]; omega
      clear hf hk
      go_enter Tryz.func144, Tryz.ntmps144
      go_wp2_with (fail)
      refine (F.out _).mono ?_
      rintro e z1 ⟨rfl, rfl⟩
      go_wp2_with (fail)
      refine (I.out _).mono ?_
      rintro e z1 ⟨rfl, rfl⟩
      go_wp2_with (fail)
      go_ret
      exact ⟨by rw [HE.out]; rfl, rfl⟩
    · skip
      have HE := Lib.hid (show loadP 11 addr word = u32 (sx (word / 2 ^ 8) 8) from by unfold loadP; rw [if_neg (by rw [hf]; decide), hk]; rfl)
      rw [show (2 : Nat) ^ 8 = 256 by decide] at HE
      have hq : (word : Int) / 256 = ((word / 256 : Nat) : Int) := by omega
      have hy : word / 256 < 2 ^ 32 := Nat.lt_of_le_of_lt (Nat.div_le_self _ _) hw
      generalize word / 256 = y at *
      have l4 : bits .and .u32 (addr : Int) 3 = 1 := by rw [low4 addr ha, hk]; rfl
      have I : Hid (∀ z : World, Calls Tryz.prog 153 #[.int .i64 11] z fun e z' => e = .returned (.bool false) ∧ z' = z) := Lib.hid (fun z => isst_calls 11 z (by decide))
      have F : Hid (∀ z : World, Calls Tryz.prog 141 #[.int .i64 11, .int .u32 (addr : Int)] z fun e z' => e = .returned (.bool true) ∧ z' = z) := Lib.hid (fun z => by have := fits_calls 11 addr z (by decide) ha; rwa [hf] at this)
      have v1 := wrap_i8' y
      have v2 := sx8_lo y
      have v4 := wrap_u32 (sx y 8)
      have v5 := mod_u32 (sx y 8)
      generalize u32 (sx y 8) = r at *
      generalize sx y 8 = x at *
      have v3 : IntKind.i32.wrap x = x := by rw [IntKind.wrap_i32]; omega
      clear hf hk
      go_enter Tryz.func144, Tryz.ntmps144
      go_wp2_with (fail)
      refine (F.out _).mono ?_
      rintro e z1 ⟨rfl, rfl⟩
      go_wp2_with (fail)
      refine (I.out _).mono ?_
      rintro e z1 ⟨rfl, rfl⟩
      go_wp2_with (fail)
      go_ret
      exact ⟨by rw [HE.out]; rfl, rfl⟩
    · skip
      have HE := Lib.hid (show loadP 11 addr word = u32 (sx (word / 2 ^ 16) 8) from by unfold loadP; rw [if_neg (by rw [hf]; decide), hk]; rfl)
      rw [show (2 : Nat) ^ 16 = 65536 by decide] at HE
      have hq : (word : Int) / 65536 = ((word / 65536 : Nat) : Int) := by omega
      have hy : word / 65536 < 2 ^ 32 := Nat.lt_of_le_of_lt (Nat.div_le_self _ _) hw
      generalize word / 65536 = y at *
      have l4 : bits .and .u32 (addr : Int) 3 = 2 := by rw [low4 addr ha, hk]; rfl
      have I : Hid (∀ z : World, Calls Tryz.prog 153 #[.int .i64 11] z fun e z' => e = .returned (.bool false) ∧ z' = z) := Lib.hid (fun z => isst_calls 11 z (by decide))
      have F : Hid (∀ z : World, Calls Tryz.prog 141 #[.int .i64 11, .int .u32 (addr : Int)] z fun e z' => e = .returned (.bool true) ∧ z' = z) := Lib.hid (fun z => by have := fits_calls 11 addr z (by decide) ha; rwa [hf] at this)
      have v1 := wrap_i8' y
      have v2 := sx8_lo y
      have v4 := wrap_u32 (sx y 8)
      have v5 := mod_u32 (sx y 8)
      generalize u32 (sx y 8) = r at *
      generalize sx y 8 = x at *
      have v3 : IntKind.i32.wrap x = x := by rw [IntKind.wrap_i32]; omega
      clear hf hk
      go_enter Tryz.func144, Tryz.ntmps144
      go_wp2_with (fail)
      refine (F.out _).mono ?_
      rintro e z1 ⟨rfl, rfl⟩
      go_wp2_with (fail)
      refine (I.out _).mono ?_
      rintro e z1 ⟨rfl, rfl⟩
      go_wp2_with (fail)
      go_ret
      exact ⟨by rw [HE.out]; rfl, rfl⟩
    · skip
      have HE := Lib.hid (show loadP 11 addr word = u32 (sx (word / 2 ^ 24) 8) from by unfold loadP; rw [if_neg (by rw [hf]; decide), hk]; rfl)
      rw [show (2 : Nat) ^ 24 = 16777216 by decide] at HE
      have hq : (word : Int) / 16777216 = ((word / 16777216 : Nat) : Int) := by omega
      have hy : word / 16777216 < 2 ^ 32 := Nat.lt_of_le_of_lt (Nat.div_le_self _ _) hw
      generalize word / 16777216 = y at *
      have l4 : bits .and .u32 (addr : Int) 3 = 3 := by rw [low4 addr ha, hk]; rfl
      have I : Hid (∀ z : World, Calls Tryz.prog 153 #[.int .i64 11] z fun e z' => e = .returned (.bool false) ∧ z' = z) := Lib.hid (fun z => isst_calls 11 z (by decide))
      have F : Hid (∀ z : World, Calls Tryz.prog 141 #[.int .i64 11, .int .u32 (addr : Int)] z fun e z' => e = .returned (.bool true) ∧ z' = z) := Lib.hid (fun z => by have := fits_calls 11 addr z (by decide) ha; rwa [hf] at this)
      have v1 := wrap_i8' y
      have v2 := sx8_lo y
      have v4 := wrap_u32 (sx y 8)
      have v5 := mod_u32 (sx y 8)
      generalize u32 (sx y 8) = r at *
      generalize sx y 8 = x at *
      have v3 : IntKind.i32.wrap x = x := by rw [IntKind.wrap_i32]; omega
      clear hf hk
      go_enter Tryz.func144, Tryz.ntmps144
      go_wp2_with (fail)
      refine (F.out _).mono ?_
      rintro e z1 ⟨rfl, rfl⟩
      go_wp2_with (fail)
      refine (I.out _).mono ?_
      rintro e z1 ⟨rfl, rfl⟩
      go_wp2_with (fail)
      go_ret
      exact ⟨by rw [HE.out]; rfl, rfl⟩
  · have h2 := fits2 hf rfl
    rcases (by omega : addr % 4 = 0 ∨ addr % 4 = 2) with hk | hk
    · skip
      have HE := Lib.hid (show loadP 12 addr word = u32 (sx (word / 2 ^ 0) 16) from by unfold loadP; rw [if_neg (by rw [hf]; decide), hk]; rfl)
      rw [Nat.pow_zero, Nat.div_one] at HE
      have hy : word < 2 ^ 32 := hw
      generalize word = y at *
      have l4 : bits .and .u32 (addr : Int) 3 = 0 := by rw [low4 addr ha, hk]; rfl
      have I : Hid (∀ z : World, Calls Tryz.prog 153 #[.int .i64 12] z fun e z' => e = .returned (.bool false) ∧ z' = z) := Lib.hid (fun z => isst_calls 12 z (by decide))
      have F : Hid (∀ z : World, Calls Tryz.prog 141 #[.int .i64 12, .int .u32 (addr : Int)] z fun e z' => e = .returned (.bool true) ∧ z' = z) := Lib.hid (fun z => by have := fits_calls 12 addr z (by decide) ha; rwa [hf] at this)
      have v1 := wrap_i16' y
      have v2 := sx16_lo y
      have v4 := wrap_u32 (sx y 16)
      have v5 := mod_u32 (sx y 16)
      generalize u32 (sx y 16) = r at *
      generalize sx y 16 = x at *
      have v3 : IntKind.i32.wrap x = x := by rw [IntKind.wrap_i32]; omega
      clear hf hk
      go_enter Tryz.func144, Tryz.ntmps144
      go_wp2_with (fail)
      refine (F.out _).mono ?_
      rintro e z1 ⟨rfl, rfl⟩
      go_wp2_with (fail)
      refine (I.out _).mono ?_
      rintro e z1 ⟨rfl, rfl⟩
      go_wp2_with (fail)
      go_ret
      exact ⟨by rw [HE.out]; rfl, rfl⟩
    · skip
      have HE := Lib.hid (show loadP 12 addr word = u32 (sx (word / 2 ^ 16) 16) from by unfold loadP; rw [if_neg (by rw [hf]; decide), hk]; rfl)
      rw [show (2 : Nat) ^ 16 = 65536 by decide] at HE
      have hq : (word : Int) / 65536 = ((word / 65536 : Nat) : Int) := by omega
      have hy : word / 65536 < 2 ^ 32 := Nat.lt_of_le_of_lt (Nat.div_le_self _ _) hw
      generalize word / 65536 = y at *
      have l4 : bits .and .u32 (addr : Int) 3 = 2 := by rw [low4 addr ha, hk]; rfl
      have I : Hid (∀ z : World, Calls Tryz.prog 153 #[.int .i64 12] z fun e z' => e = .returned (.bool false) ∧ z' = z) := Lib.hid (fun z => isst_calls 12 z (by decide))
      have F : Hid (∀ z : World, Calls Tryz.prog 141 #[.int .i64 12, .int .u32 (addr : Int)] z fun e z' => e = .returned (.bool true) ∧ z' = z) := Lib.hid (fun z => by have := fits_calls 12 addr z (by decide) ha; rwa [hf] at this)
      have v1 := wrap_i16' y
      have v2 := sx16_lo y
      have v4 := wrap_u32 (sx y 16)
      have v5 := mod_u32 (sx y 16)
      generalize u32 (sx y 16) = r at *
      generalize sx y 16 = x at *
      have v3 : IntKind.i32.wrap x = x := by rw [IntKind.wrap_i32]; omega
      clear hf hk
      go_enter Tryz.func144, Tryz.ntmps144
      go_wp2_with (fail)
      refine (F.out _).mono ?_
      rintro e z1 ⟨rfl, rfl⟩
      go_wp2_with (fail)
      refine (I.out _).mono ?_
      rintro e z1 ⟨rfl, rfl⟩
      go_wp2_with (fail)
      go_ret
      exact ⟨by rw [HE.out]; rfl, rfl⟩
  · have hk := fits4 hf rfl
    have HE := Lib.hid (show loadP 13 addr word = word / 2 ^ 0 from by unfold loadP; rw [if_neg (by rw [hf]; decide), hk]; rfl)
    rw [Nat.pow_zero, Nat.div_one] at HE
    have hy : word < 2 ^ 32 := hw
    generalize word = y at *
    have l4 : bits .and .u32 (addr : Int) 3 = 0 := by rw [low4 addr ha, hk]; rfl
    have I : Hid (∀ z : World, Calls Tryz.prog 153 #[.int .i64 13] z fun e z' => e = .returned (.bool false) ∧ z' = z) := Lib.hid (fun z => isst_calls 13 z (by decide))
    have F : Hid (∀ z : World, Calls Tryz.prog 141 #[.int .i64 13, .int .u32 (addr : Int)] z fun e z' => e = .returned (.bool true) ∧ z' = z) := Lib.hid (fun z => by have := fits_calls 13 addr z (by decide) ha; rwa [hf] at this)
    clear hf hk
    go_enter Tryz.func144, Tryz.ntmps144
    go_wp2_with (fail)
    refine (F.out _).mono ?_
    rintro e z1 ⟨rfl, rfl⟩
    go_wp2_with (fail)
    refine (I.out _).mono ?_
    rintro e z1 ⟨rfl, rfl⟩
    go_wp2_with (fail)
    go_ret
    exact ⟨by rw [HE.out]; rfl, rfl⟩
  · rcases (by omega : addr % 4 = 0 ∨ addr % 4 = 1 ∨ addr % 4 = 2 ∨ addr % 4 = 3) with hk | hk | hk | hk
    · skip
      have HE := Lib.hid (show loadP 14 addr word = word / 2 ^ 0 % 256 from by unfold loadP; rw [if_neg (by rw [hf]; decide), hk]; rfl)
      rw [Nat.pow_zero, Nat.div_one] at HE
      have hy : word < 2 ^ 32 := hw
      generalize word = y at *
      have l4 : bits .and .u32 (addr : Int) 3 = 0 := by rw [low4 addr ha, hk]; rfl
      have I : Hid (∀ z : World, Calls Tryz.prog 153 #[.int .i64 14] z fun e z' => e = .returned (.bool false) ∧ z' = z) := Lib.hid (fun z => isst_calls 14 z (by decide))
      have F : Hid (∀ z : World, Calls Tryz.prog 141 #[.int .i64 14, .int .u32 (addr : Int)] z fun e z' => e = .returned (.bool true) ∧ z' = z) := Lib.hid (fun z => by have := fits_calls 14 addr z (by decide) ha; rwa [hf] at this)
      have v1 : bits .and .u32 (y : Int) 255 = ((y % 256 : Nat) : Int) := lo_and y 8 hy (by decide)
      generalize y % 256 = r at *
      clear hf hk
      go_enter Tryz.func144, Tryz.ntmps144
      go_wp2_with (fail)
      refine (F.out _).mono ?_
      rintro e z1 ⟨rfl, rfl⟩
      go_wp2_with (fail)
      refine (I.out _).mono ?_
      rintro e z1 ⟨rfl, rfl⟩
      go_wp2_with (fail)
      go_ret
      exact ⟨by rw [HE.out]; rfl, rfl⟩
    · skip
      have HE := Lib.hid (show loadP 14 addr word = word / 2 ^ 8 % 256 from by unfold loadP; rw [if_neg (by rw [hf]; decide), hk]; rfl)
      rw [show (2 : Nat) ^ 8 = 256 by decide] at HE
      have hq : (word : Int) / 256 = ((word / 256 : Nat) : Int) := by omega
      have hy : word / 256 < 2 ^ 32 := Nat.lt_of_le_of_lt (Nat.div_le_self _ _) hw
      generalize word / 256 = y at *
      have l4 : bits .and .u32 (addr : Int) 3 = 1 := by rw [low4 addr ha, hk]; rfl
      have I : Hid (∀ z : World, Calls Tryz.prog 153 #[.int .i64 14] z fun e z' => e = .returned (.bool false) ∧ z' = z) := Lib.hid (fun z => isst_calls 14 z (by decide))
      have F : Hid (∀ z : World, Calls Tryz.prog 141 #[.int .i64 14, .int .u32 (addr : Int)] z fun e z' => e = .returned (.bool true) ∧ z' = z) := Lib.hid (fun z => by have := fits_calls 14 addr z (by decide) ha; rwa [hf] at this)
      have v1 : bits .and .u32 (y : Int) 255 = ((y % 256 : Nat) : Int) := lo_and y 8 hy (by decide)
      generalize y % 256 = r at *
      clear hf hk
      go_enter Tryz.func144, Tryz.ntmps144
      go_wp2_with (fail)
      refine (F.out _).mono ?_
      rintro e z1 ⟨rfl, rfl⟩
      go_wp2_with (fail)
      refine (I.out _).mono ?_
      rintro e z1 ⟨rfl, rfl⟩
      go_wp2_with (fail)
      go_ret
      exact ⟨by rw [HE.out]; rfl, rfl⟩
    · skip
      have HE := Lib.hid (show loadP 14 addr word = word / 2 ^ 16 % 256 from by unfold loadP; rw [if_neg (by rw [hf]; decide), hk]; rfl)
      rw [show (2 : Nat) ^ 16 = 65536 by decide] at HE
      have hq : (word : Int) / 65536 = ((word / 65536 : Nat) : Int) := by omega
      have hy : word / 65536 < 2 ^ 32 := Nat.lt_of_le_of_lt (Nat.div_le_self _ _) hw
      generalize word / 65536 = y at *
      have l4 : bits .and .u32 (addr : Int) 3 = 2 := by rw [low4 addr ha, hk]; rfl
      have I : Hid (∀ z : World, Calls Tryz.prog 153 #[.int .i64 14] z fun e z' => e = .returned (.bool false) ∧ z' = z) := Lib.hid (fun z => isst_calls 14 z (by decide))
      have F : Hid (∀ z : World, Calls Tryz.prog 141 #[.int .i64 14, .int .u32 (addr : Int)] z fun e z' => e = .returned (.bool true) ∧ z' = z) := Lib.hid (fun z => by have := fits_calls 14 addr z (by decide) ha; rwa [hf] at this)
      have v1 : bits .and .u32 (y : Int) 255 = ((y % 256 : Nat) : Int) := lo_and y 8 hy (by decide)
      generalize y % 256 = r at *
      clear hf hk
      go_enter Tryz.func144, Tryz.ntmps144
      go_wp2_with (fail)
      refine (F.out _).mono ?_
      rintro e z1 ⟨rfl, rfl⟩
      go_wp2_with (fail)
      refine (I.out _).mono ?_
      rintro e z1 ⟨rfl, rfl⟩
      go_wp2_with (fail)
      go_ret
      exact ⟨by rw [HE.out]; rfl, rfl⟩
    · skip
      have HE := Lib.hid (show loadP 14 addr word = word / 2 ^ 24 % 256 from by unfold loadP; rw [if_neg (by rw [hf]; decide), hk]; rfl)
      rw [show (2 : Nat) ^ 24 = 16777216 by decide] at HE
      have hq : (word : Int) / 16777216 = ((word / 16777216 : Nat) : Int) := by omega
      have hy : word / 16777216 < 2 ^ 32 := Nat.lt_of_le_of_lt (Nat.div_le_self _ _) hw
      generalize word / 16777216 = y at *
      have l4 : bits .and .u32 (addr : Int) 3 = 3 := by rw [low4 addr ha, hk]; rfl
      have I : Hid (∀ z : World, Calls Tryz.prog 153 #[.int .i64 14] z fun e z' => e = .returned (.bool false) ∧ z' = z) := Lib.hid (fun z => isst_calls 14 z (by decide))
      have F : Hid (∀ z : World, Calls Tryz.prog 141 #[.int .i64 14, .int .u32 (addr : Int)] z fun e z' => e = .returned (.bool true) ∧ z' = z) := Lib.hid (fun z => by have := fits_calls 14 addr z (by decide) ha; rwa [hf] at this)
      have v1 : bits .and .u32 (y : Int) 255 = ((y % 256 : Nat) : Int) := lo_and y 8 hy (by decide)
      generalize y % 256 = r at *
      clear hf hk
      go_enter Tryz.func144, Tryz.ntmps144
      go_wp2_with (fail)
      refine (F.out _).mono ?_
      rintro e z1 ⟨rfl, rfl⟩
      go_wp2_with (fail)
      refine (I.out _).mono ?_
      rintro e z1 ⟨rfl, rfl⟩
      go_wp2_with (fail)
      go_ret
      exact ⟨by rw [HE.out]; rfl, rfl⟩
  · have h2 := fits2 hf rfl
    rcases (by omega : addr % 4 = 0 ∨ addr % 4 = 2) with hk | hk
    · skip
      have HE := Lib.hid (show loadP 15 addr word = word / 2 ^ 0 % 65536 from by unfold loadP; rw [if_neg (by rw [hf]; decide), hk]; rfl)
      rw [Nat.pow_zero, Nat.div_one] at HE
      have hy : word < 2 ^ 32 := hw
      generalize word = y at *
      have l4 : bits .and .u32 (addr : Int) 3 = 0 := by rw [low4 addr ha, hk]; rfl
      have I : Hid (∀ z : World, Calls Tryz.prog 153 #[.int .i64 15] z fun e z' => e = .returned (.bool false) ∧ z' = z) := Lib.hid (fun z => isst_calls 15 z (by decide))
      have F : Hid (∀ z : World, Calls Tryz.prog 141 #[.int .i64 15, .int .u32 (addr : Int)] z fun e z' => e = .returned (.bool true) ∧ z' = z) := Lib.hid (fun z => by have := fits_calls 15 addr z (by decide) ha; rwa [hf] at this)
      have v1 : bits .and .u32 (y : Int) 65535 = ((y % 65536 : Nat) : Int) := lo_and y 16 hy (by decide)
      generalize y % 65536 = r at *
      clear hf hk
      go_enter Tryz.func144, Tryz.ntmps144
      go_wp2_with (fail)
      refine (F.out _).mono ?_
      rintro e z1 ⟨rfl, rfl⟩
      go_wp2_with (fail)
      refine (I.out _).mono ?_
      rintro e z1 ⟨rfl, rfl⟩
      go_wp2_with (fail)
      go_ret
      exact ⟨by rw [HE.out]; rfl, rfl⟩
    · skip
      have HE := Lib.hid (show loadP 15 addr word = word / 2 ^ 16 % 65536 from by unfold loadP; rw [if_neg (by rw [hf]; decide), hk]; rfl)
      rw [show (2 : Nat) ^ 16 = 65536 by decide] at HE
      have hq : (word : Int) / 65536 = ((word / 65536 : Nat) : Int) := by omega
      have hy : word / 65536 < 2 ^ 32 := Nat.lt_of_le_of_lt (Nat.div_le_self _ _) hw
      generalize word / 65536 = y at *
      have l4 : bits .and .u32 (addr : Int) 3 = 2 := by rw [low4 addr ha, hk]; rfl
      have I : Hid (∀ z : World, Calls Tryz.prog 153 #[.int .i64 15] z fun e z' => e = .returned (.bool false) ∧ z' = z) := Lib.hid (fun z => isst_calls 15 z (by decide))
      have F : Hid (∀ z : World, Calls Tryz.prog 141 #[.int .i64 15, .int .u32 (addr : Int)] z fun e z' => e = .returned (.bool true) ∧ z' = z) := Lib.hid (fun z => by have := fits_calls 15 addr z (by decide) ha; rwa [hf] at this)
      have v1 : bits .and .u32 (y : Int) 65535 = ((y % 65536 : Nat) : Int) := lo_and y 16 hy (by decide)
      generalize y % 65536 = r at *
      clear hf hk
      go_enter Tryz.func144, Tryz.ntmps144
      go_wp2_with (fail)
      refine (F.out _).mono ?_
      rintro e z1 ⟨rfl, rfl⟩
      go_wp2_with (fail)
      refine (I.out _).mono ?_
      rintro e z1 ⟨rfl, rfl⟩
      go_wp2_with (fail)
      go_ret
      exact ⟨by rw [HE.out]; rfl, rfl⟩
end Go.Proofs.YtmdjhahafjlebaaGreatDoor

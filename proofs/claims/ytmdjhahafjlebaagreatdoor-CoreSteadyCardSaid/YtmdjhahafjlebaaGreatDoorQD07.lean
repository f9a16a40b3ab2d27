/- Fields of instructions, signs: the arithmetic behind the code's own forms. -/
import Derived.Test.YtmdjhahafjlebaaGreatDoorQD03
import Derived.Test.YtmdjhahafjlebaaGreatDoorQD06
import Derived.Test.YtmdjhahafjlebaaGreatDoorProg
import Derived.Deep.LoopGhost
namespace Go.Proofs.YtmdjhahafjlebaaGreatDoor
open Go.RowKit Go.Dio
set_option linter.unusedSimpArgs false
set_option linter.unusedVariables false

theorem fb_lt (w a n : Nat) : fb w a n < 2 ^ n := Nat.mod_lt _ (Nat.pow_pos (by decide))
theorem fb_lt32 (w a n : Nat) (hn : n ≤ 32) : fb w a n < 2 ^ 32 := Nat.lt_of_lt_of_le (fb_lt w a n) (Nat.pow_le_pow_right (by decide) hn)
theorem u32_lt (x : Int) : u32 x < 2 ^ 32 := by unfold u32; omega
theorem wrap_u32 (x : Int) : IntKind.u32.wrap x = ((u32 x : Nat) : Int) := by rw [IntKind.wrap_u32]; unfold u32; omega
theorem u32_id {n : Nat} (h : n < 2 ^ 32) : u32 (n : Int) = n := by unfold u32; omega
theorem wrap_s32 (n : Nat) (h : n < 2 ^ 32) : IntKind.i32.wrap (n : Int) = s32 n := by rw [IntKind.wrap_i32]; unfold s32; split <;> omega
theorem u32_s32 (n : Nat) (h : n < 2 ^ 32) : u32 (s32 n) = n := by unfold u32 s32; split <;> omega
theorem s32_lo (n : Nat) : n < 2 ^ 32 → -2147483648 ≤ s32 n := by unfold s32; split <;> omega
theorem s32_hi (n : Nat) : n < 2 ^ 32 → s32 n ≤ 2147483647 := by unfold s32; split <;> omega
theorem wrap_i64_s32 (n : Nat) (h : n < 2 ^ 32) : IntKind.i64.wrap (s32 n) = s32 n := by
  have := s32_lo n h; have := s32_hi n h; rw [IntKind.wrap_i64]; omega

/-- Bits of a word, as the code reckons them. -/
theorem fb_and (w a n : Nat) (hw : w < 2 ^ 32) (hn : n ≤ 32) : bits .and .u64 ((w : Int) / (2 : Int) ^ a) ((2 : Int) ^ n - 1) = ((fb w a n : Nat) : Int) := by
  have e1 : ((w : Int) / (2 : Int) ^ a) = ((w / 2 ^ a : Nat) : Int) := by push_cast; rfl
  have e2 : ((2 : Int) ^ n - 1) = ((2 ^ n - 1 : Nat) : Int) := by
    have := Nat.pow_pos (a := 2) (n := n) (by decide); rw [Int.ofNat_sub (by omega)]; push_cast; rfl
  have h1 : w / 2 ^ a < 2 ^ 64 := Nat.lt_of_le_of_lt (Nat.div_le_self _ _) (by omega)
  have h2 : 2 ^ n - 1 < 2 ^ 64 := Nat.lt_of_le_of_lt (Nat.sub_le _ _) (Nat.pow_lt_pow_right (by decide) (by omega))
  rw [e1, e2, and64 _ _ h1 h2, Nat.and_two_pow_sub_one_eq_mod]
  rfl
/-- One bit more. -/
theorem fb_succ (w a k : Nat) : fb w a (k + 1) = fb w a k ||| (w / 2 ^ (a + k) % 2 * 2 ^ k) := by
  apply Nat.eq_of_testBit_eq
  intro i
  have hm : w / 2 ^ (a + k) % 2 * 2 ^ k = (w / 2 ^ (a + k) % 2 ^ 1) <<< k := by rw [Nat.shiftLeft_eq]
  rw [Nat.testBit_or, hm, Nat.testBit_shiftLeft]
  unfold fb
  rw [Nat.testBit_mod_two_pow, Nat.testBit_mod_two_pow, Nat.testBit_div_two_pow, Nat.testBit_mod_two_pow, Nat.testBit_div_two_pow]
  by_cases h1 : i < k
  · simp [h1, show i < k + 1 by omega, show ¬ k ≤ i by omega]
  · by_cases h2 : i = k
    · subst h2; simp [Nat.add_comm]
    · simp [h1, show ¬ i < k + 1 by omega, show ¬ i - k < 1 by omega]
/-- A sign, as the code reckons it. -/
theorem sx12 (n : Nat) : RowKit.wrap32 ((n : Int) * 1048576 % 4294967296) / 1048576 = sx n 12 := by
  unfold RowKit.wrap32 sx; split <;> omega
theorem sx13 (n : Nat) : RowKit.wrap32 ((n : Int) * 524288 % 4294967296) / 524288 = sx n 13 := by
  unfold RowKit.wrap32 sx; split <;> omega
theorem sx21 (n : Nat) : RowKit.wrap32 ((n : Int) * 2048 % 4294967296) / 2048 = sx n 21 := by
  unfold RowKit.wrap32 sx; split <;> omega
theorem sx8 (n : Nat) : RowKit.wrap32 ((n : Int) * 16777216 % 4294967296) / 16777216 = sx n 8 := by
  unfold RowKit.wrap32 sx; split <;> omega
theorem sx16 (n : Nat) : RowKit.wrap32 ((n : Int) * 65536 % 4294967296) / 65536 = sx n 16 := by
  unfold RowKit.wrap32 sx; split <;> omega
theorem sx_lo (n b : Nat) (h1 : 1 ≤ b) (h : b ≤ 21) : -2147483648 ≤ sx n b ∧ sx n b ≤ 2147483647 := by
  have hp : (2 : Nat) ^ b ≤ 2 ^ 21 := Nat.pow_le_pow_right (by decide) h
  have hq : (2 : Nat) ^ b = 2 * 2 ^ (b - 1) := by rw [← Nat.pow_succ']; congr 1; omega
  have hm := Nat.mod_lt n (Nat.pow_pos (a := 2) (n := b) (by decide))
  have hz : ((2 : Int) ^ b) = ((2 ^ b : Nat) : Int) := by push_cast; rfl
  unfold sx
  rw [hz]
  generalize (2 : Nat) ^ b = P at *
  split <;> omega
theorem or5 (a b : Nat) (hb : b < 32) : a * 32 ||| b = a * 32 + b := by
  have := Nat.two_pow_add_eq_or_of_lt (i := 5) (by simpa using hb) a
  rw [Nat.mul_comm] at this; rw [← this]
theorem or_add (a b i : Nat) (hb : b < 2 ^ i) : a * 2 ^ i ||| b = a * 2 ^ i + b := by
  have := Nat.two_pow_add_eq_or_of_lt hb a
  rw [Nat.mul_comm] at this; rw [← this]
set_option maxRecDepth 100000 in
theorem jN_or (a b c d : Nat) (ha : a < 2 ^ 1) (hb : b < 2 ^ 8) (hc : c < 2 ^ 1) (hd : d < 2 ^ 10) : ∃ B C D E F G : Nat, IntKind.u32.wrap ((a : Int) * 1048576) = D ∧ IntKind.u32.wrap ((b : Int) * 4096) = E ∧ IntKind.u32.wrap ((c : Int) * 2048) = F ∧ IntKind.u32.wrap ((d : Int) * 2) = G ∧
    bits .or .u32 (D : Int) (E : Int) = C ∧ bits .or .u32 (C : Int) (F : Int) = B ∧ bits .or .u32 (B : Int) (G : Int) = (jN a b c d : Nat) := by
  refine ⟨a * 1048576 + b * 4096 + c * 2048, a * 1048576 + b * 4096, a * 1048576, b * 4096, c * 2048, d * 2, ?_, ?_, ?_, ?_, ?_, ?_, ?_⟩
  · rw [wrap32 (by omega) (by omega)]; omega
  · rw [wrap32 (by omega) (by omega)]; omega
  · rw [wrap32 (by omega) (by omega)]; omega
  · rw [wrap32 (by omega) (by omega)]; omega
  · rw [or32 _ _ (by omega) (by omega), or_add _ _ 20 (by omega)]
  · rw [or32 _ _ (by omega) (by omega), show a * 1048576 + b * 4096 = (a * 256 + b) * 2 ^ 12 by omega, or_add _ _ 12 (by omega)]
  · rw [or32 _ _ (by omega) (by omega), show a * 1048576 + b * 4096 + c * 2048 = (a * 512 + b * 2 + c) * 2 ^ 11 by omega, or_add _ _ 11 (by omega), jN]; congr 1; omega
theorem bN_or (a b c d : Nat) (ha : a < 2 ^ 1) (hb : b < 2 ^ 1) (hc : c < 2 ^ 6) (hd : d < 2 ^ 4) : ∃ B C D E F G : Nat, IntKind.u32.wrap ((a : Int) * 4096) = D ∧ IntKind.u32.wrap ((b : Int) * 2048) = E ∧ IntKind.u32.wrap ((c : Int) * 32) = F ∧ IntKind.u32.wrap ((d : Int) * 2) = G ∧
    bits .or .u32 (D : Int) (E : Int) = C ∧ bits .or .u32 (C : Int) (F : Int) = B ∧ bits .or .u32 (B : Int) (G : Int) = (bN a b c d : Nat) := by
  refine ⟨a * 4096 + b * 2048 + c * 32, a * 4096 + b * 2048, a * 4096, b * 2048, c * 32, d * 2, ?_, ?_, ?_, ?_, ?_, ?_, ?_⟩
  · rw [wrap32 (by omega) (by omega)]; omega
  · rw [wrap32 (by omega) (by omega)]; omega
  · rw [wrap32 (by omega) (by omega)]; omega
  · rw [wrap32 (by omega) (by omega)]; omega
  · rw [or32 _ _ (by omega) (by omega), or_add _ _ 12 (by omega)]
  · rw [or32 _ _ (by omega) (by omega), show a * 4096 + b * 2048 = (a * 2 + b) * 2 ^ 11 by omega, or_add _ _ 11 (by omega)]
  · rw [or32 _ _ (by omega) (by omega), show a * 4096 + b * 2048 + c * 32 = (a * 128 + b * 64 + c) * 2 ^ 5 by omega, or_add _ _ 5 (by omega), bN]; congr 1; omega
theorem sN_or (a b : Nat) (ha : a < 2 ^ 7) (hb : b < 2 ^ 5) : ∃ B : Nat, IntKind.u32.wrap ((a : Int) * 32) = B ∧ bits .or .u32 (B : Int) (b : Int) = (a * 32 + b : Nat) :=
  ⟨a * 32, by rw [wrap32 (by omega) (by omega)]; omega, by rw [or32 _ _ (by omega) (by omega), or_add _ _ 5 hb]⟩
theorem andnot_low (a k : Nat) (h : a < 2 ^ 32) : a &&& (4294967295 ^^^ (2 ^ k - 1)) = a / 2 ^ k * 2 ^ k := by
  apply Nat.eq_of_testBit_eq
  intro i
  have e2 : a / 2 ^ k * 2 ^ k = (a / 2 ^ k) <<< k := by rw [Nat.shiftLeft_eq]
  rw [e2, Nat.testBit_and, Nat.testBit_xor, show (4294967295 : Nat) = 2 ^ 32 - 1 by decide, Nat.testBit_two_pow_sub_one, Nat.testBit_two_pow_sub_one, Nat.testBit_shiftLeft, Nat.testBit_div_two_pow]
  by_cases h1 : k ≤ i
  · rw [show i - k + k = i by omega]
    by_cases h2 : i < 32
    · simp [h1, h2, show ¬ i < k by omega]
    · rw [Nat.testBit_lt_two_pow (Nat.lt_of_lt_of_le h (Nat.pow_le_pow_right (by decide) (show 32 ≤ i by omega)))]; simp
  · by_cases h2 : i < 32
    · simp [h1, h2, show i < k by omega]
    · rw [Nat.testBit_lt_two_pow (Nat.lt_of_lt_of_le h (Nat.pow_le_pow_right (by decide) (show 32 ≤ i by omega)))]; simp [h1]
/-- The higher bits alone. -/
theorem high12 (a : Nat) (h : a < 2 ^ 32) : bits .andNot .u32 (a : Int) 4095 = ((a / 4096 * 4096 : Nat) : Int) := by
  have := andnot32 a 4095 h (by decide); rw [show (4095 : Nat) = 2 ^ 12 - 1 by decide, andnot_low a 12 h] at this; exact this
theorem high2 (a : Nat) (h : a < 2 ^ 32) : bits .andNot .u32 (a : Int) 3 = ((a / 4 * 4 : Nat) : Int) := by
  have := andnot32 a 3 h (by decide); rw [show (3 : Nat) = 2 ^ 2 - 1 by decide, andnot_low a 2 h] at this; exact this
theorem high1 (a : Nat) (h : a < 2 ^ 32) : bits .andNot .u32 (a : Int) 1 = ((a / 2 * 2 : Nat) : Int) := by
  have := andnot32 a 1 h (by decide); rw [show (1 : Nat) = 2 ^ 1 - 1 by decide, andnot_low a 1 h] at this; exact this
theorem lo_and (a k : Nat) (h : a < 2 ^ 32) (hk : k ≤ 32) : bits .and .u32 (a : Int) ((2 ^ k - 1 : Nat) : Int) = ((a % 2 ^ k : Nat) : Int) := by
  rw [and32 _ _ h (by have := Nat.pow_le_pow_right (n := 2) (by decide) hk; have := Nat.pow_pos (a := 2) (n := k) (by decide); omega), Nat.and_two_pow_sub_one_eq_mod]
theorem hi_and (a k : Nat) (h : a < 2 ^ 32) (hk : k ≤ 32) : bits .and .u32 (a : Int) ((4294967295 ^^^ (2 ^ k - 1) : Nat) : Int) = ((a / 2 ^ k * 2 ^ k : Nat) : Int) := by
  rw [and32 _ _ h (Nat.xor_lt_two_pow (n := 32) (by decide) (by have := Nat.pow_le_pow_right (n := 2) (by decide) hk; have := Nat.pow_pos (a := 2) (n := k) (by decide); omega)), andnot_low a k h]
theorem refShr (w j : Nat) (hw : w < 2 ^ 32) : bits .and .u32 ((w : Int) / (2 : Int) ^ j) 1 = ((w / 2 ^ j % 2 : Nat) : Int) := by
  have e1 : ((w : Int) / (2 : Int) ^ j) = ((w / 2 ^ j : Nat) : Int) := by push_cast; rfl
  have := lo_and (w / 2 ^ j) 1 (Nat.lt_of_le_of_lt (Nat.div_le_self _ _) hw) (by decide)
  rw [e1]; exact this
theorem refShl (b k : Nat) (hb : b < 2) (hk : k < 32) : IntKind.u32.wrap ((b : Int) * (2 : Int) ^ k) = ((b * 2 ^ k : Nat) : Int) := by
  have hp := Nat.pow_le_pow_right (n := 2) (by decide) (show k + 1 ≤ 32 by omega)
  rw [Nat.pow_succ] at hp
  have e : ((b : Int) * (2 : Int) ^ k) = ((b * 2 ^ k : Nat) : Int) := by push_cast; rfl
  have h2 : b * 2 ^ k < 2 ^ 32 := by
    have : b * 2 ^ k ≤ 1 * 2 ^ k := Nat.mul_le_mul_right _ (by omega)
    have := Nat.pow_pos (a := 2) (n := k) (by decide)
    omega
  rw [e]; exact wrap32 (by omega) (by omega)
end Go.Proofs.YtmdjhahafjlebaaGreatDoor

namespace Go.Proofs.YtmdjhahafjlebaaGreatDoor
open Go.RowKit Go.Dio
set_option linter.unusedSimpArgs false
set_option linter.unusedVariables false

theorem fBits_calls (w a n : Nat) (z : World) (hw : w < 2 ^ 32) (ha : a < 32) (h1 : 1 ≤ n) (hn : n ≤ 32) :
    Calls Tryz.prog 138 #[.int .u32 (w : Int), .int .i64 (a : Int), .int .i64 (n : Int)] z fun e z' => e = .returned (.int .u32 (fb w a n : Int)) ∧ ∃ k, z' = z.drewN k := by
  have d1 : decide ((a : Int) < 0) = false := decide_eq_false (by omega)
  have d2 : decide ((32 : Int) ≤ (a : Int)) = false := decide_eq_false (by omega)
  have d3 : decide ((n : Int) < 1) = false := decide_eq_false (by omega)
  have d4 : decide ((32 : Int) < (n : Int)) = false := decide_eq_false (by omega)
  have d5 : decide ((n : Int) < 0) = false := decide_eq_false (by omega)
  have p1 : IntKind.u64.wrap (w : Int) = (w : Int) := wrap64 (by omega) (by omega)
  have p2 : IntKind.u64.wrap ((2 : Int) ^ n) = (2 : Int) ^ n := pow64 n (by omega)
  have hB := fb_and w a n hw hn
  have hp := Nat.pow_lt_pow_right (a := 2) (by decide) (show n < 64 by omega)
  have hp0 := Nat.pow_pos (a := 2) (n := n) (by decide)
  have p3 : IntKind.u64.wrap ((2 : Int) ^ n - 1) = (2 : Int) ^ n - 1 := by
    rw [show ((2 : Int) ^ n) = ((2 ^ n : Nat) : Int) by push_cast; rfl]; exact wrap64 (by omega) (by omega)
  have hf := fb_lt32 w a n hn
  have p4 : IntKind.u32.wrap (fb w a n : Int) = (fb w a n : Int) := wrap32 (by omega) (by omega)
  generalize fb w a n = r at *
  go_enter Tryz.func138, Tryz.ntmps138
  go_wp2_with (fail)
  go_quiet (fail)
  go_wp2_with (fail)
  go_ret
  exact ⟨rfl, _, rfl⟩

theorem fSign_calls (n b : Nat) (z : World) (hb : b = 12 ∨ b = 13 ∨ b = 21) :
    Calls Tryz.prog 139 #[.int .u32 (n : Int), .int .i64 (b : Int)] z fun e z' => e = .returned (.int .i32 (sx n b)) ∧ z' = z := by
  rcases hb with rfl | rfl | rfl
  · have e := sx12 n
    go_enter Tryz.func139, Tryz.ntmps139
    go_wp2_with (fail)
    go_ret
    exact ⟨by rw [← e]; rfl, rfl⟩
  · have e := sx13 n
    go_enter Tryz.func139, Tryz.ntmps139
    go_wp2_with (fail)
    go_ret
    exact ⟨by rw [← e]; rfl, rfl⟩
  · have e := sx21 n
    go_enter Tryz.func139, Tryz.ntmps139
    go_wp2_with (fail)
    go_ret
    exact ⟨by rw [← e]; rfl, rfl⟩

theorem fImmI_calls (w : Nat) (z : World) (hw : w < 2 ^ 32) :
    Calls Tryz.prog 111 #[.int .u32 (w : Int)] z fun e z' => e = .returned (.int .i32 (immI w)) ∧ ∃ k, z' = z.drewN k := by
  unfold immI
  go_enter Tryz.func111, Tryz.ntmps111
  go_wp2_with (fail)
  refine (fBits_calls w 20 12 _ hw (by decide) (by decide) (by decide)).mono ?_
  rintro e z1 ⟨rfl, k, rfl⟩
  go_wp2_with (fail)
  refine (fSign_calls (fb w 20 12) 12 _ (by simp)).mono ?_
  rintro e z1 ⟨rfl, rfl⟩
  go_wp2_with (fail)
  go_ret
  exact ⟨rfl, _, rfl⟩

theorem fImmS_calls (w : Nat) (z : World) (hw : w < 2 ^ 32) :
    Calls Tryz.prog 114 #[.int .u32 (w : Int)] z fun e z' => e = .returned (.int .i32 (immS w)) ∧ ∃ k, z' = z.drewN k := by
  have h1 := fb_lt w 25 7
  have h2 := fb_lt w 7 5
  have p1 : IntKind.u32.wrap ((fb w 25 7 : Int) * 32) = ((fb w 25 7 * 32 : Nat) : Int) := by rw [wrap32 (by omega) (by omega)]; omega
  have p2 : bits .or .u32 ((fb w 25 7 * 32 : Nat) : Int) (fb w 7 5 : Int) = ((fb w 25 7 * 32 + fb w 7 5 : Nat) : Int) := by
    rw [or32 _ _ (by omega) (by omega), or_add _ _ 5 h2]
  rw [immS]
  generalize hA : fb w 25 7 * 32 + fb w 7 5 = A at p2 ⊢
  generalize hB : fb w 25 7 * 32 = B at p1 p2
  clear hA hB
  go_enter Tryz.func114, Tryz.ntmps114
  go_wp2_with (fail)
  refine (fBits_calls w 25 7 _ hw (by decide) (by decide) (by decide)).mono ?_
  rintro e z1 ⟨rfl, k, rfl⟩
  go_wp2_with (fail)
  refine (fBits_calls w 7 5 _ hw (by decide) (by decide) (by decide)).mono ?_
  rintro e z1 ⟨rfl, k, rfl⟩
  go_wp2_with (fail)
  refine (fSign_calls A 12 _ (by simp)).mono ?_
  rintro e z1 ⟨rfl, rfl⟩
  go_wp2_with (fail)
  go_ret
  exact ⟨rfl, _, rfl⟩

theorem fImmU_calls (w : Nat) (z : World) (hw : w < 2 ^ 32) :
    Calls Tryz.prog 109 #[.int .u32 (w : Int)] z fun e z' => e = .returned (.int .i32 (immU w)) ∧ ∃ k, z' = z.drewN k := by
  have h1 := fb_lt w 12 20
  have p1 : IntKind.u32.wrap ((fb w 12 20 : Int) * 4096) = ((fb w 12 20 * 4096 : Nat) : Int) := by rw [wrap32 (by omega) (by omega)]; omega
  have p2 := wrap_s32 (fb w 12 20 * 4096) (by omega)
  rw [immU]
  generalize s32 (fb w 12 20 * 4096) = A at p2 ⊢
  generalize hB : fb w 12 20 * 4096 = B at p1 p2
  clear hB
  go_enter Tryz.func109, Tryz.ntmps109
  go_wp2_with (fail)
  refine (fBits_calls w 12 20 _ hw (by decide) (by decide) (by decide)).mono ?_
  rintro e z1 ⟨rfl, k, rfl⟩
  go_wp2_with (fail)
  go_ret
  exact ⟨rfl, _, rfl⟩

theorem fImmB_calls (w : Nat) (z : World) (hw : w < 2 ^ 32) :
    Calls Tryz.prog 113 #[.int .u32 (w : Int)] z fun e z' => e = .returned (.int .i32 (immB w)) ∧ ∃ k, z' = z.drewN k := by
  obtain ⟨B, C, D, E, F, G, p1, p2, p3, p4, q1, q2, q3⟩ := bN_or (fb w 31 1) (fb w 7 1) (fb w 25 6) (fb w 8 4) (fb_lt _ _ _) (fb_lt _ _ _) (fb_lt _ _ _) (fb_lt _ _ _)
  rw [immB]
  generalize bN (fb w 31 1) (fb w 7 1) (fb w 25 6) (fb w 8 4) = A at q3 ⊢
  go_enter Tryz.func113, Tryz.ntmps113
  go_wp2_with (fail)
  refine (fBits_calls w 31 1 _ hw (by decide) (by decide) (by decide)).mono ?_
  rintro e z1 ⟨rfl, k, rfl⟩
  go_wp2_with (fail)
  refine (fBits_calls w 7 1 _ hw (by decide) (by decide) (by decide)).mono ?_
  rintro e z1 ⟨rfl, k, rfl⟩
  go_wp2_with (fail)
  refine (fBits_calls w 25 6 _ hw (by decide) (by decide) (by decide)).mono ?_
  rintro e z1 ⟨rfl, k, rfl⟩
  go_wp2_with (fail)
  refine (fBits_calls w 8 4 _ hw (by decide) (by decide) (by decide)).mono ?_
  rintro e z1 ⟨rfl, k, rfl⟩
  go_wp2_with (fail)
  refine (fSign_calls A 13 _ (by simp)).mono ?_
  rintro e z1 ⟨rfl, rfl⟩
  go_wp2_with (fail)
  go_ret
  exact ⟨rfl, _, rfl⟩

theorem fImmJ_calls (w : Nat) (z : World) (hw : w < 2 ^ 32) :
    Calls Tryz.prog 110 #[.int .u32 (w : Int)] z fun e z' => e = .returned (.int .i32 (immJ w)) ∧ ∃ k, z' = z.drewN k := by
  obtain ⟨B, C, D, E, F, G, p1, p2, p3, p4, q1, q2, q3⟩ := jN_or (fb w 31 1) (fb w 12 8) (fb w 20 1) (fb w 21 10) (fb_lt _ _ _) (fb_lt _ _ _) (fb_lt _ _ _) (fb_lt _ _ _)
  rw [immJ]
  generalize jN (fb w 31 1) (fb w 12 8) (fb w 20 1) (fb w 21 10) = A at q3 ⊢
  go_enter Tryz.func110, Tryz.ntmps110
  go_wp2_with (fail)
  refine (fBits_calls w 31 1 _ hw (by decide) (by decide) (by decide)).mono ?_
  rintro e z1 ⟨rfl, k, rfl⟩
  go_wp2_with (fail)
  refine (fBits_calls w 12 8 _ hw (by decide) (by decide) (by decide)).mono ?_
  rintro e z1 ⟨rfl, k, rfl⟩
  go_wp2_with (fail)
  refine (fBits_calls w 20 1 _ hw (by decide) (by decide) (by decide)).mono ?_
  rintro e z1 ⟨rfl, k, rfl⟩
  go_wp2_with (fail)
  refine (fBits_calls w 21 10 _ hw (by decide) (by decide) (by decide)).mono ?_
  rintro e z1 ⟨rfl, k, rfl⟩
  go_wp2_with (fail)
  refine (fSign_calls A 21 _ (by simp)).mono ?_
  rintro e z1 ⟨rfl, rfl⟩
  go_wp2_with (fail)
  go_ret
  exact ⟨rfl, _, rfl⟩
end Go.Proofs.YtmdjhahafjlebaaGreatDoor

namespace Go.Proofs.YtmdjhahafjlebaaGreatDoor
open Go.RowKit Go.Dio
set_option linter.unusedSimpArgs false
set_option linter.unusedVariables false

theorem rBits_calls (w a n : Nat) (z : World) (hw : w < 2 ^ 32) (ha : a < 32) (h1 : 1 ≤ n) (hn : a + n ≤ 32) :
    Calls Tryz.prog 85 #[.int .u32 (w : Int), .int .i64 (a : Int), .int .i64 (n : Int)] z fun e z' => e = .returned (.int .u32 (fb w a n : Int)) ∧ z' = z := by
  have d1 : decide ((a : Int) < 0) = false := decide_eq_false (by omega)
  have d2 : decide ((31 : Int) < (a : Int)) = false := decide_eq_false (by omega)
  have d3 : decide ((n : Int) < 1) = false := decide_eq_false (by omega)
  have d4 : decide ((32 : Int) < (n : Int)) = false := decide_eq_false (by omega)
  go_enter Tryz.func85, Tryz.ntmps85
  go_wp2_with (fail)
  go_loopg [7, 8] n (fun g v7 v8 wl => ∃ k r : Nat, v8 = .int .i64 (k : Int) ∧ k ≤ n ∧ g = n - k ∧ v7 = .int .u32 (r : Int) ∧ Hid (r = fb w a k) ∧ Hid (wl = z))
  case atStart => exact ⟨0, 0, rfl, by omega, rfl, rfl, Lib.hid (by simp [fb, Nat.mod_one]), Lib.hid rfl⟩
  case round =>
    obtain ⟨k, r, rfl, hk, hg, rfl, HR, HW⟩ := hrel
    rcases Nat.lt_or_ge k n with hkn | hkn
    · have e1 : decide ((k : Int) < (n : Int)) = true := decide_eq_true (by omega)
      have e2 : decide ((a : Int) + (k : Int) < 32) = true := decide_eq_true (by omega)
      have e3 : IntKind.i64.wrap ((a : Int) + (k : Int)) = ((a + k : Nat) : Int) := by rw [wrapi64 (by omega) (by omega)]; omega
      have hx := refShr w (a + k) hw
      have hb : w / 2 ^ (a + k) % 2 < 2 := Nat.mod_lt _ (by decide)
      have hs := refShl (w / 2 ^ (a + k) % 2) k hb (by omega)
      have hr : r < 2 ^ 32 := by rw [HR.out]; exact fb_lt32 w a k (by omega)
      have hlt : w / 2 ^ (a + k) % 2 * 2 ^ k < 2 ^ 32 := by
        refine Nat.lt_of_lt_of_le (Nat.mul_lt_mul_of_pos_right hb (Nat.pow_pos (by decide))) ?_
        rw [← Nat.pow_succ']; exact Nat.pow_le_pow_right (by decide) (by omega)
      have ho := or32 r (w / 2 ^ (a + k) % 2 * 2 ^ k) hr hlt
      have HN : Hid (r ||| (w / 2 ^ (a + k) % 2 * 2 ^ k) = fb w a (k + 1)) := Lib.hid (by rw [HR.out, fb_succ])
      generalize r ||| (w / 2 ^ (a + k) % 2 * 2 ^ k) = r2 at ho HN
      generalize w / 2 ^ (a + k) % 2 * 2 ^ k = s at hs ho
      generalize w / 2 ^ (a + k) % 2 = t at hx hs
      go_wp2_with (fail)
      go_roundg (n - (k + 1))
      case measure => omega
      case rel => exact ⟨k + 1, r2, by go_num, by omega, rfl, rfl, HN, HW⟩
    · obtain rfl : k = n := by omega
      go_wp2_with (fail)
      go_ret
      exact ⟨by rw [HR.out]; rfl, HW.out⟩

theorem rSign_calls (n b : Nat) (z : World) (hb : b = 12 ∨ b = 13 ∨ b = 21) :
    Calls Tryz.prog 129 #[.int .u32 (n : Int), .int .i64 (b : Int)] z fun e z' => e = .returned (.int .i32 (sx n b)) ∧ z' = z := by
  rcases hb with rfl | rfl | rfl
  · have e := sx12 n
    go_enter Tryz.func129, Tryz.ntmps129
    go_wp2_with (fail)
    go_ret
    exact ⟨by rw [← e]; rfl, rfl⟩
  · have e := sx13 n
    go_enter Tryz.func129, Tryz.ntmps129
    go_wp2_with (fail)
    go_ret
    exact ⟨by rw [← e]; rfl, rfl⟩
  · have e := sx21 n
    go_enter Tryz.func129, Tryz.ntmps129
    go_wp2_with (fail)
    go_ret
    exact ⟨by rw [← e]; rfl, rfl⟩

theorem rImmI_calls (w : Nat) (z : World) (hw : w < 2 ^ 32) :
    Calls Tryz.prog 89 #[.int .u32 (w : Int)] z fun e z' => e = .returned (.int .i32 (immI w)) ∧ z' = z := by
  unfold immI
  go_enter Tryz.func89, Tryz.ntmps89
  go_wp2_with (fail)
  refine (rBits_calls w 20 12 _ hw (by decide) (by decide) (by decide)).mono ?_
  rintro e z1 ⟨rfl, rfl⟩
  go_wp2_with (fail)
  refine (rSign_calls (fb w 20 12) 12 _ (by simp)).mono ?_
  rintro e z1 ⟨rfl, rfl⟩
  go_wp2_with (fail)
  go_ret
  exact ⟨rfl, rfl⟩

theorem rImmS_calls (w : Nat) (z : World) (hw : w < 2 ^ 32) :
    Calls Tryz.prog 91 #[.int .u32 (w : Int)] z fun e z' => e = .returned (.int .i32 (immS w)) ∧ z' = z := by
  obtain ⟨B, p1, p2⟩ := sN_or (fb w 25 7) (fb w 7 5) (fb_lt _ _ _) (fb_lt _ _ _)
  rw [immS]
  generalize fb w 25 7 * 32 + fb w 7 5 = A at p2 ⊢
  go_enter Tryz.func91, Tryz.ntmps91
  go_wp2_with (fail)
  refine (rBits_calls w 25 7 _ hw (by decide) (by decide) (by decide)).mono ?_
  rintro e z1 ⟨rfl, rfl⟩
  go_wp2_with (fail)
  refine (rBits_calls w 7 5 _ hw (by decide) (by decide) (by decide)).mono ?_
  rintro e z1 ⟨rfl, rfl⟩
  go_wp2_with (fail)
  refine (rSign_calls A 12 _ (by simp)).mono ?_
  rintro e z1 ⟨rfl, rfl⟩
  go_wp2_with (fail)
  go_ret
  exact ⟨rfl, rfl⟩

theorem immU_hi (w : Nat) (hw : w < 2 ^ 32) : immU w = s32 (w / 4096 * 4096) := by
  have e : fb w 12 20 = w / 4096 := by
    have e1 : (2 : Nat) ^ 12 = 4096 := by decide
    have e2 : (2 : Nat) ^ 20 = 1048576 := by decide
    rw [fb, e1, e2]; omega
  rw [immU, e]
theorem rImmU_calls (w : Nat) (z : World) (hw : w < 2 ^ 32) :
    Calls Tryz.prog 86 #[.int .u32 (w : Int)] z fun e z' => e = .returned (.int .i32 (immU w)) ∧ z' = z := by
  have p1 := high12 w hw
  have p2 := wrap_s32 (w / 4096 * 4096) (Nat.lt_of_le_of_lt (Nat.div_mul_le_self _ _) hw)
  rw [immU_hi w hw]
  generalize s32 (w / 4096 * 4096) = A at p2 ⊢
  generalize w / 4096 * 4096 = B at p1 p2
  go_enter Tryz.func86, Tryz.ntmps86
  go_wp2_with (fail)
  go_ret
  exact ⟨rfl, rfl⟩

theorem rImmB_calls (w : Nat) (z : World) (hw : w < 2 ^ 32) :
    Calls Tryz.prog 90 #[.int .u32 (w : Int)] z fun e z' => e = .returned (.int .i32 (immB w)) ∧ z' = z := by
  obtain ⟨B, C, D, E, F, G, p1, p2, p3, p4, q1, q2, q3⟩ := bN_or (fb w 31 1) (fb w 7 1) (fb w 25 6) (fb w 8 4) (fb_lt _ _ _) (fb_lt _ _ _) (fb_lt _ _ _) (fb_lt _ _ _)
  rw [immB]
  generalize bN (fb w 31 1) (fb w 7 1) (fb w 25 6) (fb w 8 4) = A at q3 ⊢
  go_enter Tryz.func90, Tryz.ntmps90
  go_wp2_with (fail)
  refine (rBits_calls w 31 1 _ hw (by decide) (by decide) (by decide)).mono ?_
  rintro e z1 ⟨rfl, rfl⟩
  go_wp2_with (fail)
  refine (rBits_calls w 7 1 _ hw (by decide) (by decide) (by decide)).mono ?_
  rintro e z1 ⟨rfl, rfl⟩
  go_wp2_with (fail)
  refine (rBits_calls w 25 6 _ hw (by decide) (by decide) (by decide)).mono ?_
  rintro e z1 ⟨rfl, rfl⟩
  go_wp2_with (fail)
  refine (rBits_calls w 8 4 _ hw (by decide) (by decide) (by decide)).mono ?_
  rintro e z1 ⟨rfl, rfl⟩
  go_wp2_with (fail)
  refine (rSign_calls A 13 _ (by simp)).mono ?_
  rintro e z1 ⟨rfl, rfl⟩
  go_wp2_with (fail)
  go_ret
  exact ⟨rfl, rfl⟩

theorem rImmJ_calls (w : Nat) (z : World) (hw : w < 2 ^ 32) :
    Calls Tryz.prog 87 #[.int .u32 (w : Int)] z fun e z' => e = .returned (.int .i32 (immJ w)) ∧ z' = z := by
  obtain ⟨B, C, D, E, F, G, p1, p2, p3, p4, q1, q2, q3⟩ := jN_or (fb w 31 1) (fb w 12 8) (fb w 20 1) (fb w 21 10) (fb_lt _ _ _) (fb_lt _ _ _) (fb_lt _ _ _) (fb_lt _ _ _)
  rw [immJ]
  generalize jN (fb w 31 1) (fb w 12 8) (fb w 20 1) (fb w 21 10) = A at q3 ⊢
  go_enter Tryz.func87, Tryz.ntmps87
  go_wp2_with (fail)
  refine (rBits_calls w 31 1 _ hw (by decide) (by decide) (by decide)).mono ?_
  rintro e z1 ⟨rfl, rfl⟩
  go_wp2_with (fail)
  refine (rBits_calls w 12 8 _ hw (by decide) (by decide) (by decide)).mono ?_
  rintro e z1 ⟨rfl, rfl⟩
  go_wp2_with (fail)
  refine (rBits_calls w 20 1 _ hw (by decide) (by decide) (by decide)).mono ?_
  rintro e z1 ⟨rfl, rfl⟩
  go_wp2_with (fail)
  refine (rBits_calls w 21 10 _ hw (by decide) (by decide) (by decide)).mono ?_
  rintro e z1 ⟨rfl, rfl⟩
  go_wp2_with (fail)
  refine (rSign_calls A 21 _ (by simp)).mono ?_
  rintro e z1 ⟨rfl, rfl⟩
  go_wp2_with (fail)
  go_ret
  exact ⟨rfl, rfl⟩
end Go.Proofs.YtmdjhahafjlebaaGreatDoor

/- The reference's numbers: products, quotients, rests. -/
import Derived.Test.YtmdjhahafjlebaaGreatDoorQD22
namespace Go.Proofs.YtmdjhahafjlebaaGreatDoor
open Go.RowKit Go.Dio
set_option linter.unusedSimpArgs false
set_option linter.unusedVariables false

theorem r7bit_calls (d : Bool) (z : World) : Calls Tryz.prog 135 #[.bool d] z fun e z' => e = .returned (.int .u32 ((bitP d : Nat) : Int)) ∧ z' = z := by
  cases d
  ·
    go_enter Tryz.func135, Tryz.ntmps135
    go_wp2_with (fail)
    go_ret
    exact ⟨rfl, rfl⟩
  ·
    go_enter Tryz.func135, Tryz.ntmps135
    go_wp2_with (fail)
    go_ret
    exact ⟨rfl, rfl⟩
theorem tdiv_64 (x y : Int) (hx : -2147483648 ≤ x ∧ x ≤ 2147483647) (hy : y ≠ 0) : -2147483648 ≤ x.tdiv y ∧ x.tdiv y ≤ 2147483648 := by
  by_cases h : x = -2147483648 ∧ y = -1
  · obtain ⟨rfl, rfl⟩ := h; decide
  · have := tdiv_bound x y hx hy h; omega
set_option maxHeartbeats 4000000 in
theorem r7slow_calls (op a b : Nat) (z : World) (h : op = 38 ∨ op = 39 ∨ op = 40 ∨ op = 41 ∨ op = 42 ∨ op = 43 ∨ op = 44 ∨ op = 45) (ha : a < 2 ^ 32) (hb : b < 2 ^ 32) :
    Calls Tryz.prog 136 #[.int .i64 (op : Int), .int .u32 (a : Int), .int .u32 (b : Int)] z fun e z' => e = .returned (.int .u32 ((aluP op a b : Nat) : Int)) ∧ z' = z := by
  have sa := wrap_s32 a ha
  have sb := wrap_s32 b hb
  have xa := s32_lo a ha
  have xb := s32_hi a ha
  have ya := s32_lo b hb
  have yb := s32_hi b hb
  rcases h with rfl | rfl | rfl | rfl | h
  · have w1 := wrap_u32 ((a : Int) * b)
    have w2 := mod_u32 ((a : Int) * b)
    have HE := Lib.hid (show aluP 38 a b = u32 ((a : Int) * b) from rfl)
    generalize s32 a = x at *
    generalize s32 b = y at *
    generalize u32 ((a : Int) * b) = r at *
    go_enter Tryz.func136, Tryz.ntmps136
    go_wp2_with (fail)
    go_ret
    exact ⟨by first | rfl | (rw [HE.out]; rfl), rfl⟩
  · have w0 : IntKind.i64.wrap (s32 a * s32 b) = s32 a * s32 b := by have := prod_lo (s32 a) (s32 b) ⟨xa, xb⟩ ⟨ya, by omega⟩; rw [IntKind.wrap_i64]; omega
    have w3 : RowKit.wrap64 (s32 a * s32 b) = s32 a * s32 b := by have := prod_lo (s32 a) (s32 b) ⟨xa, xb⟩ ⟨ya, by omega⟩; unfold RowKit.wrap64; omega
    have w1 := wrap_u32 (s32 a * s32 b / 4294967296)
    have w2 := mod_u32 (s32 a * s32 b / 4294967296)
    have HE := Lib.hid (show aluP 39 a b = u32 (s32 a * s32 b / 4294967296) from rfl)
    generalize s32 a = x at *
    generalize s32 b = y at *
    generalize u32 (x * y / 4294967296) = r at *
    go_enter Tryz.func136, Tryz.ntmps136
    go_wp2_with (fail)
    go_ret
    exact ⟨by first | rfl | (rw [HE.out]; rfl), rfl⟩
  · have w0 : IntKind.i64.wrap (s32 a * b) = s32 a * b := by have := prod_lo (s32 a) b ⟨xa, xb⟩ ⟨by omega, by omega⟩; rw [IntKind.wrap_i64]; omega
    have w3 : RowKit.wrap64 (s32 a * b) = s32 a * b := by have := prod_lo (s32 a) b ⟨xa, xb⟩ ⟨by omega, by omega⟩; unfold RowKit.wrap64; omega
    have w1 := wrap_u32 (s32 a * b / 4294967296)
    have w2 := mod_u32 (s32 a * b / 4294967296)
    have HE := Lib.hid (show aluP 40 a b = u32 (s32 a * b / 4294967296) from rfl)
    generalize s32 a = x at *
    generalize s32 b = y at *
    generalize u32 (x * (b : Int) / 4294967296) = r at *
    go_enter Tryz.func136, Tryz.ntmps136
    go_wp2_with (fail)
    go_ret
    exact ⟨by first | rfl | (rw [HE.out]; rfl), rfl⟩
  · have w0 : IntKind.u64.wrap ((a : Int) * b) = (a : Int) * b := by have := prod_nat a b ha hb; rw [IntKind.wrap_u64]; omega
    have w1 := wrap_u32 ((a : Int) * b / 4294967296)
    have w2 := mod_u32 ((a : Int) * b / 4294967296)
    have HE := Lib.hid (show aluP 41 a b = u32 ((a : Int) * b / 4294967296) from rfl)
    generalize s32 a = x at *
    generalize s32 b = y at *
    generalize u32 ((a : Int) * (b : Int) / 4294967296) = r at *
    go_enter Tryz.func136, Tryz.ntmps136
    go_wp2_with (fail)
    go_ret
    exact ⟨by first | rfl | (rw [HE.out]; rfl), rfl⟩
  · by_cases hz : b = 0
    · subst hz
      generalize s32 a = x at sa xa xb
      clear sb ya yb
      rcases h with rfl | rfl | rfl | rfl
      all_goals
        go_enter Tryz.func136, Tryz.ntmps136
        go_wp2_with (fail)
        go_ret
        exact ⟨rfl, rfl⟩
    · have dz : ((b : Int) == 0) = false := (cast_ne_b hz).1
      have hy0 : s32 b ≠ 0 := by unfold s32; split <;> omega
      have u42 : aluP 42 a b = u32 ((s32 a).tdiv (s32 b)) := by show (if b = 0 then _ else _) = _; rw [if_neg hz]
      have u43 : aluP 43 a b = a / b := by show (if b = 0 then _ else _) = _; rw [if_neg hz]
      have u44 : aluP 44 a b = u32 ((s32 a).tmod (s32 b)) := by show (if b = 0 then _ else _) = _; rw [if_neg hz]
      have u45 : aluP 45 a b = a % b := by show (if b = 0 then _ else _) = _; rw [if_neg hz]
      have q1 : (a : Int).tdiv (b : Int) = ((a / b : Nat) : Int) := by rw [Int.ofNat_tdiv]
      have q2 : (a : Int).tmod (b : Int) = ((a % b : Nat) : Int) := by rw [Int.ofNat_tmod]
      have q3 : a / b < 2 ^ 32 := Nat.lt_of_le_of_lt (Nat.div_le_self _ _) ha
      have q4 : a % b < 2 ^ 32 := Nat.lt_of_le_of_lt (Nat.mod_le _ _) ha
      have t1 := tdiv_64 (s32 a) (s32 b) ⟨xa, xb⟩ hy0
      have t2 := tmod_bound (s32 a) (s32 b) ⟨xa, xb⟩
      have v1 := wrap_u32 ((s32 a).tdiv (s32 b))
      have v2 := wrap_u32 ((s32 a).tmod (s32 b))
      have v3 := mod_u32 ((s32 a).tdiv (s32 b))
      have v4 := mod_u32 ((s32 a).tmod (s32 b))
      generalize s32 a = x at *
      generalize s32 b = y at *
      have y0 : (y == 0) = false := by rw [beq_eq_false_iff_ne]; exact hy0
      generalize a / b = c at *
      generalize a % b = d at *
      generalize hQ : x.tdiv y = Q at *
      generalize hR : x.tmod y = R at *
      have w1 : IntKind.i64.wrap Q = Q := by rw [IntKind.wrap_i64]; omega
      have w2 : IntKind.i64.wrap R = R := by rw [IntKind.wrap_i64]; omega
      generalize u32 Q = uq at *
      generalize u32 R = ur at *
      have H42 := Lib.hid u42
      have H43 := Lib.hid u43
      have H44 := Lib.hid u44
      have H45 := Lib.hid u45
      clear u42 u43 u44 u45
      rcases h with rfl | rfl | rfl | rfl
      · skip
        go_enter Tryz.func136, Tryz.ntmps136
        go_wp2_with (fail)
        go_ret
        exact ⟨by rw [H42.out]; rfl, rfl⟩
      · skip
        go_enter Tryz.func136, Tryz.ntmps136
        go_wp2_with (fail)
        go_ret
        exact ⟨by rw [H43.out]; rfl, rfl⟩
      · skip
        go_enter Tryz.func136, Tryz.ntmps136
        go_wp2_with (fail)
        go_ret
        exact ⟨by rw [H44.out]; rfl, rfl⟩
      · skip
        go_enter Tryz.func136, Tryz.ntmps136
        go_wp2_with (fail)
        go_ret
        exact ⟨by rw [H45.out]; rfl, rfl⟩
end Go.Proofs.YtmdjhahafjlebaaGreatDoor

namespace Go.Proofs.YtmdjhahafjlebaaGreatDoor
open Go.RowKit Go.Dio
set_option linter.unusedSimpArgs false
set_option linter.unusedVariables false

theorem r7do19 (a b : Nat) (ha : a < 2 ^ 32) (hb : b < 2 ^ 32) : ∀ z : World, Calls Tryz.prog 100 #[.int .i64 19, .int .u32 (a : Int), .int .u32 (b : Int)] z fun e z' => e = .returned (.int .u32 ((aluP 19 a b : Nat) : Int)) ∧ z' = z := by
  have w1 := wrap_u32 ((a : Int) + b)
  have w2 := mod_u32 ((a : Int) + b)
  have HE := Lib.hid (show aluP 19 a b = u32 ((a : Int) + b) from rfl)
  generalize u32 ((a : Int) + b) = r at *
  intro z
  go_enter Tryz.func100, Tryz.ntmps100
  go_wp2_with (fail)
  go_ret
  exact ⟨by first | rfl | (rw [HE.out]; rfl), rfl⟩
theorem r7do20 (a b : Nat) (ha : a < 2 ^ 32) (hb : b < 2 ^ 32) : ∀ z : World, Calls Tryz.prog 100 #[.int .i64 20, .int .u32 (a : Int), .int .u32 (b : Int)] z fun e z' => e = .returned (.int .u32 ((aluP 20 a b : Nat) : Int)) ∧ z' = z := by
  have sa := wrap_s32 a ha
  have sb := wrap_s32 b hb
  have HE := Lib.hid (show aluP 20 a b = bitP (decide (s32 a < s32 b)) from rfl)
  generalize s32 a = x at *
  generalize s32 b = y at *
  obtain ⟨dd, hdd⟩ : ∃ dd, dd = decide (x < y) := ⟨_, rfl⟩
  rw [← hdd] at HE
  have hd := hdd.symm
  clear hdd
  intro z
  go_enter Tryz.func100, Tryz.ntmps100
  go_wp2_with (fail)
  refine (r7bit_calls dd _).mono ?_
  rintro e z1 ⟨rfl, rfl⟩
  go_wp2_with (fail)
  go_ret
  exact ⟨by rw [HE.out]; rfl, rfl⟩
theorem r7do21 (a b : Nat) (ha : a < 2 ^ 32) (hb : b < 2 ^ 32) : ∀ z : World, Calls Tryz.prog 100 #[.int .i64 21, .int .u32 (a : Int), .int .u32 (b : Int)] z fun e z' => e = .returned (.int .u32 ((aluP 21 a b : Nat) : Int)) ∧ z' = z := by
  have HE := Lib.hid (show aluP 21 a b = bitP (decide (a < b)) from rfl)
  obtain ⟨dd, hdd⟩ : ∃ dd, dd = decide (a < b) := ⟨_, rfl⟩
  rw [← hdd] at HE
  have hd := hdd.symm
  have hd2 : decide ((a : Int) < (b : Int)) = dd := by rw [hdd]; simp
  clear hdd
  intro z
  go_enter Tryz.func100, Tryz.ntmps100
  go_wp2_with (fail)
  refine (r7bit_calls dd _).mono ?_
  rintro e z1 ⟨rfl, rfl⟩
  go_wp2_with (fail)
  go_ret
  exact ⟨by rw [HE.out]; rfl, rfl⟩
theorem r7do22 (a b : Nat) (ha : a < 2 ^ 32) (hb : b < 2 ^ 32) : ∀ z : World, Calls Tryz.prog 100 #[.int .i64 22, .int .u32 (a : Int), .int .u32 (b : Int)] z fun e z' => e = .returned (.int .u32 ((aluP 22 a b : Nat) : Int)) ∧ z' = z := by
  have w1 := xor32 a b ha hb
  have HE := Lib.hid (show aluP 22 a b = a ^^^ b from rfl)
  generalize a ^^^ b = r at *
  intro z
  go_enter Tryz.func100, Tryz.ntmps100
  go_wp2_with (fail)
  go_ret
  exact ⟨by first | rfl | (rw [HE.out]; rfl), rfl⟩
theorem r7do23 (a b : Nat) (ha : a < 2 ^ 32) (hb : b < 2 ^ 32) : ∀ z : World, Calls Tryz.prog 100 #[.int .i64 23, .int .u32 (a : Int), .int .u32 (b : Int)] z fun e z' => e = .returned (.int .u32 ((aluP 23 a b : Nat) : Int)) ∧ z' = z := by
  have w1 := or32 a b ha hb
  have HE := Lib.hid (show aluP 23 a b = a ||| b from rfl)
  generalize a ||| b = r at *
  intro z
  go_enter Tryz.func100, Tryz.ntmps100
  go_wp2_with (fail)
  go_ret
  exact ⟨by first | rfl | (rw [HE.out]; rfl), rfl⟩
theorem r7do24 (a b : Nat) (ha : a < 2 ^ 32) (hb : b < 2 ^ 32) : ∀ z : World, Calls Tryz.prog 100 #[.int .i64 24, .int .u32 (a : Int), .int .u32 (b : Int)] z fun e z' => e = .returned (.int .u32 ((aluP 24 a b : Nat) : Int)) ∧ z' = z := by
  have w1 := and32 a b ha hb
  have HE := Lib.hid (show aluP 24 a b = a &&& b from rfl)
  generalize a &&& b = r at *
  intro z
  go_enter Tryz.func100, Tryz.ntmps100
  go_wp2_with (fail)
  go_ret
  exact ⟨by first | rfl | (rw [HE.out]; rfl), rfl⟩
theorem r7do25 (a b : Nat) (ha : a < 2 ^ 32) (hb : b < 2 ^ 32) : ∀ z : World, Calls Tryz.prog 100 #[.int .i64 25, .int .u32 (a : Int), .int .u32 (b : Int)] z fun e z' => e = .returned (.int .u32 ((aluP 25 a b : Nat) : Int)) ∧ z' = z := by
  have k1 := sh31 b hb
  have HE0 : aluP 25 a b = aluS25 a (b % 32) := rfl
  unfold aluS25 at HE0
  have hk : b % 32 < 32 := Nat.mod_lt _ (by decide)
  generalize b % 32 = k at *
  have HE := Lib.hid HE0
  clear HE0
  have w1 := wrap_u32 ((a : Int) * 2 ^ k)
  have w2 := mod_u32 ((a : Int) * 2 ^ k)
  generalize u32 ((a : Int) * 2 ^ k) = r at *
  intro z
  go_enter Tryz.func100, Tryz.ntmps100
  go_wp2_with (fail)
  go_ret
  exact ⟨by first | rfl | (rw [HE.out]; rfl), rfl⟩
theorem r7do26 (a b : Nat) (ha : a < 2 ^ 32) (hb : b < 2 ^ 32) : ∀ z : World, Calls Tryz.prog 100 #[.int .i64 26, .int .u32 (a : Int), .int .u32 (b : Int)] z fun e z' => e = .returned (.int .u32 ((aluP 26 a b : Nat) : Int)) ∧ z' = z := by
  have k1 := sh31 b hb
  have HE0 : aluP 26 a b = aluS26 a (b % 32) := rfl
  unfold aluS26 at HE0
  have hk : b % 32 < 32 := Nat.mod_lt _ (by decide)
  generalize b % 32 = k at *
  have HE := Lib.hid HE0
  clear HE0
  have w1 := shr_nat a k
  generalize a / 2 ^ k = r at *
  intro z
  go_enter Tryz.func100, Tryz.ntmps100
  go_wp2_with (fail)
  go_ret
  exact ⟨by first | rfl | (rw [HE.out]; rfl), rfl⟩
theorem r7do27 (a b : Nat) (ha : a < 2 ^ 32) (hb : b < 2 ^ 32) : ∀ z : World, Calls Tryz.prog 100 #[.int .i64 27, .int .u32 (a : Int), .int .u32 (b : Int)] z fun e z' => e = .returned (.int .u32 ((aluP 27 a b : Nat) : Int)) ∧ z' = z := by
  have k1 := sh31 b hb
  have HE0 : aluP 27 a b = aluS27 a (b % 32) := rfl
  unfold aluS27 at HE0
  have hk : b % 32 < 32 := Nat.mod_lt _ (by decide)
  generalize b % 32 = k at *
  have HE := Lib.hid HE0
  clear HE0
  have sa := wrap_s32 a ha
  have xa := s32_lo a ha
  have xb := s32_hi a ha
  have w1 := wrap_u32 (s32 a / 2 ^ k)
  have w2 := mod_u32 (s32 a / 2 ^ k)
  generalize s32 a = x at *
  generalize hy : x / 2 ^ k = y at *
  generalize u32 y = r at *
  intro z
  go_enter Tryz.func100, Tryz.ntmps100
  go_wp2_with (fail)
  go_ret
  exact ⟨by first | rfl | (rw [HE.out]; rfl), rfl⟩
theorem r7do28 (a b : Nat) (ha : a < 2 ^ 32) (hb : b < 2 ^ 32) : ∀ z : World, Calls Tryz.prog 100 #[.int .i64 28, .int .u32 (a : Int), .int .u32 (b : Int)] z fun e z' => e = .returned (.int .u32 ((aluP 28 a b : Nat) : Int)) ∧ z' = z := by
  have w1 := wrap_u32 ((a : Int) + b)
  have w2 := mod_u32 ((a : Int) + b)
  have HE := Lib.hid (show aluP 28 a b = u32 ((a : Int) + b) from rfl)
  generalize u32 ((a : Int) + b) = r at *
  intro z
  go_enter Tryz.func100, Tryz.ntmps100
  go_wp2_with (fail)
  go_ret
  exact ⟨by first | rfl | (rw [HE.out]; rfl), rfl⟩
theorem r7do29 (a b : Nat) (ha : a < 2 ^ 32) (hb : b < 2 ^ 32) : ∀ z : World, Calls Tryz.prog 100 #[.int .i64 29, .int .u32 (a : Int), .int .u32 (b : Int)] z fun e z' => e = .returned (.int .u32 ((aluP 29 a b : Nat) : Int)) ∧ z' = z := by
  have w1 := wrap_u32 ((a : Int) - b)
  have w2 := mod_u32 ((a : Int) - b)
  have HE := Lib.hid (show aluP 29 a b = u32 ((a : Int) - b) from rfl)
  generalize u32 ((a : Int) - b) = r at *
  intro z
  go_enter Tryz.func100, Tryz.ntmps100
  go_wp2_with (fail)
  go_ret
  exact ⟨by first | rfl | (rw [HE.out]; rfl), rfl⟩
theorem r7do30 (a b : Nat) (ha : a < 2 ^ 32) (hb : b < 2 ^ 32) : ∀ z : World, Calls Tryz.prog 100 #[.int .i64 30, .int .u32 (a : Int), .int .u32 (b : Int)] z fun e z' => e = .returned (.int .u32 ((aluP 30 a b : Nat) : Int)) ∧ z' = z := by
  have k1 := sh31 b hb
  have HE0 : aluP 30 a b = aluS25 a (b % 32) := rfl
  unfold aluS25 at HE0
  have hk : b % 32 < 32 := Nat.mod_lt _ (by decide)
  generalize b % 32 = k at *
  have HE := Lib.hid HE0
  clear HE0
  have w1 := wrap_u32 ((a : Int) * 2 ^ k)
  have w2 := mod_u32 ((a : Int) * 2 ^ k)
  generalize u32 ((a : Int) * 2 ^ k) = r at *
  intro z
  go_enter Tryz.func100, Tryz.ntmps100
  go_wp2_with (fail)
  go_ret
  exact ⟨by first | rfl | (rw [HE.out]; rfl), rfl⟩
theorem r7do31 (a b : Nat) (ha : a < 2 ^ 32) (hb : b < 2 ^ 32) : ∀ z : World, Calls Tryz.prog 100 #[.int .i64 31, .int .u32 (a : Int), .int .u32 (b : Int)] z fun e z' => e = .returned (.int .u32 ((aluP 31 a b : Nat) : Int)) ∧ z' = z := by
  have sa := wrap_s32 a ha
  have sb := wrap_s32 b hb
  have HE := Lib.hid (show aluP 31 a b = bitP (decide (s32 a < s32 b)) from rfl)
  generalize s32 a = x at *
  generalize s32 b = y at *
  obtain ⟨dd, hdd⟩ : ∃ dd, dd = decide (x < y) := ⟨_, rfl⟩
  rw [← hdd] at HE
  have hd := hdd.symm
  clear hdd
  intro z
  go_enter Tryz.func100, Tryz.ntmps100
  go_wp2_with (fail)
  refine (r7bit_calls dd _).mono ?_
  rintro e z1 ⟨rfl, rfl⟩
  go_wp2_with (fail)
  go_ret
  exact ⟨by rw [HE.out]; rfl, rfl⟩
theorem r7do32 (a b : Nat) (ha : a < 2 ^ 32) (hb : b < 2 ^ 32) : ∀ z : World, Calls Tryz.prog 100 #[.int .i64 32, .int .u32 (a : Int), .int .u32 (b : Int)] z fun e z' => e = .returned (.int .u32 ((aluP 32 a b : Nat) : Int)) ∧ z' = z := by
  have HE := Lib.hid (show aluP 32 a b = bitP (decide (a < b)) from rfl)
  obtain ⟨dd, hdd⟩ : ∃ dd, dd = decide (a < b) := ⟨_, rfl⟩
  rw [← hdd] at HE
  have hd := hdd.symm
  have hd2 : decide ((a : Int) < (b : Int)) = dd := by rw [hdd]; simp
  clear hdd
  intro z
  go_enter Tryz.func100, Tryz.ntmps100
  go_wp2_with (fail)
  refine (r7bit_calls dd _).mono ?_
  rintro e z1 ⟨rfl, rfl⟩
  go_wp2_with (fail)
  go_ret
  exact ⟨by rw [HE.out]; rfl, rfl⟩
theorem r7do33 (a b : Nat) (ha : a < 2 ^ 32) (hb : b < 2 ^ 32) : ∀ z : World, Calls Tryz.prog 100 #[.int .i64 33, .int .u32 (a : Int), .int .u32 (b : Int)] z fun e z' => e = .returned (.int .u32 ((aluP 33 a b : Nat) : Int)) ∧ z' = z := by
  have w1 := xor32 a b ha hb
  have HE := Lib.hid (show aluP 33 a b = a ^^^ b from rfl)
  generalize a ^^^ b = r at *
  intro z
  go_enter Tryz.func100, Tryz.ntmps100
  go_wp2_with (fail)
  go_ret
  exact ⟨by first | rfl | (rw [HE.out]; rfl), rfl⟩
theorem r7do34 (a b : Nat) (ha : a < 2 ^ 32) (hb : b < 2 ^ 32) : ∀ z : World, Calls Tryz.prog 100 #[.int .i64 34, .int .u32 (a : Int), .int .u32 (b : Int)] z fun e z' => e = .returned (.int .u32 ((aluP 34 a b : Nat) : Int)) ∧ z' = z := by
  have k1 := sh31 b hb
  have HE0 : aluP 34 a b = aluS26 a (b % 32) := rfl
  unfold aluS26 at HE0
  have hk : b % 32 < 32 := Nat.mod_lt _ (by decide)
  generalize b % 32 = k at *
  have HE := Lib.hid HE0
  clear HE0
  have w1 := shr_nat a k
  generalize a / 2 ^ k = r at *
  intro z
  go_enter Tryz.func100, Tryz.ntmps100
  go_wp2_with (fail)
  go_ret
  exact ⟨by first | rfl | (rw [HE.out]; rfl), rfl⟩
theorem r7do35 (a b : Nat) (ha : a < 2 ^ 32) (hb : b < 2 ^ 32) : ∀ z : World, Calls Tryz.prog 100 #[.int .i64 35, .int .u32 (a : Int), .int .u32 (b : Int)] z fun e z' => e = .returned (.int .u32 ((aluP 35 a b : Nat) : Int)) ∧ z' = z := by
  have k1 := sh31 b hb
  have HE0 : aluP 35 a b = aluS27 a (b % 32) := rfl
  unfold aluS27 at HE0
  have hk : b % 32 < 32 := Nat.mod_lt _ (by decide)
  generalize b % 32 = k at *
  have HE := Lib.hid HE0
  clear HE0
  have sa := wrap_s32 a ha
  have xa := s32_lo a ha
  have xb := s32_hi a ha
  have w1 := wrap_u32 (s32 a / 2 ^ k)
  have w2 := mod_u32 (s32 a / 2 ^ k)
  generalize s32 a = x at *
  generalize hy : x / 2 ^ k = y at *
  generalize u32 y = r at *
  intro z
  go_enter Tryz.func100, Tryz.ntmps100
  go_wp2_with (fail)
  go_ret
  exact ⟨by first | rfl | (rw [HE.out]; rfl), rfl⟩
theorem r7do36 (a b : Nat) (ha : a < 2 ^ 32) (hb : b < 2 ^ 32) : ∀ z : World, Calls Tryz.prog 100 #[.int .i64 36, .int .u32 (a : Int), .int .u32 (b : Int)] z fun e z' => e = .returned (.int .u32 ((aluP 36 a b : Nat) : Int)) ∧ z' = z := by
  have w1 := or32 a b ha hb
  have HE := Lib.hid (show aluP 36 a b = a ||| b from rfl)
  generalize a ||| b = r at *
  intro z
  go_enter Tryz.func100, Tryz.ntmps100
  go_wp2_with (fail)
  go_ret
  exact ⟨by first | rfl | (rw [HE.out]; rfl), rfl⟩
theorem r7do37 (a b : Nat) (ha : a < 2 ^ 32) (hb : b < 2 ^ 32) : ∀ z : World, Calls Tryz.prog 100 #[.int .i64 37, .int .u32 (a : Int), .int .u32 (b : Int)] z fun e z' => e = .returned (.int .u32 ((aluP 37 a b : Nat) : Int)) ∧ z' = z := by
  have w1 := and32 a b ha hb
  have HE := Lib.hid (show aluP 37 a b = a &&& b from rfl)
  generalize a &&& b = r at *
  intro z
  go_enter Tryz.func100, Tryz.ntmps100
  go_wp2_with (fail)
  go_ret
  exact ⟨by first | rfl | (rw [HE.out]; rfl), rfl⟩
theorem r7do38 (a b : Nat) (ha : a < 2 ^ 32) (hb : b < 2 ^ 32) : ∀ z : World, Calls Tryz.prog 100 #[.int .i64 38, .int .u32 (a : Int), .int .u32 (b : Int)] z fun e z' => e = .returned (.int .u32 ((aluP 38 a b : Nat) : Int)) ∧ z' = z := by
  intro z
  have D := Lib.hid (r7slow_calls 38 a b z (by decide) ha hb)
  go_enter Tryz.func100, Tryz.ntmps100
  go_wp2_with (fail)
  refine D.out.mono ?_
  rintro e z1 ⟨rfl, rfl⟩
  go_wp2_with (fail)
  go_ret
  exact ⟨rfl, rfl⟩
theorem r7do39 (a b : Nat) (ha : a < 2 ^ 32) (hb : b < 2 ^ 32) : ∀ z : World, Calls Tryz.prog 100 #[.int .i64 39, .int .u32 (a : Int), .int .u32 (b : Int)] z fun e z' => e = .returned (.int .u32 ((aluP 39 a b : Nat) : Int)) ∧ z' = z := by
  intro z
  have D := Lib.hid (r7slow_calls 39 a b z (by decide) ha hb)
  go_enter Tryz.func100, Tryz.ntmps100
  go_wp2_with (fail)
  refine D.out.mono ?_
  rintro e z1 ⟨rfl, rfl⟩
  go_wp2_with (fail)
  go_ret
  exact ⟨rfl, rfl⟩
theorem r7do40 (a b : Nat) (ha : a < 2 ^ 32) (hb : b < 2 ^ 32) : ∀ z : World, Calls Tryz.prog 100 #[.int .i64 40, .int .u32 (a : Int), .int .u32 (b : Int)] z fun e z' => e = .returned (.int .u32 ((aluP 40 a b : Nat) : Int)) ∧ z' = z := by
  intro z
  have D := Lib.hid (r7slow_calls 40 a b z (by decide) ha hb)
  go_enter Tryz.func100, Tryz.ntmps100
  go_wp2_with (fail)
  refine D.out.mono ?_
  rintro e z1 ⟨rfl, rfl⟩
  go_wp2_with (fail)
  go_ret
  exact ⟨rfl, rfl⟩
theorem r7do41 (a b : Nat) (ha : a < 2 ^ 32) (hb : b < 2 ^ 32) : ∀ z : World, Calls Tryz.prog 100 #[.int .i64 41, .int .u32 (a : Int), .int .u32 (b : Int)] z fun e z' => e = .returned (.int .u32 ((aluP 41 a b : Nat) : Int)) ∧ z' = z := by
  intro z
  have D := Lib.hid (r7slow_calls 41 a b z (by decide) ha hb)
  go_enter Tryz.func100, Tryz.ntmps100
  go_wp2_with (fail)
  refine D.out.mono ?_
  rintro e z1 ⟨rfl, rfl⟩
  go_wp2_with (fail)
  go_ret
  exact ⟨rfl, rfl⟩
theorem r7do42 (a b : Nat) (ha : a < 2 ^ 32) (hb : b < 2 ^ 32) : ∀ z : World, Calls Tryz.prog 100 #[.int .i64 42, .int .u32 (a : Int), .int .u32 (b : Int)] z fun e z' => e = .returned (.int .u32 ((aluP 42 a b : Nat) : Int)) ∧ z' = z := by
  intro z
  have D := Lib.hid (r7slow_calls 42 a b z (by decide) ha hb)
  go_enter Tryz.func100, Tryz.ntmps100
  go_wp2_with (fail)
  refine D.out.mono ?_
  rintro e z1 ⟨rfl, rfl⟩
  go_wp2_with (fail)
  go_ret
  exact ⟨rfl, rfl⟩
theorem r7do43 (a b : Nat) (ha : a < 2 ^ 32) (hb : b < 2 ^ 32) : ∀ z : World, Calls Tryz.prog 100 #[.int .i64 43, .int .u32 (a : Int), .int .u32 (b : Int)] z fun e z' => e = .returned (.int .u32 ((aluP 43 a b : Nat) : Int)) ∧ z' = z := by
  intro z
  have D := Lib.hid (r7slow_calls 43 a b z (by decide) ha hb)
  go_enter Tryz.func100, Tryz.ntmps100
  go_wp2_with (fail)
  refine D.out.mono ?_
  rintro e z1 ⟨rfl, rfl⟩
  go_wp2_with (fail)
  go_ret
  exact ⟨rfl, rfl⟩
theorem r7do44 (a b : Nat) (ha : a < 2 ^ 32) (hb : b < 2 ^ 32) : ∀ z : World, Calls Tryz.prog 100 #[.int .i64 44, .int .u32 (a : Int), .int .u32 (b : Int)] z fun e z' => e = .returned (.int .u32 ((aluP 44 a b : Nat) : Int)) ∧ z' = z := by
  intro z
  have D := Lib.hid (r7slow_calls 44 a b z (by decide) ha hb)
  go_enter Tryz.func100, Tryz.ntmps100
  go_wp2_with (fail)
  refine D.out.mono ?_
  rintro e z1 ⟨rfl, rfl⟩
  go_wp2_with (fail)
  go_ret
  exact ⟨rfl, rfl⟩
theorem r7do45 (a b : Nat) (ha : a < 2 ^ 32) (hb : b < 2 ^ 32) : ∀ z : World, Calls Tryz.prog 100 #[.int .i64 45, .int .u32 (a : Int), .int .u32 (b : Int)] z fun e z' => e = .returned (.int .u32 ((aluP 45 a b : Nat) : Int)) ∧ z' = z := by
  intro z
  have D := Lib.hid (r7slow_calls 45 a b z (by decide) ha hb)
  go_enter Tryz.func100, Tryz.ntmps100
  go_wp2_with (fail)
  refine D.out.mono ?_
  rintro e z1 ⟨rfl, rfl⟩
  go_wp2_with (fail)
  go_ret
  exact ⟨rfl, rfl⟩
theorem r7do_calls (op a b : Nat) (z : World) (ho : 19 ≤ op ∧ op ≤ 45) (ha : a < 2 ^ 32) (hb : b < 2 ^ 32) :
    Calls Tryz.prog 100 #[.int .i64 (op : Int), .int .u32 (a : Int), .int .u32 (b : Int)] z fun e z' => e = .returned (.int .u32 ((aluP op a b : Nat) : Int)) ∧ z' = z := by
  rcases (by omega : op = 19 ∨ op = 20 ∨ op = 21 ∨ op = 22 ∨ op = 23 ∨ op = 24 ∨ op = 25 ∨ op = 26 ∨ op = 27 ∨ op = 28 ∨ op = 29 ∨ op = 30 ∨ op = 31 ∨ op = 32 ∨ op = 33 ∨ op = 34 ∨ op = 35 ∨ op = 36 ∨ op = 37 ∨ op = 38 ∨ op = 39 ∨ op = 40 ∨ op = 41 ∨ op = 42 ∨ op = 43 ∨ op = 44 ∨ op = 45) with rfl | rfl | rfl | rfl | rfl | rfl | rfl | rfl | rfl | rfl | rfl | rfl | rfl | rfl | rfl | rfl | rfl | rfl | rfl | rfl | rfl | rfl | rfl | rfl | rfl | rfl | rfl
  · exact r7do19 a b ha hb z
  · exact r7do20 a b ha hb z
  · exact r7do21 a b ha hb z
  · exact r7do22 a b ha hb z
  · exact r7do23 a b ha hb z
  · exact r7do24 a b ha hb z
  · exact r7do25 a b ha hb z
  · exact r7do26 a b ha hb z
  · exact r7do27 a b ha hb z
  · exact r7do28 a b ha hb z
  · exact r7do29 a b ha hb z
  · exact r7do30 a b ha hb z
  · exact r7do31 a b ha hb z
  · exact r7do32 a b ha hb z
  · exact r7do33 a b ha hb z
  · exact r7do34 a b ha hb z
  · exact r7do35 a b ha hb z
  · exact r7do36 a b ha hb z
  · exact r7do37 a b ha hb z
  · exact r7do38 a b ha hb z
  · exact r7do39 a b ha hb z
  · exact r7do40 a b ha hb z
  · exact r7do41 a b ha hb z
  · exact r7do42 a b ha hb z
  · exact r7do43 a b ha hb z
  · exact r7do44 a b ha hb z
  · exact r7do45 a b ha hb z
end Go.Proofs.YtmdjhahafjlebaaGreatDoor

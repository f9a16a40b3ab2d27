/- Numbers of 32 bits: the code's reckoning. -/
import Derived.Test.YtggjmdgonjhioaaGreatQZ04
import Derived.Test.YtggjmdgonjhioaaGreatProg
namespace Go.Proofs.YtggjmdgonjhioaaGreat
open Go.RowKit Go.Dio
set_option linter.unusedSimpArgs false
set_option linter.unusedVariables false

theorem mod_u32 (x : Int) : x % 4294967296 = ((u32 x : Nat) : Int) := by unfold u32; omega
theorem prod_lo (x y : Int) (hx : -2147483648 ≤ x ∧ x ≤ 2147483647) (hy : -2147483648 ≤ y ∧ y ≤ 4294967295) : -9223372036854775808 ≤ x * y ∧ x * y ≤ 9223372036854775807 := by
  have hn : (x * y).natAbs = x.natAbs * y.natAbs := Int.natAbs_mul x y
  have h1 : x.natAbs ≤ 2147483648 := by omega
  have h2 : y.natAbs ≤ 4294967296 - 1 := by omega
  have h3 : x.natAbs * y.natAbs ≤ 2147483648 * (4294967296 - 1) := Nat.mul_le_mul h1 h2
  rw [← hn] at h3
  omega
theorem prod_nat (a b : Nat) (ha : a < 2 ^ 32) (hb : b < 2 ^ 32) : 0 ≤ (a : Int) * b ∧ (a : Int) * b < 18446744073709551616 := by
  have h : a * b ≤ (2 ^ 32 - 1) * (2 ^ 32 - 1) := Nat.mul_le_mul (by omega) (by omega)
  have e : (a : Int) * b = ((a * b : Nat) : Int) := by push_cast; rfl
  rw [e]; omega
theorem tdiv_bound (x y : Int) (hx : -2147483648 ≤ x ∧ x ≤ 2147483647) (hy : y ≠ 0) (ho : ¬ (x = -2147483648 ∧ y = -1)) : -2147483648 ≤ x.tdiv y ∧ x.tdiv y ≤ 2147483647 := by
  have hn : (x.tdiv y).natAbs = x.natAbs / y.natAbs := Int.natAbs_tdiv x y
  have h2 : x.natAbs / y.natAbs ≤ x.natAbs := Nat.div_le_self _ _
  by_cases h1 : x = -2147483648
  · subst h1
    by_cases hy1 : y = 1
    · subst hy1; rw [Int.tdiv_one]; omega
    · have h3 : 2 ≤ y.natAbs := by omega
      have h4 : (-2147483648 : Int).natAbs / y.natAbs ≤ 2147483648 / 2 := by
        rw [show (-2147483648 : Int).natAbs = 2147483648 from rfl]; exact Nat.div_le_div_left h3 (by decide)
      omega
  · omega
theorem tmod_bound (x y : Int) (hx : -2147483648 ≤ x ∧ x ≤ 2147483647) : -2147483648 ≤ x.tmod y ∧ x.tmod y ≤ 2147483647 := by
  have hn : (x.tmod y).natAbs = x.natAbs % y.natAbs := Int.natAbs_tmod x y
  have h2 : x.natAbs % y.natAbs ≤ x.natAbs := Nat.mod_le _ _
  by_cases h1 : x = -2147483648
  · subst h1
    have hs : (-2147483648 : Int).tmod y ≤ 0 := by
      have h5 : (-2147483648 : Int).tmod y = -((2147483648 : Int).tmod y) := Int.neg_tmod 2147483648 y
      have h6 := Int.tmod_nonneg y (show (0 : Int) ≤ 2147483648 by decide)
      omega
    omega
  · omega
theorem bit_calls (d : Bool) (z : World) : Calls Tryz.prog 103 #[.bool d] z fun e z' => e = .returned (.int .u32 ((bitP d : Nat) : Int)) ∧ z' = z := by
  cases d
  ·
    go_enter Tryz.func103, Tryz.ntmps103
    go_wp2_with (fail)
    go_ret
    exact ⟨rfl, rfl⟩
  ·
    go_enter Tryz.func103, Tryz.ntmps103
    go_wp2_with (fail)
    go_ret
    exact ⟨rfl, rfl⟩
set_option maxHeartbeats 4000000 in
theorem divide_calls (op a b : Nat) (z : World) (h : op = 42 ∨ op = 43 ∨ op = 44 ∨ op = 45) (ha : a < 2 ^ 32) (hb : b < 2 ^ 32) :
    Calls Tryz.prog 104 #[.int .i64 (op : Int), .int .u32 (a : Int), .int .u32 (b : Int)] z fun e z' => e = .returned (.int .u32 ((aluP op a b : Nat) : Int)) ∧ z' = z := by
  have sa := wrap_s32 a ha
  have sb := wrap_s32 b hb
  have xa := s32_lo a ha
  have xb := s32_hi a ha
  by_cases hz : b = 0
  · subst hz
    generalize s32 a = x at sa xa xb
    clear sb
    rcases h with rfl | rfl | rfl | rfl
    all_goals
      by_cases h1 : x = -2147483648
      · have e1 : (x == -2147483648) = true := by rw [beq_iff_eq]; exact h1
        clear h1
        go_enter Tryz.func104, Tryz.ntmps104
        go_wp2_with (fail)
        go_ret
        exact ⟨rfl, rfl⟩
      · have e1 : (x == -2147483648) = false := by rw [beq_eq_false_iff_ne]; exact h1
        clear h1
        go_enter Tryz.func104, Tryz.ntmps104
        go_wp2_with (fail)
        go_ret
        exact ⟨rfl, rfl⟩
  · have dz : ((b : Int) == 0) = false := (cast_ne_b hz).1
    have hy0 : s32 b ≠ 0 := by unfold s32; split <;> omega
    have u42 : aluP 42 a b = u32 ((s32 a).tdiv (s32 b)) := by show (if b = 0 then _ else _) = _; rw [if_neg hz]
    have u43 : aluP 43 a b = a / b := by show (if b = 0 then _ else _) = _; rw [if_neg hz]
    have u44 : aluP 44 a b = u32 ((s32 a).tmod (s32 b)) := by show (if b = 0 then _ else _) = _; rw [if_neg hz]
    have u45 : aluP 45 a b = a % b := by show (if b = 0 then _ else _) = _; rw [if_neg hz]
    have ov : s32 a = -2147483648 ∧ s32 b = -1 → u32 ((s32 a).tdiv (s32 b)) = a ∧ u32 ((s32 a).tmod (s32 b)) = 0 := by
      rintro ⟨h1, h2⟩
      rw [h1, h2]
      have : a = 2147483648 := by unfold s32 at h1; split at h1 <;> omega
      subst this
      decide
    have q1 : (a : Int).tdiv (b : Int) = ((a / b : Nat) : Int) := by rw [Int.ofNat_tdiv]
    have q2 : (a : Int).tmod (b : Int) = ((a % b : Nat) : Int) := by rw [Int.ofNat_tmod]
    have q3 : a / b < 2 ^ 32 := Nat.lt_of_le_of_lt (Nat.div_le_self _ _) ha
    have q4 : a % b < 2 ^ 32 := Nat.lt_of_le_of_lt (Nat.mod_le _ _) ha
    have t1 := tdiv_bound (s32 a) (s32 b) ⟨xa, xb⟩ hy0
    have t2 := tmod_bound (s32 a) (s32 b) ⟨xa, xb⟩
    have v1 := wrap_u32 ((s32 a).tdiv (s32 b))
    have v2 := wrap_u32 ((s32 a).tmod (s32 b))
    have v3 := mod_u32 ((s32 a).tdiv (s32 b))
    have v4 := mod_u32 ((s32 a).tmod (s32 b))
    generalize s32 a = x at *
    generalize s32 b = y at *
    have y0 : (y == 0) = false := by rw [beq_eq_false_iff_ne]; exact hy0
    generalize a / b = c at *
    generalize a % b = d at *
    generalize hQ : x.tdiv y = Q at *
    generalize hR : x.tmod y = R at *
    generalize u32 Q = uq at *
    generalize u32 R = ur at *
    have H42 := Lib.hid u42
    have H43 := Lib.hid u43
    have H44 := Lib.hid u44
    have H45 := Lib.hid u45
    clear u42 u43 u44 u45
    by_cases h1 : x = -2147483648
    · have e1 : (x == -2147483648) = true := by rw [beq_iff_eq]; exact h1
      by_cases h2 : y = -1
      · have e2 : (y == -1) = true := by rw [beq_iff_eq]; exact h2
        obtain ⟨o1, o2⟩ := ov ⟨h1, h2⟩
        clear ov t1 h1 h2
        rcases h with rfl | rfl | rfl | rfl
        · skip
          go_enter Tryz.func104, Tryz.ntmps104
          go_wp2_with (fail)
          go_ret
          exact ⟨by rw [H42.out, o1]; rfl, rfl⟩
        · skip
          go_enter Tryz.func104, Tryz.ntmps104
          go_wp2_with (fail)
          go_ret
          exact ⟨by rw [H43.out]; rfl, rfl⟩
        · skip
          go_enter Tryz.func104, Tryz.ntmps104
          go_wp2_with (fail)
          go_ret
          exact ⟨by rw [H44.out, o2]; rfl, rfl⟩
        · skip
          go_enter Tryz.func104, Tryz.ntmps104
          go_wp2_with (fail)
          go_ret
          exact ⟨by rw [H45.out]; rfl, rfl⟩
      · have e2 : (y == -1) = false := by rw [beq_eq_false_iff_ne]; exact h2
        obtain ⟨t3, t4⟩ := t1 (fun hh => h2 hh.2)
        have w1 : IntKind.i32.wrap Q = Q := by rw [IntKind.wrap_i32]; omega
        have w2 : IntKind.i32.wrap R = R := by rw [IntKind.wrap_i32]; omega
        clear ov t1 h1
        rcases h with rfl | rfl | rfl | rfl
        · skip
          go_enter Tryz.func104, Tryz.ntmps104
          go_wp2_with (fail)
          go_ret
          exact ⟨by rw [H42.out]; rfl, rfl⟩
        · skip
          go_enter Tryz.func104, Tryz.ntmps104
          go_wp2_with (fail)
          go_ret
          exact ⟨by rw [H43.out]; rfl, rfl⟩
        · skip
          go_enter Tryz.func104, Tryz.ntmps104
          go_wp2_with (fail)
          go_ret
          exact ⟨by rw [H44.out]; rfl, rfl⟩
        · skip
          go_enter Tryz.func104, Tryz.ntmps104
          go_wp2_with (fail)
          go_ret
          exact ⟨by rw [H45.out]; rfl, rfl⟩
    · have e1 : (x == -2147483648) = false := by rw [beq_eq_false_iff_ne]; exact h1
      obtain ⟨t3, t4⟩ := t1 (fun hh => h1 hh.1)
      have w1 : IntKind.i32.wrap Q = Q := by rw [IntKind.wrap_i32]; omega
      have w2 : IntKind.i32.wrap R = R := by rw [IntKind.wrap_i32]; omega
      clear ov t1 h1
      rcases h with rfl | rfl | rfl | rfl
      · skip
        go_enter Tryz.func104, Tryz.ntmps104
        go_wp2_with (fail)
        go_ret
        exact ⟨by rw [H42.out]; rfl, rfl⟩
      · skip
        go_enter Tryz.func104, Tryz.ntmps104
        go_wp2_with (fail)
        go_ret
        exact ⟨by rw [H43.out]; rfl, rfl⟩
      · skip
        go_enter Tryz.func104, Tryz.ntmps104
        go_wp2_with (fail)
        go_ret
        exact ⟨by rw [H44.out]; rfl, rfl⟩
      · skip
        go_enter Tryz.func104, Tryz.ntmps104
        go_wp2_with (fail)
        go_ret
        exact ⟨by rw [H45.out]; rfl, rfl⟩
end Go.Proofs.YtggjmdgonjhioaaGreat

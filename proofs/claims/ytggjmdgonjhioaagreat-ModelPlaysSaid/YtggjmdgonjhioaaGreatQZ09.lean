/- The document's fields of instructions: what they tell. -/
import Derived.Test.YtggjmdgonjhioaaGreatQZ04
import Derived.Test.YtggjmdgonjhioaaGreatProg
import Derived.Deep.LoopGhost
namespace Go.Proofs.YtggjmdgonjhioaaGreat
open Go.RowKit Go.Dio
set_option linter.unusedSimpArgs false
set_option linter.unusedVariables false

theorem rBits_calls (w a n : Nat) (z : World) (hw : w < 2 ^ 32) (ha : a < 32) (h1 : 1 ≤ n) (hn : a + n ≤ 32) :
    Calls Tryz.prog 49 #[.int .u32 (w : Int), .int .i64 (a : Int), .int .i64 (n : Int)] z fun e z' => e = .returned (.int .u32 (fb w a n : Int)) ∧ z' = z := by
  have d1 : decide ((a : Int) < 0) = false := decide_eq_false (by omega)
  have d2 : decide ((31 : Int) < (a : Int)) = false := decide_eq_false (by omega)
  have d3 : decide ((n : Int) < 1) = false := decide_eq_false (by omega)
  have d4 : decide ((32 : Int) < (n : Int)) = false := decide_eq_false (by omega)
  go_enter Tryz.func49, Tryz.ntmps49
  go_wp2_with (fail)
  go_loopg [7, 8] n (fun g v7 v8 wl => ∃ k r : Nat, v8 = .int .i64 (k : Int) ∧ k ≤ n ∧ g = n - k ∧ v7 = .int .u32 (r : Int) ∧ Hid (r = fb w a k) ∧ Hid (wl = z))
  case atStart => exact ⟨0, 0, rfl, by omega, rfl, rfl, Lib.hid (by simp [fb, Nat.mod_one]), Lib.hid rfl⟩
  case round =>
    obtain ⟨k, r, rfl, hk, hg, rfl, HR, HW⟩ := hrel
    rcases Nat.lt_or_ge k n with hkn | hkn
    · have e1 : decide ((k : Int) < (n : Int)) = true := decide_eq_true (by omega)
      have e2 : decide ((a : Int) + (k : Int) < 32) = true := decide_eq_true (by omega)
      have e3 : IntKind.i64.wrap ((a : Int) + (k : Int)) = ((a + k : Nat) : Int) := by rw [wrapi64 (by omega) (by omega)]; omega
      have hx := refShr w (a + k) hw
      have hb : w / 2 ^ (a + k) % 2 < 2 := Nat.mod_lt _ (by decide)
      have hs := refShl (w / 2 ^ (a + k) % 2) k hb (by omega)
      have hr : r < 2 ^ 32 := by rw [HR.out]; exact fb_lt32 w a k (by omega)
      have hlt : w / 2 ^ (a + k) % 2 * 2 ^ k < 2 ^ 32 := by
        refine Nat.lt_of_lt_of_le (Nat.mul_lt_mul_of_pos_right hb (Nat.pow_pos (by decide))) ?_
        rw [← Nat.pow_succ']; exact Nat.pow_le_pow_right (by decide) (by omega)
      have ho := or32 r (w / 2 ^ (a + k) % 2 * 2 ^ k) hr hlt
      have HN : Hid (r ||| (w / 2 ^ (a + k) % 2 * 2 ^ k) = fb w a (k + 1)) := Lib.hid (by rw [HR.out, fb_succ])
      generalize r ||| (w / 2 ^ (a + k) % 2 * 2 ^ k) = r2 at ho HN
      generalize w / 2 ^ (a + k) % 2 * 2 ^ k = s at hs ho
      generalize w / 2 ^ (a + k) % 2 = t at hx hs
      go_wp2_with (fail)
      go_roundg (n - (k + 1))
      case measure => omega
      case rel => exact ⟨k + 1, r2, by go_num, by omega, rfl, rfl, HN, HW⟩
    · obtain rfl : k = n := by omega
      go_wp2_with (fail)
      go_ret
      exact ⟨by rw [HR.out]; rfl, HW.out⟩

theorem rSign_calls (n b : Nat) (z : World) (hb : b = 12 ∨ b = 13 ∨ b = 21) :
    Calls Tryz.prog 78 #[.int .u32 (n : Int), .int .i64 (b : Int)] z fun e z' => e = .returned (.int .i32 (sx n b)) ∧ z' = z := by
  rcases hb with rfl | rfl | rfl
  · have e := sx12 n
    go_enter Tryz.func78, Tryz.ntmps78
    go_wp2_with (fail)
    go_ret
    exact ⟨by rw [← e]; rfl, rfl⟩
  · have e := sx13 n
    go_enter Tryz.func78, Tryz.ntmps78
    go_wp2_with (fail)
    go_ret
    exact ⟨by rw [← e]; rfl, rfl⟩
  · have e := sx21 n
    go_enter Tryz.func78, Tryz.ntmps78
    go_wp2_with (fail)
    go_ret
    exact ⟨by rw [← e]; rfl, rfl⟩

theorem rImmI_calls (w : Nat) (z : World) (hw : w < 2 ^ 32) :
    Calls Tryz.prog 53 #[.int .u32 (w : Int)] z fun e z' => e = .returned (.int .i32 (immI w)) ∧ z' = z := by
  unfold immI
  go_enter Tryz.func53, Tryz.ntmps53
  go_wp2_with (fail)
  refine (rBits_calls w 20 12 _ hw (by decide) (by decide) (by decide)).mono ?_
  rintro e z1 ⟨rfl, rfl⟩
  go_wp2_with (fail)
  refine (rSign_calls (fb w 20 12) 12 _ (by simp)).mono ?_
  rintro e z1 ⟨rfl, rfl⟩
  go_wp2_with (fail)
  go_ret
  exact ⟨rfl, rfl⟩

theorem rImmS_calls (w : Nat) (z : World) (hw : w < 2 ^ 32) :
    Calls Tryz.prog 55 #[.int .u32 (w : Int)] z fun e z' => e = .returned (.int .i32 (immS w)) ∧ z' = z := by
  obtain ⟨B, p1, p2⟩ := sN_or (fb w 25 7) (fb w 7 5) (fb_lt _ _ _) (fb_lt _ _ _)
  rw [immS]
  generalize fb w 25 7 * 32 + fb w 7 5 = A at p2 ⊢
  go_enter Tryz.func55, Tryz.ntmps55
  go_wp2_with (fail)
  refine (rBits_calls w 25 7 _ hw (by decide) (by decide) (by decide)).mono ?_
  rintro e z1 ⟨rfl, rfl⟩
  go_wp2_with (fail)
  refine (rBits_calls w 7 5 _ hw (by decide) (by decide) (by decide)).mono ?_
  rintro e z1 ⟨rfl, rfl⟩
  go_wp2_with (fail)
  refine (rSign_calls A 12 _ (by simp)).mono ?_
  rintro e z1 ⟨rfl, rfl⟩
  go_wp2_with (fail)
  go_ret
  exact ⟨rfl, rfl⟩

theorem immU_hi (w : Nat) (hw : w < 2 ^ 32) : immU w = s32 (w / 4096 * 4096) := by
  have e : fb w 12 20 = w / 4096 := by
    have e1 : (2 : Nat) ^ 12 = 4096 := by decide
    have e2 : (2 : Nat) ^ 20 = 1048576 := by decide
    rw [fb, e1, e2]; omega
  rw [immU, e]
theorem rImmU_calls (w : Nat) (z : World) (hw : w < 2 ^ 32) :
    Calls Tryz.prog 50 #[.int .u32 (w : Int)] z fun e z' => e = .returned (.int .i32 (immU w)) ∧ z' = z := by
  have p1 := high12 w hw
  have p2 := wrap_s32 (w / 4096 * 4096) (Nat.lt_of_le_of_lt (Nat.div_mul_le_self _ _) hw)
  rw [immU_hi w hw]
  generalize s32 (w / 4096 * 4096) = A at p2 ⊢
  generalize w / 4096 * 4096 = B at p1 p2
  go_enter Tryz.func50, Tryz.ntmps50
  go_wp2_with (fail)
  go_ret
  exact ⟨rfl, rfl⟩

theorem rImmB_calls (w : Nat) (z : World) (hw : w < 2 ^ 32) :
    Calls Tryz.prog 54 #[.int .u32 (w : Int)] z fun e z' => e = .returned (.int .i32 (immB w)) ∧ z' = z := by
  obtain ⟨B, C, D, E, F, G, p1, p2, p3, p4, q1, q2, q3⟩ := bN_or (fb w 31 1) (fb w 7 1) (fb w 25 6) (fb w 8 4) (fb_lt _ _ _) (fb_lt _ _ _) (fb_lt _ _ _) (fb_lt _ _ _)
  rw [immB]
  generalize bN (fb w 31 1) (fb w 7 1) (fb w 25 6) (fb w 8 4) = A at q3 ⊢
  go_enter Tryz.func54, Tryz.ntmps54
  go_wp2_with (fail)
  refine (rBits_calls w 31 1 _ hw (by decide) (by decide) (by decide)).mono ?_
  rintro e z1 ⟨rfl, rfl⟩
  go_wp2_with (fail)
  refine (rBits_calls w 7 1 _ hw (by decide) (by decide) (by decide)).mono ?_
  rintro e z1 ⟨rfl, rfl⟩
  go_wp2_with (fail)
  refine (rBits_calls w 25 6 _ hw (by decide) (by decide) (by decide)).mono ?_
  rintro e z1 ⟨rfl, rfl⟩
  go_wp2_with (fail)
  refine (rBits_calls w 8 4 _ hw (by decide) (by decide) (by decide)).mono ?_
  rintro e z1 ⟨rfl, rfl⟩
  go_wp2_with (fail)
  refine (rSign_calls A 13 _ (by simp)).mono ?_
  rintro e z1 ⟨rfl, rfl⟩
  go_wp2_with (fail)
  go_ret
  exact ⟨rfl, rfl⟩

theorem rImmJ_calls (w : Nat) (z : World) (hw : w < 2 ^ 32) :
    Calls Tryz.prog 51 #[.int .u32 (w : Int)] z fun e z' => e = .returned (.int .i32 (immJ w)) ∧ z' = z := by
  obtain ⟨B, C, D, E, F, G, p1, p2, p3, p4, q1, q2, q3⟩ := jN_or (fb w 31 1) (fb w 12 8) (fb w 20 1) (fb w 21 10) (fb_lt _ _ _) (fb_lt _ _ _) (fb_lt _ _ _) (fb_lt _ _ _)
  rw [immJ]
  generalize jN (fb w 31 1) (fb w 12 8) (fb w 20 1) (fb w 21 10) = A at q3 ⊢
  go_enter Tryz.func51, Tryz.ntmps51
  go_wp2_with (fail)
  refine (rBits_calls w 31 1 _ hw (by decide) (by decide) (by decide)).mono ?_
  rintro e z1 ⟨rfl, rfl⟩
  go_wp2_with (fail)
  refine (rBits_calls w 12 8 _ hw (by decide) (by decide) (by decide)).mono ?_
  rintro e z1 ⟨rfl, rfl⟩
  go_wp2_with (fail)
  refine (rBits_calls w 20 1 _ hw (by decide) (by decide) (by decide)).mono ?_
  rintro e z1 ⟨rfl, rfl⟩
  go_wp2_with (fail)
  refine (rBits_calls w 21 10 _ hw (by decide) (by decide) (by decide)).mono ?_
  rintro e z1 ⟨rfl, rfl⟩
  go_wp2_with (fail)
  refine (rSign_calls A 21 _ (by simp)).mono ?_
  rintro e z1 ⟨rfl, rfl⟩
  go_wp2_with (fail)
  go_ret
  exact ⟨rfl, rfl⟩
end Go.Proofs.YtggjmdgonjhioaaGreat

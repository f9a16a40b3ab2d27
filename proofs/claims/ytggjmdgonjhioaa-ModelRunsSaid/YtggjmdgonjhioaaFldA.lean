/- The code's fields of instructions: what they tell. -/
import Derived.Test.YtggjmdgonjhioaaIsaL
import Derived.Test.YtggjmdgonjhioaaProg
import Derived.Deep.LoopGhost
namespace Go.Proofs.Ytggjmdgonjhioaa
open Go.RowKit Go.Dio
set_option linter.unusedSimpArgs false
set_option linter.unusedVariables false

theorem fBits_calls (w a n : Nat) (z : World) (hw : w < 2 ^ 32) (ha : a < 32) (h1 : 1 ≤ n) (hn : n ≤ 32) :
    Calls Try.prog 32 #[.int .u32 (w : Int), .int .i64 (a : Int), .int .i64 (n : Int)] z fun e z' => e = .returned (.int .u32 (fb w a n : Int)) ∧ ∃ k, z' = z.drewN k := by
  have d1 : decide ((a : Int) < 0) = false := decide_eq_false (by omega)
  have d2 : decide ((32 : Int) ≤ (a : Int)) = false := decide_eq_false (by omega)
  have d3 : decide ((n : Int) < 1) = false := decide_eq_false (by omega)
  have d4 : decide ((32 : Int) < (n : Int)) = false := decide_eq_false (by omega)
  have d5 : decide ((n : Int) < 0) = false := decide_eq_false (by omega)
  have p1 : IntKind.u64.wrap (w : Int) = (w : Int) := wrap64 (by omega) (by omega)
  have p2 : IntKind.u64.wrap ((2 : Int) ^ n) = (2 : Int) ^ n := pow64 n (by omega)
  have hB := fb_and w a n hw hn
  have hp := Nat.pow_lt_pow_right (a := 2) (by decide) (show n < 64 by omega)
  have hp0 := Nat.pow_pos (a := 2) (n := n) (by decide)
  have p3 : IntKind.u64.wrap ((2 : Int) ^ n - 1) = (2 : Int) ^ n - 1 := by
    rw [show ((2 : Int) ^ n) = ((2 ^ n : Nat) : Int) by push_cast; rfl]; exact wrap64 (by omega) (by omega)
  have hf := fb_lt32 w a n hn
  have p4 : IntKind.u32.wrap (fb w a n : Int) = (fb w a n : Int) := wrap32 (by omega) (by omega)
  generalize fb w a n = r at *
  go_enter Try.func32, Try.ntmps32
  go_wp2_with (fail)
  go_quiet (fail)
  go_wp2_with (fail)
  go_ret
  exact ⟨rfl, _, rfl⟩

theorem fSign_calls (n b : Nat) (z : World) (hb : b = 12 ∨ b = 13 ∨ b = 21) :
    Calls Try.prog 81 #[.int .u32 (n : Int), .int .i64 (b : Int)] z fun e z' => e = .returned (.int .i32 (sx n b)) ∧ z' = z := by
  rcases hb with rfl | rfl | rfl
  · have e := sx12 n
    go_enter Try.func81, Try.ntmps81
    go_wp2_with (fail)
    go_ret
    exact ⟨by rw [← e]; rfl, rfl⟩
  · have e := sx13 n
    go_enter Try.func81, Try.ntmps81
    go_wp2_with (fail)
    go_ret
    exact ⟨by rw [← e]; rfl, rfl⟩
  · have e := sx21 n
    go_enter Try.func81, Try.ntmps81
    go_wp2_with (fail)
    go_ret
    exact ⟨by rw [← e]; rfl, rfl⟩

theorem fImmI_calls (w : Nat) (z : World) (hw : w < 2 ^ 32) :
    Calls Try.prog 65 #[.int .u32 (w : Int)] z fun e z' => e = .returned (.int .i32 (immI w)) ∧ ∃ k, z' = z.drewN k := by
  unfold immI
  go_enter Try.func65, Try.ntmps65
  go_wp2_with (fail)
  refine (fBits_calls w 20 12 _ hw (by decide) (by decide) (by decide)).mono ?_
  rintro e z1 ⟨rfl, k, rfl⟩
  go_wp2_with (fail)
  refine (fSign_calls (fb w 20 12) 12 _ (by simp)).mono ?_
  rintro e z1 ⟨rfl, rfl⟩
  go_wp2_with (fail)
  go_ret
  exact ⟨rfl, _, rfl⟩

theorem fImmS_calls (w : Nat) (z : World) (hw : w < 2 ^ 32) :
    Calls Try.prog 68 #[.int .u32 (w : Int)] z fun e z' => e = .returned (.int .i32 (immS w)) ∧ ∃ k, z' = z.drewN k := by
  have h1 := fb_lt w 25 7
  have h2 := fb_lt w 7 5
  have p1 : IntKind.u32.wrap ((fb w 25 7 : Int) * 32) = ((fb w 25 7 * 32 : Nat) : Int) := by rw [wrap32 (by omega) (by omega)]; omega
  have p2 : bits .or .u32 ((fb w 25 7 * 32 : Nat) : Int) (fb w 7 5 : Int) = ((fb w 25 7 * 32 + fb w 7 5 : Nat) : Int) := by
    rw [or32 _ _ (by omega) (by omega), or_add _ _ 5 h2]
  rw [immS]
  generalize hA : fb w 25 7 * 32 + fb w 7 5 = A at p2 ⊢
  generalize hB : fb w 25 7 * 32 = B at p1 p2
  clear hA hB
  go_enter Try.func68, Try.ntmps68
  go_wp2_with (fail)
  refine (fBits_calls w 25 7 _ hw (by decide) (by decide) (by decide)).mono ?_
  rintro e z1 ⟨rfl, k, rfl⟩
  go_wp2_with (fail)
  refine (fBits_calls w 7 5 _ hw (by decide) (by decide) (by decide)).mono ?_
  rintro e z1 ⟨rfl, k, rfl⟩
  go_wp2_with (fail)
  refine (fSign_calls A 12 _ (by simp)).mono ?_
  rintro e z1 ⟨rfl, rfl⟩
  go_wp2_with (fail)
  go_ret
  exact ⟨rfl, _, rfl⟩

theorem fImmU_calls (w : Nat) (z : World) (hw : w < 2 ^ 32) :
    Calls Try.prog 63 #[.int .u32 (w : Int)] z fun e z' => e = .returned (.int .i32 (immU w)) ∧ ∃ k, z' = z.drewN k := by
  have h1 := fb_lt w 12 20
  have p1 : IntKind.u32.wrap ((fb w 12 20 : Int) * 4096) = ((fb w 12 20 * 4096 : Nat) : Int) := by rw [wrap32 (by omega) (by omega)]; omega
  have p2 := wrap_s32 (fb w 12 20 * 4096) (by omega)
  rw [immU]
  generalize s32 (fb w 12 20 * 4096) = A at p2 ⊢
  generalize hB : fb w 12 20 * 4096 = B at p1 p2
  clear hB
  go_enter Try.func63, Try.ntmps63
  go_wp2_with (fail)
  refine (fBits_calls w 12 20 _ hw (by decide) (by decide) (by decide)).mono ?_
  rintro e z1 ⟨rfl, k, rfl⟩
  go_wp2_with (fail)
  go_ret
  exact ⟨rfl, _, rfl⟩

theorem fImmB_calls (w : Nat) (z : World) (hw : w < 2 ^ 32) :
    Calls Try.prog 67 #[.int .u32 (w : Int)] z fun e z' => e = .returned (.int .i32 (immB w)) ∧ ∃ k, z' = z.drewN k := by
  obtain ⟨B, C, D, E, F, G, p1, p2, p3, p4, q1, q2, q3⟩ := bN_or (fb w 31 1) (fb w 7 1) (fb w 25 6) (fb w 8 4) (fb_lt _ _ _) (fb_lt _ _ _) (fb_lt _ _ _) (fb_lt _ _ _)
  rw [immB]
  generalize bN (fb w 31 1) (fb w 7 1) (fb w 25 6) (fb w 8 4) = A at q3 ⊢
  go_enter Try.func67, Try.ntmps67
  go_wp2_with (fail)
  refine (fBits_calls w 31 1 _ hw (by decide) (by decide) (by decide)).mono ?_
  rintro e z1 ⟨rfl, k, rfl⟩
  go_wp2_with (fail)
  refine (fBits_calls w 7 1 _ hw (by decide) (by decide) (by decide)).mono ?_
  rintro e z1 ⟨rfl, k, rfl⟩
  go_wp2_with (fail)
  refine (fBits_calls w 25 6 _ hw (by decide) (by decide) (by decide)).mono ?_
  rintro e z1 ⟨rfl, k, rfl⟩
  go_wp2_with (fail)
  refine (fBits_calls w 8 4 _ hw (by decide) (by decide) (by decide)).mono ?_
  rintro e z1 ⟨rfl, k, rfl⟩
  go_wp2_with (fail)
  refine (fSign_calls A 13 _ (by simp)).mono ?_
  rintro e z1 ⟨rfl, rfl⟩
  go_wp2_with (fail)
  go_ret
  exact ⟨rfl, _, rfl⟩

theorem fImmJ_calls (w : Nat) (z : World) (hw : w < 2 ^ 32) :
    Calls Try.prog 64 #[.int .u32 (w : Int)] z fun e z' => e = .returned (.int .i32 (immJ w)) ∧ ∃ k, z' = z.drewN k := by
  obtain ⟨B, C, D, E, F, G, p1, p2, p3, p4, q1, q2, q3⟩ := jN_or (fb w 31 1) (fb w 12 8) (fb w 20 1) (fb w 21 10) (fb_lt _ _ _) (fb_lt _ _ _) (fb_lt _ _ _) (fb_lt _ _ _)
  rw [immJ]
  generalize jN (fb w 31 1) (fb w 12 8) (fb w 20 1) (fb w 21 10) = A at q3 ⊢
  go_enter Try.func64, Try.ntmps64
  go_wp2_with (fail)
  refine (fBits_calls w 31 1 _ hw (by decide) (by decide) (by decide)).mono ?_
  rintro e z1 ⟨rfl, k, rfl⟩
  go_wp2_with (fail)
  refine (fBits_calls w 12 8 _ hw (by decide) (by decide) (by decide)).mono ?_
  rintro e z1 ⟨rfl, k, rfl⟩
  go_wp2_with (fail)
  refine (fBits_calls w 20 1 _ hw (by decide) (by decide) (by decide)).mono ?_
  rintro e z1 ⟨rfl, k, rfl⟩
  go_wp2_with (fail)
  refine (fBits_calls w 21 10 _ hw (by decide) (by decide) (by decide)).mono ?_
  rintro e z1 ⟨rfl, k, rfl⟩
  go_wp2_with (fail)
  refine (fSign_calls A 21 _ (by simp)).mono ?_
  rintro e z1 ⟨rfl, rfl⟩
  go_wp2_with (fail)
  go_ret
  exact ⟨rfl, _, rfl⟩
end Go.Proofs.Ytggjmdgonjhioaa

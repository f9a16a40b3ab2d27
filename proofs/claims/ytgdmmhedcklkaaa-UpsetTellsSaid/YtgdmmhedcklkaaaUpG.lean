/- upset.Sort: the sorted row, in a block of its own. -/
import Derived.Test.YtgdmmhedcklkaaaUpF
namespace Go.Proofs.Ytgdmmhedcklkaaa
open Go.RowKit Go.Dio
set_option linter.unusedSimpArgs false
set_option linter.unusedVariables false

theorem insertion_nil (f : Value) (w : World) :
    Calls Try.prog 33 #[.slice none 0 0, .int .i64 0, .int .i64 0, f] w fun e w' => e = .returned (.tuple #[]) ∧ w' = w := by
  go_enter Try.func33, Try.ntmps33
  go_wp2_with (fail)
  go_loopw [8] (fun i wr => i = .int .i64 1 ∧ wr = w) (fun i _ => 0)
  case atStart => exact ⟨rfl, rfl⟩
  case round =>
    obtain ⟨rfl, rfl⟩ := hrel
    go_wp2_with (fail)
    go_end0
    exact ⟨rfl, rfl⟩
theorem len64_zero (w : World) :
    Calls Try.prog 42 #[.int .u64 0] w fun e w' => (∃ n : Int, e = .returned (.int .i64 n)) ∧ w' = w := by
  go_enter Try.func42, Try.ntmps42
  go_wp2_with (fail)
  go_ret
  exact ⟨⟨_, rfl⟩, rfl⟩
theorem len_zero (w : World) :
    Calls Try.prog 31 #[.int .u64 0] w fun e w' => (∃ n : Int, e = .returned (.int .i64 n)) ∧ w' = w := by
  go_enter Try.func31, Try.ntmps31
  go_wp2_with (fail)
  refine (len64_zero _).mono ?_
  rintro e w' ⟨⟨n, rfl⟩, rfl⟩
  go_wp2_with (fail)
  go_ret
  exact ⟨⟨n, rfl⟩, rfl⟩
theorem pdq_nil (f : Value) (n : Int) (w : World) :
    Calls Try.prog 30 #[.slice none 0 0, .int .i64 0, .int .i64 0, .int .i64 n, f] w fun e w' => e = .returned (.tuple #[]) ∧ w' = w := by
  go_enter Try.func30, Try.ntmps30
  go_wp2_with (fail)
  go_loopw [1, 2, 3, 10, 11] (fun v1 v2 v3 v10 v11 wr => v1 = .int .i64 0 ∧ v2 = .int .i64 0 ∧ wr = w) (fun _ _ _ _ _ _ => 0)
  case atStart => exact ⟨rfl, rfl, rfl⟩
  case round =>
    obtain ⟨rfl, rfl, rfl⟩ := hrel
    go_wp2_with (fail)
    refine (insertion_nil f _).mono ?_
    rintro e w' ⟨rfl, rfl⟩
    go_wp2_with (fail)
    refine bodyPost_ret (results_none rfl _ _ _) rfl ?_
    exact ⟨rfl, rfl⟩
theorem SortFunc_nil (w : World) :
    Calls Try.prog 25 #[.slice none 0 0, .func (.func 26) #[] #[]] w fun e w' => e = .returned (.tuple #[]) ∧ w' = w := by
  go_enter Try.func25, Try.ntmps25
  go_wp2_with (fail)
  refine (len_zero _).mono ?_
  rintro e w' ⟨⟨n, rfl⟩, rfl⟩
  go_wp2_with (fail)
  refine (pdq_nil _ n _).mono ?_
  rintro e w' ⟨rfl, rfl⟩
  go_wp2_with (fail)
  go_end0
  exact ⟨rfl, rfl⟩
/-- upset.Sort. -/
theorem Sort_calls (A : Option Addr) (l : List UpV) (c : Nat) (w : World) (h : UpsAt w A l) (hl : l.length ≤ 1048576) :
    Calls Try.prog 14 #[.slice A l.length c] w fun e w' => ∃ B cap, e = .returned (.slice B l.length cap) ∧ Upd [] w w' ∧ l.length ≤ cap ∧ cap ≤ 9223372036854775807 ∧ UpsAt w' B (srt l) := by
  have HC := Lib.hid (Clone_calls A l c w h hl)
  have SF := Lib.hid (fun g cap cur w1 a b => SortFunc_calls g cap cur l w1 a b hl)
  clear h
  have HS := Lib.hid (srt_len l)
  generalize hL : l.length = L at hl HC SF HS ⊢
  have HL := Lib.hid hL
  clear hL
  go_enter Try.func14, Try.ntmps14
  go_wp2_with (fail)
  refine HC.out.mono ?_
  rintro e w1 ⟨B, cap, rfl, u1, h1, h2, h3, h4⟩
  have U1 := Lib.hid u1
  have H2 := Lib.hid h2
  clear u1 h2
  go_wp2_with (fail)
  cases B with
  | none =>
    obtain ⟨rfl, h0⟩ := h3 rfl
    subst h0
    have e0 : l = [] := List.eq_nil_of_length_eq_zero HL.out
    subst e0
    refine (SortFunc_nil w1).mono ?_
    rintro e w2 ⟨rfl, rfl⟩
    go_wp2
    go_ret
    exact ⟨none, 0, rfl, U1.out, by omega, by omega, upsAt_nil _ _⟩
  | some a =>
    obtain ⟨g, cur, rfl, hg, hh⟩ := h4 _ rfl
    refine (SF.out g cap cur w1 hh H2.out).mono ?_
    rintro e w2 ⟨rfl, u2, h5⟩
    have U2 := Lib.hid (U1.out.then u2 (fun x hx hlt => by simp at hx; omega))
    have H5 := Lib.hid h5
    clear u2 h5 hh h4
    go_wp2
    go_ret
    exact ⟨some ⟨g, 0, none⟩, L, rfl, U2.out, by omega, by omega, H5.out⟩
end Go.Proofs.Ytgdmmhedcklkaaa

/- upset.Sort: the sorted row, in a block of its own. -/
import Derived.Test.YtgdmmhedcklkaaaUpW
import Derived.Lib.SliceRun
namespace Go.Proofs.Ytgdmmhedcklkaaa
open Go.RowKit Go.Dio
set_option linter.unusedSimpArgs false
set_option linter.unusedVariables false

theorem Clone_calls (A : Option Addr) (l : List UpV) (c : Nat) (w : World) (h : UpsAt w A l) (hl : l.length ≤ 1048576) :
    Calls Try.prog 24 #[.slice A l.length c] w fun e w' => ∃ B cap, e = .returned (.slice B l.length cap) ∧ Upd [] w w' ∧ l.length ≤ cap ∧ UpsAt w' B l ∧ (B = none → cap = 0 ∧ l.length = 0) ∧ ∀ a, B = some a → ∃ g cur, a = ⟨g, 0, none⟩ ∧ w.heap.size ≤ g ∧ w'.heap[g]? = some (.cells cur 37 (0, 0)) := by
  have HQ := Lib.hid h
  clear h
  obtain ⟨L, hL⟩ : ∃ L, L = l.length := ⟨_, rfl⟩
  rw [← hL] at hl ⊢
  have HL := Lib.hid hL
  clear hL
  go_enter Try.func24, Try.ntmps24
  have q35 : ∀ (w : World) (a : Option Addr) (n c n' c' : Nat), (binOp .eql 35 (.slice a n c) (.slice none n' c')).run Try.prog w = .ok (.bool a.isNone) w := fun w a n c n' c' => Lib.run_eql_slice_nil w _ _ a n c n' c' Try.underlying35
  cases A with
  | none =>
    go_wp2_with (fail)
    have h0 : L = 0 := by
      rcases Nat.eq_zero_or_pos L with h0 | h0
      · exact h0
      · obtain ⟨b, o, hA, _⟩ := HQ.out (by rw [← HL.out]; exact h0)
        cases hA
    have e0 : l = [] := List.eq_nil_of_length_eq_zero (by rw [← HL.out, h0])
    subst e0 h0
    go_ret
    exact ⟨none, 0, rfl, Upd.refl _ _, by simp, upsAt_nil _ _, fun _ => ⟨rfl, trivial⟩, fun a ha => by cases ha⟩
  | some a =>
    go_wp2_with (first
      | go_skip
      | (refine L_append _ (.tmp 5) (.tmp 6) 35 rfl (by kernel_rfl) w.heap.size 37 _ 2 16 Try.underlying35 info_up rfl (by omega) (.slice (some ⟨w.heap.size, 0, none⟩) 0 0) 0 [] rfl (World.ownsRow_lit _ #[] 0 (Nat.le_refl _) (by simp [maxLen]) rfl) (some a) L c (upVals l) rfl (by rw [upVals_len, HL.out]) (srcAt_ups (HQ.out.of_upd ((Upd.refl [] w).alloc _))) (upVals_one _) (by simp only [maxLen]; omega) (by omega) (by simp) ?_)
      | fail)
    intro v' w' own g1 at1
    obtain ⟨B, cap, rfl, hn, hc, hc2, hu, h0, ha⟩ := ups_of_own own
    have U := Lib.hid (((Upd.refl [] w).alloc (.cells #[] 37)).grown g1 (fun g hg hlt => by
      simp [Value.ownBlock] at hg; omega))
    rw [← hn] at h0 ⊢
    go_wp2_with (fail)
    go_ret
    exact ⟨B, cap, rfl, U.out, by omega, hu, h0, ha⟩
end Go.Proofs.Ytgdmmhedcklkaaa

/- upset.Right and upset.Spaced. -/
import Derived.Test.YtgdmmhedcklkaaaUpG
namespace Go.Proofs.Ytgdmmhedcklkaaa
open Go.RowKit Go.Dio
set_option linter.unusedSimpArgs false
set_option linter.unusedVariables false

set_option maxHeartbeats 1000000 in
theorem Right_calls (A : Option Addr) (l : List UpV) (c : Nat) (bits budget : Int) (w : World) (h : UpsAt w A l) (hl : l.length ≤ 1048576) :
    Calls Try.prog 13 #[.slice A l.length c, .int .i64 bits, .int .i64 budget] w fun e w' => e = .returned (.int .i64 (rightE l bits budget)) ∧ Upd [] w w' := by
  rcases Nat.lt_or_ge 64 l.length with h64 | h64
  · have e : rightE l bits budget = 3 := by unfold rightE; rw [if_pos h64]
    rw [e]
    clear e
    generalize l.length = L at hl h64 ⊢
    have d : decide ((L : Int) > 64) = true := decide_eq_true (by omega)
    go_enter Try.func13, Try.ntmps13
    go_wp2_with (fail)
    go_ret
    exact ⟨rfl, Upd.refl _ _⟩
  · have e : rightE l bits budget = if l.any (badU bits budget) = true then 23 else 0 := by unfold rightE; rw [if_neg (by omega)]
    rw [e]
    clear e
    generalize hr : (if l.any (badU bits budget) = true then (23 : Int) else 0) = r
    have HR := Lib.hid hr
    clear hr
    have H := Lib.hid h
    clear h
    generalize hL : l.length = L at hl h64 ⊢
    have HL := Lib.hid hL
    clear hL
    have d : decide ((L : Int) > 64) = false := decide_eq_false (by omega)
    go_enter Try.func13, Try.ntmps13
    go_wp2_with (fail)
    go_loopg [14] L (fun g v14 wl => ∃ k : Nat, v14 = .int .i64 (k : Int) ∧ k ≤ L ∧ g = L - k ∧ Hid ((l.take k).any (badU bits budget) = false) ∧ Hid (Upd [] w wl))
    case atStart => exact ⟨0, rfl, by omega, rfl, Lib.hid rfl, Lib.hid (Upd.refl _ _)⟩
    case round =>
      obtain ⟨k, rfl, hk, hg, HA, U⟩ := hrel
      rcases Nat.lt_or_ge k L with hlt | hge
      · have dk : decide ((k : Int) < (L : Int)) = true := decide_eq_true (by omega)
        obtain ⟨b, o, rfl, hb, hc⟩ := (H.out.of_upd U.out) (by rw [HL.out]; omega)
        obtain ⟨c1, c2⟩ := hc k (by rw [HL.out]; exact hlt)
        have hkl : k < l.length := by rw [HL.out]; exact hlt
        generalize hx : l[k] = x at c1 c2
        have HX := Lib.hid hx
        clear hc hx
        obtain ⟨x1, x2⟩ := x
        simp only at c1 c2
        by_cases q1 : x1 < 0
        · have d1 : decide (x1 < 0) = true := decide_eq_true q1
          have HE := HR.out
          rw [if_pos (any_of_take _ l k hkl (by rw [HX.out]; simp [badU, *]))] at HE
          subst HE
          go_wp2_with (fail)
          go_ret
          exact ⟨rfl, U.out.alloc _⟩
        · have d1 : decide (x1 < 0) = false := decide_eq_false q1
          by_cases q2 : budget ≤ x1
          · have d2 : decide (budget ≤ x1) = true := decide_eq_true q2
            have HE := HR.out
            rw [if_pos (any_of_take _ l k hkl (by rw [HX.out]; simp [badU, *]))] at HE
            subst HE
            go_wp2_with (fail)
            go_ret
            exact ⟨rfl, U.out.alloc _⟩
          · have d2 : decide (budget ≤ x1) = false := decide_eq_false q2
            by_cases q3 : x2 < 0
            · have d3 : decide (x2 < 0) = true := decide_eq_true q3
              have HE := HR.out
              rw [if_pos (any_of_take _ l k hkl (by rw [HX.out]; simp [badU, *]))] at HE
              subst HE
              go_wp2_with (fail)
              go_ret
              exact ⟨rfl, U.out.alloc _⟩
            · have d3 : decide (x2 < 0) = false := decide_eq_false q3
              by_cases q4 : bits ≤ x2
              · have d4 : decide (bits ≤ x2) = true := decide_eq_true q4
                have HE := HR.out
                rw [if_pos (any_of_take _ l k hkl (by rw [HX.out]; simp [badU, *]))] at HE
                subst HE
                go_wp2_with (fail)
                go_ret
                exact ⟨rfl, U.out.alloc _⟩
              · have d4 : decide (bits ≤ x2) = false := decide_eq_false q4
                have hn : (l.take (k + 1)).any (badU bits budget) = false := by rw [any_take _ l k hkl, HA.out, HX.out]; simp only [badU, d1, d2, d3, d4]; rfl
                have HN := Lib.hid hn
                clear hn q1 q2 q3 q4
                go_wp2_with (fail)
                go_roundg (L - (k + 1))
                case measure => omega
                case rel => exact ⟨k + 1, by go_num, by omega, rfl, HN, Lib.hid (U.out.alloc _)⟩
      · obtain rfl : k = L := by omega
        have HE := HR.out
        have HA2 := HA.out
        rw [← HL.out, List.take_length] at HA2
        rw [if_neg (by rw [HA2]; decide)] at HE
        subst HE
        clear HA2
        go_wp2_with (fail)
        go_ret
        exact ⟨rfl, U.out⟩
end Go.Proofs.Ytgdmmhedcklkaaa

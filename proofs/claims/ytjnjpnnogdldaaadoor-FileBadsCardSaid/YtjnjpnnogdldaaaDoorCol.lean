/- hsiao.Column. -/
import Derived.Test.YtjnjpnnogdldaaaDoorMend
import Derived.WalkMore
namespace Go.Proofs.YtjnjpnnogdldaaaDoor
open Go.RowKit Go.Dio

theorem Column_out (b : Int) (w : World) (h : b < 0 ∨ 39 ≤ b) : Calls Tryd.prog 30 #[.int .i64 b] w fun e w' => e = .returned (.int .i64 0) ∧ Below w.heap.size w w' := by
  rcases Int.lt_or_le b 0 with h1 | h1
  · go_enter Tryd.func30, Tryd.ntmps30
    go_wp2_with (fail)
    go_step3
    go_wp2_with (fail)
    try rw [Exit.noGoto_ret]
    go_ret
    exact ⟨rfl, Below.refl _ _⟩
  · have h2 : 39 ≤ b := by omega
    go_enter Tryd.func30, Tryd.ntmps30
    go_wp2_with (fail)
    go_step3
    go_wp2_with (fail)
    try rw [Exit.noGoto_ret]
    go_ret
    exact ⟨rfl, Below.refl _ _⟩

set_option maxRecDepth 20000 in
set_option maxHeartbeats 1000000 in
theorem Column_calls (b : Nat) (w : World) (h : b < 39) : Calls Tryd.prog 30 #[.int .i64 (b : Int)] w fun e w' => e = .returned (.int .i64 (col b : Int)) ∧ Below w.heap.size w w' := by
  rcases Nat.lt_or_ge b 32 with h32 | h32
  · go_enter Tryd.func30, Tryd.ntmps30
    go_wp2_with (fail)
    go_step3
    go_wp2_with (fail)
    go_step3
    go_wp2_with (fail)
    go_loopw [3, 18] (fun v3 v18 wl => ∃ n k : Nat, v3 = .int .i64 (n : Int) ∧ v18 = .int .i64 (k : Int) ∧ k ≤ 128 ∧ n ≤ b ∧ Hid (n = cntN k) ∧ wl = w) (fun _ v18 _ => 128 - (intOf v18).toNat)
    case atStart => exact ⟨0, 0, rfl, rfl, by omega, by omega, rfl, rfl⟩
    case round =>
      obtain ⟨n, k, rfl, rfl, hk, hn, HN, rfl⟩ := hrel
      rcases Nat.lt_or_ge k 128 with hk2 | hk2
      · have hcall := Lib.hid (Count_calls k wr (by omega))
        have HC := Lib.hid (cnt_col k hk2)
        obtain ⟨p, hp⟩ : ∃ p, p = pop k := ⟨_, rfl⟩
        have HS : Hid (cntN (k + 1) = cntN k + (if p = 3 then 1 else 0)) := by show cntN (k + 1) = _; rw [hp, cntN]
        rw [← hp] at hcall HC
        have hpl : p ≤ 64 := by rw [hp]; exact pop_le k
        clear hp
        go_wp2_with (fail)
        refine hcall.out.mono ?_
        rintro e w1 ⟨rfl, rfl⟩
        by_cases h3 : p = 3
        · subst h3
          by_cases hb : n = b
          · obtain ⟨q1, q2⟩ := cast_eq_b hb
            have hr : col b = k := by have := HC.out rfl (by rw [← HN.out]; omega); rw [← HN.out, hb] at this; exact this
            have HR := Lib.hid hr
            clear hr
            go_wp2_with (fail)
            try rw [Exit.noGoto_ret]
            go_ret
            exact ⟨by rw [HR.out]; rfl, Below.refl _ _⟩
          · obtain ⟨q1, q2⟩ := cast_ne_b hb
            go_wp2_with (fail)
            go_roundw
            case rel => exact ⟨n + 1, k + 1, by go_num, by go_num, by omega, by omega, by show n + 1 = cntN (k + 1); rw [HS.out, HN.out]; simp, trivial⟩
            case measure => simp [intOf]; omega
        · have q : ((p : Int) != 3) = true := by simp; omega
          go_wp2_with (fail)
          go_roundw
          case rel => exact ⟨n, k + 1, rfl, by go_num, by omega, by omega, by show n = cntN (k + 1); rw [HS.out, HN.out, if_neg h3, Nat.add_zero], trivial⟩
          case measure => simp [intOf]; omega
      · obtain rfl : k = 128 := by omega
        have := HN.out
        rw [cnt_all] at this
        omega
  · rcases (by omega : b = 32 ∨ b = 33 ∨ b = 34 ∨ b = 35 ∨ b = 36 ∨ b = 37 ∨ b = 38) with rfl | rfl | rfl | rfl | rfl | rfl | rfl
    all_goals
      go_enter Tryd.func30, Tryd.ntmps30
      go_wp2_with (fail)
      go_step3
      go_wp2_with (fail)
      try rw [Exit.noGoto_ret]
      go_ret
      exact ⟨rfl, Below.refl _ _⟩
end Go.Proofs.YtjnjpnnogdldaaaDoor

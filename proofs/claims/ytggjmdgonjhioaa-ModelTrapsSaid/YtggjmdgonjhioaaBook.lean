/- A number that is brought into bounds. -/
import Derived.Test.YtggjmdgonjhioaaBase
import Derived.WalkKit
import Derived.Test.YtggjmdgonjhioaaProg
namespace Go.Proofs.Ytggjmdgonjhioaa
open Go.RowKit Go.Dio
set_option linter.unusedSimpArgs false
set_option linter.unusedVariables false

def within (n lo hi : Int) : Int := if lo ≤ n ∧ n ≤ hi then n else lo + n % (hi - lo + 1)
theorem within_range {n lo hi : Int} (h : lo ≤ hi) : lo ≤ within n lo hi ∧ within n lo hi ≤ hi := by
  unfold within
  split
  · assumption
  · have h1 := Int.emod_nonneg n (show hi - lo + 1 ≠ 0 by omega)
    have h2 := Int.emod_lt_of_pos n (show 0 < hi - lo + 1 by omega)
    omega
theorem ret_i64 {a b : Int} (h : a = b) : Ending.returned (.int .i64 a) = Ending.returned (.int .i64 b) := by rw [h]
theorem Within_calls (n lo hi : Int) (w : World) (h0 : -1099511627776 ≤ lo) (h : lo ≤ hi) (h1 : hi ≤ 1099511627776) (hn : -9223372036854775808 ≤ n ∧ n ≤ 9223372036854775807) :
    Calls Try.prog 7 #[.int .i64 n, .int .i64 lo, .int .i64 hi] w fun e w' => e = .returned (.int .i64 (within n lo hi)) ∧ w' = w := by
  obtain ⟨hn0, hn1⟩ := hn
  rcases (by omega : (lo ≤ n ∧ n ≤ hi) ∨ (n < lo ∨ hi < n)) with g | g
  · have e : within n lo hi = n := if_pos g
    rw [e]
    clear e
    obtain ⟨g1, g2⟩ := g
    go_enter Try.func7, Try.ntmps7
    go_wp2_with (fail)
    go_ret
    exact ⟨rfl, rfl⟩
  · have e : within n lo hi = lo + n % (hi - lo + 1) := if_neg (by omega)
    rw [e]
    clear e
    obtain ⟨m, hm⟩ : ∃ m, hi - lo + 1 = m := ⟨_, rfl⟩
    obtain ⟨t, ht⟩ : ∃ t, n.tmod m = t := ⟨_, rfl⟩
    have m1 : 1 ≤ m := by omega
    have m2 : m ≤ 2199023255553 := by omega
    have m0 : (m == 0) = false := by rw [beq_eq_false_iff_ne]; omega
    have h1 := Int.emod_nonneg n (show m ≠ 0 by omega)
    have h2 := Int.emod_lt_of_pos n (show 0 < m by omega)
    have h3 : ((0 ≤ n ∨ m ∣ n) ∧ t = n % m) ∨ (0 < n % m ∧ t = n % m - m) := by
      rw [← ht, Int.tmod_eq_emod]
      by_cases hd : 0 ≤ n ∨ m ∣ n
      · rw [if_pos hd]; exact .inl ⟨hd, by omega⟩
      · rw [if_neg hd]
        refine .inr ⟨?_, by omega⟩
        have : n % m ≠ 0 := fun h => hd (.inr (Int.dvd_of_emod_eq_zero h))
        omega
    have he : n % m = if t < 0 then t + m else t := by split <;> omega
    have t1 : -m < t := by omega
    have t2 : t < m := by omega
    clear h1 h2 h3
    rw [hm, he]
    have dn : (decide (lo ≤ n) && decide (n ≤ hi)) = false := by
      rw [Bool.and_eq_false_iff, decide_eq_false_iff_not, decide_eq_false_iff_not]; omega
    have HM := Lib.hid hm
    clear he
    rcases g with g | g
    all_goals
      rcases Int.lt_or_le t 0 with h3 | h3
      · rw [if_pos h3]
        go_enter Try.func7, Try.ntmps7
        go_wp2_with (fail)
        go_ret
        exact ⟨ret_i64 (by have := HM.out; omega), rfl⟩
      · rw [if_neg (by omega)]
        go_enter Try.func7, Try.ntmps7
        go_wp2_with (fail)
        go_ret
        exact ⟨rfl, rfl⟩
end Go.Proofs.Ytggjmdgonjhioaa

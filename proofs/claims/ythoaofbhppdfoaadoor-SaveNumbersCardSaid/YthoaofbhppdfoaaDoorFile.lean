/- Registers that mend themselves, in memory: New, Read, Write, Scrub, Flip, Bits, Fixes. -/
import Derived.Test.YthoaofbhppdfoaaDoorSep
namespace Go.Proofs.YthoaofbhppdfoaaDoor
open Go.RowKit Go.Dio
set_option linter.unusedSimpArgs false
set_option linter.unusedVariables false

theorem peek_wrap (l : List Nat) (i : Int) (hl : l.length ≤ 2048) (h0 : -9223372036854775808 ≤ i) (h1 : i ≤ 9223372036854775807) (j : Int) (hj : j = i - 1 ∨ (j = 9223372036854775807 ∧ i < 0)) : inn l j = inn l (i - 1) := by
  rcases hj with rfl | ⟨rfl, h⟩
  · rfl
  · rw [inn_not (.inr (by omega)), inn_not (.inl (by omega))]

theorem wrap_pred (i : Int) (h0 : -9223372036854775808 ≤ i) (h1 : i ≤ 9223372036854775807) : RowKit.wrap64 (i - 1) = i - 1 ∨ (RowKit.wrap64 (i - 1) = 9223372036854775807 ∧ i < 0) := by
  unfold RowKit.wrap64; omega
theorem inn_pred {l : List Nat} (hl : l.length ≤ 2048) {i j : Int} (h0 : -9223372036854775808 ≤ i) (h1 : i ≤ 9223372036854775807) (hj : RowKit.wrap64 (i - 1) = j) : (inn l j = inn l (i - 1)) ∧ (inn l (i - 1) = true → j = i - 1) := by
  rcases wrap_pred i h0 h1 with h | ⟨h, h2⟩
  · rw [← hj, h]; exact ⟨rfl, fun _ => rfl⟩
  · rw [← hj, h]
    have e : inn l (i - 1) = false := inn_not (.inl (by omega))
    rw [e, inn_not (.inr (by omega))]
    exact ⟨rfl, fun h => by cases h⟩
theorem put_pred {l : List Nat} {i j : Int} (h : (inn l j = inn l (i - 1)) ∧ (inn l (i - 1) = true → j = i - 1)) (v : Nat) : putL l j v = putL l (i - 1) v := by
  unfold putL; rw [h.1]
  cases hc : inn l (i - 1)
  · rfl
  · rw [h.2 hc]
theorem get_pred {l : List Nat} {i j : Int} (h : (inn l j = inn l (i - 1)) ∧ (inn l (i - 1) = true → j = i - 1)) : peekL l j = peekL l (i - 1) ∧ getL l j = getL l (i - 1) ∧ getF l j = getF l (i - 1) := by
  unfold peekL getL getF; rw [h.1]
  cases hc : inn l (i - 1)
  · exact ⟨rfl, rfl, rfl⟩
  · rw [h.2 hc]; exact ⟨rfl, rfl, rfl⟩
theorem inn_wrap {l : List Nat} (hl : l.length ≤ 2048) : inn l 9223372036854775807 = false := inn_not (.inr (by omega))
def wrB (l : List Nat) (i : Int) : Bool := decide (i = 0) || inn l (i - 1)
def wrL (l : List Nat) (i : Int) (v : Nat) : List Nat := if i = 0 then l else putL l (i - 1) v
def rdV (l : List Nat) (i : Int) : Nat × Nat := if i = 0 then (0, 0) else peekL l (i - 1)
def rdL (l : List Nat) (i : Int) : List Nat := if i = 0 then l else getL l (i - 1)
def rdF (l : List Nat) (i : Int) : Nat := if i = 0 then 0 else getF l (i - 1)
end Go.Proofs.YthoaofbhppdfoaaDoor

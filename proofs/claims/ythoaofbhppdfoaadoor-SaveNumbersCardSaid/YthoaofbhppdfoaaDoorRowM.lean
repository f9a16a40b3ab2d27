/- Rows of protected words: what they hold. -/
import Derived.Test.YthoaofbhppdfoaaDoorBits
namespace Go.Dio

def inn (l : List Nat) (i : Int) : Bool := decide (0 ≤ i ∧ i < (l.length : Int))
/-- What is read at a place, and its status. -/
def peekL (l : List Nat) (i : Int) : Nat × Nat := if inn l i then dec (nth l i.toNat) else (0, 2)
def putL (l : List Nat) (i : Int) (v : Nat) : List Nat := if inn l i then l.set i.toNat (enc v) else l
def getL (l : List Nat) (i : Int) : List Nat := if inn l i && decide ((dec (nth l i.toNat)).2 = 1) then l.set i.toNat (mend (nth l i.toNat)).1 else l
def getF (l : List Nat) (i : Int) : Nat := if inn l i && decide ((dec (nth l i.toNat)).2 = 1) then 1 else 0
def flipB (l : List Nat) (b : Int) : Bool := decide (0 ≤ b ∧ b < 39 * (l.length : Int))
def flipL (l : List Nat) (b : Int) : List Nat := if flipB l b then l.set (b.toNat / 39) (nth l (b.toNat / 39) ^^^ 2 ^ (b.toNat % 39)) else l

theorem nth_lt {l : List Nat} {B : Nat} (h : ∀ x ∈ l, x < B) (hB : 0 < B) (i : Nat) : nth l i < B := by
  rcases Nat.lt_or_ge i l.length with hi | hi
  · rw [nth_eq l i hi]; exact h _ (List.getElem_mem hi)
  · simp [nth, hi]; exact hB
theorem set_lt {l : List Nat} {B : Nat} (h : ∀ x ∈ l, x < B) {i v : Nat} (hv : v < B) : ∀ x ∈ l.set i v, x < B := fun x hx => by
  rcases List.mem_or_eq_of_mem_set hx with h1 | h1
  · exact h x h1
  · subst h1; exact hv
theorem nth_set_eq {l : List Nat} {i v : Nat} (h : i < l.length) : nth (l.set i v) i = v := by simp [nth, h]
theorem nth_set_ne {l : List Nat} {i j v : Nat} (h : i ≠ j) : nth (l.set i v) j = nth l j := by simp [nth, List.getD, List.getElem?_set_ne h]
theorem inn_len {l m : List Nat} (h : l.length = m.length) (i : Int) : inn l i = inn m i := by rw [inn, inn, h]
theorem inn_of {l : List Nat} {i : Int} (h0 : 0 ≤ i) (h1 : i < (l.length : Int)) : inn l i = true := decide_eq_true ⟨h0, h1⟩
theorem inn_not {l : List Nat} {i : Int} (h : i < 0 ∨ (l.length : Int) ≤ i) : inn l i = false := decide_eq_false (by omega)
theorem putL_len (l : List Nat) (i : Int) (v : Nat) : (putL l i v).length = l.length := by unfold putL; split <;> simp
theorem getL_len (l : List Nat) (i : Int) : (getL l i).length = l.length := by unfold getL; split <;> simp
theorem flipL_len (l : List Nat) (b : Int) : (flipL l b).length = l.length := by unfold flipL; split <;> simp
end Go.Dio

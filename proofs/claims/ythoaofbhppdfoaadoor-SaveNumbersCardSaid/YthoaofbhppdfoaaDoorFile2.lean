/- Registers that mend themselves, in memory: Scrub, All. -/
import Derived.Test.YthoaofbhppdfoaaDoorFile
import Derived.Test.YthoaofbhppdfoaaDoorSeg
import Derived.Test.YthoaofbhppdfoaaDoorCel
import Derived.Deep.LoopGhost
namespace Go.Proofs.YthoaofbhppdfoaaDoor
open Go.RowKit Go.Dio
set_option linter.unusedSimpArgs false
set_option linter.unusedVariables false

/-- What all registers are, if none is bad. -/
def allB (l : List Nat) : Bool := l.all fun x => decide ((dec x).2 ≠ 2)
def allV (l : List Nat) : List Nat := 0 :: l.map fun x => (dec x).1
def zeros (n : Nat) : List Nat := List.replicate n 0
theorem info_r32 : (Tryd.prog.info? 27).map (·.size) = some 32 := by kernel_rfl
theorem allB_of {l : List Nat} {n : Nat} (hl : l.length = n) (h : ∀ j, j < n → (dec (nth l j)).2 ≠ 2) : allB l = true := by
  rw [allB, List.all_eq_true]
  intro x hx
  obtain ⟨j, hj, rfl⟩ := List.getElem_of_mem hx
  have := h j (by omega)
  rw [nth_eq l j hj] at this
  exact decide_eq_true this
theorem allB_not {l : List Nat} {j : Nat} (hj : j < l.length) (h : (dec (nth l j)).2 = 2) : allB l = false := by
  rw [Bool.eq_false_iff, allB]
  intro ha
  rw [List.all_eq_true] at ha
  have := of_decide_eq_true (ha l[j] (List.getElem_mem hj))
  rw [nth_eq l j hj] at h
  exact this h
theorem allV_of {l o : List Nat} (hl : l.length = 31) (ho : o.length = 32) (h0 : nth o 0 = 0) (h : ∀ j, j < 31 → nth o (j + 1) = (dec (nth l j)).1) : o = allV l := by
  refine List.ext_getElem (by simp [allV, hl, ho]) fun i h1 h2 => ?_
  rw [← nth_eq o i h1]
  cases i with
  | zero => rw [h0]; rfl
  | succ j =>
    have hj : j < 31 := by omega
    rw [h j hj, nth_eq l j (by omega)]
    simp [allV]

theorem alloc2_last (w : World) (o1 o2 : Obj) : ((w.alloc o1).alloc o2).heap[w.heap.size + 1]? = some o2 := by simpa using Go.heap_alloc_last (w.alloc o1) o2
theorem peek_nat {l : List Nat} {k : Nat} (h : k < l.length) : peekL l (k : Int) = dec (nth l k) := by
  rw [peekL, inn_of (by omega) (by omega)]; rfl
end Go.Proofs.YthoaofbhppdfoaaDoor

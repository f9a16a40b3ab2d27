/- Memory that mends itself, in memory: New, Words. -/
import Derived.Test.YthoaofbhppdfoaaDoorMem
import Derived.Test.YthoaofbhppdfoaaDoorApp
namespace Go.Proofs.YthoaofbhppdfoaaDoor
open Go.RowKit Go.Dio
set_option linter.unusedSimpArgs false
set_option linter.unusedVariables false

/-- An image's words. -/
def newL (ns : List Nat) : List Nat := (List.range 1024).map fun j => enc (nth ns j)
theorem newL_len (ns : List Nat) : (newL ns).length = 1024 := by simp [newL]
theorem newL_nth (ns : List Nat) {j : Nat} (h : j < 1024) : nth (newL ns) j = enc (nth ns j) := by
  rw [nth_eq _ _ (by rw [newL_len]; exact h)]; simp [newL]
theorem list_ext {l m : List Nat} (h : l.length = m.length) (he : ∀ j, j < l.length → nth l j = nth m j) : l = m :=
  List.ext_getElem h fun i h1 h2 => by rw [← nth_eq l i h1, ← nth_eq m i h2]; exact he i h1
theorem enc_zero : enc 0 = 0 := by decide +kernel

end Go.Proofs.YthoaofbhppdfoaaDoor

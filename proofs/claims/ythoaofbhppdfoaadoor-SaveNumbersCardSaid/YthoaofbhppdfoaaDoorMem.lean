/- Memory that mends itself, in memory: New, Load, Flip, Bits, Fixes. -/
import Derived.Test.YthoaofbhppdfoaaDoorSep
import Derived.Test.YthoaofbhppdfoaaDoorSeg
import Derived.Test.YthoaofbhppdfoaaDoorCel
import Derived.Test.YthoaofbhppdfoaaDoorWd
import Derived.Deep.LoopGhost
namespace Go.Proofs.YthoaofbhppdfoaaDoor
open Go.RowKit Go.Dio
set_option linter.unusedSimpArgs false
set_option linter.unusedVariables false

/-- Why an address may not be (0: it may). -/
def mayE (v : Nat) : Nat := if v % 4 ≠ 0 then 13 else if 4096 ≤ v then 14 else 0
theorem mayE_ok {v : Nat} (h : mayE v = 0) : v % 4 = 0 ∧ v < 4096 := by
  unfold mayE at h
  split at h
  · omega
  · split at h <;> omega
def mloadV (l : List Nat) (v : Nat) : Nat × Nat := if mayE v ≠ 0 then (0, mayE v) else if (peekL l ((v / 4 : Nat) : Int)).2 = 2 then (0, 25) else ((peekL l ((v / 4 : Nat) : Int)).1, 0)
def mloadL (l : List Nat) (v : Nat) : List Nat := if mayE v ≠ 0 then l else getL l ((v / 4 : Nat) : Int)
def mloadF (l : List Nat) (v : Nat) : Nat := if mayE v ≠ 0 then 0 else getF l ((v / 4 : Nat) : Int)
end Go.Proofs.YthoaofbhppdfoaaDoor

/-
  No cell of these rows narrows 'for every input' (looked for: loops, veiled, ifaces, maps, wideKeys, modest, calm, conditions, laid).
  DERIVED. THE GIVEN ROWS OF THIS SEAT. 4 by the template 'for every input the law returns true; each argument reads behind the call as it read before'; 0 by the template 'total and deterministic' (their statements: YtgdmmhedcklkaaaTotals.lean).
  GIVEN WITH THE SEED: the statements are not yours to turn. If you find one false, say at which input.
  Laid BY PROGRAM, IN A SANDBOX (cutbox-rows.mjs): the forced cells as the released guide's own fill.sh prints them over the translation 5729545226e104bf… (all of the seat's roots in one cut). By AI agents, Wed Nov 11 2026. No macro, syntax, notation, axiom, sorry.
-/
import Derived.Test.YtgdmmhedcklkaaaChecked
import GoSem.Claim
import GoSem.ClaimJoined
import GoSem.ClaimMapViews
import Derived.JoinedTies
import Derived.KernelRfl
namespace Go.Proofs.Ytgdmmhedcklkaaa
/- THE CELL 'sum', in the pinned program and in every row, IS THE sha256 OF THE DUMP (.gsa) THAT YtgdmmhedcklkaaaProg.lean LOADS. Nothing in Lean hashes anything: it is a label: what it is worth is what the hold of that sum in a sandbox is worth. -/
noncomputable def Try.pinned : Pinned := { name := "ytgdmmhedcklkaaa", sum := "5729545226e104bfc1f51c15e7ee1829862f22fc83fd3ac06b57572fc28a310d", checked := Try.checked }
namespace Rows
def none {H : Type} : Left H := { results := [], args := [] }

/-- 'dioscurilaw12.CompareNumbers': WHATEVER THE INPUT: true; the input reads as it did. -/
def compareNumbersSpec : ChangeSpec := { name := "compareNumbers", fn := fun _ => fun
  | [] => { results := [.lit (.bool true)], args := [] }
  | _ => none }
def compareNumbersRow : OpenClaim := { program := "ytgdmmhedcklkaaa", sum := "5729545226e104bfc1f51c15e7ee1829862f22fc83fd3ac06b57572fc28a310d", func := "dioscuri/dioscurilaw12.CompareNumbers", spec := "compareNumbers", apart := false }
def CompareNumbersSaid : Prop := compareNumbersRow.holds Try.pinned (OpenSpec.ofChange compareNumbersSpec)

/-- ITS FALSE NEIGHBOUR: 'it returns false'. Refute it at one input. -/
def compareNumbersWrong : ChangeSpec := { name := "compareNumbers", fn := fun _ => fun
  | [] => { results := [.lit (.bool false)], args := [] }
  | _ => none }
def CompareNumbersWrongFalsely : Prop := compareNumbersRow.holds Try.pinned (OpenSpec.ofChange compareNumbersWrong)

/-- 'dioscurilaw22.UpsetNumbers': WHATEVER THE INPUT: true; the input reads as it did. -/
def upsetNumbersSpec : ChangeSpec := { name := "upsetNumbers", fn := fun _ => fun
  | [] => { results := [.lit (.bool true)], args := [] }
  | _ => none }
def upsetNumbersRow : OpenClaim := { program := "ytgdmmhedcklkaaa", sum := "5729545226e104bfc1f51c15e7ee1829862f22fc83fd3ac06b57572fc28a310d", func := "dioscuri/dioscurilaw22.UpsetNumbers", spec := "upsetNumbers", unfollowed := true, recurses := true, apart := false }
def UpsetNumbersSaid : Prop := upsetNumbersRow.holds Try.pinned (OpenSpec.ofChange upsetNumbersSpec)

/-- ITS FALSE NEIGHBOUR: 'it returns false'. Refute it at one input. -/
def upsetNumbersWrong : ChangeSpec := { name := "upsetNumbers", fn := fun _ => fun
  | [] => { results := [.lit (.bool false)], args := [] }
  | _ => none }
def UpsetNumbersWrongFalsely : Prop := upsetNumbersRow.holds Try.pinned (OpenSpec.ofChange upsetNumbersWrong)

/-- 'dioscurilaw22.UpsetTells': WHATEVER THE INPUT: true; the input reads as it did. -/
def upsetTellsSpec : ChangeSpec := { name := "upsetTells", fn := fun _ => fun
  | [d1, d2, d3, d4] => { results := [.lit (.bool true)], args := [d1, d2, d3, d4] }
  | _ => none }
def upsetTellsRow : OpenClaim := { program := "ytgdmmhedcklkaaa", sum := "5729545226e104bfc1f51c15e7ee1829862f22fc83fd3ac06b57572fc28a310d", func := "dioscuri/dioscurilaw22.UpsetTells", spec := "upsetTells", unfollowed := true, recurses := true, apart := false }
def UpsetTellsSaid : Prop := upsetTellsRow.holds Try.pinned (OpenSpec.ofChange upsetTellsSpec)

/-- ITS FALSE NEIGHBOUR: 'it returns false'. Refute it at one input. -/
def upsetTellsWrong : ChangeSpec := { name := "upsetTells", fn := fun _ => fun
  | [d1, d2, d3, d4] => { results := [.lit (.bool false)], args := [d1, d2, d3, d4] }
  | _ => none }
def UpsetTellsWrongFalsely : Prop := upsetTellsRow.holds Try.pinned (OpenSpec.ofChange upsetTellsWrong)

/-- 'dioscurilaw22.UpsetRights': WHATEVER THE INPUT: true; the input reads as it did. -/
def upsetRightsSpec : ChangeSpec := { name := "upsetRights", fn := fun _ => fun
  | [d1, d2, d3] => { results := [.lit (.bool true)], args := [d1, d2, d3] }
  | _ => none }
def upsetRightsRow : OpenClaim := { program := "ytgdmmhedcklkaaa", sum := "5729545226e104bfc1f51c15e7ee1829862f22fc83fd3ac06b57572fc28a310d", func := "dioscuri/dioscurilaw22.UpsetRights", spec := "upsetRights", unfollowed := true, recurses := true, apart := false }
def UpsetRightsSaid : Prop := upsetRightsRow.holds Try.pinned (OpenSpec.ofChange upsetRightsSpec)

/-- ITS FALSE NEIGHBOUR: 'it returns false'. Refute it at one input. -/
def upsetRightsWrong : ChangeSpec := { name := "upsetRights", fn := fun _ => fun
  | [d1, d2, d3] => { results := [.lit (.bool false)], args := [d1, d2, d3] }
  | _ => none }
def UpsetRightsWrongFalsely : Prop := upsetRightsRow.holds Try.pinned (OpenSpec.ofChange upsetRightsWrong)

/- THE SECOND FORM. 'bulk': how many values and letters a reading holds, each counted each time it is reached (what is shared counts as often as it is met; a slice's spare places count too). A statement '..UptoSaid' is the law's where the arguments, and the package variables that the reading takes, are together of bulk at most 1048576: NARROWER than '..Said'. Prove '..Said' where nothing that the law and all that it calls make is longer than what came in: it says more and counts as full. Else prove '..UptoSaid'. A law counts once. -/
mutual
def uptoBulk {H : Type} : DataW H → Nat
  | .lit (.string bytes) => bytes.length + 1
  | .lit _ => 1
  | .nil => 1
  | .ptr d => uptoBulk d + 1
  | .slice elems spare => uptoBulkAll elems + uptoBulkAll spare + 1
  | .agg parts => uptoBulkAll parts + 1
  | .iface _ d => uptoBulk d + 1
  | .map entries => uptoBulkEntries entries + 1
  | .held _ => 1
def uptoBulkAll {H : Type} : List (DataW H) → Nat
  | [] => 0
  | d :: r => uptoBulk d + uptoBulkAll r
def uptoBulkEntries {H : Type} : List (Lit × DataW H) → Nat
  | [] => 0
  | x :: r => uptoBulkEntry x + uptoBulkEntries r
def uptoBulkEntry {H : Type} : Lit × DataW H → Nat
  | (.string bytes, d) => bytes.length + uptoBulk d + 1
  | (_, d) => uptoBulk d + 1
 end
def uptoSmall : (H : Type) → List (DataW H) → Bool := fun _ ds => decide (uptoBulkAll ds ≤ 1048576)
def OpenSpec.upto (s : _root_.Go.ChangeSpec) : _root_.Go.OpenSpec := { _root_.Go.OpenSpec.ofChange s with cond := some uptoSmall }

/-- 'dioscurilaw12.CompareNumbers', WHERE WHAT IT READS IS OF BULK AT MOST 1048576: true; the input reads as it did. -/
def compareNumbersUptoRow : OpenClaim := { program := "ytgdmmhedcklkaaa", sum := "5729545226e104bfc1f51c15e7ee1829862f22fc83fd3ac06b57572fc28a310d", func := "dioscuri/dioscurilaw12.CompareNumbers", spec := "compareNumbers", apart := false, narrowed := true }
def CompareNumbersUptoSaid : Prop := compareNumbersUptoRow.holds Try.pinned (OpenSpec.upto compareNumbersSpec)

/-- 'dioscurilaw22.UpsetNumbers', WHERE WHAT IT READS IS OF BULK AT MOST 1048576: true; the input reads as it did. -/
def upsetNumbersUptoRow : OpenClaim := { program := "ytgdmmhedcklkaaa", sum := "5729545226e104bfc1f51c15e7ee1829862f22fc83fd3ac06b57572fc28a310d", func := "dioscuri/dioscurilaw22.UpsetNumbers", spec := "upsetNumbers", unfollowed := true, recurses := true, apart := false, narrowed := true }
def UpsetNumbersUptoSaid : Prop := upsetNumbersUptoRow.holds Try.pinned (OpenSpec.upto upsetNumbersSpec)

/-- 'dioscurilaw22.UpsetTells', WHERE WHAT IT READS IS OF BULK AT MOST 1048576: true; the input reads as it did. -/
def upsetTellsUptoRow : OpenClaim := { program := "ytgdmmhedcklkaaa", sum := "5729545226e104bfc1f51c15e7ee1829862f22fc83fd3ac06b57572fc28a310d", func := "dioscuri/dioscurilaw22.UpsetTells", spec := "upsetTells", unfollowed := true, recurses := true, apart := false, narrowed := true }
def UpsetTellsUptoSaid : Prop := upsetTellsUptoRow.holds Try.pinned (OpenSpec.upto upsetTellsSpec)

/-- 'dioscurilaw22.UpsetRights', WHERE WHAT IT READS IS OF BULK AT MOST 1048576: true; the input reads as it did. -/
def upsetRightsUptoRow : OpenClaim := { program := "ytgdmmhedcklkaaa", sum := "5729545226e104bfc1f51c15e7ee1829862f22fc83fd3ac06b57572fc28a310d", func := "dioscuri/dioscurilaw22.UpsetRights", spec := "upsetRights", unfollowed := true, recurses := true, apart := false, narrowed := true }
def UpsetRightsUptoSaid : Prop := upsetRightsUptoRow.holds Try.pinned (OpenSpec.upto upsetRightsSpec)

end Rows
end Go.Proofs.Ytgdmmhedcklkaaa

/-
  No cell of these rows narrows 'for every input' (looked for: loops, veiled, ifaces, maps, wideKeys, modest, calm, conditions, laid).
  DERIVED. THE GIVEN ROWS OF THIS SEAT. 3 by the template 'for every input the law returns true; each argument reads behind the call as it read before'; 0 by the template 'total and deterministic' (their statements: YtggpkldingfinaaTotals.lean).
  GIVEN WITH THE SEED: the statements are not yours to turn. If you find one false, say at which input.
  Laid BY PROGRAM, IN A SANDBOX (cutbox-rows.mjs): the forced cells as the released guide's own fill.sh prints them over the translation b6c744fbe0a3183a… (all of the seat's roots in one cut). By AI agents, Wed Nov 11 2026. No macro, syntax, notation, axiom, sorry.
-/
import Derived.Test.YtggpkldingfinaaChecked
import GoSem.Claim
import GoSem.ClaimJoined
import GoSem.ClaimMapViews
import Derived.JoinedTies
import Derived.KernelRfl
namespace Go.Proofs.Ytggpkldingfinaa
/- THE CELL 'sum', in the pinned program and in every row, IS THE sha256 OF THE DUMP (.gsa) THAT YtggpkldingfinaaProg.lean LOADS. Nothing in Lean hashes anything: it is a label: what it is worth is what the hold of that sum in a sandbox is worth. -/
noncomputable def Try.pinned : Pinned := { name := "ytggpkldingfinaa", sum := "b6c744fbe0a3183a57763c4d656418fcf9dcdbe5de08367e0072003dbf84a85c", checked := Try.checked }
namespace Rows
def none {H : Type} : Left H := { results := [], args := [] }

/-- 'dioscurilaw12.CompareNumbers': WHATEVER THE INPUT: true; the input reads as it did. -/
def compareNumbersSpec : ChangeSpec := { name := "compareNumbers", fn := fun _ => fun
  | [] => { results := [.lit (.bool true)], args := [] }
  | _ => none }
def compareNumbersRow : OpenClaim := { program := "ytggpkldingfinaa", sum := "b6c744fbe0a3183a57763c4d656418fcf9dcdbe5de08367e0072003dbf84a85c", func := "dioscuri/dioscurilaw12.CompareNumbers", spec := "compareNumbers", apart := false }
def CompareNumbersSaid : Prop := compareNumbersRow.holds Try.pinned (OpenSpec.ofChange compareNumbersSpec)

/-- ITS FALSE NEIGHBOUR: 'it returns false'. Refute it at one input. -/
def compareNumbersWrong : ChangeSpec := { name := "compareNumbers", fn := fun _ => fun
  | [] => { results := [.lit (.bool false)], args := [] }
  | _ => none }
def CompareNumbersWrongFalsely : Prop := compareNumbersRow.holds Try.pinned (OpenSpec.ofChange compareNumbersWrong)

/-- 'dioscurilaw12.CompareTells': WHATEVER THE INPUT: true; the input reads as it did. -/
def compareTellsSpec : ChangeSpec := { name := "compareTells", fn := fun _ => fun
  | [d1, d2, d3, d4, d5, d6, d7] => { results := [.lit (.bool true)], args := [d1, d2, d3, d4, d5, d6, d7] }
  | _ => none }
def compareTellsRow : OpenClaim := { program := "ytggpkldingfinaa", sum := "b6c744fbe0a3183a57763c4d656418fcf9dcdbe5de08367e0072003dbf84a85c", func := "dioscuri/dioscurilaw12.CompareTells", spec := "compareTells", apart := false }
def CompareTellsSaid : Prop := compareTellsRow.holds Try.pinned (OpenSpec.ofChange compareTellsSpec)

/-- ITS FALSE NEIGHBOUR: 'it returns false'. Refute it at one input. -/
def compareTellsWrong : ChangeSpec := { name := "compareTells", fn := fun _ => fun
  | [d1, d2, d3, d4, d5, d6, d7] => { results := [.lit (.bool false)], args := [d1, d2, d3, d4, d5, d6, d7] }
  | _ => none }
def CompareTellsWrongFalsely : Prop := compareTellsRow.holds Try.pinned (OpenSpec.ofChange compareTellsWrong)

/-- 'dioscurilaw12.ComparePrefixes': WHATEVER THE INPUT: true; the input reads as it did. -/
def comparePrefixesSpec : ChangeSpec := { name := "comparePrefixes", fn := fun _ => fun
  | [d1, d2, d3, d4] => { results := [.lit (.bool true)], args := [d1, d2, d3, d4] }
  | _ => none }
def comparePrefixesRow : OpenClaim := { program := "ytggpkldingfinaa", sum := "b6c744fbe0a3183a57763c4d656418fcf9dcdbe5de08367e0072003dbf84a85c", func := "dioscuri/dioscurilaw12.ComparePrefixes", spec := "comparePrefixes", apart := false }
def ComparePrefixesSaid : Prop := comparePrefixesRow.holds Try.pinned (OpenSpec.ofChange comparePrefixesSpec)

/-- ITS FALSE NEIGHBOUR: 'it returns false'. Refute it at one input. -/
def comparePrefixesWrong : ChangeSpec := { name := "comparePrefixes", fn := fun _ => fun
  | [d1, d2, d3, d4] => { results := [.lit (.bool false)], args := [d1, d2, d3, d4] }
  | _ => none }
def ComparePrefixesWrongFalsely : Prop := comparePrefixesRow.holds Try.pinned (OpenSpec.ofChange comparePrefixesWrong)

/- THE SECOND FORM. 'bulk': how many values and letters a reading holds, each counted each time it is reached (what is shared counts as often as it is met; a slice's spare places count too). A statement '..UptoSaid' is the law's where the arguments, and the package variables that the reading takes, are together of bulk at most 1048576: NARROWER than '..Said'. Prove '..Said' where nothing that the law and all that it calls make is longer than what came in: it says more and counts as full. Else prove '..UptoSaid'. A law counts once. -/
mutual
def uptoBulk {H : Type} : DataW H → Nat
  | .lit (.string bytes) => bytes.length + 1
  | .lit _ => 1
  | .nil => 1
  | .ptr d => uptoBulk d + 1
  | .slice elems spare => uptoBulkAll elems + uptoBulkAll spare + 1
  | .agg parts => uptoBulkAll parts + 1
  | .iface _ d => uptoBulk d + 1
  | .map entries => uptoBulkEntries entries + 1
  | .held _ => 1
def uptoBulkAll {H : Type} : List (DataW H) → Nat
  | [] => 0
  | d :: r => uptoBulk d + uptoBulkAll r
def uptoBulkEntries {H : Type} : List (Lit × DataW H) → Nat
  | [] => 0
  | x :: r => uptoBulkEntry x + uptoBulkEntries r
def uptoBulkEntry {H : Type} : Lit × DataW H → Nat
  | (.string bytes, d) => bytes.length + uptoBulk d + 1
  | (_, d) => uptoBulk d + 1
 end
def uptoSmall : (H : Type) → List (DataW H) → Bool := fun _ ds => decide (uptoBulkAll ds ≤ 1048576)
def OpenSpec.upto (s : _root_.Go.ChangeSpec) : _root_.Go.OpenSpec := { _root_.Go.OpenSpec.ofChange s with cond := some uptoSmall }

/-- 'dioscurilaw12.CompareNumbers', WHERE WHAT IT READS IS OF BULK AT MOST 1048576: true; the input reads as it did. -/
def compareNumbersUptoRow : OpenClaim := { program := "ytggpkldingfinaa", sum := "b6c744fbe0a3183a57763c4d656418fcf9dcdbe5de08367e0072003dbf84a85c", func := "dioscuri/dioscurilaw12.CompareNumbers", spec := "compareNumbers", apart := false, narrowed := true }
def CompareNumbersUptoSaid : Prop := compareNumbersUptoRow.holds Try.pinned (OpenSpec.upto compareNumbersSpec)

/-- 'dioscurilaw12.CompareTells', WHERE WHAT IT READS IS OF BULK AT MOST 1048576: true; the input reads as it did. -/
def compareTellsUptoRow : OpenClaim := { program := "ytggpkldingfinaa", sum := "b6c744fbe0a3183a57763c4d656418fcf9dcdbe5de08367e0072003dbf84a85c", func := "dioscuri/dioscurilaw12.CompareTells", spec := "compareTells", apart := false, narrowed := true }
def CompareTellsUptoSaid : Prop := compareTellsUptoRow.holds Try.pinned (OpenSpec.upto compareTellsSpec)

/-- 'dioscurilaw12.ComparePrefixes', WHERE WHAT IT READS IS OF BULK AT MOST 1048576: true; the input reads as it did. -/
def comparePrefixesUptoRow : OpenClaim := { program := "ytggpkldingfinaa", sum := "b6c744fbe0a3183a57763c4d656418fcf9dcdbe5de08367e0072003dbf84a85c", func := "dioscuri/dioscurilaw12.ComparePrefixes", spec := "comparePrefixes", apart := false, narrowed := true }
def ComparePrefixesUptoSaid : Prop := comparePrefixesUptoRow.holds Try.pinned (OpenSpec.upto comparePrefixesSpec)

end Rows
end Go.Proofs.Ytggpkldingfinaa

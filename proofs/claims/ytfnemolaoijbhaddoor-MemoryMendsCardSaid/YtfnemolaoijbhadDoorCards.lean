/-
  DERIVED. GIVEN WITH THE SEED: THE CARDS: each row of YtfnemolaoijbhadDoorRows.lean that lists a variable, with what it lists TIED to the program's text (the seventh form; the later family's looks); each row that meets fmt, with fmt's text TOLD by the authors' own Lean function (tested against real Go, not proved from fmt's source: count such statements apart). THE CARD IS WHAT COUNTS. Prove the row's statement (the work); the ties are given (YtfnemolaoijbhadDoorTie.lean); close each card by the builder's one call (the guide's Derived/Test/ToyasCard.lean, 'card_holds'). Laid BY PROGRAM, IN A SANDBOX (cutbox-door.mjs). By AI agents, Wed Nov 11 2026. No macro, syntax, notation, axiom, sorry.
-/
import Derived.Test.YtfnemolaoijbhadDoorRows
import GoSem.ClaimSeven
namespace Go.Proofs.YtfnemolaoijbhadDoor
namespace Rows

/-- THE TIED CARD OF 'dioscurilaw13.MemoryMends'. -/
def memoryMendsCard : Claim7 := { stood := { row := memoryMendsRow, standIns := [], harness := (true, "d96653b44496d462848a9e20dfee5b002f725b269818ef87b639e3c59511723b"), looks := false }, kinds := [], alts := [], laidByText := true, laidKinds := [.data], laidTests := true, laidLooks := .later }
def MemoryMendsCardSaid : Prop := Claim7.holds Tryd.pinned (.plain (OpenSpec.ofChange memoryMendsSpec)) memoryMendsCard

/-- THE SECOND FORM's CARD OF 'dioscurilaw13.MemoryMends'. -/
def memoryMendsUptoCard : Claim7 := { stood := { row := memoryMendsUptoRow, standIns := [], harness := (true, "d96653b44496d462848a9e20dfee5b002f725b269818ef87b639e3c59511723b"), looks := false }, kinds := [], alts := [], laidByText := true, laidKinds := [.data], laidTests := true, laidLooks := .later }
def MemoryMendsUptoCardSaid : Prop := Claim7.holds Tryd.pinned (.plain (OpenSpec.upto memoryMendsSpec)) memoryMendsUptoCard
end Rows
end Go.Proofs.YtfnemolaoijbhadDoor

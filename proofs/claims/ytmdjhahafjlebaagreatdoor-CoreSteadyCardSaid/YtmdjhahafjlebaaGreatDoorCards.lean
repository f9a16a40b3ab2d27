/-
  DERIVED. GIVEN WITH THE SEED: THE CARDS: each row of YtmdjhahafjlebaaGreatDoorRows.lean that lists a variable, with what it lists TIED to the program's text (the seventh form; the later family's looks); each row that meets fmt, with fmt's text TOLD by the authors' own Lean function (tested against real Go, not proved from fmt's source: count such statements apart). THE CARD IS WHAT COUNTS. Prove the row's statement (the work); the ties are given (YtmdjhahafjlebaaGreatDoorTie.lean); close each card by the builder's one call (the guide's Derived/Test/ToyasCard.lean, 'card_holds'). Laid BY PROGRAM, IN A SANDBOX (cutbox-door.mjs). By AI agents, Wed Nov 11 2026. No macro, syntax, notation, axiom, sorry.
-/
import Derived.Test.YtmdjhahafjlebaaGreatDoorRows
import GoSem.ClaimSeven
namespace Go.Proofs.YtmdjhahafjlebaaGreatDoor
namespace Rows

/-- THE TIED CARD OF 'dioscurilaw18.CorePlays'. -/
def corePlaysCard : Claim7 := { stood := { row := corePlaysRow, standIns := [], harness := (true, "fae1cbb9f805054eeac355dadb105d4ebaba92a1eba9fe43a3a7746caf658ddb"), looks := false }, kinds := [], alts := [], laidByText := true, laidKinds := [.data], laidTests := true, laidLooks := .later }
def CorePlaysCardSaid : Prop := Claim7.holds Tryz.pinned (.plain (OpenSpec.ofChange corePlaysSpec)) corePlaysCard

/-- THE TIED CARD OF 'dioscurilaw18.CoreSteady'. -/
def coreSteadyCard : Claim7 := { stood := { row := coreSteadyRow, standIns := [], harness := (true, "fae1cbb9f805054eeac355dadb105d4ebaba92a1eba9fe43a3a7746caf658ddb"), looks := false }, kinds := [], alts := [], laidByText := true, laidKinds := [.data], laidTests := true, laidLooks := .later }
def CoreSteadyCardSaid : Prop := Claim7.holds Tryz.pinned (.plain (OpenSpec.ofChange coreSteadySpec)) coreSteadyCard

/-- THE TIED CARD OF 'dioscurilaw18.CoreResets'. -/
def coreResetsCard : Claim7 := { stood := { row := coreResetsRow, standIns := [], harness := (true, "fae1cbb9f805054eeac355dadb105d4ebaba92a1eba9fe43a3a7746caf658ddb"), looks := false }, kinds := [], alts := [], laidByText := true, laidKinds := [.data], laidTests := true, laidLooks := .later }
def CoreResetsCardSaid : Prop := Claim7.holds Tryz.pinned (.plain (OpenSpec.ofChange coreResetsSpec)) coreResetsCard

/-- THE TIED CARD OF 'dioscurilaw18.CoreMends'. -/
def coreMendsCard : Claim7 := { stood := { row := coreMendsRow, standIns := [], harness := (true, "fae1cbb9f805054eeac355dadb105d4ebaba92a1eba9fe43a3a7746caf658ddb"), looks := false }, kinds := [], alts := [], laidByText := true, laidKinds := [.data], laidTests := true, laidLooks := .later }
def CoreMendsCardSaid : Prop := Claim7.holds Tryz.pinned (.plain (OpenSpec.ofChange coreMendsSpec)) coreMendsCard

/-- THE SECOND FORM's CARD OF 'dioscurilaw18.CorePlays'. -/
def corePlaysUptoCard : Claim7 := { stood := { row := corePlaysUptoRow, standIns := [], harness := (true, "fae1cbb9f805054eeac355dadb105d4ebaba92a1eba9fe43a3a7746caf658ddb"), looks := false }, kinds := [], alts := [], laidByText := true, laidKinds := [.data], laidTests := true, laidLooks := .later }
def CorePlaysUptoCardSaid : Prop := Claim7.holds Tryz.pinned (.plain (OpenSpec.upto corePlaysSpec)) corePlaysUptoCard

/-- THE SECOND FORM's CARD OF 'dioscurilaw18.CoreSteady'. -/
def coreSteadyUptoCard : Claim7 := { stood := { row := coreSteadyUptoRow, standIns := [], harness := (true, "fae1cbb9f805054eeac355dadb105d4ebaba92a1eba9fe43a3a7746caf658ddb"), looks := false }, kinds := [], alts := [], laidByText := true, laidKinds := [.data], laidTests := true, laidLooks := .later }
def CoreSteadyUptoCardSaid : Prop := Claim7.holds Tryz.pinned (.plain (OpenSpec.upto coreSteadySpec)) coreSteadyUptoCard

/-- THE SECOND FORM's CARD OF 'dioscurilaw18.CoreResets'. -/
def coreResetsUptoCard : Claim7 := { stood := { row := coreResetsUptoRow, standIns := [], harness := (true, "fae1cbb9f805054eeac355dadb105d4ebaba92a1eba9fe43a3a7746caf658ddb"), looks := false }, kinds := [], alts := [], laidByText := true, laidKinds := [.data], laidTests := true, laidLooks := .later }
def CoreResetsUptoCardSaid : Prop := Claim7.holds Tryz.pinned (.plain (OpenSpec.upto coreResetsSpec)) coreResetsUptoCard

/-- THE SECOND FORM's CARD OF 'dioscurilaw18.CoreMends'. -/
def coreMendsUptoCard : Claim7 := { stood := { row := coreMendsUptoRow, standIns := [], harness := (true, "fae1cbb9f805054eeac355dadb105d4ebaba92a1eba9fe43a3a7746caf658ddb"), looks := false }, kinds := [], alts := [], laidByText := true, laidKinds := [.data], laidTests := true, laidLooks := .later }
def CoreMendsUptoCardSaid : Prop := Claim7.holds Tryz.pinned (.plain (OpenSpec.upto coreMendsSpec)) coreMendsUptoCard
end Rows
end Go.Proofs.YtmdjhahafjlebaaGreatDoor

/-
  DERIVED. GIVEN WITH THE SEED: THE CARDS: each row of YtfnemolaoijbhabDoorRows.lean that lists a variable, with what it lists TIED to the program's text (the seventh form; the later family's looks); each row that meets fmt, with fmt's text TOLD by the authors' own Lean function (tested against real Go, not proved from fmt's source: count such statements apart). THE CARD IS WHAT COUNTS. Prove the row's statement (the work); the ties are given (YtfnemolaoijbhabDoorTie.lean); close each card by the builder's one call (the guide's Derived/Test/ToyasCard.lean, 'card_holds'). Laid BY PROGRAM, IN A SANDBOX (cutbox-door.mjs). By AI agents, Wed Nov 11 2026. No macro, syntax, notation, axiom, sorry.
-/
import Derived.Test.YtfnemolaoijbhabDoorRows
import GoSem.ClaimSeven
namespace Go.Proofs.YtfnemolaoijbhabDoor
namespace Rows

/-- THE TIED CARD OF 'dioscurilaw3.WordNumbers'. -/
def wordNumbersCard : Claim7 := { stood := { row := wordNumbersRow, standIns := [], harness := (true, "b65fe82eafc63bf43f668167cb2c3bf9d17d765606a9e9a2d4fcce448b2bec50"), looks := false }, kinds := [], alts := [], laidByText := true, laidKinds := [.data], laidTests := true, laidLooks := .later }
def WordNumbersCardSaid : Prop := Claim7.holds Tryd.pinned (.plain (OpenSpec.ofChange wordNumbersSpec)) wordNumbersCard

/-- THE TIED CARD OF 'dioscurilaw3.WordPlays'. -/
def wordPlaysCard : Claim7 := { stood := { row := wordPlaysRow, standIns := [], harness := (true, "b65fe82eafc63bf43f668167cb2c3bf9d17d765606a9e9a2d4fcce448b2bec50"), looks := false }, kinds := [], alts := [], laidByText := true, laidKinds := [.data], laidTests := true, laidLooks := .later }
def WordPlaysCardSaid : Prop := Claim7.holds Tryd.pinned (.plain (OpenSpec.ofChange wordPlaysSpec)) wordPlaysCard

/-- THE TIED CARD OF 'dioscurilaw14.FileNumbers'. -/
def fileNumbersCard : Claim7 := { stood := { row := fileNumbersRow, standIns := [], harness := (true, "b65fe82eafc63bf43f668167cb2c3bf9d17d765606a9e9a2d4fcce448b2bec50"), looks := false }, kinds := [], alts := [], laidByText := true, laidKinds := [.data], laidTests := true, laidLooks := .later }
def FileNumbersCardSaid : Prop := Claim7.holds Tryd.pinned (.plain (OpenSpec.ofChange fileNumbersSpec)) fileNumbersCard

/-- THE TIED CARD OF 'dioscurilaw14.FilePlays'. -/
def filePlaysCard : Claim7 := { stood := { row := filePlaysRow, standIns := [], harness := (true, "b65fe82eafc63bf43f668167cb2c3bf9d17d765606a9e9a2d4fcce448b2bec50"), looks := false }, kinds := [], alts := [], laidByText := true, laidKinds := [.data], laidTests := true, laidLooks := .later }
def FilePlaysCardSaid : Prop := Claim7.holds Tryd.pinned (.plain (OpenSpec.ofChange filePlaysSpec)) filePlaysCard

/-- THE TIED CARD OF 'dioscurilaw14.FileMends'. -/
def fileMendsCard : Claim7 := { stood := { row := fileMendsRow, standIns := [], harness := (true, "b65fe82eafc63bf43f668167cb2c3bf9d17d765606a9e9a2d4fcce448b2bec50"), looks := false }, kinds := [], alts := [], laidByText := true, laidKinds := [.data], laidTests := true, laidLooks := .later }
def FileMendsCardSaid : Prop := Claim7.holds Tryd.pinned (.plain (OpenSpec.ofChange fileMendsSpec)) fileMendsCard

/-- THE TIED CARD OF 'dioscurilaw14.FileBads'. -/
def fileBadsCard : Claim7 := { stood := { row := fileBadsRow, standIns := [], harness := (true, "b65fe82eafc63bf43f668167cb2c3bf9d17d765606a9e9a2d4fcce448b2bec50"), looks := false }, kinds := [], alts := [], laidByText := true, laidKinds := [.data], laidTests := true, laidLooks := .later }
def FileBadsCardSaid : Prop := Claim7.holds Tryd.pinned (.plain (OpenSpec.ofChange fileBadsSpec)) fileBadsCard

/-- THE SECOND FORM's CARD OF 'dioscurilaw3.WordNumbers'. -/
def wordNumbersUptoCard : Claim7 := { stood := { row := wordNumbersUptoRow, standIns := [], harness := (true, "b65fe82eafc63bf43f668167cb2c3bf9d17d765606a9e9a2d4fcce448b2bec50"), looks := false }, kinds := [], alts := [], laidByText := true, laidKinds := [.data], laidTests := true, laidLooks := .later }
def WordNumbersUptoCardSaid : Prop := Claim7.holds Tryd.pinned (.plain (OpenSpec.upto wordNumbersSpec)) wordNumbersUptoCard

/-- THE SECOND FORM's CARD OF 'dioscurilaw3.WordPlays'. -/
def wordPlaysUptoCard : Claim7 := { stood := { row := wordPlaysUptoRow, standIns := [], harness := (true, "b65fe82eafc63bf43f668167cb2c3bf9d17d765606a9e9a2d4fcce448b2bec50"), looks := false }, kinds := [], alts := [], laidByText := true, laidKinds := [.data], laidTests := true, laidLooks := .later }
def WordPlaysUptoCardSaid : Prop := Claim7.holds Tryd.pinned (.plain (OpenSpec.upto wordPlaysSpec)) wordPlaysUptoCard

/-- THE SECOND FORM's CARD OF 'dioscurilaw14.FileNumbers'. -/
def fileNumbersUptoCard : Claim7 := { stood := { row := fileNumbersUptoRow, standIns := [], harness := (true, "b65fe82eafc63bf43f668167cb2c3bf9d17d765606a9e9a2d4fcce448b2bec50"), looks := false }, kinds := [], alts := [], laidByText := true, laidKinds := [.data], laidTests := true, laidLooks := .later }
def FileNumbersUptoCardSaid : Prop := Claim7.holds Tryd.pinned (.plain (OpenSpec.upto fileNumbersSpec)) fileNumbersUptoCard

/-- THE SECOND FORM's CARD OF 'dioscurilaw14.FilePlays'. -/
def filePlaysUptoCard : Claim7 := { stood := { row := filePlaysUptoRow, standIns := [], harness := (true, "b65fe82eafc63bf43f668167cb2c3bf9d17d765606a9e9a2d4fcce448b2bec50"), looks := false }, kinds := [], alts := [], laidByText := true, laidKinds := [.data], laidTests := true, laidLooks := .later }
def FilePlaysUptoCardSaid : Prop := Claim7.holds Tryd.pinned (.plain (OpenSpec.upto filePlaysSpec)) filePlaysUptoCard

/-- THE SECOND FORM's CARD OF 'dioscurilaw14.FileMends'. -/
def fileMendsUptoCard : Claim7 := { stood := { row := fileMendsUptoRow, standIns := [], harness := (true, "b65fe82eafc63bf43f668167cb2c3bf9d17d765606a9e9a2d4fcce448b2bec50"), looks := false }, kinds := [], alts := [], laidByText := true, laidKinds := [.data], laidTests := true, laidLooks := .later }
def FileMendsUptoCardSaid : Prop := Claim7.holds Tryd.pinned (.plain (OpenSpec.upto fileMendsSpec)) fileMendsUptoCard

/-- THE SECOND FORM's CARD OF 'dioscurilaw14.FileBads'. -/
def fileBadsUptoCard : Claim7 := { stood := { row := fileBadsUptoRow, standIns := [], harness := (true, "b65fe82eafc63bf43f668167cb2c3bf9d17d765606a9e9a2d4fcce448b2bec50"), looks := false }, kinds := [], alts := [], laidByText := true, laidKinds := [.data], laidTests := true, laidLooks := .later }
def FileBadsUptoCardSaid : Prop := Claim7.holds Tryd.pinned (.plain (OpenSpec.upto fileBadsSpec)) fileBadsUptoCard
end Rows
end Go.Proofs.YtfnemolaoijbhabDoor

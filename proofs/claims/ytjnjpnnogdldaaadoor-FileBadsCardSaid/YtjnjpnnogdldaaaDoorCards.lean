/-
  DERIVED. GIVEN WITH THE SEED: THE CARDS: each row of YtjnjpnnogdldaaaDoorRows.lean that lists a variable, with what it lists TIED to the program's text (the seventh form; the later family's looks); each row that meets fmt, with fmt's text TOLD by the authors' own Lean function (tested against real Go, not proved from fmt's source: count such statements apart). THE CARD IS WHAT COUNTS. Prove the row's statement (the work); the ties are given (YtjnjpnnogdldaaaDoorTie.lean); close each card by the builder's one call (the guide's Derived/Test/ToyasCard.lean, 'card_holds'). Laid BY PROGRAM, IN A SANDBOX (cutbox-door.mjs). By AI agents, Wed Nov 11 2026. No macro, syntax, notation, axiom, sorry.
-/
import Derived.Test.YtjnjpnnogdldaaaDoorRows
import GoSem.ClaimSeven
namespace Go.Proofs.YtjnjpnnogdldaaaDoor
namespace Rows

/-- THE TIED CARD OF 'dioscurilaw2.HsiaoTells'. -/
def hsiaoTellsCard : Claim7 := { stood := { row := hsiaoTellsRow, standIns := [], harness := (true, "1fabded53256dd32c03d1e8806f9181c5533cf41e3a5302f88ef5c85e72a58d3"), looks := false }, kinds := [], alts := [], laidByText := true, laidKinds := [.data], laidTests := true, laidLooks := .later }
def HsiaoTellsCardSaid : Prop := Claim7.holds Tryd.pinned (.plain (OpenSpec.ofChange hsiaoTellsSpec)) hsiaoTellsCard

/-- THE TIED CARD OF 'dioscurilaw2.HsiaoMends'. -/
def hsiaoMendsCard : Claim7 := { stood := { row := hsiaoMendsRow, standIns := [], harness := (true, "1fabded53256dd32c03d1e8806f9181c5533cf41e3a5302f88ef5c85e72a58d3"), looks := false }, kinds := [], alts := [], laidByText := true, laidKinds := [.data], laidTests := true, laidLooks := .later }
def HsiaoMendsCardSaid : Prop := Claim7.holds Tryd.pinned (.plain (OpenSpec.ofChange hsiaoMendsSpec)) hsiaoMendsCard

/-- THE TIED CARD OF 'dioscurilaw2.HsiaoAdds'. -/
def hsiaoAddsCard : Claim7 := { stood := { row := hsiaoAddsRow, standIns := [], harness := (true, "1fabded53256dd32c03d1e8806f9181c5533cf41e3a5302f88ef5c85e72a58d3"), looks := false }, kinds := [], alts := [], laidByText := true, laidKinds := [.data], laidTests := true, laidLooks := .later }
def HsiaoAddsCardSaid : Prop := Claim7.holds Tryd.pinned (.plain (OpenSpec.ofChange hsiaoAddsSpec)) hsiaoAddsCard

/-- THE TIED CARD OF 'dioscurilaw2.HsiaoData'. -/
def hsiaoDataCard : Claim7 := { stood := { row := hsiaoDataRow, standIns := [], harness := (true, "1fabded53256dd32c03d1e8806f9181c5533cf41e3a5302f88ef5c85e72a58d3"), looks := false }, kinds := [], alts := [], laidByText := true, laidKinds := [.data], laidTests := true, laidLooks := .later }
def HsiaoDataCardSaid : Prop := Claim7.holds Tryd.pinned (.plain (OpenSpec.ofChange hsiaoDataSpec)) hsiaoDataCard

/-- THE TIED CARD OF 'dioscurilaw3.WordMends'. -/
def wordMendsCard : Claim7 := { stood := { row := wordMendsRow, standIns := [], harness := (true, "1fabded53256dd32c03d1e8806f9181c5533cf41e3a5302f88ef5c85e72a58d3"), looks := false }, kinds := [], alts := [], laidByText := true, laidKinds := [.data], laidTests := true, laidLooks := .later }
def WordMendsCardSaid : Prop := Claim7.holds Tryd.pinned (.plain (OpenSpec.ofChange wordMendsSpec)) wordMendsCard

/-- THE TIED CARD OF 'dioscurilaw3.WordPeeks'. -/
def wordPeeksCard : Claim7 := { stood := { row := wordPeeksRow, standIns := [], harness := (true, "1fabded53256dd32c03d1e8806f9181c5533cf41e3a5302f88ef5c85e72a58d3"), looks := false }, kinds := [], alts := [], laidByText := true, laidKinds := [.data], laidTests := true, laidLooks := .later }
def WordPeeksCardSaid : Prop := Claim7.holds Tryd.pinned (.plain (OpenSpec.ofChange wordPeeksSpec)) wordPeeksCard

/-- THE TIED CARD OF 'dioscurilaw3.WordNumbers'. -/
def wordNumbersCard : Claim7 := { stood := { row := wordNumbersRow, standIns := [], harness := (true, "1fabded53256dd32c03d1e8806f9181c5533cf41e3a5302f88ef5c85e72a58d3"), looks := false }, kinds := [], alts := [], laidByText := true, laidKinds := [.data], laidTests := true, laidLooks := .later }
def WordNumbersCardSaid : Prop := Claim7.holds Tryd.pinned (.plain (OpenSpec.ofChange wordNumbersSpec)) wordNumbersCard

/-- THE TIED CARD OF 'dioscurilaw3.WordPlays'. -/
def wordPlaysCard : Claim7 := { stood := { row := wordPlaysRow, standIns := [], harness := (true, "1fabded53256dd32c03d1e8806f9181c5533cf41e3a5302f88ef5c85e72a58d3"), looks := false }, kinds := [], alts := [], laidByText := true, laidKinds := [.data], laidTests := true, laidLooks := .later }
def WordPlaysCardSaid : Prop := Claim7.holds Tryd.pinned (.plain (OpenSpec.ofChange wordPlaysSpec)) wordPlaysCard

/-- THE TIED CARD OF 'dioscurilaw14.FileNumbers'. -/
def fileNumbersCard : Claim7 := { stood := { row := fileNumbersRow, standIns := [], harness := (true, "1fabded53256dd32c03d1e8806f9181c5533cf41e3a5302f88ef5c85e72a58d3"), looks := false }, kinds := [], alts := [], laidByText := true, laidKinds := [.data], laidTests := true, laidLooks := .later }
def FileNumbersCardSaid : Prop := Claim7.holds Tryd.pinned (.plain (OpenSpec.ofChange fileNumbersSpec)) fileNumbersCard

/-- THE TIED CARD OF 'dioscurilaw14.FilePlays'. -/
def filePlaysCard : Claim7 := { stood := { row := filePlaysRow, standIns := [], harness := (true, "1fabded53256dd32c03d1e8806f9181c5533cf41e3a5302f88ef5c85e72a58d3"), looks := false }, kinds := [], alts := [], laidByText := true, laidKinds := [.data], laidTests := true, laidLooks := .later }
def FilePlaysCardSaid : Prop := Claim7.holds Tryd.pinned (.plain (OpenSpec.ofChange filePlaysSpec)) filePlaysCard

/-- THE TIED CARD OF 'dioscurilaw14.FileMends'. -/
def fileMendsCard : Claim7 := { stood := { row := fileMendsRow, standIns := [], harness := (true, "1fabded53256dd32c03d1e8806f9181c5533cf41e3a5302f88ef5c85e72a58d3"), looks := false }, kinds := [], alts := [], laidByText := true, laidKinds := [.data], laidTests := true, laidLooks := .later }
def FileMendsCardSaid : Prop := Claim7.holds Tryd.pinned (.plain (OpenSpec.ofChange fileMendsSpec)) fileMendsCard

/-- THE TIED CARD OF 'dioscurilaw14.FileBads'. -/
def fileBadsCard : Claim7 := { stood := { row := fileBadsRow, standIns := [], harness := (true, "1fabded53256dd32c03d1e8806f9181c5533cf41e3a5302f88ef5c85e72a58d3"), looks := false }, kinds := [], alts := [], laidByText := true, laidKinds := [.data], laidTests := true, laidLooks := .later }
def FileBadsCardSaid : Prop := Claim7.holds Tryd.pinned (.plain (OpenSpec.ofChange fileBadsSpec)) fileBadsCard

/-- THE TIED CARD OF 'dioscurilaw17.SaveNumbers'. -/
def saveNumbersCard : Claim7 := { stood := { row := saveNumbersRow, standIns := [], harness := (true, "1fabded53256dd32c03d1e8806f9181c5533cf41e3a5302f88ef5c85e72a58d3"), looks := false }, kinds := [], alts := [], laidByText := true, laidKinds := [.data], laidTests := true, laidLooks := .later }
def SaveNumbersCardSaid : Prop := Claim7.holds Tryd.pinned (.plain (OpenSpec.ofChange saveNumbersSpec)) saveNumbersCard

/-- THE TIED CARD OF 'dioscurilaw17.SaveMends'. -/
def saveMendsCard : Claim7 := { stood := { row := saveMendsRow, standIns := [], harness := (true, "1fabded53256dd32c03d1e8806f9181c5533cf41e3a5302f88ef5c85e72a58d3"), looks := false }, kinds := [], alts := [], laidByText := true, laidKinds := [.data], laidTests := true, laidLooks := .later }
def SaveMendsCardSaid : Prop := Claim7.holds Tryd.pinned (.plain (OpenSpec.ofChange saveMendsSpec)) saveMendsCard

/-- THE TIED CARD OF 'dioscurilaw17.SaveLast'. -/
def saveLastCard : Claim7 := { stood := { row := saveLastRow, standIns := [], harness := (true, "1fabded53256dd32c03d1e8806f9181c5533cf41e3a5302f88ef5c85e72a58d3"), looks := false }, kinds := [], alts := [], laidByText := true, laidKinds := [.data], laidTests := true, laidLooks := .later }
def SaveLastCardSaid : Prop := Claim7.holds Tryd.pinned (.plain (OpenSpec.ofChange saveLastSpec)) saveLastCard

/-- THE TIED CARD OF 'dioscurilaw13.MemoryStores'. -/
def memoryStoresCard : Claim7 := { stood := { row := memoryStoresRow, standIns := [], harness := (true, "1fabded53256dd32c03d1e8806f9181c5533cf41e3a5302f88ef5c85e72a58d3"), looks := false }, kinds := [], alts := [], laidByText := true, laidKinds := [.data], laidTests := true, laidLooks := .later }
def MemoryStoresCardSaid : Prop := Claim7.holds Tryd.pinned (.plain (OpenSpec.ofChange memoryStoresSpec)) memoryStoresCard

/-- THE TIED CARD OF 'dioscurilaw13.MemoryNumbers'. -/
def memoryNumbersCard : Claim7 := { stood := { row := memoryNumbersRow, standIns := [], harness := (true, "1fabded53256dd32c03d1e8806f9181c5533cf41e3a5302f88ef5c85e72a58d3"), looks := false }, kinds := [], alts := [], laidByText := true, laidKinds := [.data], laidTests := true, laidLooks := .later }
def MemoryNumbersCardSaid : Prop := Claim7.holds Tryd.pinned (.plain (OpenSpec.ofChange memoryNumbersSpec)) memoryNumbersCard

/-- THE TIED CARD OF 'dioscurilaw13.MemoryPlays'. -/
def memoryPlaysCard : Claim7 := { stood := { row := memoryPlaysRow, standIns := [], harness := (true, "1fabded53256dd32c03d1e8806f9181c5533cf41e3a5302f88ef5c85e72a58d3"), looks := false }, kinds := [], alts := [], laidByText := true, laidKinds := [.data], laidTests := true, laidLooks := .later }
def MemoryPlaysCardSaid : Prop := Claim7.holds Tryd.pinned (.plain (OpenSpec.ofChange memoryPlaysSpec)) memoryPlaysCard

/-- THE TIED CARD OF 'dioscurilaw13.MemoryMends'. -/
def memoryMendsCard : Claim7 := { stood := { row := memoryMendsRow, standIns := [], harness := (true, "1fabded53256dd32c03d1e8806f9181c5533cf41e3a5302f88ef5c85e72a58d3"), looks := false }, kinds := [], alts := [], laidByText := true, laidKinds := [.data], laidTests := true, laidLooks := .later }
def MemoryMendsCardSaid : Prop := Claim7.holds Tryd.pinned (.plain (OpenSpec.ofChange memoryMendsSpec)) memoryMendsCard

/-- THE SECOND FORM's CARD OF 'dioscurilaw2.HsiaoTells'. -/
def hsiaoTellsUptoCard : Claim7 := { stood := { row := hsiaoTellsUptoRow, standIns := [], harness := (true, "1fabded53256dd32c03d1e8806f9181c5533cf41e3a5302f88ef5c85e72a58d3"), looks := false }, kinds := [], alts := [], laidByText := true, laidKinds := [.data], laidTests := true, laidLooks := .later }
def HsiaoTellsUptoCardSaid : Prop := Claim7.holds Tryd.pinned (.plain (OpenSpec.upto hsiaoTellsSpec)) hsiaoTellsUptoCard

/-- THE SECOND FORM's CARD OF 'dioscurilaw2.HsiaoMends'. -/
def hsiaoMendsUptoCard : Claim7 := { stood := { row := hsiaoMendsUptoRow, standIns := [], harness := (true, "1fabded53256dd32c03d1e8806f9181c5533cf41e3a5302f88ef5c85e72a58d3"), looks := false }, kinds := [], alts := [], laidByText := true, laidKinds := [.data], laidTests := true, laidLooks := .later }
def HsiaoMendsUptoCardSaid : Prop := Claim7.holds Tryd.pinned (.plain (OpenSpec.upto hsiaoMendsSpec)) hsiaoMendsUptoCard

/-- THE SECOND FORM's CARD OF 'dioscurilaw2.HsiaoAdds'. -/
def hsiaoAddsUptoCard : Claim7 := { stood := { row := hsiaoAddsUptoRow, standIns := [], harness := (true, "1fabded53256dd32c03d1e8806f9181c5533cf41e3a5302f88ef5c85e72a58d3"), looks := false }, kinds := [], alts := [], laidByText := true, laidKinds := [.data], laidTests := true, laidLooks := .later }
def HsiaoAddsUptoCardSaid : Prop := Claim7.holds Tryd.pinned (.plain (OpenSpec.upto hsiaoAddsSpec)) hsiaoAddsUptoCard

/-- THE SECOND FORM's CARD OF 'dioscurilaw2.HsiaoData'. -/
def hsiaoDataUptoCard : Claim7 := { stood := { row := hsiaoDataUptoRow, standIns := [], harness := (true, "1fabded53256dd32c03d1e8806f9181c5533cf41e3a5302f88ef5c85e72a58d3"), looks := false }, kinds := [], alts := [], laidByText := true, laidKinds := [.data], laidTests := true, laidLooks := .later }
def HsiaoDataUptoCardSaid : Prop := Claim7.holds Tryd.pinned (.plain (OpenSpec.upto hsiaoDataSpec)) hsiaoDataUptoCard

/-- THE SECOND FORM's CARD OF 'dioscurilaw3.WordMends'. -/
def wordMendsUptoCard : Claim7 := { stood := { row := wordMendsUptoRow, standIns := [], harness := (true, "1fabded53256dd32c03d1e8806f9181c5533cf41e3a5302f88ef5c85e72a58d3"), looks := false }, kinds := [], alts := [], laidByText := true, laidKinds := [.data], laidTests := true, laidLooks := .later }
def WordMendsUptoCardSaid : Prop := Claim7.holds Tryd.pinned (.plain (OpenSpec.upto wordMendsSpec)) wordMendsUptoCard

/-- THE SECOND FORM's CARD OF 'dioscurilaw3.WordPeeks'. -/
def wordPeeksUptoCard : Claim7 := { stood := { row := wordPeeksUptoRow, standIns := [], harness := (true, "1fabded53256dd32c03d1e8806f9181c5533cf41e3a5302f88ef5c85e72a58d3"), looks := false }, kinds := [], alts := [], laidByText := true, laidKinds := [.data], laidTests := true, laidLooks := .later }
def WordPeeksUptoCardSaid : Prop := Claim7.holds Tryd.pinned (.plain (OpenSpec.upto wordPeeksSpec)) wordPeeksUptoCard

/-- THE SECOND FORM's CARD OF 'dioscurilaw3.WordNumbers'. -/
def wordNumbersUptoCard : Claim7 := { stood := { row := wordNumbersUptoRow, standIns := [], harness := (true, "1fabded53256dd32c03d1e8806f9181c5533cf41e3a5302f88ef5c85e72a58d3"), looks := false }, kinds := [], alts := [], laidByText := true, laidKinds := [.data], laidTests := true, laidLooks := .later }
def WordNumbersUptoCardSaid : Prop := Claim7.holds Tryd.pinned (.plain (OpenSpec.upto wordNumbersSpec)) wordNumbersUptoCard

/-- THE SECOND FORM's CARD OF 'dioscurilaw3.WordPlays'. -/
def wordPlaysUptoCard : Claim7 := { stood := { row := wordPlaysUptoRow, standIns := [], harness := (true, "1fabded53256dd32c03d1e8806f9181c5533cf41e3a5302f88ef5c85e72a58d3"), looks := false }, kinds := [], alts := [], laidByText := true, laidKinds := [.data], laidTests := true, laidLooks := .later }
def WordPlaysUptoCardSaid : Prop := Claim7.holds Tryd.pinned (.plain (OpenSpec.upto wordPlaysSpec)) wordPlaysUptoCard

/-- THE SECOND FORM's CARD OF 'dioscurilaw14.FileNumbers'. -/
def fileNumbersUptoCard : Claim7 := { stood := { row := fileNumbersUptoRow, standIns := [], harness := (true, "1fabded53256dd32c03d1e8806f9181c5533cf41e3a5302f88ef5c85e72a58d3"), looks := false }, kinds := [], alts := [], laidByText := true, laidKinds := [.data], laidTests := true, laidLooks := .later }
def FileNumbersUptoCardSaid : Prop := Claim7.holds Tryd.pinned (.plain (OpenSpec.upto fileNumbersSpec)) fileNumbersUptoCard

/-- THE SECOND FORM's CARD OF 'dioscurilaw14.FilePlays'. -/
def filePlaysUptoCard : Claim7 := { stood := { row := filePlaysUptoRow, standIns := [], harness := (true, "1fabded53256dd32c03d1e8806f9181c5533cf41e3a5302f88ef5c85e72a58d3"), looks := false }, kinds := [], alts := [], laidByText := true, laidKinds := [.data], laidTests := true, laidLooks := .later }
def FilePlaysUptoCardSaid : Prop := Claim7.holds Tryd.pinned (.plain (OpenSpec.upto filePlaysSpec)) filePlaysUptoCard

/-- THE SECOND FORM's CARD OF 'dioscurilaw14.FileMends'. -/
def fileMendsUptoCard : Claim7 := { stood := { row := fileMendsUptoRow, standIns := [], harness := (true, "1fabded53256dd32c03d1e8806f9181c5533cf41e3a5302f88ef5c85e72a58d3"), looks := false }, kinds := [], alts := [], laidByText := true, laidKinds := [.data], laidTests := true, laidLooks := .later }
def FileMendsUptoCardSaid : Prop := Claim7.holds Tryd.pinned (.plain (OpenSpec.upto fileMendsSpec)) fileMendsUptoCard

/-- THE SECOND FORM's CARD OF 'dioscurilaw14.FileBads'. -/
def fileBadsUptoCard : Claim7 := { stood := { row := fileBadsUptoRow, standIns := [], harness := (true, "1fabded53256dd32c03d1e8806f9181c5533cf41e3a5302f88ef5c85e72a58d3"), looks := false }, kinds := [], alts := [], laidByText := true, laidKinds := [.data], laidTests := true, laidLooks := .later }
def FileBadsUptoCardSaid : Prop := Claim7.holds Tryd.pinned (.plain (OpenSpec.upto fileBadsSpec)) fileBadsUptoCard

/-- THE SECOND FORM's CARD OF 'dioscurilaw17.SaveNumbers'. -/
def saveNumbersUptoCard : Claim7 := { stood := { row := saveNumbersUptoRow, standIns := [], harness := (true, "1fabded53256dd32c03d1e8806f9181c5533cf41e3a5302f88ef5c85e72a58d3"), looks := false }, kinds := [], alts := [], laidByText := true, laidKinds := [.data], laidTests := true, laidLooks := .later }
def SaveNumbersUptoCardSaid : Prop := Claim7.holds Tryd.pinned (.plain (OpenSpec.upto saveNumbersSpec)) saveNumbersUptoCard

/-- THE SECOND FORM's CARD OF 'dioscurilaw17.SaveMends'. -/
def saveMendsUptoCard : Claim7 := { stood := { row := saveMendsUptoRow, standIns := [], harness := (true, "1fabded53256dd32c03d1e8806f9181c5533cf41e3a5302f88ef5c85e72a58d3"), looks := false }, kinds := [], alts := [], laidByText := true, laidKinds := [.data], laidTests := true, laidLooks := .later }
def SaveMendsUptoCardSaid : Prop := Claim7.holds Tryd.pinned (.plain (OpenSpec.upto saveMendsSpec)) saveMendsUptoCard

/-- THE SECOND FORM's CARD OF 'dioscurilaw17.SaveLast'. -/
def saveLastUptoCard : Claim7 := { stood := { row := saveLastUptoRow, standIns := [], harness := (true, "1fabded53256dd32c03d1e8806f9181c5533cf41e3a5302f88ef5c85e72a58d3"), looks := false }, kinds := [], alts := [], laidByText := true, laidKinds := [.data], laidTests := true, laidLooks := .later }
def SaveLastUptoCardSaid : Prop := Claim7.holds Tryd.pinned (.plain (OpenSpec.upto saveLastSpec)) saveLastUptoCard

/-- THE SECOND FORM's CARD OF 'dioscurilaw13.MemoryStores'. -/
def memoryStoresUptoCard : Claim7 := { stood := { row := memoryStoresUptoRow, standIns := [], harness := (true, "1fabded53256dd32c03d1e8806f9181c5533cf41e3a5302f88ef5c85e72a58d3"), looks := false }, kinds := [], alts := [], laidByText := true, laidKinds := [.data], laidTests := true, laidLooks := .later }
def MemoryStoresUptoCardSaid : Prop := Claim7.holds Tryd.pinned (.plain (OpenSpec.upto memoryStoresSpec)) memoryStoresUptoCard

/-- THE SECOND FORM's CARD OF 'dioscurilaw13.MemoryNumbers'. -/
def memoryNumbersUptoCard : Claim7 := { stood := { row := memoryNumbersUptoRow, standIns := [], harness := (true, "1fabded53256dd32c03d1e8806f9181c5533cf41e3a5302f88ef5c85e72a58d3"), looks := false }, kinds := [], alts := [], laidByText := true, laidKinds := [.data], laidTests := true, laidLooks := .later }
def MemoryNumbersUptoCardSaid : Prop := Claim7.holds Tryd.pinned (.plain (OpenSpec.upto memoryNumbersSpec)) memoryNumbersUptoCard

/-- THE SECOND FORM's CARD OF 'dioscurilaw13.MemoryPlays'. -/
def memoryPlaysUptoCard : Claim7 := { stood := { row := memoryPlaysUptoRow, standIns := [], harness := (true, "1fabded53256dd32c03d1e8806f9181c5533cf41e3a5302f88ef5c85e72a58d3"), looks := false }, kinds := [], alts := [], laidByText := true, laidKinds := [.data], laidTests := true, laidLooks := .later }
def MemoryPlaysUptoCardSaid : Prop := Claim7.holds Tryd.pinned (.plain (OpenSpec.upto memoryPlaysSpec)) memoryPlaysUptoCard

/-- THE SECOND FORM's CARD OF 'dioscurilaw13.MemoryMends'. -/
def memoryMendsUptoCard : Claim7 := { stood := { row := memoryMendsUptoRow, standIns := [], harness := (true, "1fabded53256dd32c03d1e8806f9181c5533cf41e3a5302f88ef5c85e72a58d3"), looks := false }, kinds := [], alts := [], laidByText := true, laidKinds := [.data], laidTests := true, laidLooks := .later }
def MemoryMendsUptoCardSaid : Prop := Claim7.holds Tryd.pinned (.plain (OpenSpec.upto memoryMendsSpec)) memoryMendsUptoCard
end Rows
end Go.Proofs.YtjnjpnnogdldaaaDoor

/-
  DERIVED. GIVEN WITH THE SEED: THE CARDS: each row of YtfnemolaoijbhacDoorRows.lean that lists a variable, with what it lists TIED to the program's text (the seventh form; the later family's looks); each row that meets fmt, with fmt's text TOLD by the authors' own Lean function (tested against real Go, not proved from fmt's source: count such statements apart). THE CARD IS WHAT COUNTS. Prove the row's statement (the work); the ties are given (YtfnemolaoijbhacDoorTie.lean); close each card by the builder's one call (the guide's Derived/Test/ToyasCard.lean, 'card_holds'). Laid BY PROGRAM, IN A SANDBOX (cutbox-door.mjs). By AI agents, Wed Nov 11 2026. No macro, syntax, notation, axiom, sorry.
-/
import Derived.Test.YtfnemolaoijbhacDoorRows
import GoSem.ClaimSeven
namespace Go.Proofs.YtfnemolaoijbhacDoor
namespace Rows

/-- THE TIED CARD OF 'dioscurilaw17.SaveNumbers'. -/
def saveNumbersCard : Claim7 := { stood := { row := saveNumbersRow, standIns := [], harness := (true, "b5d927f298d0a1cb9ec64d4651d1c72701450cf5ceb38abebfb8628003466b3c"), looks := false }, kinds := [], alts := [], laidByText := true, laidKinds := [.data], laidTests := true, laidLooks := .later }
def SaveNumbersCardSaid : Prop := Claim7.holds Tryd.pinned (.plain (OpenSpec.ofChange saveNumbersSpec)) saveNumbersCard

/-- THE TIED CARD OF 'dioscurilaw17.SaveMends'. -/
def saveMendsCard : Claim7 := { stood := { row := saveMendsRow, standIns := [], harness := (true, "b5d927f298d0a1cb9ec64d4651d1c72701450cf5ceb38abebfb8628003466b3c"), looks := false }, kinds := [], alts := [], laidByText := true, laidKinds := [.data], laidTests := true, laidLooks := .later }
def SaveMendsCardSaid : Prop := Claim7.holds Tryd.pinned (.plain (OpenSpec.ofChange saveMendsSpec)) saveMendsCard

/-- THE TIED CARD OF 'dioscurilaw17.SaveLast'. -/
def saveLastCard : Claim7 := { stood := { row := saveLastRow, standIns := [], harness := (true, "b5d927f298d0a1cb9ec64d4651d1c72701450cf5ceb38abebfb8628003466b3c"), looks := false }, kinds := [], alts := [], laidByText := true, laidKinds := [.data], laidTests := true, laidLooks := .later }
def SaveLastCardSaid : Prop := Claim7.holds Tryd.pinned (.plain (OpenSpec.ofChange saveLastSpec)) saveLastCard

/-- THE TIED CARD OF 'dioscurilaw13.MemoryStores'. -/
def memoryStoresCard : Claim7 := { stood := { row := memoryStoresRow, standIns := [], harness := (true, "b5d927f298d0a1cb9ec64d4651d1c72701450cf5ceb38abebfb8628003466b3c"), looks := false }, kinds := [], alts := [], laidByText := true, laidKinds := [.data], laidTests := true, laidLooks := .later }
def MemoryStoresCardSaid : Prop := Claim7.holds Tryd.pinned (.plain (OpenSpec.ofChange memoryStoresSpec)) memoryStoresCard

/-- THE TIED CARD OF 'dioscurilaw13.MemoryNumbers'. -/
def memoryNumbersCard : Claim7 := { stood := { row := memoryNumbersRow, standIns := [], harness := (true, "b5d927f298d0a1cb9ec64d4651d1c72701450cf5ceb38abebfb8628003466b3c"), looks := false }, kinds := [], alts := [], laidByText := true, laidKinds := [.data], laidTests := true, laidLooks := .later }
def MemoryNumbersCardSaid : Prop := Claim7.holds Tryd.pinned (.plain (OpenSpec.ofChange memoryNumbersSpec)) memoryNumbersCard

/-- THE TIED CARD OF 'dioscurilaw13.MemoryPlays'. -/
def memoryPlaysCard : Claim7 := { stood := { row := memoryPlaysRow, standIns := [], harness := (true, "b5d927f298d0a1cb9ec64d4651d1c72701450cf5ceb38abebfb8628003466b3c"), looks := false }, kinds := [], alts := [], laidByText := true, laidKinds := [.data], laidTests := true, laidLooks := .later }
def MemoryPlaysCardSaid : Prop := Claim7.holds Tryd.pinned (.plain (OpenSpec.ofChange memoryPlaysSpec)) memoryPlaysCard

/-- THE SECOND FORM's CARD OF 'dioscurilaw17.SaveNumbers'. -/
def saveNumbersUptoCard : Claim7 := { stood := { row := saveNumbersUptoRow, standIns := [], harness := (true, "b5d927f298d0a1cb9ec64d4651d1c72701450cf5ceb38abebfb8628003466b3c"), looks := false }, kinds := [], alts := [], laidByText := true, laidKinds := [.data], laidTests := true, laidLooks := .later }
def SaveNumbersUptoCardSaid : Prop := Claim7.holds Tryd.pinned (.plain (OpenSpec.upto saveNumbersSpec)) saveNumbersUptoCard

/-- THE SECOND FORM's CARD OF 'dioscurilaw17.SaveMends'. -/
def saveMendsUptoCard : Claim7 := { stood := { row := saveMendsUptoRow, standIns := [], harness := (true, "b5d927f298d0a1cb9ec64d4651d1c72701450cf5ceb38abebfb8628003466b3c"), looks := false }, kinds := [], alts := [], laidByText := true, laidKinds := [.data], laidTests := true, laidLooks := .later }
def SaveMendsUptoCardSaid : Prop := Claim7.holds Tryd.pinned (.plain (OpenSpec.upto saveMendsSpec)) saveMendsUptoCard

/-- THE SECOND FORM's CARD OF 'dioscurilaw17.SaveLast'. -/
def saveLastUptoCard : Claim7 := { stood := { row := saveLastUptoRow, standIns := [], harness := (true, "b5d927f298d0a1cb9ec64d4651d1c72701450cf5ceb38abebfb8628003466b3c"), looks := false }, kinds := [], alts := [], laidByText := true, laidKinds := [.data], laidTests := true, laidLooks := .later }
def SaveLastUptoCardSaid : Prop := Claim7.holds Tryd.pinned (.plain (OpenSpec.upto saveLastSpec)) saveLastUptoCard

/-- THE SECOND FORM's CARD OF 'dioscurilaw13.MemoryStores'. -/
def memoryStoresUptoCard : Claim7 := { stood := { row := memoryStoresUptoRow, standIns := [], harness := (true, "b5d927f298d0a1cb9ec64d4651d1c72701450cf5ceb38abebfb8628003466b3c"), looks := false }, kinds := [], alts := [], laidByText := true, laidKinds := [.data], laidTests := true, laidLooks := .later }
def MemoryStoresUptoCardSaid : Prop := Claim7.holds Tryd.pinned (.plain (OpenSpec.upto memoryStoresSpec)) memoryStoresUptoCard

/-- THE SECOND FORM's CARD OF 'dioscurilaw13.MemoryNumbers'. -/
def memoryNumbersUptoCard : Claim7 := { stood := { row := memoryNumbersUptoRow, standIns := [], harness := (true, "b5d927f298d0a1cb9ec64d4651d1c72701450cf5ceb38abebfb8628003466b3c"), looks := false }, kinds := [], alts := [], laidByText := true, laidKinds := [.data], laidTests := true, laidLooks := .later }
def MemoryNumbersUptoCardSaid : Prop := Claim7.holds Tryd.pinned (.plain (OpenSpec.upto memoryNumbersSpec)) memoryNumbersUptoCard

/-- THE SECOND FORM's CARD OF 'dioscurilaw13.MemoryPlays'. -/
def memoryPlaysUptoCard : Claim7 := { stood := { row := memoryPlaysUptoRow, standIns := [], harness := (true, "b5d927f298d0a1cb9ec64d4651d1c72701450cf5ceb38abebfb8628003466b3c"), looks := false }, kinds := [], alts := [], laidByText := true, laidKinds := [.data], laidTests := true, laidLooks := .later }
def MemoryPlaysUptoCardSaid : Prop := Claim7.holds Tryd.pinned (.plain (OpenSpec.upto memoryPlaysSpec)) memoryPlaysUptoCard
end Rows
end Go.Proofs.YtfnemolaoijbhacDoor

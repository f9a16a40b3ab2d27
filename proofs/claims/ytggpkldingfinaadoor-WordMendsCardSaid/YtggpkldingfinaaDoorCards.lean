/-
  DERIVED. GIVEN WITH THE SEED: THE CARDS: each row of YtggpkldingfinaaDoorRows.lean that lists a variable, with what it lists TIED to the program's text (the seventh form; the later family's looks); each row that meets fmt, with fmt's text TOLD by the authors' own Lean function (tested against real Go, not proved from fmt's source: count such statements apart). THE CARD IS WHAT COUNTS. Prove the row's statement (the work); the ties are given (YtggpkldingfinaaDoorTie.lean); close each card by the builder's one call (the guide's Derived/Test/ToyasCard.lean, 'card_holds'). Laid BY PROGRAM, IN A SANDBOX (cutbox-door.mjs). By AI agents, Wed Nov 11 2026. No macro, syntax, notation, axiom, sorry.
-/
import Derived.Test.YtggpkldingfinaaDoorRows
import GoSem.ClaimSeven
namespace Go.Proofs.YtggpkldingfinaaDoor
namespace Rows

/-- THE TIED CARD OF 'dioscurilaw2.HsiaoTells'. -/
def hsiaoTellsCard : Claim7 := { stood := { row := hsiaoTellsRow, standIns := [], harness := (true, "286cc9914f57f3c473a2cb69a20e20543549507a53f12bb73c65b9d5787a36e5"), looks := false }, kinds := [], alts := [], laidByText := true, laidKinds := [.data], laidTests := true, laidLooks := .later }
def HsiaoTellsCardSaid : Prop := Claim7.holds Tryd.pinned (.plain (OpenSpec.ofChange hsiaoTellsSpec)) hsiaoTellsCard

/-- THE TIED CARD OF 'dioscurilaw2.HsiaoMends'. -/
def hsiaoMendsCard : Claim7 := { stood := { row := hsiaoMendsRow, standIns := [], harness := (true, "286cc9914f57f3c473a2cb69a20e20543549507a53f12bb73c65b9d5787a36e5"), looks := false }, kinds := [], alts := [], laidByText := true, laidKinds := [.data], laidTests := true, laidLooks := .later }
def HsiaoMendsCardSaid : Prop := Claim7.holds Tryd.pinned (.plain (OpenSpec.ofChange hsiaoMendsSpec)) hsiaoMendsCard

/-- THE TIED CARD OF 'dioscurilaw2.HsiaoAdds'. -/
def hsiaoAddsCard : Claim7 := { stood := { row := hsiaoAddsRow, standIns := [], harness := (true, "286cc9914f57f3c473a2cb69a20e20543549507a53f12bb73c65b9d5787a36e5"), looks := false }, kinds := [], alts := [], laidByText := true, laidKinds := [.data], laidTests := true, laidLooks := .later }
def HsiaoAddsCardSaid : Prop := Claim7.holds Tryd.pinned (.plain (OpenSpec.ofChange hsiaoAddsSpec)) hsiaoAddsCard

/-- THE TIED CARD OF 'dioscurilaw2.HsiaoData'. -/
def hsiaoDataCard : Claim7 := { stood := { row := hsiaoDataRow, standIns := [], harness := (true, "286cc9914f57f3c473a2cb69a20e20543549507a53f12bb73c65b9d5787a36e5"), looks := false }, kinds := [], alts := [], laidByText := true, laidKinds := [.data], laidTests := true, laidLooks := .later }
def HsiaoDataCardSaid : Prop := Claim7.holds Tryd.pinned (.plain (OpenSpec.ofChange hsiaoDataSpec)) hsiaoDataCard

/-- THE TIED CARD OF 'dioscurilaw3.WordMends'. -/
def wordMendsCard : Claim7 := { stood := { row := wordMendsRow, standIns := [], harness := (true, "286cc9914f57f3c473a2cb69a20e20543549507a53f12bb73c65b9d5787a36e5"), looks := false }, kinds := [], alts := [], laidByText := true, laidKinds := [.data], laidTests := true, laidLooks := .later }
def WordMendsCardSaid : Prop := Claim7.holds Tryd.pinned (.plain (OpenSpec.ofChange wordMendsSpec)) wordMendsCard

/-- THE TIED CARD OF 'dioscurilaw3.WordPeeks'. -/
def wordPeeksCard : Claim7 := { stood := { row := wordPeeksRow, standIns := [], harness := (true, "286cc9914f57f3c473a2cb69a20e20543549507a53f12bb73c65b9d5787a36e5"), looks := false }, kinds := [], alts := [], laidByText := true, laidKinds := [.data], laidTests := true, laidLooks := .later }
def WordPeeksCardSaid : Prop := Claim7.holds Tryd.pinned (.plain (OpenSpec.ofChange wordPeeksSpec)) wordPeeksCard

/-- THE TIED CARD OF 'dioscurilaw3.WordNumbers'. -/
def wordNumbersCard : Claim7 := { stood := { row := wordNumbersRow, standIns := [], harness := (true, "286cc9914f57f3c473a2cb69a20e20543549507a53f12bb73c65b9d5787a36e5"), looks := false }, kinds := [], alts := [], laidByText := true, laidKinds := [.data], laidTests := true, laidLooks := .later }
def WordNumbersCardSaid : Prop := Claim7.holds Tryd.pinned (.plain (OpenSpec.ofChange wordNumbersSpec)) wordNumbersCard

/-- THE TIED CARD OF 'dioscurilaw3.WordPlays'. -/
def wordPlaysCard : Claim7 := { stood := { row := wordPlaysRow, standIns := [], harness := (true, "286cc9914f57f3c473a2cb69a20e20543549507a53f12bb73c65b9d5787a36e5"), looks := false }, kinds := [], alts := [], laidByText := true, laidKinds := [.data], laidTests := true, laidLooks := .later }
def WordPlaysCardSaid : Prop := Claim7.holds Tryd.pinned (.plain (OpenSpec.ofChange wordPlaysSpec)) wordPlaysCard

/-- THE TIED CARD OF 'dioscurilaw14.FileNumbers'. -/
def fileNumbersCard : Claim7 := { stood := { row := fileNumbersRow, standIns := [], harness := (true, "286cc9914f57f3c473a2cb69a20e20543549507a53f12bb73c65b9d5787a36e5"), looks := false }, kinds := [], alts := [], laidByText := true, laidKinds := [.data], laidTests := true, laidLooks := .later }
def FileNumbersCardSaid : Prop := Claim7.holds Tryd.pinned (.plain (OpenSpec.ofChange fileNumbersSpec)) fileNumbersCard

/-- THE SECOND FORM's CARD OF 'dioscurilaw2.HsiaoTells'. -/
def hsiaoTellsUptoCard : Claim7 := { stood := { row := hsiaoTellsUptoRow, standIns := [], harness := (true, "286cc9914f57f3c473a2cb69a20e20543549507a53f12bb73c65b9d5787a36e5"), looks := false }, kinds := [], alts := [], laidByText := true, laidKinds := [.data], laidTests := true, laidLooks := .later }
def HsiaoTellsUptoCardSaid : Prop := Claim7.holds Tryd.pinned (.plain (OpenSpec.upto hsiaoTellsSpec)) hsiaoTellsUptoCard

/-- THE SECOND FORM's CARD OF 'dioscurilaw2.HsiaoMends'. -/
def hsiaoMendsUptoCard : Claim7 := { stood := { row := hsiaoMendsUptoRow, standIns := [], harness := (true, "286cc9914f57f3c473a2cb69a20e20543549507a53f12bb73c65b9d5787a36e5"), looks := false }, kinds := [], alts := [], laidByText := true, laidKinds := [.data], laidTests := true, laidLooks := .later }
def HsiaoMendsUptoCardSaid : Prop := Claim7.holds Tryd.pinned (.plain (OpenSpec.upto hsiaoMendsSpec)) hsiaoMendsUptoCard

/-- THE SECOND FORM's CARD OF 'dioscurilaw2.HsiaoAdds'. -/
def hsiaoAddsUptoCard : Claim7 := { stood := { row := hsiaoAddsUptoRow, standIns := [], harness := (true, "286cc9914f57f3c473a2cb69a20e20543549507a53f12bb73c65b9d5787a36e5"), looks := false }, kinds := [], alts := [], laidByText := true, laidKinds := [.data], laidTests := true, laidLooks := .later }
def HsiaoAddsUptoCardSaid : Prop := Claim7.holds Tryd.pinned (.plain (OpenSpec.upto hsiaoAddsSpec)) hsiaoAddsUptoCard

/-- THE SECOND FORM's CARD OF 'dioscurilaw2.HsiaoData'. -/
def hsiaoDataUptoCard : Claim7 := { stood := { row := hsiaoDataUptoRow, standIns := [], harness := (true, "286cc9914f57f3c473a2cb69a20e20543549507a53f12bb73c65b9d5787a36e5"), looks := false }, kinds := [], alts := [], laidByText := true, laidKinds := [.data], laidTests := true, laidLooks := .later }
def HsiaoDataUptoCardSaid : Prop := Claim7.holds Tryd.pinned (.plain (OpenSpec.upto hsiaoDataSpec)) hsiaoDataUptoCard

/-- THE SECOND FORM's CARD OF 'dioscurilaw3.WordMends'. -/
def wordMendsUptoCard : Claim7 := { stood := { row := wordMendsUptoRow, standIns := [], harness := (true, "286cc9914f57f3c473a2cb69a20e20543549507a53f12bb73c65b9d5787a36e5"), looks := false }, kinds := [], alts := [], laidByText := true, laidKinds := [.data], laidTests := true, laidLooks := .later }
def WordMendsUptoCardSaid : Prop := Claim7.holds Tryd.pinned (.plain (OpenSpec.upto wordMendsSpec)) wordMendsUptoCard

/-- THE SECOND FORM's CARD OF 'dioscurilaw3.WordPeeks'. -/
def wordPeeksUptoCard : Claim7 := { stood := { row := wordPeeksUptoRow, standIns := [], harness := (true, "286cc9914f57f3c473a2cb69a20e20543549507a53f12bb73c65b9d5787a36e5"), looks := false }, kinds := [], alts := [], laidByText := true, laidKinds := [.data], laidTests := true, laidLooks := .later }
def WordPeeksUptoCardSaid : Prop := Claim7.holds Tryd.pinned (.plain (OpenSpec.upto wordPeeksSpec)) wordPeeksUptoCard

/-- THE SECOND FORM's CARD OF 'dioscurilaw3.WordNumbers'. -/
def wordNumbersUptoCard : Claim7 := { stood := { row := wordNumbersUptoRow, standIns := [], harness := (true, "286cc9914f57f3c473a2cb69a20e20543549507a53f12bb73c65b9d5787a36e5"), looks := false }, kinds := [], alts := [], laidByText := true, laidKinds := [.data], laidTests := true, laidLooks := .later }
def WordNumbersUptoCardSaid : Prop := Claim7.holds Tryd.pinned (.plain (OpenSpec.upto wordNumbersSpec)) wordNumbersUptoCard

/-- THE SECOND FORM's CARD OF 'dioscurilaw3.WordPlays'. -/
def wordPlaysUptoCard : Claim7 := { stood := { row := wordPlaysUptoRow, standIns := [], harness := (true, "286cc9914f57f3c473a2cb69a20e20543549507a53f12bb73c65b9d5787a36e5"), looks := false }, kinds := [], alts := [], laidByText := true, laidKinds := [.data], laidTests := true, laidLooks := .later }
def WordPlaysUptoCardSaid : Prop := Claim7.holds Tryd.pinned (.plain (OpenSpec.upto wordPlaysSpec)) wordPlaysUptoCard

/-- THE SECOND FORM's CARD OF 'dioscurilaw14.FileNumbers'. -/
def fileNumbersUptoCard : Claim7 := { stood := { row := fileNumbersUptoRow, standIns := [], harness := (true, "286cc9914f57f3c473a2cb69a20e20543549507a53f12bb73c65b9d5787a36e5"), looks := false }, kinds := [], alts := [], laidByText := true, laidKinds := [.data], laidTests := true, laidLooks := .later }
def FileNumbersUptoCardSaid : Prop := Claim7.holds Tryd.pinned (.plain (OpenSpec.upto fileNumbersSpec)) fileNumbersUptoCard
end Rows
end Go.Proofs.YtggpkldingfinaaDoor

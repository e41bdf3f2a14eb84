/-
  DERIVED. GIVEN WITH THE SEED: THE CARDS: each row of YtmllilgelombiaaDoorRows.lean that lists a variable, with what it lists TIED to the program's text (the seventh form; the later family's looks); each row that meets fmt, with fmt's text TOLD by the authors' own Lean function (tested against real Go, not proved from fmt's source: count such statements apart). THE CARD IS WHAT COUNTS. Prove the row's statement (the work); the ties are given (YtmllilgelombiaaDoorTie.lean); close each card by the builder's one call (the guide's Derived/Test/ToyasCard.lean, 'card_holds'). Laid BY PROGRAM, IN A SANDBOX (cutbox-door.mjs). By AI agents, Wed Nov 11 2026. No macro, syntax, notation, axiom, sorry.
-/
import Derived.Test.YtmllilgelombiaaDoorRows
import GoSem.ClaimSeven
namespace Go.Proofs.YtmllilgelombiaaDoor
namespace Rows

/-- THE TIED CARD OF 'punchcutlaw20.TouniBuilds'. -/
def touniBuildsCard : Claim7 := { stood := { row := touniBuildsRow, standIns := [], harness := (true, "c11d0e65724cd67ed412f56d4b216f6afac96cb924b4e1eeebe816362014b305"), looks := false }, kinds := [], alts := [], laidByText := true, laidKinds := [.data, .data, .data, .data, .pinned], laidTests := true, laidLooks := .later }
def TouniBuildsCardSaid : Prop := Claim7.holds Tryd.pinned (.plain (OpenSpec.ofChange touniBuildsSpec)) touniBuildsCard

/-- THE TIED CARD OF 'punchcutlaw20.TouniParses'. -/
def touniParsesCard : Claim7 := { stood := { row := touniParsesRow, standIns := [], harness := (true, "c11d0e65724cd67ed412f56d4b216f6afac96cb924b4e1eeebe816362014b305"), looks := false }, kinds := [], alts := [], laidByText := true, laidKinds := [.data, .data, .data, .data, .pinned], laidTests := true, laidLooks := .later }
def TouniParsesCardSaid : Prop := Claim7.holds Tryd.pinned (.plain (OpenSpec.ofChange touniParsesSpec)) touniParsesCard

/-- THE TIED CARD OF 'punchcutlaw20.TouniRunes'. -/
def touniRunesCard : Claim7 := { stood := { row := touniRunesRow, standIns := [], harness := (true, "c11d0e65724cd67ed412f56d4b216f6afac96cb924b4e1eeebe816362014b305"), looks := false }, kinds := [], alts := [], laidByText := true, laidKinds := [.data, .data, .data, .data, .pinned], laidTests := true, laidLooks := .later }
def TouniRunesCardSaid : Prop := Claim7.holds Tryd.pinned (.plain (OpenSpec.ofChange touniRunesSpec)) touniRunesCard

/-- THE TIED CARD OF 'punchcutlaw20.TouniSpaces'. -/
def touniSpacesCard : Claim7 := { stood := { row := touniSpacesRow, standIns := [], harness := (true, "c11d0e65724cd67ed412f56d4b216f6afac96cb924b4e1eeebe816362014b305"), looks := false }, kinds := [], alts := [], laidByText := true, laidKinds := [.data, .data, .data, .data, .pinned], laidTests := true, laidLooks := .later }
def TouniSpacesCardSaid : Prop := Claim7.holds Tryd.pinned (.plain (OpenSpec.ofChange touniSpacesSpec)) touniSpacesCard

/-- THE TIED CARD OF 'punchcutlaw20.TouniFeatures'. -/
def touniFeaturesCard : Claim7 := { stood := { row := touniFeaturesRow, standIns := [], harness := (true, "c11d0e65724cd67ed412f56d4b216f6afac96cb924b4e1eeebe816362014b305"), looks := false }, kinds := [], alts := [], laidByText := true, laidKinds := [.data, .data, .data, .data, .pinned], laidTests := true, laidLooks := .later }
def TouniFeaturesCardSaid : Prop := Claim7.holds Tryd.pinned (.plain (OpenSpec.ofChange touniFeaturesSpec)) touniFeaturesCard

/-- THE TIED CARD OF 'punchcutlaw20.TouniRows'. -/
def touniRowsCard : Claim7 := { stood := { row := touniRowsRow, standIns := [], harness := (true, "c11d0e65724cd67ed412f56d4b216f6afac96cb924b4e1eeebe816362014b305"), looks := false }, kinds := [], alts := [], laidByText := true, laidKinds := [.data, .data, .data, .data, .pinned], laidTests := true, laidLooks := .later }
def TouniRowsCardSaid : Prop := Claim7.holds Tryd.pinned (.plain (OpenSpec.ofChange touniRowsSpec)) touniRowsCard

/-- THE SECOND FORM's CARD OF 'punchcutlaw20.TouniBuilds'. -/
def touniBuildsUptoCard : Claim7 := { stood := { row := touniBuildsUptoRow, standIns := [], harness := (true, "c11d0e65724cd67ed412f56d4b216f6afac96cb924b4e1eeebe816362014b305"), looks := false }, kinds := [], alts := [], laidByText := true, laidKinds := [.data, .data, .data, .data, .pinned], laidTests := true, laidLooks := .later }
def TouniBuildsUptoCardSaid : Prop := Claim7.holds Tryd.pinned (.plain (OpenSpec.upto touniBuildsSpec)) touniBuildsUptoCard

/-- THE SECOND FORM's CARD OF 'punchcutlaw20.TouniParses'. -/
def touniParsesUptoCard : Claim7 := { stood := { row := touniParsesUptoRow, standIns := [], harness := (true, "c11d0e65724cd67ed412f56d4b216f6afac96cb924b4e1eeebe816362014b305"), looks := false }, kinds := [], alts := [], laidByText := true, laidKinds := [.data, .data, .data, .data, .pinned], laidTests := true, laidLooks := .later }
def TouniParsesUptoCardSaid : Prop := Claim7.holds Tryd.pinned (.plain (OpenSpec.upto touniParsesSpec)) touniParsesUptoCard

/-- THE SECOND FORM's CARD OF 'punchcutlaw20.TouniRunes'. -/
def touniRunesUptoCard : Claim7 := { stood := { row := touniRunesUptoRow, standIns := [], harness := (true, "c11d0e65724cd67ed412f56d4b216f6afac96cb924b4e1eeebe816362014b305"), looks := false }, kinds := [], alts := [], laidByText := true, laidKinds := [.data, .data, .data, .data, .pinned], laidTests := true, laidLooks := .later }
def TouniRunesUptoCardSaid : Prop := Claim7.holds Tryd.pinned (.plain (OpenSpec.upto touniRunesSpec)) touniRunesUptoCard

/-- THE SECOND FORM's CARD OF 'punchcutlaw20.TouniSpaces'. -/
def touniSpacesUptoCard : Claim7 := { stood := { row := touniSpacesUptoRow, standIns := [], harness := (true, "c11d0e65724cd67ed412f56d4b216f6afac96cb924b4e1eeebe816362014b305"), looks := false }, kinds := [], alts := [], laidByText := true, laidKinds := [.data, .data, .data, .data, .pinned], laidTests := true, laidLooks := .later }
def TouniSpacesUptoCardSaid : Prop := Claim7.holds Tryd.pinned (.plain (OpenSpec.upto touniSpacesSpec)) touniSpacesUptoCard

/-- THE SECOND FORM's CARD OF 'punchcutlaw20.TouniFeatures'. -/
def touniFeaturesUptoCard : Claim7 := { stood := { row := touniFeaturesUptoRow, standIns := [], harness := (true, "c11d0e65724cd67ed412f56d4b216f6afac96cb924b4e1eeebe816362014b305"), looks := false }, kinds := [], alts := [], laidByText := true, laidKinds := [.data, .data, .data, .data, .pinned], laidTests := true, laidLooks := .later }
def TouniFeaturesUptoCardSaid : Prop := Claim7.holds Tryd.pinned (.plain (OpenSpec.upto touniFeaturesSpec)) touniFeaturesUptoCard

/-- THE SECOND FORM's CARD OF 'punchcutlaw20.TouniRows'. -/
def touniRowsUptoCard : Claim7 := { stood := { row := touniRowsUptoRow, standIns := [], harness := (true, "c11d0e65724cd67ed412f56d4b216f6afac96cb924b4e1eeebe816362014b305"), looks := false }, kinds := [], alts := [], laidByText := true, laidKinds := [.data, .data, .data, .data, .pinned], laidTests := true, laidLooks := .later }
def TouniRowsUptoCardSaid : Prop := Claim7.holds Tryd.pinned (.plain (OpenSpec.upto touniRowsSpec)) touniRowsUptoCard
end Rows
end Go.Proofs.YtmllilgelombiaaDoor

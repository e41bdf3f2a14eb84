/-
  DERIVED. GIVEN WITH THE SEED: THE CARDS: each row of YtjnmckakmljejaaGreatDoorRows.lean that lists a variable, with what it lists TIED to the program's text (the seventh form; the later family's looks); each row that meets fmt, with fmt's text TOLD by the authors' own Lean function (tested against real Go, not proved from fmt's source: count such statements apart). THE CARD IS WHAT COUNTS. Prove the row's statement (the work); the ties are given (YtjnmckakmljejaaGreatDoorTie.lean); close each card by the builder's one call (the guide's Derived/Test/ToyasCard.lean, 'card_holds'). Laid BY PROGRAM, IN A SANDBOX (cutbox-door.mjs). By AI agents, Wed Nov 11 2026. No macro, syntax, notation, axiom, sorry.
-/
import Derived.Test.YtjnmckakmljejaaGreatDoorRows
import GoSem.ClaimSeven
namespace Go.Proofs.YtjnmckakmljejaaGreatDoor
namespace Rows

/-- THE TIED CARD OF 'punchcutlaw18.ObjectSkips'. -/
def objectSkipsCard : Claim7 := { stood := { row := objectSkipsRow, standIns := [], harness := (true, "04ef72269dc33af4a6c0f6a34426ccb988280e28580e8ccd8691a0c79023b1ec"), looks := true }, kinds := [], alts := [], laidByText := true, laidKinds := [.data, .data, .data, .data, .sentinel, .sentinel, .pinned], laidTests := true, laidLooks := .later }
def ObjectSkipsCardSaid : Prop := Claim7.holds Tryz.pinned (.plain (OpenSpec.ofChange objectSkipsSpec)) objectSkipsCard

/-- THE TIED CARD OF 'punchcutlaw18.ObjectParses'. -/
def objectParsesCard : Claim7 := { stood := { row := objectParsesRow, standIns := [], harness := (true, "04ef72269dc33af4a6c0f6a34426ccb988280e28580e8ccd8691a0c79023b1ec"), looks := true }, kinds := [], alts := [], laidByText := true, laidKinds := [.data, .data, .data, .data, .sentinel, .sentinel, .pinned], laidTests := true, laidLooks := .later }
def ObjectParsesCardSaid : Prop := Claim7.holds Tryz.pinned (.plain (OpenSpec.ofChange objectParsesSpec)) objectParsesCard

/-- THE TIED CARD OF 'punchcutlaw18.ObjectGets'. -/
def objectGetsCard : Claim7 := { stood := { row := objectGetsRow, standIns := [], harness := (true, "04ef72269dc33af4a6c0f6a34426ccb988280e28580e8ccd8691a0c79023b1ec"), looks := true }, kinds := [], alts := [], laidByText := true, laidKinds := [.data, .data, .data, .data, .sentinel, .sentinel, .pinned], laidTests := true, laidLooks := .later }
def ObjectGetsCardSaid : Prop := Claim7.holds Tryz.pinned (.plain (OpenSpec.ofChange objectGetsSpec)) objectGetsCard

/-- THE TIED CARD OF 'punchcutlaw18.ObjectNumbers'. -/
def objectNumbersCard : Claim7 := { stood := { row := objectNumbersRow, standIns := [], harness := (true, "04ef72269dc33af4a6c0f6a34426ccb988280e28580e8ccd8691a0c79023b1ec"), looks := true }, kinds := [], alts := [], laidByText := true, laidKinds := [.data, .data, .data, .data, .sentinel, .sentinel, .sentinel, .pinned], laidTests := true, laidLooks := .later }
def ObjectNumbersCardSaid : Prop := Claim7.holds Tryz.pinned (.plain (OpenSpec.ofChange objectNumbersSpec)) objectNumbersCard

/-- THE TIED CARD OF 'punchcutlaw18.ObjectDeep'. -/
def objectDeepCard : Claim7 := { stood := { row := objectDeepRow, standIns := [], harness := (true, "04ef72269dc33af4a6c0f6a34426ccb988280e28580e8ccd8691a0c79023b1ec"), looks := true }, kinds := [], alts := [], laidByText := true, laidKinds := [.data, .data, .data, .data, .sentinel, .sentinel, .sentinel, .pinned], laidTests := true, laidLooks := .later }
def ObjectDeepCardSaid : Prop := Claim7.holds Tryz.pinned (.plain (OpenSpec.ofChange objectDeepSpec)) objectDeepCard

/-- THE TIED CARD OF 'punchcutlaw18.ObjectForms'. -/
def objectFormsCard : Claim7 := { stood := { row := objectFormsRow, standIns := [], harness := (true, "04ef72269dc33af4a6c0f6a34426ccb988280e28580e8ccd8691a0c79023b1ec"), looks := true }, kinds := [], alts := [], laidByText := true, laidKinds := [.data, .data, .data, .data, .sentinel, .sentinel, .sentinel, .pinned], laidTests := true, laidLooks := .later }
def ObjectFormsCardSaid : Prop := Claim7.holds Tryz.pinned (.plain (OpenSpec.ofChange objectFormsSpec)) objectFormsCard

/-- THE TIED CARD OF 'punchcutlaw18.ObjectSpaces'. -/
def objectSpacesCard : Claim7 := { stood := { row := objectSpacesRow, standIns := [], harness := (true, "04ef72269dc33af4a6c0f6a34426ccb988280e28580e8ccd8691a0c79023b1ec"), looks := true }, kinds := [], alts := [], laidByText := true, laidKinds := [.data, .data, .data, .data, .sentinel, .sentinel, .sentinel, .pinned], laidTests := true, laidLooks := .later }
def ObjectSpacesCardSaid : Prop := Claim7.holds Tryz.pinned (.plain (OpenSpec.ofChange objectSpacesSpec)) objectSpacesCard

/-- THE SECOND FORM's CARD OF 'punchcutlaw18.ObjectSkips'. -/
def objectSkipsUptoCard : Claim7 := { stood := { row := objectSkipsUptoRow, standIns := [], harness := (true, "04ef72269dc33af4a6c0f6a34426ccb988280e28580e8ccd8691a0c79023b1ec"), looks := true }, kinds := [], alts := [], laidByText := true, laidKinds := [.data, .data, .data, .data, .sentinel, .sentinel, .pinned], laidTests := true, laidLooks := .later }
def ObjectSkipsUptoCardSaid : Prop := Claim7.holds Tryz.pinned (.plain (OpenSpec.upto objectSkipsSpec)) objectSkipsUptoCard

/-- THE SECOND FORM's CARD OF 'punchcutlaw18.ObjectParses'. -/
def objectParsesUptoCard : Claim7 := { stood := { row := objectParsesUptoRow, standIns := [], harness := (true, "04ef72269dc33af4a6c0f6a34426ccb988280e28580e8ccd8691a0c79023b1ec"), looks := true }, kinds := [], alts := [], laidByText := true, laidKinds := [.data, .data, .data, .data, .sentinel, .sentinel, .pinned], laidTests := true, laidLooks := .later }
def ObjectParsesUptoCardSaid : Prop := Claim7.holds Tryz.pinned (.plain (OpenSpec.upto objectParsesSpec)) objectParsesUptoCard

/-- THE SECOND FORM's CARD OF 'punchcutlaw18.ObjectGets'. -/
def objectGetsUptoCard : Claim7 := { stood := { row := objectGetsUptoRow, standIns := [], harness := (true, "04ef72269dc33af4a6c0f6a34426ccb988280e28580e8ccd8691a0c79023b1ec"), looks := true }, kinds := [], alts := [], laidByText := true, laidKinds := [.data, .data, .data, .data, .sentinel, .sentinel, .pinned], laidTests := true, laidLooks := .later }
def ObjectGetsUptoCardSaid : Prop := Claim7.holds Tryz.pinned (.plain (OpenSpec.upto objectGetsSpec)) objectGetsUptoCard

/-- THE SECOND FORM's CARD OF 'punchcutlaw18.ObjectNumbers'. -/
def objectNumbersUptoCard : Claim7 := { stood := { row := objectNumbersUptoRow, standIns := [], harness := (true, "04ef72269dc33af4a6c0f6a34426ccb988280e28580e8ccd8691a0c79023b1ec"), looks := true }, kinds := [], alts := [], laidByText := true, laidKinds := [.data, .data, .data, .data, .sentinel, .sentinel, .sentinel, .pinned], laidTests := true, laidLooks := .later }
def ObjectNumbersUptoCardSaid : Prop := Claim7.holds Tryz.pinned (.plain (OpenSpec.upto objectNumbersSpec)) objectNumbersUptoCard

/-- THE SECOND FORM's CARD OF 'punchcutlaw18.ObjectDeep'. -/
def objectDeepUptoCard : Claim7 := { stood := { row := objectDeepUptoRow, standIns := [], harness := (true, "04ef72269dc33af4a6c0f6a34426ccb988280e28580e8ccd8691a0c79023b1ec"), looks := true }, kinds := [], alts := [], laidByText := true, laidKinds := [.data, .data, .data, .data, .sentinel, .sentinel, .sentinel, .pinned], laidTests := true, laidLooks := .later }
def ObjectDeepUptoCardSaid : Prop := Claim7.holds Tryz.pinned (.plain (OpenSpec.upto objectDeepSpec)) objectDeepUptoCard

/-- THE SECOND FORM's CARD OF 'punchcutlaw18.ObjectForms'. -/
def objectFormsUptoCard : Claim7 := { stood := { row := objectFormsUptoRow, standIns := [], harness := (true, "04ef72269dc33af4a6c0f6a34426ccb988280e28580e8ccd8691a0c79023b1ec"), looks := true }, kinds := [], alts := [], laidByText := true, laidKinds := [.data, .data, .data, .data, .sentinel, .sentinel, .sentinel, .pinned], laidTests := true, laidLooks := .later }
def ObjectFormsUptoCardSaid : Prop := Claim7.holds Tryz.pinned (.plain (OpenSpec.upto objectFormsSpec)) objectFormsUptoCard

/-- THE SECOND FORM's CARD OF 'punchcutlaw18.ObjectSpaces'. -/
def objectSpacesUptoCard : Claim7 := { stood := { row := objectSpacesUptoRow, standIns := [], harness := (true, "04ef72269dc33af4a6c0f6a34426ccb988280e28580e8ccd8691a0c79023b1ec"), looks := true }, kinds := [], alts := [], laidByText := true, laidKinds := [.data, .data, .data, .data, .sentinel, .sentinel, .sentinel, .pinned], laidTests := true, laidLooks := .later }
def ObjectSpacesUptoCardSaid : Prop := Claim7.holds Tryz.pinned (.plain (OpenSpec.upto objectSpacesSpec)) objectSpacesUptoCard
end Rows
end Go.Proofs.YtjnmckakmljejaaGreatDoor

/-
  DERIVED. GIVEN WITH THE SEED: THE CARDS: each row of YtmaepggfcndmbaaGreatDoorRows.lean that lists a variable, with what it lists TIED to the program's text (the seventh form; the later family's looks); each row that meets fmt, with fmt's text TOLD by the authors' own Lean function (tested against real Go, not proved from fmt's source: count such statements apart). THE CARD IS WHAT COUNTS. Prove the row's statement (the work); the ties are given (YtmaepggfcndmbaaGreatDoorTie.lean); close each card by the builder's one call (the guide's Derived/Test/ToyasCard.lean, 'card_holds'). Laid BY PROGRAM, IN A SANDBOX (cutbox-door.mjs). By AI agents, Wed Nov 11 2026. No macro, syntax, notation, axiom, sorry.
-/
import Derived.Test.YtmaepggfcndmbaaGreatDoorRows
import GoSem.ClaimSeven
namespace Go.Proofs.YtmaepggfcndmbaaGreatDoor
namespace Rows

/-- THE TIED CARD OF 'punchcutlaw21.WidthSpans'. -/
def widthSpansCard : Claim7 := { stood := { row := widthSpansRow, standIns := [], harness := (true, "9e2975886726e642e5133eff93731424a3b9c5c9715583771cc88480ca0300f0"), looks := true }, kinds := [], alts := [], laidByText := true, laidKinds := [.data, .data, .data, .data, .sentinel, .sentinel, .pinned], laidTests := true, laidLooks := .later }
def WidthSpansCardSaid : Prop := Claim7.holds Tryz.pinned (.plain (OpenSpec.ofChange widthSpansSpec)) widthSpansCard

/-- THE TIED CARD OF 'punchcutlaw21.WidthRefuses'. -/
def widthRefusesCard : Claim7 := { stood := { row := widthRefusesRow, standIns := [], harness := (true, "9e2975886726e642e5133eff93731424a3b9c5c9715583771cc88480ca0300f0"), looks := true }, kinds := [], alts := [], laidByText := true, laidKinds := [.data, .data, .data, .data, .sentinel, .sentinel, .pinned], laidTests := true, laidLooks := .later }
def WidthRefusesCardSaid : Prop := Claim7.holds Tryz.pinned (.plain (OpenSpec.ofChange widthRefusesSpec)) widthRefusesCard

/-- THE TIED CARD OF 'punchcutlaw21.WidthBuilds'. -/
def widthBuildsCard : Claim7 := { stood := { row := widthBuildsRow, standIns := [], harness := (true, "9e2975886726e642e5133eff93731424a3b9c5c9715583771cc88480ca0300f0"), looks := true }, kinds := [], alts := [], laidByText := true, laidKinds := [.data, .data, .data, .data, .sentinel, .sentinel, .pinned], laidTests := true, laidLooks := .later }
def WidthBuildsCardSaid : Prop := Claim7.holds Tryz.pinned (.plain (OpenSpec.ofChange widthBuildsSpec)) widthBuildsCard

/-- THE SECOND FORM's CARD OF 'punchcutlaw21.WidthSpans'. -/
def widthSpansUptoCard : Claim7 := { stood := { row := widthSpansUptoRow, standIns := [], harness := (true, "9e2975886726e642e5133eff93731424a3b9c5c9715583771cc88480ca0300f0"), looks := true }, kinds := [], alts := [], laidByText := true, laidKinds := [.data, .data, .data, .data, .sentinel, .sentinel, .pinned], laidTests := true, laidLooks := .later }
def WidthSpansUptoCardSaid : Prop := Claim7.holds Tryz.pinned (.plain (OpenSpec.upto widthSpansSpec)) widthSpansUptoCard

/-- THE SECOND FORM's CARD OF 'punchcutlaw21.WidthRefuses'. -/
def widthRefusesUptoCard : Claim7 := { stood := { row := widthRefusesUptoRow, standIns := [], harness := (true, "9e2975886726e642e5133eff93731424a3b9c5c9715583771cc88480ca0300f0"), looks := true }, kinds := [], alts := [], laidByText := true, laidKinds := [.data, .data, .data, .data, .sentinel, .sentinel, .pinned], laidTests := true, laidLooks := .later }
def WidthRefusesUptoCardSaid : Prop := Claim7.holds Tryz.pinned (.plain (OpenSpec.upto widthRefusesSpec)) widthRefusesUptoCard

/-- THE SECOND FORM's CARD OF 'punchcutlaw21.WidthBuilds'. -/
def widthBuildsUptoCard : Claim7 := { stood := { row := widthBuildsUptoRow, standIns := [], harness := (true, "9e2975886726e642e5133eff93731424a3b9c5c9715583771cc88480ca0300f0"), looks := true }, kinds := [], alts := [], laidByText := true, laidKinds := [.data, .data, .data, .data, .sentinel, .sentinel, .pinned], laidTests := true, laidLooks := .later }
def WidthBuildsUptoCardSaid : Prop := Claim7.holds Tryz.pinned (.plain (OpenSpec.upto widthBuildsSpec)) widthBuildsUptoCard
end Rows
end Go.Proofs.YtmaepggfcndmbaaGreatDoor

/-
  DERIVED. GIVEN WITH THE SEED: THE CARDS: each row of YtdbjjbooalkkbaaGreatDoorRows.lean that lists a variable, with what it lists TIED to the program's text (the seventh form; the later family's looks); each row that meets fmt, with fmt's text TOLD by the authors' own Lean function (tested against real Go, not proved from fmt's source: count such statements apart). THE CARD IS WHAT COUNTS. Prove the row's statement (the work); the ties are given (YtdbjjbooalkkbaaGreatDoorTie.lean); close each card by the builder's one call (the guide's Derived/Test/ToyasCard.lean, 'card_holds'). Laid BY PROGRAM, IN A SANDBOX (cutbox-door.mjs). By AI agents, Wed Nov 11 2026. No macro, syntax, notation, axiom, sorry.
-/
import Derived.Test.YtdbjjbooalkkbaaGreatDoorRows
import GoSem.ClaimSeven
namespace Go.Proofs.YtdbjjbooalkkbaaGreatDoor
namespace Rows

/-- THE TIED CARD OF 'busbarlaw10.ParseMatchesReference'. -/
def parseMatchesReferenceCard : Claim7 := { stood := { row := parseMatchesReferenceRow, standIns := [], harness := (true, "de1b0bd8e57430a1a34426bc2b6da8fd9d87960d9380a804df9e92b9e1cee259"), looks := true }, kinds := [], alts := [], laidByText := true, laidKinds := [.data, .data, .data, .data, .sentinel, .sentinel, .listed, .data, .widerDeep, .widerDeep, .widerDeep, .pinned], laidTests := true, laidLooks := .later }
def ParseMatchesReferenceCardSaid : Prop := Claim7.holds Tryz.pinned (.plain (OpenSpec.ofChange parseMatchesReferenceSpec)) parseMatchesReferenceCard

/-- THE TIED CARD OF 'busbarlaw11.PrinterRoundTrip'. -/
def printerRoundTripCard : Claim7 := { stood := { row := printerRoundTripRow, standIns := [], harness := (true, "de1b0bd8e57430a1a34426bc2b6da8fd9d87960d9380a804df9e92b9e1cee259"), looks := true }, kinds := [], alts := [], laidByText := true, laidKinds := [.data, .data, .data, .data, .sentinel, .sentinel, .listed, .data, .widerDeep, .widerDeep, .widerDeep, .pinned], laidTests := true, laidLooks := .later }
def PrinterRoundTripCardSaid : Prop := Claim7.holds Tryz.pinned (.plain (OpenSpec.ofChange printerRoundTripSpec)) printerRoundTripCard

/-- THE SECOND FORM's CARD OF 'busbarlaw10.ParseMatchesReference'. -/
def parseMatchesReferenceUptoCard : Claim7 := { stood := { row := parseMatchesReferenceUptoRow, standIns := [], harness := (true, "de1b0bd8e57430a1a34426bc2b6da8fd9d87960d9380a804df9e92b9e1cee259"), looks := true }, kinds := [], alts := [], laidByText := true, laidKinds := [.data, .data, .data, .data, .sentinel, .sentinel, .listed, .data, .widerDeep, .widerDeep, .widerDeep, .pinned], laidTests := true, laidLooks := .later }
def ParseMatchesReferenceUptoCardSaid : Prop := Claim7.holds Tryz.pinned (.plain (OpenSpec.upto parseMatchesReferenceSpec)) parseMatchesReferenceUptoCard

/-- THE SECOND FORM's CARD OF 'busbarlaw11.PrinterRoundTrip'. -/
def printerRoundTripUptoCard : Claim7 := { stood := { row := printerRoundTripUptoRow, standIns := [], harness := (true, "de1b0bd8e57430a1a34426bc2b6da8fd9d87960d9380a804df9e92b9e1cee259"), looks := true }, kinds := [], alts := [], laidByText := true, laidKinds := [.data, .data, .data, .data, .sentinel, .sentinel, .listed, .data, .widerDeep, .widerDeep, .widerDeep, .pinned], laidTests := true, laidLooks := .later }
def PrinterRoundTripUptoCardSaid : Prop := Claim7.holds Tryz.pinned (.plain (OpenSpec.upto printerRoundTripSpec)) printerRoundTripUptoCard
end Rows
end Go.Proofs.YtdbjjbooalkkbaaGreatDoor

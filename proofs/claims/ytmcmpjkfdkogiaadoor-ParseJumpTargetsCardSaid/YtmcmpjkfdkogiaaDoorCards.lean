/-
  DERIVED. GIVEN WITH THE SEED: THE CARDS: each row of YtmcmpjkfdkogiaaDoorRows.lean that lists a variable, with what it lists TIED to the program's text (the seventh form; the later family's looks); each row that meets fmt, with fmt's text TOLD by the authors' own Lean function (tested against real Go, not proved from fmt's source: count such statements apart). THE CARD IS WHAT COUNTS. Prove the row's statement (the work); the ties are given (YtmcmpjkfdkogiaaDoorTie.lean); close each card by the builder's one call (the guide's Derived/Test/ToyasCard.lean, 'card_holds'). Laid BY PROGRAM, IN A SANDBOX (cutbox-door.mjs). By AI agents, Wed Nov 11 2026. No macro, syntax, notation, axiom, sorry.
-/
import Derived.Test.YtmcmpjkfdkogiaaDoorRows
import GoSem.ClaimSeven
namespace Go.Proofs.YtmcmpjkfdkogiaaDoor
namespace Rows

/-- THE TIED CARD OF 'busbarlaw11.PrinterMatchesReference'. -/
def printerMatchesReferenceCard : Claim7 := { stood := { row := printerMatchesReferenceRow, standIns := [], harness := (true, "58c30acd4f4b132033c74c26e482a7d054ed2ec03c0ba2187f75fe9cb3cff37a"), looks := true }, kinds := [], alts := [], laidByText := true, laidKinds := [.data, .data, .data, .widerDeep, .widerDeep, .widerDeep], laidTests := true, laidLooks := .later }
def PrinterMatchesReferenceCardSaid : Prop := Claim7.holds Tryd.pinned (.plain (OpenSpec.ofChange printerMatchesReferenceSpec)) printerMatchesReferenceCard

/-- THE TIED CARD OF 'busbarlaw11.PrinterAppendRung'. -/
def printerAppendRungCard : Claim7 := { stood := { row := printerAppendRungRow, standIns := [], harness := (true, "58c30acd4f4b132033c74c26e482a7d054ed2ec03c0ba2187f75fe9cb3cff37a"), looks := true }, kinds := [], alts := [], laidByText := true, laidKinds := [.data, .data, .data, .widerDeep, .widerDeep, .widerDeep], laidTests := true, laidLooks := .later }
def PrinterAppendRungCardSaid : Prop := Claim7.holds Tryd.pinned (.plain (OpenSpec.ofChange printerAppendRungSpec)) printerAppendRungCard

/-- THE TIED CARD OF 'busbarlaw11.PrinterEqualMatchesReference'. -/
def printerEqualMatchesReferenceCard : Claim7 := { stood := { row := printerEqualMatchesReferenceRow, standIns := [], harness := (true, "58c30acd4f4b132033c74c26e482a7d054ed2ec03c0ba2187f75fe9cb3cff37a"), looks := true }, kinds := [], alts := [], laidByText := true, laidKinds := [.data, .data, .data, .widerDeep, .widerDeep, .widerDeep], laidTests := true, laidLooks := .later }
def PrinterEqualMatchesReferenceCardSaid : Prop := Claim7.holds Tryd.pinned (.plain (OpenSpec.ofChange printerEqualMatchesReferenceSpec)) printerEqualMatchesReferenceCard

/-- THE TIED CARD OF 'busbarlaw11.PrinterIsInjective'. -/
def printerIsInjectiveCard : Claim7 := { stood := { row := printerIsInjectiveRow, standIns := [], harness := (true, "58c30acd4f4b132033c74c26e482a7d054ed2ec03c0ba2187f75fe9cb3cff37a"), looks := true }, kinds := [], alts := [], laidByText := true, laidKinds := [.data, .data, .data, .widerDeep, .widerDeep, .widerDeep], laidTests := true, laidLooks := .later }
def PrinterIsInjectiveCardSaid : Prop := Claim7.holds Tryd.pinned (.plain (OpenSpec.ofChange printerIsInjectiveSpec)) printerIsInjectiveCard

/-- THE TIED CARD OF 'busbarlaw10.ParseJumpTargets'. -/
def parseJumpTargetsCard : Claim7 := { stood := { row := parseJumpTargetsRow, standIns := [], harness := (true, "58c30acd4f4b132033c74c26e482a7d054ed2ec03c0ba2187f75fe9cb3cff37a"), looks := true }, kinds := [], alts := [], laidByText := true, laidKinds := [.data, .data, .data, .data, .sentinel, .sentinel, .listed, .data, .widerDeep, .widerDeep, .widerDeep, .pinned], laidTests := true, laidLooks := .later }
def ParseJumpTargetsCardSaid : Prop := Claim7.holds Tryd.pinned (.plain (OpenSpec.ofChange parseJumpTargetsSpec)) parseJumpTargetsCard

/-- THE TIED CARD OF 'busbarlaw10.ParseDeclaredSizes'. -/
def parseDeclaredSizesCard : Claim7 := { stood := { row := parseDeclaredSizesRow, standIns := [], harness := (true, "58c30acd4f4b132033c74c26e482a7d054ed2ec03c0ba2187f75fe9cb3cff37a"), looks := true }, kinds := [], alts := [], laidByText := true, laidKinds := [.data, .data, .data, .data, .sentinel, .sentinel, .listed, .data, .widerDeep, .widerDeep, .widerDeep, .pinned], laidTests := true, laidLooks := .later }
def ParseDeclaredSizesCardSaid : Prop := Claim7.holds Tryd.pinned (.plain (OpenSpec.ofChange parseDeclaredSizesSpec)) parseDeclaredSizesCard

/-- THE SECOND FORM's CARD OF 'busbarlaw11.PrinterMatchesReference'. -/
def printerMatchesReferenceUptoCard : Claim7 := { stood := { row := printerMatchesReferenceUptoRow, standIns := [], harness := (true, "58c30acd4f4b132033c74c26e482a7d054ed2ec03c0ba2187f75fe9cb3cff37a"), looks := true }, kinds := [], alts := [], laidByText := true, laidKinds := [.data, .data, .data, .widerDeep, .widerDeep, .widerDeep], laidTests := true, laidLooks := .later }
def PrinterMatchesReferenceUptoCardSaid : Prop := Claim7.holds Tryd.pinned (.plain (OpenSpec.upto printerMatchesReferenceSpec)) printerMatchesReferenceUptoCard

/-- THE SECOND FORM's CARD OF 'busbarlaw11.PrinterAppendRung'. -/
def printerAppendRungUptoCard : Claim7 := { stood := { row := printerAppendRungUptoRow, standIns := [], harness := (true, "58c30acd4f4b132033c74c26e482a7d054ed2ec03c0ba2187f75fe9cb3cff37a"), looks := true }, kinds := [], alts := [], laidByText := true, laidKinds := [.data, .data, .data, .widerDeep, .widerDeep, .widerDeep], laidTests := true, laidLooks := .later }
def PrinterAppendRungUptoCardSaid : Prop := Claim7.holds Tryd.pinned (.plain (OpenSpec.upto printerAppendRungSpec)) printerAppendRungUptoCard

/-- THE SECOND FORM's CARD OF 'busbarlaw11.PrinterEqualMatchesReference'. -/
def printerEqualMatchesReferenceUptoCard : Claim7 := { stood := { row := printerEqualMatchesReferenceUptoRow, standIns := [], harness := (true, "58c30acd4f4b132033c74c26e482a7d054ed2ec03c0ba2187f75fe9cb3cff37a"), looks := true }, kinds := [], alts := [], laidByText := true, laidKinds := [.data, .data, .data, .widerDeep, .widerDeep, .widerDeep], laidTests := true, laidLooks := .later }
def PrinterEqualMatchesReferenceUptoCardSaid : Prop := Claim7.holds Tryd.pinned (.plain (OpenSpec.upto printerEqualMatchesReferenceSpec)) printerEqualMatchesReferenceUptoCard

/-- THE SECOND FORM's CARD OF 'busbarlaw11.PrinterIsInjective'. -/
def printerIsInjectiveUptoCard : Claim7 := { stood := { row := printerIsInjectiveUptoRow, standIns := [], harness := (true, "58c30acd4f4b132033c74c26e482a7d054ed2ec03c0ba2187f75fe9cb3cff37a"), looks := true }, kinds := [], alts := [], laidByText := true, laidKinds := [.data, .data, .data, .widerDeep, .widerDeep, .widerDeep], laidTests := true, laidLooks := .later }
def PrinterIsInjectiveUptoCardSaid : Prop := Claim7.holds Tryd.pinned (.plain (OpenSpec.upto printerIsInjectiveSpec)) printerIsInjectiveUptoCard

/-- THE SECOND FORM's CARD OF 'busbarlaw10.ParseJumpTargets'. -/
def parseJumpTargetsUptoCard : Claim7 := { stood := { row := parseJumpTargetsUptoRow, standIns := [], harness := (true, "58c30acd4f4b132033c74c26e482a7d054ed2ec03c0ba2187f75fe9cb3cff37a"), looks := true }, kinds := [], alts := [], laidByText := true, laidKinds := [.data, .data, .data, .data, .sentinel, .sentinel, .listed, .data, .widerDeep, .widerDeep, .widerDeep, .pinned], laidTests := true, laidLooks := .later }
def ParseJumpTargetsUptoCardSaid : Prop := Claim7.holds Tryd.pinned (.plain (OpenSpec.upto parseJumpTargetsSpec)) parseJumpTargetsUptoCard

/-- THE SECOND FORM's CARD OF 'busbarlaw10.ParseDeclaredSizes'. -/
def parseDeclaredSizesUptoCard : Claim7 := { stood := { row := parseDeclaredSizesUptoRow, standIns := [], harness := (true, "58c30acd4f4b132033c74c26e482a7d054ed2ec03c0ba2187f75fe9cb3cff37a"), looks := true }, kinds := [], alts := [], laidByText := true, laidKinds := [.data, .data, .data, .data, .sentinel, .sentinel, .listed, .data, .widerDeep, .widerDeep, .widerDeep, .pinned], laidTests := true, laidLooks := .later }
def ParseDeclaredSizesUptoCardSaid : Prop := Claim7.holds Tryd.pinned (.plain (OpenSpec.upto parseDeclaredSizesSpec)) parseDeclaredSizesUptoCard
end Rows
end Go.Proofs.YtmcmpjkfdkogiaaDoor

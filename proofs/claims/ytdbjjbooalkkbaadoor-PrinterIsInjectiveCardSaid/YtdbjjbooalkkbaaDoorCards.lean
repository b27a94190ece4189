/-
  DERIVED. GIVEN WITH THE SEED: THE CARDS: each row of YtdbjjbooalkkbaaDoorRows.lean that lists a variable, with what it lists TIED to the program's text (the seventh form; the later family's looks); each row that meets fmt, with fmt's text TOLD by the authors' own Lean function (tested against real Go, not proved from fmt's source: count such statements apart). THE CARD IS WHAT COUNTS. Prove the row's statement (the work); the ties are given (YtdbjjbooalkkbaaDoorTie.lean); close each card by the builder's one call (the guide's Derived/Test/ToyasCard.lean, 'card_holds'). Laid BY PROGRAM, IN A SANDBOX (cutbox-door.mjs). By AI agents, Wed Nov 11 2026. No macro, syntax, notation, axiom, sorry.
-/
import Derived.Test.YtdbjjbooalkkbaaDoorRows
import GoSem.ClaimSeven
namespace Go.Proofs.YtdbjjbooalkkbaaDoor
namespace Rows

/-- THE TIED CARD OF 'busbarlaw11.PrinterAppendRung'. -/
def printerAppendRungCard : Claim7 := { stood := { row := printerAppendRungRow, standIns := [], harness := (true, "e91ae0eca396763ee468f27b0cb0d823c231eedfdc4d0c19d7c5b50fa40e051b"), looks := true }, kinds := [], alts := [], laidByText := true, laidKinds := [.data, .data, .data, .widerDeep, .widerDeep, .widerDeep], laidTests := true, laidLooks := .later }
def PrinterAppendRungCardSaid : Prop := Claim7.holds Tryd.pinned (.plain (OpenSpec.ofChange printerAppendRungSpec)) printerAppendRungCard

/-- THE TIED CARD OF 'busbarlaw11.PrinterIsInjective'. -/
def printerIsInjectiveCard : Claim7 := { stood := { row := printerIsInjectiveRow, standIns := [], harness := (true, "e91ae0eca396763ee468f27b0cb0d823c231eedfdc4d0c19d7c5b50fa40e051b"), looks := true }, kinds := [], alts := [], laidByText := true, laidKinds := [.data, .data, .data, .widerDeep, .widerDeep, .widerDeep], laidTests := true, laidLooks := .later }
def PrinterIsInjectiveCardSaid : Prop := Claim7.holds Tryd.pinned (.plain (OpenSpec.ofChange printerIsInjectiveSpec)) printerIsInjectiveCard

/-- THE TIED CARD OF 'busbarlaw10.ParseDeclaredSizes'. -/
def parseDeclaredSizesCard : Claim7 := { stood := { row := parseDeclaredSizesRow, standIns := [], harness := (true, "e91ae0eca396763ee468f27b0cb0d823c231eedfdc4d0c19d7c5b50fa40e051b"), looks := true }, kinds := [], alts := [], laidByText := true, laidKinds := [.data, .data, .data, .data, .sentinel, .sentinel, .listed, .data, .widerDeep, .widerDeep, .widerDeep, .pinned], laidTests := true, laidLooks := .later }
def ParseDeclaredSizesCardSaid : Prop := Claim7.holds Tryd.pinned (.plain (OpenSpec.ofChange parseDeclaredSizesSpec)) parseDeclaredSizesCard

/-- THE SECOND FORM's CARD OF 'busbarlaw11.PrinterAppendRung'. -/
def printerAppendRungUptoCard : Claim7 := { stood := { row := printerAppendRungUptoRow, standIns := [], harness := (true, "e91ae0eca396763ee468f27b0cb0d823c231eedfdc4d0c19d7c5b50fa40e051b"), looks := true }, kinds := [], alts := [], laidByText := true, laidKinds := [.data, .data, .data, .widerDeep, .widerDeep, .widerDeep], laidTests := true, laidLooks := .later }
def PrinterAppendRungUptoCardSaid : Prop := Claim7.holds Tryd.pinned (.plain (OpenSpec.upto printerAppendRungSpec)) printerAppendRungUptoCard

/-- THE SECOND FORM's CARD OF 'busbarlaw11.PrinterIsInjective'. -/
def printerIsInjectiveUptoCard : Claim7 := { stood := { row := printerIsInjectiveUptoRow, standIns := [], harness := (true, "e91ae0eca396763ee468f27b0cb0d823c231eedfdc4d0c19d7c5b50fa40e051b"), looks := true }, kinds := [], alts := [], laidByText := true, laidKinds := [.data, .data, .data, .widerDeep, .widerDeep, .widerDeep], laidTests := true, laidLooks := .later }
def PrinterIsInjectiveUptoCardSaid : Prop := Claim7.holds Tryd.pinned (.plain (OpenSpec.upto printerIsInjectiveSpec)) printerIsInjectiveUptoCard

/-- THE SECOND FORM's CARD OF 'busbarlaw10.ParseDeclaredSizes'. -/
def parseDeclaredSizesUptoCard : Claim7 := { stood := { row := parseDeclaredSizesUptoRow, standIns := [], harness := (true, "e91ae0eca396763ee468f27b0cb0d823c231eedfdc4d0c19d7c5b50fa40e051b"), looks := true }, kinds := [], alts := [], laidByText := true, laidKinds := [.data, .data, .data, .data, .sentinel, .sentinel, .listed, .data, .widerDeep, .widerDeep, .widerDeep, .pinned], laidTests := true, laidLooks := .later }
def ParseDeclaredSizesUptoCardSaid : Prop := Claim7.holds Tryd.pinned (.plain (OpenSpec.upto parseDeclaredSizesSpec)) parseDeclaredSizesUptoCard
end Rows
end Go.Proofs.YtdbjjbooalkkbaaDoor

/-
  DERIVED. GIVEN WITH THE SEED: THE CARDS: each row of YthidobgadndclaaDoorRows.lean that lists a variable, with what it lists TIED to the program's text (the seventh form; the later family's looks); each row that meets fmt, with fmt's text TOLD by the authors' own Lean function (tested against real Go, not proved from fmt's source: count such statements apart). THE CARD IS WHAT COUNTS. Prove the row's statement (the work); the ties are given (YthidobgadndclaaDoorTie.lean); close each card by the builder's one call (the guide's Derived/Test/ToyasCard.lean, 'card_holds'). Laid BY PROGRAM, IN A SANDBOX (cutbox-door.mjs). By AI agents, Wed Nov 11 2026. No macro, syntax, notation, axiom, sorry.
-/
import Derived.Test.YthidobgadndclaaDoorRows
import GoSem.ClaimSeven
namespace Go.Proofs.YthidobgadndclaaDoor
namespace Rows

/-- THE TIED CARD OF 'busbarlaw09.LexLinesMatchReference'. -/
def lexLinesMatchReferenceCard : Claim7 := { stood := { row := lexLinesMatchReferenceRow, standIns := [], harness := (true, "ef9a8c00273bc88ca4c4e95effcaad13909b90c24078233bac92d76080d97899"), looks := true }, kinds := [], alts := [], laidByText := true, laidKinds := [.data, .listed, .data, .pinned], laidTests := true, laidLooks := .later }
def LexLinesMatchReferenceCardSaid : Prop := Claim7.holds Tryd.pinned (.plain (OpenSpec.ofChange lexLinesMatchReferenceSpec)) lexLinesMatchReferenceCard

/-- THE TIED CARD OF 'busbarlaw09.LexNamesExtend'. -/
def lexNamesExtendCard : Claim7 := { stood := { row := lexNamesExtendRow, standIns := [], harness := (true, "ef9a8c00273bc88ca4c4e95effcaad13909b90c24078233bac92d76080d97899"), looks := true }, kinds := [], alts := [], laidByText := true, laidKinds := [.data, .listed, .data, .pinned], laidTests := true, laidLooks := .later }
def LexNamesExtendCardSaid : Prop := Claim7.holds Tryd.pinned (.plain (OpenSpec.ofChange lexNamesExtendSpec)) lexNamesExtendCard

/-- THE TIED CARD OF 'busbarlaw09.LexConcatenation'. -/
def lexConcatenationCard : Claim7 := { stood := { row := lexConcatenationRow, standIns := [], harness := (true, "ef9a8c00273bc88ca4c4e95effcaad13909b90c24078233bac92d76080d97899"), looks := true }, kinds := [], alts := [], laidByText := true, laidKinds := [.data, .listed, .data, .pinned], laidTests := true, laidLooks := .later }
def LexConcatenationCardSaid : Prop := Claim7.holds Tryd.pinned (.plain (OpenSpec.ofChange lexConcatenationSpec)) lexConcatenationCard

/-- THE TIED CARD OF 'busbarlaw09.LexJoinRoundTrip'. -/
def lexJoinRoundTripCard : Claim7 := { stood := { row := lexJoinRoundTripRow, standIns := [], harness := (true, "ef9a8c00273bc88ca4c4e95effcaad13909b90c24078233bac92d76080d97899"), looks := true }, kinds := [], alts := [], laidByText := true, laidKinds := [.data, .listed, .data, .pinned], laidTests := true, laidLooks := .later }
def LexJoinRoundTripCardSaid : Prop := Claim7.holds Tryd.pinned (.plain (OpenSpec.ofChange lexJoinRoundTripSpec)) lexJoinRoundTripCard

/-- THE TIED CARD OF 'busbarlaw09.LexTextLimit'. -/
def lexTextLimitCard : Claim7 := { stood := { row := lexTextLimitRow, standIns := [], harness := (true, "ef9a8c00273bc88ca4c4e95effcaad13909b90c24078233bac92d76080d97899"), looks := true }, kinds := [], alts := [], laidByText := true, laidKinds := [.data, .listed, .data, .pinned], laidTests := true, laidLooks := .later }
def LexTextLimitCardSaid : Prop := Claim7.holds Tryd.pinned (.plain (OpenSpec.ofChange lexTextLimitSpec)) lexTextLimitCard

/-- THE TIED CARD OF 'busbarlaw01.AddrFormatMatchesReference'. -/
def addrFormatMatchesReferenceCard : Claim7 := { stood := { row := addrFormatMatchesReferenceRow, standIns := [], harness := (true, "ef9a8c00273bc88ca4c4e95effcaad13909b90c24078233bac92d76080d97899"), looks := true }, kinds := [], alts := [], laidByText := true, laidKinds := [.data, .data, .data, .data, .sentinel, .sentinel, .widerDeep, .pinned], laidTests := true, laidLooks := .later }
def AddrFormatMatchesReferenceCardSaid : Prop := Claim7.holds Tryd.pinned (.plain (OpenSpec.ofChange addrFormatMatchesReferenceSpec)) addrFormatMatchesReferenceCard

/-- THE TIED CARD OF 'busbarlaw01.AddrParseDigits'. -/
def addrParseDigitsCard : Claim7 := { stood := { row := addrParseDigitsRow, standIns := [], harness := (true, "ef9a8c00273bc88ca4c4e95effcaad13909b90c24078233bac92d76080d97899"), looks := true }, kinds := [], alts := [], laidByText := true, laidKinds := [.data, .data, .data, .data, .sentinel, .sentinel, .widerDeep, .pinned], laidTests := true, laidLooks := .later }
def AddrParseDigitsCardSaid : Prop := Claim7.holds Tryd.pinned (.plain (OpenSpec.ofChange addrParseDigitsSpec)) addrParseDigitsCard

/-- THE TIED CARD OF 'busbarlaw01.AddrCheckIsMonotone'. -/
def addrCheckIsMonotoneCard : Claim7 := { stood := { row := addrCheckIsMonotoneRow, standIns := [], harness := (true, "ef9a8c00273bc88ca4c4e95effcaad13909b90c24078233bac92d76080d97899"), looks := true }, kinds := [], alts := [], laidByText := true, laidKinds := [.data, .data, .data, .data, .sentinel, .sentinel, .widerDeep, .pinned], laidTests := true, laidLooks := .later }
def AddrCheckIsMonotoneCardSaid : Prop := Claim7.holds Tryd.pinned (.plain (OpenSpec.ofChange addrCheckIsMonotoneSpec)) addrCheckIsMonotoneCard

/-- THE TIED CARD OF 'busbarlaw01.AddrRoundTrip'. -/
def addrRoundTripCard : Claim7 := { stood := { row := addrRoundTripRow, standIns := [], harness := (true, "ef9a8c00273bc88ca4c4e95effcaad13909b90c24078233bac92d76080d97899"), looks := true }, kinds := [], alts := [], laidByText := true, laidKinds := [.data, .data, .data, .data, .sentinel, .sentinel, .widerDeep, .pinned], laidTests := true, laidLooks := .later }
def AddrRoundTripCardSaid : Prop := Claim7.holds Tryd.pinned (.plain (OpenSpec.ofChange addrRoundTripSpec)) addrRoundTripCard

/-- THE TIED CARD OF 'busbarlaw01.AddrCompareIsTotalOrder'. -/
def addrCompareIsTotalOrderCard : Claim7 := { stood := { row := addrCompareIsTotalOrderRow, standIns := [], harness := (true, "ef9a8c00273bc88ca4c4e95effcaad13909b90c24078233bac92d76080d97899"), looks := true }, kinds := [], alts := [], laidByText := true, laidKinds := [.data, .data, .data, .data, .sentinel, .sentinel, .widerDeep, .pinned], laidTests := true, laidLooks := .later }
def AddrCompareIsTotalOrderCardSaid : Prop := Claim7.holds Tryd.pinned (.plain (OpenSpec.ofChange addrCompareIsTotalOrderSpec)) addrCompareIsTotalOrderCard

/-- THE TIED CARD OF 'busbarlaw01.AddrFormatIsInjective'. -/
def addrFormatIsInjectiveCard : Claim7 := { stood := { row := addrFormatIsInjectiveRow, standIns := [], harness := (true, "ef9a8c00273bc88ca4c4e95effcaad13909b90c24078233bac92d76080d97899"), looks := true }, kinds := [], alts := [], laidByText := true, laidKinds := [.data, .data, .data, .data, .sentinel, .sentinel, .widerDeep, .pinned], laidTests := true, laidLooks := .later }
def AddrFormatIsInjectiveCardSaid : Prop := Claim7.holds Tryd.pinned (.plain (OpenSpec.ofChange addrFormatIsInjectiveSpec)) addrFormatIsInjectiveCard

/-- THE TIED CARD OF 'busbarlaw09.LexWordsMatchReference'. -/
def lexWordsMatchReferenceCard : Claim7 := { stood := { row := lexWordsMatchReferenceRow, standIns := [], harness := (true, "ef9a8c00273bc88ca4c4e95effcaad13909b90c24078233bac92d76080d97899"), looks := true }, kinds := [], alts := [], laidByText := true, laidKinds := [.data, .data, .data, .data, .sentinel, .sentinel, .listed, .data, .pinned], laidTests := true, laidLooks := .later }
def LexWordsMatchReferenceCardSaid : Prop := Claim7.holds Tryd.pinned (.plain (OpenSpec.ofChange lexWordsMatchReferenceSpec)) lexWordsMatchReferenceCard

/-- THE SECOND FORM's CARD OF 'busbarlaw09.LexLinesMatchReference'. -/
def lexLinesMatchReferenceUptoCard : Claim7 := { stood := { row := lexLinesMatchReferenceUptoRow, standIns := [], harness := (true, "ef9a8c00273bc88ca4c4e95effcaad13909b90c24078233bac92d76080d97899"), looks := true }, kinds := [], alts := [], laidByText := true, laidKinds := [.data, .listed, .data, .pinned], laidTests := true, laidLooks := .later }
def LexLinesMatchReferenceUptoCardSaid : Prop := Claim7.holds Tryd.pinned (.plain (OpenSpec.upto lexLinesMatchReferenceSpec)) lexLinesMatchReferenceUptoCard

/-- THE SECOND FORM's CARD OF 'busbarlaw09.LexNamesExtend'. -/
def lexNamesExtendUptoCard : Claim7 := { stood := { row := lexNamesExtendUptoRow, standIns := [], harness := (true, "ef9a8c00273bc88ca4c4e95effcaad13909b90c24078233bac92d76080d97899"), looks := true }, kinds := [], alts := [], laidByText := true, laidKinds := [.data, .listed, .data, .pinned], laidTests := true, laidLooks := .later }
def LexNamesExtendUptoCardSaid : Prop := Claim7.holds Tryd.pinned (.plain (OpenSpec.upto lexNamesExtendSpec)) lexNamesExtendUptoCard

/-- THE SECOND FORM's CARD OF 'busbarlaw09.LexConcatenation'. -/
def lexConcatenationUptoCard : Claim7 := { stood := { row := lexConcatenationUptoRow, standIns := [], harness := (true, "ef9a8c00273bc88ca4c4e95effcaad13909b90c24078233bac92d76080d97899"), looks := true }, kinds := [], alts := [], laidByText := true, laidKinds := [.data, .listed, .data, .pinned], laidTests := true, laidLooks := .later }
def LexConcatenationUptoCardSaid : Prop := Claim7.holds Tryd.pinned (.plain (OpenSpec.upto lexConcatenationSpec)) lexConcatenationUptoCard

/-- THE SECOND FORM's CARD OF 'busbarlaw09.LexJoinRoundTrip'. -/
def lexJoinRoundTripUptoCard : Claim7 := { stood := { row := lexJoinRoundTripUptoRow, standIns := [], harness := (true, "ef9a8c00273bc88ca4c4e95effcaad13909b90c24078233bac92d76080d97899"), looks := true }, kinds := [], alts := [], laidByText := true, laidKinds := [.data, .listed, .data, .pinned], laidTests := true, laidLooks := .later }
def LexJoinRoundTripUptoCardSaid : Prop := Claim7.holds Tryd.pinned (.plain (OpenSpec.upto lexJoinRoundTripSpec)) lexJoinRoundTripUptoCard

/-- THE SECOND FORM's CARD OF 'busbarlaw09.LexTextLimit'. -/
def lexTextLimitUptoCard : Claim7 := { stood := { row := lexTextLimitUptoRow, standIns := [], harness := (true, "ef9a8c00273bc88ca4c4e95effcaad13909b90c24078233bac92d76080d97899"), looks := true }, kinds := [], alts := [], laidByText := true, laidKinds := [.data, .listed, .data, .pinned], laidTests := true, laidLooks := .later }
def LexTextLimitUptoCardSaid : Prop := Claim7.holds Tryd.pinned (.plain (OpenSpec.upto lexTextLimitSpec)) lexTextLimitUptoCard

/-- THE SECOND FORM's CARD OF 'busbarlaw01.AddrFormatMatchesReference'. -/
def addrFormatMatchesReferenceUptoCard : Claim7 := { stood := { row := addrFormatMatchesReferenceUptoRow, standIns := [], harness := (true, "ef9a8c00273bc88ca4c4e95effcaad13909b90c24078233bac92d76080d97899"), looks := true }, kinds := [], alts := [], laidByText := true, laidKinds := [.data, .data, .data, .data, .sentinel, .sentinel, .widerDeep, .pinned], laidTests := true, laidLooks := .later }
def AddrFormatMatchesReferenceUptoCardSaid : Prop := Claim7.holds Tryd.pinned (.plain (OpenSpec.upto addrFormatMatchesReferenceSpec)) addrFormatMatchesReferenceUptoCard

/-- THE SECOND FORM's CARD OF 'busbarlaw01.AddrParseDigits'. -/
def addrParseDigitsUptoCard : Claim7 := { stood := { row := addrParseDigitsUptoRow, standIns := [], harness := (true, "ef9a8c00273bc88ca4c4e95effcaad13909b90c24078233bac92d76080d97899"), looks := true }, kinds := [], alts := [], laidByText := true, laidKinds := [.data, .data, .data, .data, .sentinel, .sentinel, .widerDeep, .pinned], laidTests := true, laidLooks := .later }
def AddrParseDigitsUptoCardSaid : Prop := Claim7.holds Tryd.pinned (.plain (OpenSpec.upto addrParseDigitsSpec)) addrParseDigitsUptoCard

/-- THE SECOND FORM's CARD OF 'busbarlaw01.AddrCheckIsMonotone'. -/
def addrCheckIsMonotoneUptoCard : Claim7 := { stood := { row := addrCheckIsMonotoneUptoRow, standIns := [], harness := (true, "ef9a8c00273bc88ca4c4e95effcaad13909b90c24078233bac92d76080d97899"), looks := true }, kinds := [], alts := [], laidByText := true, laidKinds := [.data, .data, .data, .data, .sentinel, .sentinel, .widerDeep, .pinned], laidTests := true, laidLooks := .later }
def AddrCheckIsMonotoneUptoCardSaid : Prop := Claim7.holds Tryd.pinned (.plain (OpenSpec.upto addrCheckIsMonotoneSpec)) addrCheckIsMonotoneUptoCard

/-- THE SECOND FORM's CARD OF 'busbarlaw01.AddrRoundTrip'. -/
def addrRoundTripUptoCard : Claim7 := { stood := { row := addrRoundTripUptoRow, standIns := [], harness := (true, "ef9a8c00273bc88ca4c4e95effcaad13909b90c24078233bac92d76080d97899"), looks := true }, kinds := [], alts := [], laidByText := true, laidKinds := [.data, .data, .data, .data, .sentinel, .sentinel, .widerDeep, .pinned], laidTests := true, laidLooks := .later }
def AddrRoundTripUptoCardSaid : Prop := Claim7.holds Tryd.pinned (.plain (OpenSpec.upto addrRoundTripSpec)) addrRoundTripUptoCard

/-- THE SECOND FORM's CARD OF 'busbarlaw01.AddrCompareIsTotalOrder'. -/
def addrCompareIsTotalOrderUptoCard : Claim7 := { stood := { row := addrCompareIsTotalOrderUptoRow, standIns := [], harness := (true, "ef9a8c00273bc88ca4c4e95effcaad13909b90c24078233bac92d76080d97899"), looks := true }, kinds := [], alts := [], laidByText := true, laidKinds := [.data, .data, .data, .data, .sentinel, .sentinel, .widerDeep, .pinned], laidTests := true, laidLooks := .later }
def AddrCompareIsTotalOrderUptoCardSaid : Prop := Claim7.holds Tryd.pinned (.plain (OpenSpec.upto addrCompareIsTotalOrderSpec)) addrCompareIsTotalOrderUptoCard

/-- THE SECOND FORM's CARD OF 'busbarlaw01.AddrFormatIsInjective'. -/
def addrFormatIsInjectiveUptoCard : Claim7 := { stood := { row := addrFormatIsInjectiveUptoRow, standIns := [], harness := (true, "ef9a8c00273bc88ca4c4e95effcaad13909b90c24078233bac92d76080d97899"), looks := true }, kinds := [], alts := [], laidByText := true, laidKinds := [.data, .data, .data, .data, .sentinel, .sentinel, .widerDeep, .pinned], laidTests := true, laidLooks := .later }
def AddrFormatIsInjectiveUptoCardSaid : Prop := Claim7.holds Tryd.pinned (.plain (OpenSpec.upto addrFormatIsInjectiveSpec)) addrFormatIsInjectiveUptoCard

/-- THE SECOND FORM's CARD OF 'busbarlaw09.LexWordsMatchReference'. -/
def lexWordsMatchReferenceUptoCard : Claim7 := { stood := { row := lexWordsMatchReferenceUptoRow, standIns := [], harness := (true, "ef9a8c00273bc88ca4c4e95effcaad13909b90c24078233bac92d76080d97899"), looks := true }, kinds := [], alts := [], laidByText := true, laidKinds := [.data, .data, .data, .data, .sentinel, .sentinel, .listed, .data, .pinned], laidTests := true, laidLooks := .later }
def LexWordsMatchReferenceUptoCardSaid : Prop := Claim7.holds Tryd.pinned (.plain (OpenSpec.upto lexWordsMatchReferenceSpec)) lexWordsMatchReferenceUptoCard
end Rows
end Go.Proofs.YthidobgadndclaaDoor

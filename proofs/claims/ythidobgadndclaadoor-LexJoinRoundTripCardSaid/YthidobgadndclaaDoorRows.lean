/-
  NARROWER THAN 'FOR EVERY INPUT', by the rows' own cells (each row's printed sentence says how): LexLinesMatchReference: laid · LexNamesExtend: laid · LexConcatenation: laid · LexJoinRoundTrip: laid · LexTextLimit: laid · AddrFormatMatchesReference: laid · AddrParseDigits: laid · AddrCheckIsMonotone: laid · AddrRoundTrip: laid · AddrCompareIsTotalOrder: laid · AddrFormatIsInjective: laid · LexWordsMatchReference: laid.
  DERIVED. THE GIVEN ROWS OF THIS SEAT. 12 by the template 'for every input the law returns true; each argument reads behind the call as it read before'; 0 by the template 'total and deterministic' (their statements: YthidobgadndclaaDoorTotals.lean).
  GIVEN WITH THE SEED: the statements are not yours to turn. If you find one false, say at which input.
  Laid BY PROGRAM, IN A SANDBOX (cutbox-rows.mjs): the forced cells as the released guide's own fill.sh prints them over the translation a0e02560f1974f92… (all of the seat's roots in one cut). By AI agents, Wed Nov 11 2026. No macro, syntax, notation, axiom, sorry.
-/
import Derived.Test.YthidobgadndclaaDoorChecked
import GoSem.PinnedTables
import GoSem.Claim
import GoSem.ClaimJoined
import GoSem.ClaimMapViews
import Derived.JoinedTies
import Derived.KernelRfl
namespace Go.Proofs.YthidobgadndclaaDoor
/- THE CELL 'sum', in the pinned program and in every row, IS THE sha256 OF THE DUMP (.gsa) THAT YthidobgadndclaaDoorProg.lean LOADS. Nothing in Lean hashes anything: it is a label: what it is worth is what the hold of that sum in a sandbox is worth. -/
noncomputable def Tryd.pinned : Pinned := { name := "ythidobgadndclaadoor", sum := "a0e02560f1974f92b41f11417860ee2aa756f8afd1abf40742c51ee73be3ea43", checked := Tryd.checked }
namespace Rows
def none {H : Type} : Left H := { results := [], args := [] }

/- WHAT THE LISTED PACKAGE-LEVEL VARIABLES READ AS WHEN THE CALL BEGINS. Each datum BY PROGRAM (the guide's laid-datum.mjs) off the statement by which the dump's own 'gosem.cut.vars' lays the variable. In a bare row this is a premise. The card (YthidobgadndclaaDoorCards.lean) ties it to the program's text. -/
def laid_unicode_utf8_acceptRanges {H : Type} : DataW H := .agg [.agg [.lit (.int .u8 128), .lit (.int .u8 191)], .agg [.lit (.int .u8 160), .lit (.int .u8 191)], .agg [.lit (.int .u8 128), .lit (.int .u8 159)], .agg [.lit (.int .u8 144), .lit (.int .u8 191)], .agg [.lit (.int .u8 128), .lit (.int .u8 143)], .agg [.lit (.int .u8 0), .lit (.int .u8 0)], .agg [.lit (.int .u8 0), .lit (.int .u8 0)], .agg [.lit (.int .u8 0), .lit (.int .u8 0)], .agg [.lit (.int .u8 0), .lit (.int .u8 0)], .agg [.lit (.int .u8 0), .lit (.int .u8 0)], .agg [.lit (.int .u8 0), .lit (.int .u8 0)], .agg [.lit (.int .u8 0), .lit (.int .u8 0)], .agg [.lit (.int .u8 0), .lit (.int .u8 0)], .agg [.lit (.int .u8 0), .lit (.int .u8 0)], .agg [.lit (.int .u8 0), .lit (.int .u8 0)], .agg [.lit (.int .u8 0), .lit (.int .u8 0)]]
def laid_unicode_White_Space {H : Type} : DataW H := .ptr (.agg [.slice [.agg [.lit (.int .u16 9), .lit (.int .u16 13), .lit (.int .u16 1)], .agg [.lit (.int .u16 32), .lit (.int .u16 133), .lit (.int .u16 101)], .agg [.lit (.int .u16 160), .lit (.int .u16 5760), .lit (.int .u16 5600)], .agg [.lit (.int .u16 8192), .lit (.int .u16 8202), .lit (.int .u16 1)], .agg [.lit (.int .u16 8232), .lit (.int .u16 8233), .lit (.int .u16 1)], .agg [.lit (.int .u16 8239), .lit (.int .u16 8287), .lit (.int .u16 48)], .agg [.lit (.int .u16 12288), .lit (.int .u16 12288), .lit (.int .u16 1)]] [], .nil, .lit (.int .i64 2)])
def laid_strings_asciiSpace {H : Type} : DataW H := .agg [.lit (.int .u8 0), .lit (.int .u8 0), .lit (.int .u8 0), .lit (.int .u8 0), .lit (.int .u8 0), .lit (.int .u8 0), .lit (.int .u8 0), .lit (.int .u8 0), .lit (.int .u8 0), .lit (.int .u8 1), .lit (.int .u8 1), .lit (.int .u8 1), .lit (.int .u8 1), .lit (.int .u8 1), .lit (.int .u8 0), .lit (.int .u8 0), .lit (.int .u8 0), .lit (.int .u8 0), .lit (.int .u8 0), .lit (.int .u8 0), .lit (.int .u8 0), .lit (.int .u8 0), .lit (.int .u8 0), .lit (.int .u8 0), .lit (.int .u8 0), .lit (.int .u8 0), .lit (.int .u8 0), .lit (.int .u8 0), .lit (.int .u8 0), .lit (.int .u8 0), .lit (.int .u8 0), .lit (.int .u8 0), .lit (.int .u8 1), .lit (.int .u8 0), .lit (.int .u8 0), .lit (.int .u8 0), .lit (.int .u8 0), .lit (.int .u8 0), .lit (.int .u8 0), .lit (.int .u8 0), .lit (.int .u8 0), .lit (.int .u8 0), .lit (.int .u8 0), .lit (.int .u8 0), .lit (.int .u8 0), .lit (.int .u8 0), .lit (.int .u8 0), .lit (.int .u8 0), .lit (.int .u8 0), .lit (.int .u8 0), .lit (.int .u8 0), .lit (.int .u8 0), .lit (.int .u8 0), .lit (.int .u8 0), .lit (.int .u8 0), .lit (.int .u8 0), .lit (.int .u8 0), .lit (.int .u8 0), .lit (.int .u8 0), .lit (.int .u8 0), .lit (.int .u8 0), .lit (.int .u8 0), .lit (.int .u8 0), .lit (.int .u8 0), .lit (.int .u8 0), .lit (.int .u8 0), .lit (.int .u8 0), .lit (.int .u8 0), .lit (.int .u8 0), .lit (.int .u8 0), .lit (.int .u8 0), .lit (.int .u8 0), .lit (.int .u8 0), .lit (.int .u8 0), .lit (.int .u8 0), .lit (.int .u8 0), .lit (.int .u8 0), .lit (.int .u8 0), .lit (.int .u8 0), .lit (.int .u8 0), .lit (.int .u8 0), .lit (.int .u8 0), .lit (.int .u8 0), .lit (.int .u8 0), .lit (.int .u8 0), .lit (.int .u8 0), .lit (.int .u8 0), .lit (.int .u8 0), .lit (.int .u8 0), .lit (.int .u8 0), .lit (.int .u8 0), .lit (.int .u8 0), .lit (.int .u8 0), .lit (.int .u8 0), .lit (.int .u8 0), .lit (.int .u8 0), .lit (.int .u8 0), .lit (.int .u8 0), .lit (.int .u8 0), .lit (.int .u8 0), .lit (.int .u8 0), .lit (.int .u8 0), .lit (.int .u8 0), .lit (.int .u8 0), .lit (.int .u8 0), .lit (.int .u8 0), .lit (.int .u8 0), .lit (.int .u8 0), .lit (.int .u8 0), .lit (.int .u8 0), .lit (.int .u8 0), .lit (.int .u8 0), .lit (.int .u8 0), .lit (.int .u8 0), .lit (.int .u8 0), .lit (.int .u8 0), .lit (.int .u8 0), .lit (.int .u8 0), .lit (.int .u8 0), .lit (.int .u8 0), .lit (.int .u8 0), .lit (.int .u8 0), .lit (.int .u8 0), .lit (.int .u8 0), .lit (.int .u8 0), .lit (.int .u8 0), .lit (.int .u8 0), .lit (.int .u8 0), .lit (.int .u8 0), .lit (.int .u8 0), .lit (.int .u8 0), .lit (.int .u8 0), .lit (.int .u8 0), .lit (.int .u8 0), .lit (.int .u8 0), .lit (.int .u8 0), .lit (.int .u8 0), .lit (.int .u8 0), .lit (.int .u8 0), .lit (.int .u8 0), .lit (.int .u8 0), .lit (.int .u8 0), .lit (.int .u8 0), .lit (.int .u8 0), .lit (.int .u8 0), .lit (.int .u8 0), .lit (.int .u8 0), .lit (.int .u8 0), .lit (.int .u8 0), .lit (.int .u8 0), .lit (.int .u8 0), .lit (.int .u8 0), .lit (.int .u8 0), .lit (.int .u8 0), .lit (.int .u8 0), .lit (.int .u8 0), .lit (.int .u8 0), .lit (.int .u8 0), .lit (.int .u8 0), .lit (.int .u8 0), .lit (.int .u8 0), .lit (.int .u8 0), .lit (.int .u8 0), .lit (.int .u8 0), .lit (.int .u8 0), .lit (.int .u8 0), .lit (.int .u8 0), .lit (.int .u8 0), .lit (.int .u8 0), .lit (.int .u8 0), .lit (.int .u8 0), .lit (.int .u8 0), .lit (.int .u8 0), .lit (.int .u8 0), .lit (.int .u8 0), .lit (.int .u8 0), .lit (.int .u8 0), .lit (.int .u8 0), .lit (.int .u8 0), .lit (.int .u8 0), .lit (.int .u8 0), .lit (.int .u8 0), .lit (.int .u8 0), .lit (.int .u8 0), .lit (.int .u8 0), .lit (.int .u8 0), .lit (.int .u8 0), .lit (.int .u8 0), .lit (.int .u8 0), .lit (.int .u8 0), .lit (.int .u8 0), .lit (.int .u8 0), .lit (.int .u8 0), .lit (.int .u8 0), .lit (.int .u8 0), .lit (.int .u8 0), .lit (.int .u8 0), .lit (.int .u8 0), .lit (.int .u8 0), .lit (.int .u8 0), .lit (.int .u8 0), .lit (.int .u8 0), .lit (.int .u8 0), .lit (.int .u8 0), .lit (.int .u8 0), .lit (.int .u8 0), .lit (.int .u8 0), .lit (.int .u8 0), .lit (.int .u8 0), .lit (.int .u8 0), .lit (.int .u8 0), .lit (.int .u8 0), .lit (.int .u8 0), .lit (.int .u8 0), .lit (.int .u8 0), .lit (.int .u8 0), .lit (.int .u8 0), .lit (.int .u8 0), .lit (.int .u8 0), .lit (.int .u8 0), .lit (.int .u8 0), .lit (.int .u8 0), .lit (.int .u8 0), .lit (.int .u8 0), .lit (.int .u8 0), .lit (.int .u8 0), .lit (.int .u8 0), .lit (.int .u8 0), .lit (.int .u8 0), .lit (.int .u8 0), .lit (.int .u8 0), .lit (.int .u8 0), .lit (.int .u8 0), .lit (.int .u8 0), .lit (.int .u8 0), .lit (.int .u8 0), .lit (.int .u8 0), .lit (.int .u8 0), .lit (.int .u8 0), .lit (.int .u8 0), .lit (.int .u8 0), .lit (.int .u8 0), .lit (.int .u8 0), .lit (.int .u8 0), .lit (.int .u8 0), .lit (.int .u8 0), .lit (.int .u8 0), .lit (.int .u8 0), .lit (.int .u8 0), .lit (.int .u8 0), .lit (.int .u8 0), .lit (.int .u8 0), .lit (.int .u8 0), .lit (.int .u8 0), .lit (.int .u8 0), .lit (.int .u8 0)]
/-- One of Go's own tables, pinned by name: the form's constant. -/
def laid_unicode_utf8_first : DataW Unit := Go.Pinned.utf8First
def laid_math_bits_deBruijn32tab {H : Type} : DataW H := .agg [.lit (.int .u8 0), .lit (.int .u8 1), .lit (.int .u8 28), .lit (.int .u8 2), .lit (.int .u8 29), .lit (.int .u8 14), .lit (.int .u8 24), .lit (.int .u8 3), .lit (.int .u8 30), .lit (.int .u8 22), .lit (.int .u8 20), .lit (.int .u8 15), .lit (.int .u8 25), .lit (.int .u8 17), .lit (.int .u8 4), .lit (.int .u8 8), .lit (.int .u8 31), .lit (.int .u8 27), .lit (.int .u8 13), .lit (.int .u8 23), .lit (.int .u8 21), .lit (.int .u8 19), .lit (.int .u8 16), .lit (.int .u8 7), .lit (.int .u8 26), .lit (.int .u8 12), .lit (.int .u8 18), .lit (.int .u8 6), .lit (.int .u8 11), .lit (.int .u8 5), .lit (.int .u8 10), .lit (.int .u8 9)]
def laid_math_bits_deBruijn64tab {H : Type} : DataW H := .agg [.lit (.int .u8 0), .lit (.int .u8 1), .lit (.int .u8 56), .lit (.int .u8 2), .lit (.int .u8 57), .lit (.int .u8 49), .lit (.int .u8 28), .lit (.int .u8 3), .lit (.int .u8 61), .lit (.int .u8 58), .lit (.int .u8 42), .lit (.int .u8 50), .lit (.int .u8 38), .lit (.int .u8 29), .lit (.int .u8 17), .lit (.int .u8 4), .lit (.int .u8 62), .lit (.int .u8 47), .lit (.int .u8 59), .lit (.int .u8 36), .lit (.int .u8 45), .lit (.int .u8 43), .lit (.int .u8 51), .lit (.int .u8 22), .lit (.int .u8 53), .lit (.int .u8 39), .lit (.int .u8 33), .lit (.int .u8 30), .lit (.int .u8 24), .lit (.int .u8 18), .lit (.int .u8 12), .lit (.int .u8 5), .lit (.int .u8 63), .lit (.int .u8 55), .lit (.int .u8 48), .lit (.int .u8 27), .lit (.int .u8 60), .lit (.int .u8 41), .lit (.int .u8 37), .lit (.int .u8 16), .lit (.int .u8 46), .lit (.int .u8 35), .lit (.int .u8 44), .lit (.int .u8 21), .lit (.int .u8 52), .lit (.int .u8 32), .lit (.int .u8 23), .lit (.int .u8 11), .lit (.int .u8 54), .lit (.int .u8 26), .lit (.int .u8 40), .lit (.int .u8 15), .lit (.int .u8 34), .lit (.int .u8 20), .lit (.int .u8 31), .lit (.int .u8 10), .lit (.int .u8 25), .lit (.int .u8 14), .lit (.int .u8 19), .lit (.int .u8 9), .lit (.int .u8 13), .lit (.int .u8 8), .lit (.int .u8 7), .lit (.int .u8 6)]
def laid_internal_strconv_uint64pow10 {H : Type} : DataW H := .agg [.lit (.int .u64 1), .lit (.int .u64 10), .lit (.int .u64 100), .lit (.int .u64 1000), .lit (.int .u64 10000), .lit (.int .u64 100000), .lit (.int .u64 1000000), .lit (.int .u64 10000000), .lit (.int .u64 100000000), .lit (.int .u64 1000000000), .lit (.int .u64 10000000000), .lit (.int .u64 100000000000), .lit (.int .u64 1000000000000), .lit (.int .u64 10000000000000), .lit (.int .u64 100000000000000), .lit (.int .u64 1000000000000000), .lit (.int .u64 10000000000000000), .lit (.int .u64 100000000000000000), .lit (.int .u64 1000000000000000000), .lit (.int .u64 10000000000000000000)]
def laid_strconv_ErrRange {H : Type} : DataW H := .iface "*errors.errorString" (.ptr (.agg [.lit (.string [118, 97, 108, 117, 101, 32, 111, 117, 116, 32, 111, 102, 32, 114, 97, 110, 103, 101])]))
def laid_strconv_ErrSyntax {H : Type} : DataW H := .iface "*errors.errorString" (.ptr (.agg [.lit (.string [105, 110, 118, 97, 108, 105, 100, 32, 115, 121, 110, 116, 97, 120])]))
def laid_busbar_addr_letters {H : Type} : DataW H := .agg [.lit (.string [73]), .lit (.string [81]), .lit (.string [77])]

/-- 'busbarlaw09.LexLinesMatchReference': WHATEVER THE INPUT: true; the input reads as it did. -/
def lexLinesMatchReferenceSpec : ChangeSpec := { name := "lexLinesMatchReference", fn := fun _ => fun
  | [d] => { results := [.lit (.bool true)], args := [d] }
  | _ => none }
def lexLinesMatchReferenceRow : OpenClaim := { program := "ythidobgadndclaadoor", sum := "a0e02560f1974f92b41f11417860ee2aa756f8afd1abf40742c51ee73be3ea43", func := "busbar/busbarlaw09.LexLinesMatchReference", spec := "lexLinesMatchReference", inPlace := ["internal/bytealg.CountString", "internal/bytealg.IndexByteString", "internal/bytealg.IndexString", "internal/abi.NoEscape", "internal/bytealg.MakeNoZero"], unfollowed := true, recurses := true, named := ["unicode/utf8.first", "unicode/utf8.acceptRanges", "internal/bytealg.MaxLen", "strings.asciiSpace", "unicode.White_Space"], apart := false, laid := [("unicode/utf8.acceptRanges", laid_unicode_utf8_acceptRanges), ("unicode.White_Space", laid_unicode_White_Space), ("strings.asciiSpace", laid_strings_asciiSpace), ("unicode/utf8.first", laid_unicode_utf8_first)] }
def LexLinesMatchReferenceSaid : Prop := lexLinesMatchReferenceRow.holds Tryd.pinned (OpenSpec.ofChange lexLinesMatchReferenceSpec)

/-- ITS FALSE NEIGHBOUR: 'it returns false'. Refute it at one input. -/
def lexLinesMatchReferenceWrong : ChangeSpec := { name := "lexLinesMatchReference", fn := fun _ => fun
  | [d] => { results := [.lit (.bool false)], args := [d] }
  | _ => none }
def LexLinesMatchReferenceWrongFalsely : Prop := lexLinesMatchReferenceRow.holds Tryd.pinned (OpenSpec.ofChange lexLinesMatchReferenceWrong)

/-- 'busbarlaw09.LexNamesExtend': WHATEVER THE INPUT: true; the input reads as it did. -/
def lexNamesExtendSpec : ChangeSpec := { name := "lexNamesExtend", fn := fun _ => fun
  | [d1, d2] => { results := [.lit (.bool true)], args := [d1, d2] }
  | _ => none }
def lexNamesExtendRow : OpenClaim := { program := "ythidobgadndclaadoor", sum := "a0e02560f1974f92b41f11417860ee2aa756f8afd1abf40742c51ee73be3ea43", func := "busbar/busbarlaw09.LexNamesExtend", spec := "lexNamesExtend", inPlace := ["internal/bytealg.CountString", "internal/bytealg.IndexByteString", "internal/bytealg.IndexString", "internal/abi.NoEscape", "internal/bytealg.MakeNoZero"], unfollowed := true, recurses := true, named := ["unicode/utf8.first", "unicode/utf8.acceptRanges", "internal/bytealg.MaxLen", "strings.asciiSpace", "unicode.White_Space"], apart := false, laid := [("unicode/utf8.acceptRanges", laid_unicode_utf8_acceptRanges), ("unicode.White_Space", laid_unicode_White_Space), ("strings.asciiSpace", laid_strings_asciiSpace), ("unicode/utf8.first", laid_unicode_utf8_first)] }
def LexNamesExtendSaid : Prop := lexNamesExtendRow.holds Tryd.pinned (OpenSpec.ofChange lexNamesExtendSpec)

/-- ITS FALSE NEIGHBOUR: 'it returns false'. Refute it at one input. -/
def lexNamesExtendWrong : ChangeSpec := { name := "lexNamesExtend", fn := fun _ => fun
  | [d1, d2] => { results := [.lit (.bool false)], args := [d1, d2] }
  | _ => none }
def LexNamesExtendWrongFalsely : Prop := lexNamesExtendRow.holds Tryd.pinned (OpenSpec.ofChange lexNamesExtendWrong)

/-- 'busbarlaw09.LexConcatenation': WHATEVER THE INPUT: true; the input reads as it did. -/
def lexConcatenationSpec : ChangeSpec := { name := "lexConcatenation", fn := fun _ => fun
  | [d1, d2] => { results := [.lit (.bool true)], args := [d1, d2] }
  | _ => none }
def lexConcatenationRow : OpenClaim := { program := "ythidobgadndclaadoor", sum := "a0e02560f1974f92b41f11417860ee2aa756f8afd1abf40742c51ee73be3ea43", func := "busbar/busbarlaw09.LexConcatenation", spec := "lexConcatenation", inPlace := ["internal/bytealg.CountString", "internal/bytealg.IndexByteString", "internal/bytealg.IndexString", "internal/abi.NoEscape", "internal/bytealg.MakeNoZero"], unfollowed := true, recurses := true, named := ["unicode/utf8.first", "unicode/utf8.acceptRanges", "internal/bytealg.MaxLen", "strings.asciiSpace", "unicode.White_Space"], apart := false, laid := [("unicode/utf8.acceptRanges", laid_unicode_utf8_acceptRanges), ("unicode.White_Space", laid_unicode_White_Space), ("strings.asciiSpace", laid_strings_asciiSpace), ("unicode/utf8.first", laid_unicode_utf8_first)] }
def LexConcatenationSaid : Prop := lexConcatenationRow.holds Tryd.pinned (OpenSpec.ofChange lexConcatenationSpec)

/-- ITS FALSE NEIGHBOUR: 'it returns false'. Refute it at one input. -/
def lexConcatenationWrong : ChangeSpec := { name := "lexConcatenation", fn := fun _ => fun
  | [d1, d2] => { results := [.lit (.bool false)], args := [d1, d2] }
  | _ => none }
def LexConcatenationWrongFalsely : Prop := lexConcatenationRow.holds Tryd.pinned (OpenSpec.ofChange lexConcatenationWrong)

/-- 'busbarlaw09.LexJoinRoundTrip': WHATEVER THE INPUT: true; the input reads as it did. -/
def lexJoinRoundTripSpec : ChangeSpec := { name := "lexJoinRoundTrip", fn := fun _ => fun
  | [d] => { results := [.lit (.bool true)], args := [d] }
  | _ => none }
def lexJoinRoundTripRow : OpenClaim := { program := "ythidobgadndclaadoor", sum := "a0e02560f1974f92b41f11417860ee2aa756f8afd1abf40742c51ee73be3ea43", func := "busbar/busbarlaw09.LexJoinRoundTrip", spec := "lexJoinRoundTrip", inPlace := ["internal/bytealg.CountString", "internal/bytealg.IndexByteString", "internal/bytealg.IndexString", "internal/abi.NoEscape", "internal/bytealg.MakeNoZero"], unfollowed := true, recurses := true, named := ["unicode/utf8.first", "unicode/utf8.acceptRanges", "internal/bytealg.MaxLen", "strings.asciiSpace", "unicode.White_Space"], apart := false, laid := [("unicode/utf8.acceptRanges", laid_unicode_utf8_acceptRanges), ("unicode.White_Space", laid_unicode_White_Space), ("strings.asciiSpace", laid_strings_asciiSpace), ("unicode/utf8.first", laid_unicode_utf8_first)] }
def LexJoinRoundTripSaid : Prop := lexJoinRoundTripRow.holds Tryd.pinned (OpenSpec.ofChange lexJoinRoundTripSpec)

/-- ITS FALSE NEIGHBOUR: 'it returns false'. Refute it at one input. -/
def lexJoinRoundTripWrong : ChangeSpec := { name := "lexJoinRoundTrip", fn := fun _ => fun
  | [d] => { results := [.lit (.bool false)], args := [d] }
  | _ => none }
def LexJoinRoundTripWrongFalsely : Prop := lexJoinRoundTripRow.holds Tryd.pinned (OpenSpec.ofChange lexJoinRoundTripWrong)

/-- 'busbarlaw09.LexTextLimit': WHATEVER THE INPUT: true; the input reads as it did. -/
def lexTextLimitSpec : ChangeSpec := { name := "lexTextLimit", fn := fun _ => fun
  | [d] => { results := [.lit (.bool true)], args := [d] }
  | _ => none }
def lexTextLimitRow : OpenClaim := { program := "ythidobgadndclaadoor", sum := "a0e02560f1974f92b41f11417860ee2aa756f8afd1abf40742c51ee73be3ea43", func := "busbar/busbarlaw09.LexTextLimit", spec := "lexTextLimit", inPlace := ["internal/abi.NoEscape", "internal/bytealg.MakeNoZero", "internal/bytealg.CountString", "internal/bytealg.IndexByteString", "internal/bytealg.IndexString"], unfollowed := true, recurses := true, named := ["unicode/utf8.first", "unicode/utf8.acceptRanges", "internal/bytealg.MaxLen", "strings.asciiSpace", "unicode.White_Space"], apart := false, laid := [("unicode/utf8.acceptRanges", laid_unicode_utf8_acceptRanges), ("unicode.White_Space", laid_unicode_White_Space), ("strings.asciiSpace", laid_strings_asciiSpace), ("unicode/utf8.first", laid_unicode_utf8_first)] }
def LexTextLimitSaid : Prop := lexTextLimitRow.holds Tryd.pinned (OpenSpec.ofChange lexTextLimitSpec)

/-- ITS FALSE NEIGHBOUR: 'it returns false'. Refute it at one input. -/
def lexTextLimitWrong : ChangeSpec := { name := "lexTextLimit", fn := fun _ => fun
  | [d] => { results := [.lit (.bool false)], args := [d] }
  | _ => none }
def LexTextLimitWrongFalsely : Prop := lexTextLimitRow.holds Tryd.pinned (OpenSpec.ofChange lexTextLimitWrong)

/-- 'busbarlaw01.AddrFormatMatchesReference': WHATEVER THE INPUT: true; the input reads as it did. -/
def addrFormatMatchesReferenceSpec : ChangeSpec := { name := "addrFormatMatchesReference", fn := fun _ => fun
  | [d1, d2] => { results := [.lit (.bool true)], args := [d1, d2] }
  | _ => none }
def addrFormatMatchesReferenceRow : OpenClaim := { program := "ythidobgadndclaadoor", sum := "a0e02560f1974f92b41f11417860ee2aa756f8afd1abf40742c51ee73be3ea43", func := "busbar/busbarlaw01.AddrFormatMatchesReference", spec := "addrFormatMatchesReference", inPlace := ["internal/bytealg.IndexByteString", "internal/bytealg.IndexString"], named := ["busbar/addr.letters", "unicode/utf8.first", "unicode/utf8.acceptRanges", "strconv.ErrSyntax", "strconv.ErrRange", "internal/strconv.uint64pow10", "math/bits.deBruijn32tab", "math/bits.deBruijn64tab", "internal/bytealg.MaxLen"], apart := false, laid := [("math/bits.deBruijn32tab", laid_math_bits_deBruijn32tab), ("math/bits.deBruijn64tab", laid_math_bits_deBruijn64tab), ("internal/strconv.uint64pow10", laid_internal_strconv_uint64pow10), ("unicode/utf8.acceptRanges", laid_unicode_utf8_acceptRanges), ("strconv.ErrRange", laid_strconv_ErrRange), ("strconv.ErrSyntax", laid_strconv_ErrSyntax), ("busbar/addr.letters", laid_busbar_addr_letters), ("unicode/utf8.first", laid_unicode_utf8_first)] }
def AddrFormatMatchesReferenceSaid : Prop := addrFormatMatchesReferenceRow.holds Tryd.pinned (OpenSpec.ofChange addrFormatMatchesReferenceSpec)

/-- ITS FALSE NEIGHBOUR: 'it returns false'. Refute it at one input. -/
def addrFormatMatchesReferenceWrong : ChangeSpec := { name := "addrFormatMatchesReference", fn := fun _ => fun
  | [d1, d2] => { results := [.lit (.bool false)], args := [d1, d2] }
  | _ => none }
def AddrFormatMatchesReferenceWrongFalsely : Prop := addrFormatMatchesReferenceRow.holds Tryd.pinned (OpenSpec.ofChange addrFormatMatchesReferenceWrong)

/-- 'busbarlaw01.AddrParseDigits': WHATEVER THE INPUT: true; the input reads as it did. -/
def addrParseDigitsSpec : ChangeSpec := { name := "addrParseDigits", fn := fun _ => fun
  | [d1, d2] => { results := [.lit (.bool true)], args := [d1, d2] }
  | _ => none }
def addrParseDigitsRow : OpenClaim := { program := "ythidobgadndclaadoor", sum := "a0e02560f1974f92b41f11417860ee2aa756f8afd1abf40742c51ee73be3ea43", func := "busbar/busbarlaw01.AddrParseDigits", spec := "addrParseDigits", inPlace := ["internal/bytealg.IndexByteString", "internal/bytealg.IndexString"], named := ["busbar/addr.letters", "internal/strconv.uint64pow10", "math/bits.deBruijn32tab", "math/bits.deBruijn64tab", "unicode/utf8.first", "unicode/utf8.acceptRanges", "strconv.ErrSyntax", "strconv.ErrRange", "internal/bytealg.MaxLen"], apart := false, laid := [("math/bits.deBruijn32tab", laid_math_bits_deBruijn32tab), ("math/bits.deBruijn64tab", laid_math_bits_deBruijn64tab), ("internal/strconv.uint64pow10", laid_internal_strconv_uint64pow10), ("unicode/utf8.acceptRanges", laid_unicode_utf8_acceptRanges), ("strconv.ErrRange", laid_strconv_ErrRange), ("strconv.ErrSyntax", laid_strconv_ErrSyntax), ("busbar/addr.letters", laid_busbar_addr_letters), ("unicode/utf8.first", laid_unicode_utf8_first)] }
def AddrParseDigitsSaid : Prop := addrParseDigitsRow.holds Tryd.pinned (OpenSpec.ofChange addrParseDigitsSpec)

/-- ITS FALSE NEIGHBOUR: 'it returns false'. Refute it at one input. -/
def addrParseDigitsWrong : ChangeSpec := { name := "addrParseDigits", fn := fun _ => fun
  | [d1, d2] => { results := [.lit (.bool false)], args := [d1, d2] }
  | _ => none }
def AddrParseDigitsWrongFalsely : Prop := addrParseDigitsRow.holds Tryd.pinned (OpenSpec.ofChange addrParseDigitsWrong)

/-- 'busbarlaw01.AddrCheckIsMonotone': WHATEVER THE INPUT: true; the input reads as it did. -/
def addrCheckIsMonotoneSpec : ChangeSpec := { name := "addrCheckIsMonotone", fn := fun _ => fun
  | [d1, d2, d3] => { results := [.lit (.bool true)], args := [d1, d2, d3] }
  | _ => none }
def addrCheckIsMonotoneRow : OpenClaim := { program := "ythidobgadndclaadoor", sum := "a0e02560f1974f92b41f11417860ee2aa756f8afd1abf40742c51ee73be3ea43", func := "busbar/busbarlaw01.AddrCheckIsMonotone", spec := "addrCheckIsMonotone", inPlace := ["internal/bytealg.IndexByteString", "internal/bytealg.IndexString"], named := ["busbar/addr.letters", "unicode/utf8.first", "unicode/utf8.acceptRanges", "strconv.ErrSyntax", "strconv.ErrRange", "internal/strconv.uint64pow10", "math/bits.deBruijn32tab", "math/bits.deBruijn64tab", "internal/bytealg.MaxLen"], apart := false, laid := [("math/bits.deBruijn32tab", laid_math_bits_deBruijn32tab), ("math/bits.deBruijn64tab", laid_math_bits_deBruijn64tab), ("internal/strconv.uint64pow10", laid_internal_strconv_uint64pow10), ("unicode/utf8.acceptRanges", laid_unicode_utf8_acceptRanges), ("strconv.ErrRange", laid_strconv_ErrRange), ("strconv.ErrSyntax", laid_strconv_ErrSyntax), ("busbar/addr.letters", laid_busbar_addr_letters), ("unicode/utf8.first", laid_unicode_utf8_first)] }
def AddrCheckIsMonotoneSaid : Prop := addrCheckIsMonotoneRow.holds Tryd.pinned (OpenSpec.ofChange addrCheckIsMonotoneSpec)

/-- ITS FALSE NEIGHBOUR: 'it returns false'. Refute it at one input. -/
def addrCheckIsMonotoneWrong : ChangeSpec := { name := "addrCheckIsMonotone", fn := fun _ => fun
  | [d1, d2, d3] => { results := [.lit (.bool false)], args := [d1, d2, d3] }
  | _ => none }
def AddrCheckIsMonotoneWrongFalsely : Prop := addrCheckIsMonotoneRow.holds Tryd.pinned (OpenSpec.ofChange addrCheckIsMonotoneWrong)

/-- 'busbarlaw01.AddrRoundTrip': WHATEVER THE INPUT: true; the input reads as it did. -/
def addrRoundTripSpec : ChangeSpec := { name := "addrRoundTrip", fn := fun _ => fun
  | [d1, d2, d3] => { results := [.lit (.bool true)], args := [d1, d2, d3] }
  | _ => none }
def addrRoundTripRow : OpenClaim := { program := "ythidobgadndclaadoor", sum := "a0e02560f1974f92b41f11417860ee2aa756f8afd1abf40742c51ee73be3ea43", func := "busbar/busbarlaw01.AddrRoundTrip", spec := "addrRoundTrip", inPlace := ["internal/bytealg.IndexByteString", "internal/bytealg.IndexString"], named := ["busbar/addr.letters", "unicode/utf8.first", "unicode/utf8.acceptRanges", "strconv.ErrSyntax", "strconv.ErrRange", "internal/strconv.uint64pow10", "math/bits.deBruijn32tab", "math/bits.deBruijn64tab", "internal/bytealg.MaxLen"], apart := false, laid := [("math/bits.deBruijn32tab", laid_math_bits_deBruijn32tab), ("math/bits.deBruijn64tab", laid_math_bits_deBruijn64tab), ("internal/strconv.uint64pow10", laid_internal_strconv_uint64pow10), ("unicode/utf8.acceptRanges", laid_unicode_utf8_acceptRanges), ("strconv.ErrRange", laid_strconv_ErrRange), ("strconv.ErrSyntax", laid_strconv_ErrSyntax), ("busbar/addr.letters", laid_busbar_addr_letters), ("unicode/utf8.first", laid_unicode_utf8_first)] }
def AddrRoundTripSaid : Prop := addrRoundTripRow.holds Tryd.pinned (OpenSpec.ofChange addrRoundTripSpec)

/-- ITS FALSE NEIGHBOUR: 'it returns false'. Refute it at one input. -/
def addrRoundTripWrong : ChangeSpec := { name := "addrRoundTrip", fn := fun _ => fun
  | [d1, d2, d3] => { results := [.lit (.bool false)], args := [d1, d2, d3] }
  | _ => none }
def AddrRoundTripWrongFalsely : Prop := addrRoundTripRow.holds Tryd.pinned (OpenSpec.ofChange addrRoundTripWrong)

/-- 'busbarlaw01.AddrCompareIsTotalOrder': WHATEVER THE INPUT: true; the input reads as it did. -/
def addrCompareIsTotalOrderSpec : ChangeSpec := { name := "addrCompareIsTotalOrder", fn := fun _ => fun
  | [d1, d2, d3] => { results := [.lit (.bool true)], args := [d1, d2, d3] }
  | _ => none }
def addrCompareIsTotalOrderRow : OpenClaim := { program := "ythidobgadndclaadoor", sum := "a0e02560f1974f92b41f11417860ee2aa756f8afd1abf40742c51ee73be3ea43", func := "busbar/busbarlaw01.AddrCompareIsTotalOrder", spec := "addrCompareIsTotalOrder", inPlace := ["internal/bytealg.IndexByteString", "internal/bytealg.IndexString"], named := ["busbar/addr.letters", "unicode/utf8.first", "unicode/utf8.acceptRanges", "strconv.ErrSyntax", "strconv.ErrRange", "internal/strconv.uint64pow10", "math/bits.deBruijn32tab", "math/bits.deBruijn64tab", "internal/bytealg.MaxLen"], apart := false, laid := [("math/bits.deBruijn32tab", laid_math_bits_deBruijn32tab), ("math/bits.deBruijn64tab", laid_math_bits_deBruijn64tab), ("internal/strconv.uint64pow10", laid_internal_strconv_uint64pow10), ("unicode/utf8.acceptRanges", laid_unicode_utf8_acceptRanges), ("strconv.ErrRange", laid_strconv_ErrRange), ("strconv.ErrSyntax", laid_strconv_ErrSyntax), ("busbar/addr.letters", laid_busbar_addr_letters), ("unicode/utf8.first", laid_unicode_utf8_first)] }
def AddrCompareIsTotalOrderSaid : Prop := addrCompareIsTotalOrderRow.holds Tryd.pinned (OpenSpec.ofChange addrCompareIsTotalOrderSpec)

/-- ITS FALSE NEIGHBOUR: 'it returns false'. Refute it at one input. -/
def addrCompareIsTotalOrderWrong : ChangeSpec := { name := "addrCompareIsTotalOrder", fn := fun _ => fun
  | [d1, d2, d3] => { results := [.lit (.bool false)], args := [d1, d2, d3] }
  | _ => none }
def AddrCompareIsTotalOrderWrongFalsely : Prop := addrCompareIsTotalOrderRow.holds Tryd.pinned (OpenSpec.ofChange addrCompareIsTotalOrderWrong)

/-- 'busbarlaw01.AddrFormatIsInjective': WHATEVER THE INPUT: true; the input reads as it did. -/
def addrFormatIsInjectiveSpec : ChangeSpec := { name := "addrFormatIsInjective", fn := fun _ => fun
  | [d1, d2] => { results := [.lit (.bool true)], args := [d1, d2] }
  | _ => none }
def addrFormatIsInjectiveRow : OpenClaim := { program := "ythidobgadndclaadoor", sum := "a0e02560f1974f92b41f11417860ee2aa756f8afd1abf40742c51ee73be3ea43", func := "busbar/busbarlaw01.AddrFormatIsInjective", spec := "addrFormatIsInjective", inPlace := ["internal/bytealg.IndexByteString", "internal/bytealg.IndexString"], named := ["busbar/addr.letters", "internal/strconv.uint64pow10", "math/bits.deBruijn32tab", "math/bits.deBruijn64tab", "unicode/utf8.first", "unicode/utf8.acceptRanges", "strconv.ErrSyntax", "strconv.ErrRange", "internal/bytealg.MaxLen"], apart := false, laid := [("math/bits.deBruijn32tab", laid_math_bits_deBruijn32tab), ("math/bits.deBruijn64tab", laid_math_bits_deBruijn64tab), ("internal/strconv.uint64pow10", laid_internal_strconv_uint64pow10), ("unicode/utf8.acceptRanges", laid_unicode_utf8_acceptRanges), ("strconv.ErrRange", laid_strconv_ErrRange), ("strconv.ErrSyntax", laid_strconv_ErrSyntax), ("busbar/addr.letters", laid_busbar_addr_letters), ("unicode/utf8.first", laid_unicode_utf8_first)] }
def AddrFormatIsInjectiveSaid : Prop := addrFormatIsInjectiveRow.holds Tryd.pinned (OpenSpec.ofChange addrFormatIsInjectiveSpec)

/-- ITS FALSE NEIGHBOUR: 'it returns false'. Refute it at one input. -/
def addrFormatIsInjectiveWrong : ChangeSpec := { name := "addrFormatIsInjective", fn := fun _ => fun
  | [d1, d2] => { results := [.lit (.bool false)], args := [d1, d2] }
  | _ => none }
def AddrFormatIsInjectiveWrongFalsely : Prop := addrFormatIsInjectiveRow.holds Tryd.pinned (OpenSpec.ofChange addrFormatIsInjectiveWrong)

/-- 'busbarlaw09.LexWordsMatchReference': WHATEVER THE INPUT: true; the input reads as it did. -/
def lexWordsMatchReferenceSpec : ChangeSpec := { name := "lexWordsMatchReference", fn := fun _ => fun
  | [d1, d2] => { results := [.lit (.bool true)], args := [d1, d2] }
  | _ => none }
def lexWordsMatchReferenceRow : OpenClaim := { program := "ythidobgadndclaadoor", sum := "a0e02560f1974f92b41f11417860ee2aa756f8afd1abf40742c51ee73be3ea43", func := "busbar/busbarlaw09.LexWordsMatchReference", spec := "lexWordsMatchReference", inPlace := ["internal/bytealg.CountString", "internal/bytealg.IndexByteString", "internal/bytealg.IndexString", "internal/abi.NoEscape", "internal/bytealg.MakeNoZero"], unfollowed := true, recurses := true, named := ["unicode/utf8.first", "unicode/utf8.acceptRanges", "internal/bytealg.MaxLen", "strings.asciiSpace", "unicode.White_Space", "strconv.ErrSyntax", "strconv.ErrRange", "internal/strconv.uint64pow10", "math/bits.deBruijn32tab", "math/bits.deBruijn64tab"], apart := false, laid := [("math/bits.deBruijn32tab", laid_math_bits_deBruijn32tab), ("math/bits.deBruijn64tab", laid_math_bits_deBruijn64tab), ("internal/strconv.uint64pow10", laid_internal_strconv_uint64pow10), ("unicode/utf8.acceptRanges", laid_unicode_utf8_acceptRanges), ("strconv.ErrRange", laid_strconv_ErrRange), ("strconv.ErrSyntax", laid_strconv_ErrSyntax), ("unicode.White_Space", laid_unicode_White_Space), ("strings.asciiSpace", laid_strings_asciiSpace), ("unicode/utf8.first", laid_unicode_utf8_first)] }
def LexWordsMatchReferenceSaid : Prop := lexWordsMatchReferenceRow.holds Tryd.pinned (OpenSpec.ofChange lexWordsMatchReferenceSpec)

/-- ITS FALSE NEIGHBOUR: 'it returns false'. Refute it at one input. -/
def lexWordsMatchReferenceWrong : ChangeSpec := { name := "lexWordsMatchReference", fn := fun _ => fun
  | [d1, d2] => { results := [.lit (.bool false)], args := [d1, d2] }
  | _ => none }
def LexWordsMatchReferenceWrongFalsely : Prop := lexWordsMatchReferenceRow.holds Tryd.pinned (OpenSpec.ofChange lexWordsMatchReferenceWrong)

/- THE SECOND FORM. 'bulk': how many values and letters a reading holds, each counted each time it is reached (what is shared counts as often as it is met; a slice's spare places count too). A statement '..UptoSaid' is the law's where the arguments, and the package variables that the reading takes, are together of bulk at most 1048576: NARROWER than '..Said'. Prove '..Said' where nothing that the law and all that it calls make is longer than what came in: it says more and counts as full. Else prove '..UptoSaid'. A law counts once. -/
mutual
def uptoBulk {H : Type} : DataW H → Nat
  | .lit (.string bytes) => bytes.length + 1
  | .lit _ => 1
  | .nil => 1
  | .ptr d => uptoBulk d + 1
  | .slice elems spare => uptoBulkAll elems + uptoBulkAll spare + 1
  | .agg parts => uptoBulkAll parts + 1
  | .iface _ d => uptoBulk d + 1
  | .map entries => uptoBulkEntries entries + 1
  | .held _ => 1
def uptoBulkAll {H : Type} : List (DataW H) → Nat
  | [] => 0
  | d :: r => uptoBulk d + uptoBulkAll r
def uptoBulkEntries {H : Type} : List (Lit × DataW H) → Nat
  | [] => 0
  | x :: r => uptoBulkEntry x + uptoBulkEntries r
def uptoBulkEntry {H : Type} : Lit × DataW H → Nat
  | (.string bytes, d) => bytes.length + uptoBulk d + 1
  | (_, d) => uptoBulk d + 1
 end
def uptoSmall : (H : Type) → List (DataW H) → Bool := fun _ ds => decide (uptoBulkAll ds ≤ 1048576)
def OpenSpec.upto (s : _root_.Go.ChangeSpec) : _root_.Go.OpenSpec := { _root_.Go.OpenSpec.ofChange s with cond := some uptoSmall }

/-- 'busbarlaw09.LexLinesMatchReference', WHERE WHAT IT READS IS OF BULK AT MOST 1048576: true; the input reads as it did. -/
def lexLinesMatchReferenceUptoRow : OpenClaim := { program := "ythidobgadndclaadoor", sum := "a0e02560f1974f92b41f11417860ee2aa756f8afd1abf40742c51ee73be3ea43", func := "busbar/busbarlaw09.LexLinesMatchReference", spec := "lexLinesMatchReference", inPlace := ["internal/bytealg.CountString", "internal/bytealg.IndexByteString", "internal/bytealg.IndexString", "internal/abi.NoEscape", "internal/bytealg.MakeNoZero"], unfollowed := true, recurses := true, named := ["unicode/utf8.first", "unicode/utf8.acceptRanges", "internal/bytealg.MaxLen", "strings.asciiSpace", "unicode.White_Space"], apart := false, laid := [("unicode/utf8.acceptRanges", laid_unicode_utf8_acceptRanges), ("unicode.White_Space", laid_unicode_White_Space), ("strings.asciiSpace", laid_strings_asciiSpace), ("unicode/utf8.first", laid_unicode_utf8_first)], narrowed := true }
def LexLinesMatchReferenceUptoSaid : Prop := lexLinesMatchReferenceUptoRow.holds Tryd.pinned (OpenSpec.upto lexLinesMatchReferenceSpec)

/-- 'busbarlaw09.LexNamesExtend', WHERE WHAT IT READS IS OF BULK AT MOST 1048576: true; the input reads as it did. -/
def lexNamesExtendUptoRow : OpenClaim := { program := "ythidobgadndclaadoor", sum := "a0e02560f1974f92b41f11417860ee2aa756f8afd1abf40742c51ee73be3ea43", func := "busbar/busbarlaw09.LexNamesExtend", spec := "lexNamesExtend", inPlace := ["internal/bytealg.CountString", "internal/bytealg.IndexByteString", "internal/bytealg.IndexString", "internal/abi.NoEscape", "internal/bytealg.MakeNoZero"], unfollowed := true, recurses := true, named := ["unicode/utf8.first", "unicode/utf8.acceptRanges", "internal/bytealg.MaxLen", "strings.asciiSpace", "unicode.White_Space"], apart := false, laid := [("unicode/utf8.acceptRanges", laid_unicode_utf8_acceptRanges), ("unicode.White_Space", laid_unicode_White_Space), ("strings.asciiSpace", laid_strings_asciiSpace), ("unicode/utf8.first", laid_unicode_utf8_first)], narrowed := true }
def LexNamesExtendUptoSaid : Prop := lexNamesExtendUptoRow.holds Tryd.pinned (OpenSpec.upto lexNamesExtendSpec)

/-- 'busbarlaw09.LexConcatenation', WHERE WHAT IT READS IS OF BULK AT MOST 1048576: true; the input reads as it did. -/
def lexConcatenationUptoRow : OpenClaim := { program := "ythidobgadndclaadoor", sum := "a0e02560f1974f92b41f11417860ee2aa756f8afd1abf40742c51ee73be3ea43", func := "busbar/busbarlaw09.LexConcatenation", spec := "lexConcatenation", inPlace := ["internal/bytealg.CountString", "internal/bytealg.IndexByteString", "internal/bytealg.IndexString", "internal/abi.NoEscape", "internal/bytealg.MakeNoZero"], unfollowed := true, recurses := true, named := ["unicode/utf8.first", "unicode/utf8.acceptRanges", "internal/bytealg.MaxLen", "strings.asciiSpace", "unicode.White_Space"], apart := false, laid := [("unicode/utf8.acceptRanges", laid_unicode_utf8_acceptRanges), ("unicode.White_Space", laid_unicode_White_Space), ("strings.asciiSpace", laid_strings_asciiSpace), ("unicode/utf8.first", laid_unicode_utf8_first)], narrowed := true }
def LexConcatenationUptoSaid : Prop := lexConcatenationUptoRow.holds Tryd.pinned (OpenSpec.upto lexConcatenationSpec)

/-- 'busbarlaw09.LexJoinRoundTrip', WHERE WHAT IT READS IS OF BULK AT MOST 1048576: true; the input reads as it did. -/
def lexJoinRoundTripUptoRow : OpenClaim := { program := "ythidobgadndclaadoor", sum := "a0e02560f1974f92b41f11417860ee2aa756f8afd1abf40742c51ee73be3ea43", func := "busbar/busbarlaw09.LexJoinRoundTrip", spec := "lexJoinRoundTrip", inPlace := ["internal/bytealg.CountString", "internal/bytealg.IndexByteString", "internal/bytealg.IndexString", "internal/abi.NoEscape", "internal/bytealg.MakeNoZero"], unfollowed := true, recurses := true, named := ["unicode/utf8.first", "unicode/utf8.acceptRanges", "internal/bytealg.MaxLen", "strings.asciiSpace", "unicode.White_Space"], apart := false, laid := [("unicode/utf8.acceptRanges", laid_unicode_utf8_acceptRanges), ("unicode.White_Space", laid_unicode_White_Space), ("strings.asciiSpace", laid_strings_asciiSpace), ("unicode/utf8.first", laid_unicode_utf8_first)], narrowed := true }
def LexJoinRoundTripUptoSaid : Prop := lexJoinRoundTripUptoRow.holds Tryd.pinned (OpenSpec.upto lexJoinRoundTripSpec)

/-- 'busbarlaw09.LexTextLimit', WHERE WHAT IT READS IS OF BULK AT MOST 1048576: true; the input reads as it did. -/
def lexTextLimitUptoRow : OpenClaim := { program := "ythidobgadndclaadoor", sum := "a0e02560f1974f92b41f11417860ee2aa756f8afd1abf40742c51ee73be3ea43", func := "busbar/busbarlaw09.LexTextLimit", spec := "lexTextLimit", inPlace := ["internal/abi.NoEscape", "internal/bytealg.MakeNoZero", "internal/bytealg.CountString", "internal/bytealg.IndexByteString", "internal/bytealg.IndexString"], unfollowed := true, recurses := true, named := ["unicode/utf8.first", "unicode/utf8.acceptRanges", "internal/bytealg.MaxLen", "strings.asciiSpace", "unicode.White_Space"], apart := false, laid := [("unicode/utf8.acceptRanges", laid_unicode_utf8_acceptRanges), ("unicode.White_Space", laid_unicode_White_Space), ("strings.asciiSpace", laid_strings_asciiSpace), ("unicode/utf8.first", laid_unicode_utf8_first)], narrowed := true }
def LexTextLimitUptoSaid : Prop := lexTextLimitUptoRow.holds Tryd.pinned (OpenSpec.upto lexTextLimitSpec)

/-- 'busbarlaw01.AddrFormatMatchesReference', WHERE WHAT IT READS IS OF BULK AT MOST 1048576: true; the input reads as it did. -/
def addrFormatMatchesReferenceUptoRow : OpenClaim := { program := "ythidobgadndclaadoor", sum := "a0e02560f1974f92b41f11417860ee2aa756f8afd1abf40742c51ee73be3ea43", func := "busbar/busbarlaw01.AddrFormatMatchesReference", spec := "addrFormatMatchesReference", inPlace := ["internal/bytealg.IndexByteString", "internal/bytealg.IndexString"], named := ["busbar/addr.letters", "unicode/utf8.first", "unicode/utf8.acceptRanges", "strconv.ErrSyntax", "strconv.ErrRange", "internal/strconv.uint64pow10", "math/bits.deBruijn32tab", "math/bits.deBruijn64tab", "internal/bytealg.MaxLen"], apart := false, laid := [("math/bits.deBruijn32tab", laid_math_bits_deBruijn32tab), ("math/bits.deBruijn64tab", laid_math_bits_deBruijn64tab), ("internal/strconv.uint64pow10", laid_internal_strconv_uint64pow10), ("unicode/utf8.acceptRanges", laid_unicode_utf8_acceptRanges), ("strconv.ErrRange", laid_strconv_ErrRange), ("strconv.ErrSyntax", laid_strconv_ErrSyntax), ("busbar/addr.letters", laid_busbar_addr_letters), ("unicode/utf8.first", laid_unicode_utf8_first)], narrowed := true }
def AddrFormatMatchesReferenceUptoSaid : Prop := addrFormatMatchesReferenceUptoRow.holds Tryd.pinned (OpenSpec.upto addrFormatMatchesReferenceSpec)

/-- 'busbarlaw01.AddrParseDigits', WHERE WHAT IT READS IS OF BULK AT MOST 1048576: true; the input reads as it did. -/
def addrParseDigitsUptoRow : OpenClaim := { program := "ythidobgadndclaadoor", sum := "a0e02560f1974f92b41f11417860ee2aa756f8afd1abf40742c51ee73be3ea43", func := "busbar/busbarlaw01.AddrParseDigits", spec := "addrParseDigits", inPlace := ["internal/bytealg.IndexByteString", "internal/bytealg.IndexString"], named := ["busbar/addr.letters", "internal/strconv.uint64pow10", "math/bits.deBruijn32tab", "math/bits.deBruijn64tab", "unicode/utf8.first", "unicode/utf8.acceptRanges", "strconv.ErrSyntax", "strconv.ErrRange", "internal/bytealg.MaxLen"], apart := false, laid := [("math/bits.deBruijn32tab", laid_math_bits_deBruijn32tab), ("math/bits.deBruijn64tab", laid_math_bits_deBruijn64tab), ("internal/strconv.uint64pow10", laid_internal_strconv_uint64pow10), ("unicode/utf8.acceptRanges", laid_unicode_utf8_acceptRanges), ("strconv.ErrRange", laid_strconv_ErrRange), ("strconv.ErrSyntax", laid_strconv_ErrSyntax), ("busbar/addr.letters", laid_busbar_addr_letters), ("unicode/utf8.first", laid_unicode_utf8_first)], narrowed := true }
def AddrParseDigitsUptoSaid : Prop := addrParseDigitsUptoRow.holds Tryd.pinned (OpenSpec.upto addrParseDigitsSpec)

/-- 'busbarlaw01.AddrCheckIsMonotone', WHERE WHAT IT READS IS OF BULK AT MOST 1048576: true; the input reads as it did. -/
def addrCheckIsMonotoneUptoRow : OpenClaim := { program := "ythidobgadndclaadoor", sum := "a0e02560f1974f92b41f11417860ee2aa756f8afd1abf40742c51ee73be3ea43", func := "busbar/busbarlaw01.AddrCheckIsMonotone", spec := "addrCheckIsMonotone", inPlace := ["internal/bytealg.IndexByteString", "internal/bytealg.IndexString"], named := ["busbar/addr.letters", "unicode/utf8.first", "unicode/utf8.acceptRanges", "strconv.ErrSyntax", "strconv.ErrRange", "internal/strconv.uint64pow10", "math/bits.deBruijn32tab", "math/bits.deBruijn64tab", "internal/bytealg.MaxLen"], apart := false, laid := [("math/bits.deBruijn32tab", laid_math_bits_deBruijn32tab), ("math/bits.deBruijn64tab", laid_math_bits_deBruijn64tab), ("internal/strconv.uint64pow10", laid_internal_strconv_uint64pow10), ("unicode/utf8.acceptRanges", laid_unicode_utf8_acceptRanges), ("strconv.ErrRange", laid_strconv_ErrRange), ("strconv.ErrSyntax", laid_strconv_ErrSyntax), ("busbar/addr.letters", laid_busbar_addr_letters), ("unicode/utf8.first", laid_unicode_utf8_first)], narrowed := true }
def AddrCheckIsMonotoneUptoSaid : Prop := addrCheckIsMonotoneUptoRow.holds Tryd.pinned (OpenSpec.upto addrCheckIsMonotoneSpec)

/-- 'busbarlaw01.AddrRoundTrip', WHERE WHAT IT READS IS OF BULK AT MOST 1048576: true; the input reads as it did. -/
def addrRoundTripUptoRow : OpenClaim := { program := "ythidobgadndclaadoor", sum := "a0e02560f1974f92b41f11417860ee2aa756f8afd1abf40742c51ee73be3ea43", func := "busbar/busbarlaw01.AddrRoundTrip", spec := "addrRoundTrip", inPlace := ["internal/bytealg.IndexByteString", "internal/bytealg.IndexString"], named := ["busbar/addr.letters", "unicode/utf8.first", "unicode/utf8.acceptRanges", "strconv.ErrSyntax", "strconv.ErrRange", "internal/strconv.uint64pow10", "math/bits.deBruijn32tab", "math/bits.deBruijn64tab", "internal/bytealg.MaxLen"], apart := false, laid := [("math/bits.deBruijn32tab", laid_math_bits_deBruijn32tab), ("math/bits.deBruijn64tab", laid_math_bits_deBruijn64tab), ("internal/strconv.uint64pow10", laid_internal_strconv_uint64pow10), ("unicode/utf8.acceptRanges", laid_unicode_utf8_acceptRanges), ("strconv.ErrRange", laid_strconv_ErrRange), ("strconv.ErrSyntax", laid_strconv_ErrSyntax), ("busbar/addr.letters", laid_busbar_addr_letters), ("unicode/utf8.first", laid_unicode_utf8_first)], narrowed := true }
def AddrRoundTripUptoSaid : Prop := addrRoundTripUptoRow.holds Tryd.pinned (OpenSpec.upto addrRoundTripSpec)

/-- 'busbarlaw01.AddrCompareIsTotalOrder', WHERE WHAT IT READS IS OF BULK AT MOST 1048576: true; the input reads as it did. -/
def addrCompareIsTotalOrderUptoRow : OpenClaim := { program := "ythidobgadndclaadoor", sum := "a0e02560f1974f92b41f11417860ee2aa756f8afd1abf40742c51ee73be3ea43", func := "busbar/busbarlaw01.AddrCompareIsTotalOrder", spec := "addrCompareIsTotalOrder", inPlace := ["internal/bytealg.IndexByteString", "internal/bytealg.IndexString"], named := ["busbar/addr.letters", "unicode/utf8.first", "unicode/utf8.acceptRanges", "strconv.ErrSyntax", "strconv.ErrRange", "internal/strconv.uint64pow10", "math/bits.deBruijn32tab", "math/bits.deBruijn64tab", "internal/bytealg.MaxLen"], apart := false, laid := [("math/bits.deBruijn32tab", laid_math_bits_deBruijn32tab), ("math/bits.deBruijn64tab", laid_math_bits_deBruijn64tab), ("internal/strconv.uint64pow10", laid_internal_strconv_uint64pow10), ("unicode/utf8.acceptRanges", laid_unicode_utf8_acceptRanges), ("strconv.ErrRange", laid_strconv_ErrRange), ("strconv.ErrSyntax", laid_strconv_ErrSyntax), ("busbar/addr.letters", laid_busbar_addr_letters), ("unicode/utf8.first", laid_unicode_utf8_first)], narrowed := true }
def AddrCompareIsTotalOrderUptoSaid : Prop := addrCompareIsTotalOrderUptoRow.holds Tryd.pinned (OpenSpec.upto addrCompareIsTotalOrderSpec)

/-- 'busbarlaw01.AddrFormatIsInjective', WHERE WHAT IT READS IS OF BULK AT MOST 1048576: true; the input reads as it did. -/
def addrFormatIsInjectiveUptoRow : OpenClaim := { program := "ythidobgadndclaadoor", sum := "a0e02560f1974f92b41f11417860ee2aa756f8afd1abf40742c51ee73be3ea43", func := "busbar/busbarlaw01.AddrFormatIsInjective", spec := "addrFormatIsInjective", inPlace := ["internal/bytealg.IndexByteString", "internal/bytealg.IndexString"], named := ["busbar/addr.letters", "internal/strconv.uint64pow10", "math/bits.deBruijn32tab", "math/bits.deBruijn64tab", "unicode/utf8.first", "unicode/utf8.acceptRanges", "strconv.ErrSyntax", "strconv.ErrRange", "internal/bytealg.MaxLen"], apart := false, laid := [("math/bits.deBruijn32tab", laid_math_bits_deBruijn32tab), ("math/bits.deBruijn64tab", laid_math_bits_deBruijn64tab), ("internal/strconv.uint64pow10", laid_internal_strconv_uint64pow10), ("unicode/utf8.acceptRanges", laid_unicode_utf8_acceptRanges), ("strconv.ErrRange", laid_strconv_ErrRange), ("strconv.ErrSyntax", laid_strconv_ErrSyntax), ("busbar/addr.letters", laid_busbar_addr_letters), ("unicode/utf8.first", laid_unicode_utf8_first)], narrowed := true }
def AddrFormatIsInjectiveUptoSaid : Prop := addrFormatIsInjectiveUptoRow.holds Tryd.pinned (OpenSpec.upto addrFormatIsInjectiveSpec)

/-- 'busbarlaw09.LexWordsMatchReference', WHERE WHAT IT READS IS OF BULK AT MOST 1048576: true; the input reads as it did. -/
def lexWordsMatchReferenceUptoRow : OpenClaim := { program := "ythidobgadndclaadoor", sum := "a0e02560f1974f92b41f11417860ee2aa756f8afd1abf40742c51ee73be3ea43", func := "busbar/busbarlaw09.LexWordsMatchReference", spec := "lexWordsMatchReference", inPlace := ["internal/bytealg.CountString", "internal/bytealg.IndexByteString", "internal/bytealg.IndexString", "internal/abi.NoEscape", "internal/bytealg.MakeNoZero"], unfollowed := true, recurses := true, named := ["unicode/utf8.first", "unicode/utf8.acceptRanges", "internal/bytealg.MaxLen", "strings.asciiSpace", "unicode.White_Space", "strconv.ErrSyntax", "strconv.ErrRange", "internal/strconv.uint64pow10", "math/bits.deBruijn32tab", "math/bits.deBruijn64tab"], apart := false, laid := [("math/bits.deBruijn32tab", laid_math_bits_deBruijn32tab), ("math/bits.deBruijn64tab", laid_math_bits_deBruijn64tab), ("internal/strconv.uint64pow10", laid_internal_strconv_uint64pow10), ("unicode/utf8.acceptRanges", laid_unicode_utf8_acceptRanges), ("strconv.ErrRange", laid_strconv_ErrRange), ("strconv.ErrSyntax", laid_strconv_ErrSyntax), ("unicode.White_Space", laid_unicode_White_Space), ("strings.asciiSpace", laid_strings_asciiSpace), ("unicode/utf8.first", laid_unicode_utf8_first)], narrowed := true }
def LexWordsMatchReferenceUptoSaid : Prop := lexWordsMatchReferenceUptoRow.holds Tryd.pinned (OpenSpec.upto lexWordsMatchReferenceSpec)

end Rows
end Go.Proofs.YthidobgadndclaaDoor

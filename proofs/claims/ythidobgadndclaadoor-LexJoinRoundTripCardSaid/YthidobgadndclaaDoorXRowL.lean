/- The rows of package lex's laws: what they list, and the shape of the world, give the premise of the contracts. -/
import Derived.Test.YthidobgadndclaaDoorRows
import Derived.Test.YthidobgadndclaaDoorXRow
import Derived.Shelf.Vars
namespace Go.Proofs.YthidobgadndclaaDoor.P
open Go.RowKit Go.Proofs.YthidobgadndclaaDoorW.PrintWords Go.WideShapes

theorem ascii_eq : (Rows.laid_strings_asciiSpace : DataW Unit) = Lib.tabData .u8 Lib.asciiSpaceTab := by kernel_rfl
theorem max_of {W : World} (h : W.ShapedOpen Tryd.prog) : LaidMax W :=
  Go.Proofs.cell_of_shapedOpen_int (zero := #[.int .i64 0]) (t := 3) (k := .i64) h (of_decide_eq_true (by kernel_rfl)) (by kernel_rfl) rfl (by kernel_rfl) (by kernel_rfl) Tryd.underlying3
def laidL : List (String × DataW Unit) := [("unicode/utf8.acceptRanges", Rows.laid_unicode_utf8_acceptRanges), ("unicode.White_Space", Rows.laid_unicode_White_Space), ("strings.asciiSpace", Rows.laid_strings_asciiSpace), ("unicode/utf8.first", Rows.laid_unicode_utf8_first)]
theorem laidL_of {W : World} (hs : W.ShapedOpen Tryd.prog) (h : laidMetH Tryd.prog laidL W) : Aside0 (LaidW 9 W) := by
  have hr := reads_of (P := Tryd.prog) (l := laidL) (by rfl) h
  refine ⟨⟨fun _ => ?_, fun e => absurd e (by decide), fun e => absurd e (by decide), fun _ => max_of hs, fun e => absurd e (by decide)⟩⟩
  have := hr "strings.asciiSpace" Rows.laid_strings_asciiSpace (by simp [laidL])
  rw [ascii_eq] at this
  exact ⟨tab_of_reads (P := Tryd.prog) (g := 1) (by kernel_rfl) (by kernel_rfl) Tryd.underlying104 Tryd.underlying5 (by kernel_rfl) (by kernel_rfl) this⟩
def laidN : List (String × DataW Unit) := [("math/bits.deBruijn32tab", Rows.laid_math_bits_deBruijn32tab), ("math/bits.deBruijn64tab", Rows.laid_math_bits_deBruijn64tab), ("internal/strconv.uint64pow10", Rows.laid_internal_strconv_uint64pow10), ("unicode/utf8.acceptRanges", Rows.laid_unicode_utf8_acceptRanges), ("strconv.ErrRange", Rows.laid_strconv_ErrRange), ("strconv.ErrSyntax", Rows.laid_strconv_ErrSyntax), ("unicode.White_Space", Rows.laid_unicode_White_Space), ("strings.asciiSpace", Rows.laid_strings_asciiSpace), ("unicode/utf8.first", Rows.laid_unicode_utf8_first)]
theorem laidN_of {W : World} (hs : W.ShapedOpen Tryd.prog) (h : laidMetH Tryd.prog laidN W) : Aside0 (LaidW 13 W) := by
  have hr := reads_of (P := Tryd.prog) (l := laidN) (by rfl) h
  refine ⟨⟨fun _ => ?_, fun e => absurd e (by decide), fun _ => ?_, fun _ => max_of hs, fun e => absurd e (by decide)⟩⟩
  · have := hr "strings.asciiSpace" Rows.laid_strings_asciiSpace (by simp [laidN])
    rw [ascii_eq] at this
    exact ⟨tab_of_reads (P := Tryd.prog) (g := 1) (by kernel_rfl) (by kernel_rfl) Tryd.underlying104 Tryd.underlying5 (by kernel_rfl) (by kernel_rfl) this⟩
  · have := hr "strconv.ErrRange" Rows.laid_strconv_ErrRange (by simp [laidN])
    exact iface_of_reads (P := Tryd.prog) (g := 7) (by kernel_rfl) (by kernel_rfl) Tryd.underlying81 this
end Go.Proofs.YthidobgadndclaaDoor.P

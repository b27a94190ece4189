/- The rows of package parse's laws: what they list, and the shape of the world, give the premise of the contracts. -/
import Derived.Test.YtdbjjbooalkkbaaGreatDoorRows
import Derived.Test.YtdbjjbooalkkbaaGreatDoorXRow
import Derived.Test.YtdbjjbooalkkbaaGreatDoorPQ0
import Derived.Shelf.Vars
namespace Go.Proofs.YtdbjjbooalkkbaaGreatDoor.P
open Go.RowKit Go.Proofs.YtdbjjbooalkkbaaGreatDoorW.PrintWords Go.WideShapes

theorem ascii_eq : (Rows.laid_strings_asciiSpace : DataW Unit) = Lib.tabData .u8 Lib.asciiSpaceTab := by kernel_rfl
theorem max_of {W : World} (h : W.ShapedOpen Tryz.prog) : LaidMax W :=
  Go.Proofs.cell_of_shapedOpen_int (zero := #[.int .i64 0]) (t := 3) (k := .i64) h (of_decide_eq_true (by kernel_rfl)) (by kernel_rfl) rfl (by kernel_rfl) (by kernel_rfl) Tryz.underlying3
theorem pow_eq : (Rows.laid_internal_strconv_uint64pow10 : DataW Unit) = Lib.tabData .u64 Lib.pow10Tab := by kernel_rfl
theorem letters_eq : (Rows.laid_busbar_addr_letters : DataW Unit) = .agg ([[73], [81], [77]].map fun b => .lit (.string b)) := rfl
theorem contacts_eq : (Rows.laid_busbar_parse_contacts : DataW Unit) = .agg ([[110, 111], [110, 99], [117, 112], [100, 111, 119, 110]].map fun b => .lit (.string b)) := rfl
theorem coils_eq : (Rows.laid_busbar_parse_coils : DataW Unit) = .agg ([[111, 117, 116], [110, 111, 116], [115, 101, 116], [114, 101, 115, 101, 116]].map fun b => .lit (.string b)) := rfl
def laidZ : List (String × DataW Unit) := [("math/bits.deBruijn32tab", Rows.laid_math_bits_deBruijn32tab), ("math/bits.deBruijn64tab", Rows.laid_math_bits_deBruijn64tab), ("internal/strconv.uint64pow10", Rows.laid_internal_strconv_uint64pow10), ("unicode/utf8.acceptRanges", Rows.laid_unicode_utf8_acceptRanges), ("strconv.ErrRange", Rows.laid_strconv_ErrRange), ("strconv.ErrSyntax", Rows.laid_strconv_ErrSyntax), ("unicode.White_Space", Rows.laid_unicode_White_Space), ("strings.asciiSpace", Rows.laid_strings_asciiSpace), ("busbar/addr.letters", Rows.laid_busbar_addr_letters), ("busbar/parse.contacts", Rows.laid_busbar_parse_contacts), ("busbar/parse.coils", Rows.laid_busbar_parse_coils), ("unicode/utf8.first", Rows.laid_unicode_utf8_first)]
theorem laidAll_of {W : World} (hs : W.ShapedOpen Tryz.prog) (h : laidMetH Tryz.prog laidZ W) : Aside0 (LaidW 63 W) := by
  have hr := reads_of (P := Tryz.prog) (l := laidZ) (by rfl) h
  refine ⟨⟨fun _ => ?_, fun _ => ?_, fun _ => ?_, fun _ => max_of hs, fun _ => ?_, fun _ => ?_⟩⟩
  · have := hr "strings.asciiSpace" Rows.laid_strings_asciiSpace (by simp [laidZ])
    rw [ascii_eq] at this
    exact ⟨tab_of_reads (P := Tryz.prog) (g := 3) (by kernel_rfl) (by kernel_rfl) Tryz.underlying126 Tryz.underlying5 (by kernel_rfl) (by kernel_rfl) this⟩
  · have := hr "busbar/addr.letters" Rows.laid_busbar_addr_letters (by simp [laidZ])
    rw [letters_eq] at this
    have hs := strs_of_reads (P := Tryz.prog) (g := 2) (by kernel_rfl) (by kernel_rfl) Tryz.underlying120 Tryz.underlying9 (by kernel_rfl) this
    exact ⟨hs 0 (by decide), hs 1 (by decide), hs 2 (by decide)⟩
  · have := hr "strconv.ErrRange" Rows.laid_strconv_ErrRange (by simp [laidZ])
    exact iface_of_reads (P := Tryz.prog) (g := 8) (by kernel_rfl) (by kernel_rfl) Tryz.underlying82 this
  · have := hr "internal/strconv.uint64pow10" Rows.laid_internal_strconv_uint64pow10 (by simp [laidZ])
    rw [pow_eq] at this
    exact tab_of_reads (P := Tryz.prog) (g := 6) (by kernel_rfl) (by kernel_rfl) Tryz.underlying186 Tryz.underlying157 (by kernel_rfl) (by kernel_rfl) this
  · have h1 := hr "busbar/parse.contacts" Rows.laid_busbar_parse_contacts (by simp [laidZ])
    rw [contacts_eq] at h1
    have hs := strs_of_reads (P := Tryz.prog) (g := 0) (by kernel_rfl) (by kernel_rfl) Tryz.underlying86 Tryz.underlying9 (by kernel_rfl) h1
    have h2 := hr "busbar/parse.coils" Rows.laid_busbar_parse_coils (by simp [laidZ])
    rw [coils_eq] at h2
    have ht := strs_of_reads (P := Tryz.prog) (g := 1) (by kernel_rfl) (by kernel_rfl) Tryz.underlying86 Tryz.underlying9 (by kernel_rfl) h2
    exact ⟨hs 0 (by decide), hs 1 (by decide), hs 2 (by decide), hs 3 (by decide), ht 0 (by decide), ht 1 (by decide), ht 2 (by decide), ht 3 (by decide)⟩
theorem laidZ_of {W : World} (hs : W.ShapedOpen Tryz.prog) (h : laidMetH Tryz.prog laidZ W) : Aside0 (LaidW 47 W) := LaidW.below (laidAll_of hs h) rfl (Below.refl _ _)
end Go.Proofs.YtdbjjbooalkkbaaGreatDoor.P

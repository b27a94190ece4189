/- The rows of package addr's laws: what they list gives the premise of the contracts; the struct parameters. -/
import Derived.Test.YthidobgadndclaaDoorRows
import Derived.Test.YthidobgadndclaaDoorXRow
import Derived.Test.YthidobgadndclaaDoorPA0
namespace Go.Proofs.YthidobgadndclaaDoor.P
open Go.RowKit Go.Proofs.YthidobgadndclaaDoorW.PrintWords Go.WideShapes

theorem pow_eq : (Rows.laid_internal_strconv_uint64pow10 : DataW Unit) = Lib.tabData .u64 Lib.pow10Tab := by kernel_rfl
theorem letters_eq : (Rows.laid_busbar_addr_letters : DataW Unit) = .agg ([[73], [81], [77]].map fun b => .lit (.string b)) := rfl
def laidA : List (String × DataW Unit) := [("math/bits.deBruijn32tab", Rows.laid_math_bits_deBruijn32tab), ("math/bits.deBruijn64tab", Rows.laid_math_bits_deBruijn64tab), ("internal/strconv.uint64pow10", Rows.laid_internal_strconv_uint64pow10), ("unicode/utf8.acceptRanges", Rows.laid_unicode_utf8_acceptRanges), ("strconv.ErrRange", Rows.laid_strconv_ErrRange), ("strconv.ErrSyntax", Rows.laid_strconv_ErrSyntax), ("busbar/addr.letters", Rows.laid_busbar_addr_letters), ("unicode/utf8.first", Rows.laid_unicode_utf8_first)]
theorem laidA_of {W : World} (h : laidMetH Tryd.prog laidA W) : Aside0 (LaidW 22 W) := by
  have hr := reads_of (P := Tryd.prog) (l := laidA) (by rfl) h
  refine ⟨⟨fun e => absurd e (by decide), fun _ => ?_, fun _ => ?_, fun e => absurd e (by decide), fun _ => ?_⟩⟩
  · have := hr "busbar/addr.letters" Rows.laid_busbar_addr_letters (by simp [laidA])
    rw [letters_eq] at this
    have hs := strs_of_reads (P := Tryd.prog) (g := 0) (by kernel_rfl) (by kernel_rfl) Tryd.underlying94 Tryd.underlying9 (by kernel_rfl) this
    exact ⟨hs 0 (by decide), hs 1 (by decide), hs 2 (by decide)⟩
  · have := hr "strconv.ErrRange" Rows.laid_strconv_ErrRange (by simp [laidA])
    exact iface_of_reads (P := Tryd.prog) (g := 7) (by kernel_rfl) (by kernel_rfl) Tryd.underlying81 this
  · have := hr "internal/strconv.uint64pow10" Rows.laid_internal_strconv_uint64pow10 (by simp [laidA])
    rw [pow_eq] at this
    exact tab_of_reads (P := Tryd.prog) (g := 8) (by kernel_rfl) (by kernel_rfl) Tryd.underlying177 Tryd.underlying112 (by kernel_rfl) (by kernel_rfl) this

theorem opensAddr : Opens Tryd.prog 45 k45 (fun y => (Lit.int .i64 y.f0).wf = true ∧ (Lit.int .i64 y.f1).wf = true) :=
  Opens.struct (P := Tryd.prog) (fun x : Int × Int => (⟨x.1, x.2⟩ : S45)) (fun _ => rfl) Tryd.underlying45 (by kernel_rfl)
    (OpensF.cons (by kernel_rfl) (Opens.int Tryd.underlying3) (OpensF.one (by kernel_rfl) (Opens.int Tryd.underlying3)))
end Go.Proofs.YthidobgadndclaaDoor.P

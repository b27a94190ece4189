/- Several texts in one: XRowZ, XRowY, XRowO. -/
import Derived.Test.YtdbjjbooalkkbaaGreatDoorRows
import Derived.Test.YtdbjjbooalkkbaaGreatDoorXRow
import Derived.Test.YtdbjjbooalkkbaaGreatDoorPQ0
import Derived.Shelf.Vars
import Derived.Deep.Slices
/- The rows of package parse's laws: what they list, and the shape of the world, give the premise of the contracts. -/
namespace Go.Proofs.YtdbjjbooalkkbaaGreatDoor.P
open Go.RowKit Go.Proofs.YtdbjjbooalkkbaaGreatDoorW.PrintWords Go.WideShapes

theorem ascii_eq : (Rows.laid_strings_asciiSpace : DataW Unit) = Lib.tabData .u8 Lib.asciiSpaceTab := by kernel_rfl
theorem max_of {W : World} (h : W.ShapedOpen Tryz.prog) : LaidMax W :=
  Go.Proofs.cell_of_shapedOpen_int (zero := #[.int .i64 0]) (t := 3) (k := .i64) h (of_decide_eq_true (by kernel_rfl)) (by kernel_rfl) rfl (by kernel_rfl) (by kernel_rfl) Tryz.underlying3
theorem pow_eq : (Rows.laid_internal_strconv_uint64pow10 : DataW Unit) = Lib.tabData .u64 Lib.pow10Tab := by kernel_rfl
theorem letters_eq : (Rows.laid_busbar_addr_letters : DataW Unit) = .agg ([[73], [81], [77]].map fun b => .lit (.string b)) := rfl
theorem contacts_eq : (Rows.laid_busbar_parse_contacts : DataW Unit) = .agg ([[110, 111], [110, 99], [117, 112], [100, 111, 119, 110]].map fun b => .lit (.string b)) := rfl
theorem coils_eq : (Rows.laid_busbar_parse_coils : DataW Unit) = .agg ([[111, 117, 116], [110, 111, 116], [115, 101, 116], [114, 101, 115, 101, 116]].map fun b => .lit (.string b)) := rfl
def laidZ : List (String × DataW Unit) := [("math/bits.deBruijn32tab", Rows.laid_math_bits_deBruijn32tab), ("math/bits.deBruijn64tab", Rows.laid_math_bits_deBruijn64tab), ("internal/strconv.uint64pow10", Rows.laid_internal_strconv_uint64pow10), ("unicode/utf8.acceptRanges", Rows.laid_unicode_utf8_acceptRanges), ("strconv.ErrRange", Rows.laid_strconv_ErrRange), ("strconv.ErrSyntax", Rows.laid_strconv_ErrSyntax), ("unicode.White_Space", Rows.laid_unicode_White_Space), ("strings.asciiSpace", Rows.laid_strings_asciiSpace), ("busbar/addr.letters", Rows.laid_busbar_addr_letters), ("busbar/parse.contacts", Rows.laid_busbar_parse_contacts), ("busbar/parse.coils", Rows.laid_busbar_parse_coils), ("unicode/utf8.first", Rows.laid_unicode_utf8_first)]
theorem laidAll_of {W : World} (hs : W.ShapedOpen Tryz.prog) (h : laidMetH Tryz.prog laidZ W) : Aside0 (LaidW 63 W) := by
  have hr := reads_of (P := Tryz.prog) (l := laidZ) (by rfl) h
  refine ⟨⟨fun _ => ?_, fun _ => ?_, fun _ => ?_, fun _ => max_of hs, fun _ => ?_, fun _ => ?_⟩⟩
  · have := hr "strings.asciiSpace" Rows.laid_strings_asciiSpace (by simp [laidZ])
    rw [ascii_eq] at this
    exact ⟨tab_of_reads (P := Tryz.prog) (g := 3) (by kernel_rfl) (by kernel_rfl) Tryz.underlying126 Tryz.underlying5 (by kernel_rfl) (by kernel_rfl) this⟩
  · have := hr "busbar/addr.letters" Rows.laid_busbar_addr_letters (by simp [laidZ])
    rw [letters_eq] at this
    have hs := strs_of_reads (P := Tryz.prog) (g := 2) (by kernel_rfl) (by kernel_rfl) Tryz.underlying120 Tryz.underlying9 (by kernel_rfl) this
    exact ⟨hs 0 (by decide), hs 1 (by decide), hs 2 (by decide)⟩
  · have := hr "strconv.ErrRange" Rows.laid_strconv_ErrRange (by simp [laidZ])
    exact iface_of_reads (P := Tryz.prog) (g := 8) (by kernel_rfl) (by kernel_rfl) Tryz.underlying82 this
  · have := hr "internal/strconv.uint64pow10" Rows.laid_internal_strconv_uint64pow10 (by simp [laidZ])
    rw [pow_eq] at this
    exact tab_of_reads (P := Tryz.prog) (g := 6) (by kernel_rfl) (by kernel_rfl) Tryz.underlying186 Tryz.underlying157 (by kernel_rfl) (by kernel_rfl) this
  · have h1 := hr "busbar/parse.contacts" Rows.laid_busbar_parse_contacts (by simp [laidZ])
    rw [contacts_eq] at h1
    have hs := strs_of_reads (P := Tryz.prog) (g := 0) (by kernel_rfl) (by kernel_rfl) Tryz.underlying86 Tryz.underlying9 (by kernel_rfl) h1
    have h2 := hr "busbar/parse.coils" Rows.laid_busbar_parse_coils (by simp [laidZ])
    rw [coils_eq] at h2
    have ht := strs_of_reads (P := Tryz.prog) (g := 1) (by kernel_rfl) (by kernel_rfl) Tryz.underlying86 Tryz.underlying9 (by kernel_rfl) h2
    exact ⟨hs 0 (by decide), hs 1 (by decide), hs 2 (by decide), hs 3 (by decide), ht 0 (by decide), ht 1 (by decide), ht 2 (by decide), ht 3 (by decide)⟩
theorem laidZ_of {W : World} (hs : W.ShapedOpen Tryz.prog) (h : laidMetH Tryz.prog laidZ W) : Aside0 (LaidW 47 W) := LaidW.below (laidAll_of hs h) rfl (Below.refl _ _)
end Go.Proofs.YtdbjjbooalkkbaaGreatDoor.P

/- The rows that need every listed variable. -/
namespace Go.Proofs.YtdbjjbooalkkbaaGreatDoor.P
open Go.RowKit Go.Proofs.YtdbjjbooalkkbaaGreatDoorW.PrintWords Go.WideShapes
def laidY : List (String × DataW Unit) := laidZ
theorem laidY_of {W : World} (hs : W.ShapedOpen Tryz.prog) (h : laidMetH Tryz.prog laidY W) : Aside0 (LaidW 63 W) := laidAll_of hs h
end Go.Proofs.YtdbjjbooalkkbaaGreatDoor.P

/- Ladders and rungs as parameters. -/
set_option linter.unusedVariables false
namespace Go.Proofs.YtdbjjbooalkkbaaGreatDoor.P
open Go.RowKit Go.Proofs.YtdbjjbooalkkbaaGreatDoorW.PrintWords Go.WideShapes

theorem list_of2 {α : Type} (p : Nat → α → Prop) : ∀ n, (∀ i, i < n → ∃ x, p i x) → ∃ xs : List α, xs.length = n ∧ ∀ i x, xs[i]? = some x → p i x
  | 0, _ => ⟨[], rfl, fun i x h => by simp at h⟩
  | n + 1, h => by
    obtain ⟨xs, hl, hx⟩ := list_of2 p n (fun i hi => h i (by omega))
    obtain ⟨y, hy⟩ := h n (by omega)
    refine ⟨xs ++ [y], by simp [hl], fun i x hi => ?_⟩
    by_cases hlt : i < xs.length
    · rw [List.getElem?_append_left hlt] at hi
      exact hx i x hi
    · rw [List.getElem?_append_right (by omega)] at hi
      obtain ⟨h0, rfl⟩ : i = xs.length ∧ y = x := by
        cases hk : i - xs.length with
        | zero => rw [hk] at hi; exact ⟨by omega, by simpa using hi⟩
        | succ k => rw [hk] at hi; simp at hi
      rw [h0, hl]
      exact hy
theorem Opens.slice {α : Type} {P : Program} {T e : TypeId} {d : Kd α} {g : α → Prop} (ht : P.underlying T = some (.slice e)) (hc : P.cellsOf e = d.sz) (h : Opens P e d g) :
    Opens P T (Kd.slice e d) (fun l => l.length ≤ maxLen ∧ ∀ x ∈ l, g x) := by
  intro H enc W sp held fuel cs y hy
  rcases Go.Deep.open_slice ht hy with ⟨rfl, _⟩ | ⟨a, len, cap, m, n, D, Pl, rfl, hb, hl, hm, hmm, hx, hi⟩
  · exact ⟨[], ⟨none, 0, rfl, Nat.le_refl _, rfl, Nat.zero_le _, fun h => absurd h (Nat.lt_irrefl 0)⟩, Nat.zero_le _, fun x hx => by simp at hx⟩
  · have hlm : len ≤ m := by subst hmm; split <;> omega
    have hall : ∀ i, i < len → ∃ x, (∃ cs', W.cells? 0 (a.add (i * P.cellsOf e)) (P.cellsOf e) = some cs' ∧ d.K W x cs') ∧ g x := fun i hlt => by
      obtain ⟨cs', h1, h2⟩ := hi i (by omega)
      obtain ⟨x, hk, hg⟩ := h enc W sp held n cs' _ h2
      exact ⟨x, ⟨cs', h1, hk⟩, hg⟩
    obtain ⟨xs, hxl, hxs⟩ := list_of2 _ len hall
    have hmx : maxLen ≤ 9223372036854775807 := by decide
    refine ⟨xs, ⟨some a, cap, by rw [hxl], by omega, rfl, by omega, fun _ => ⟨a, rfl, fun j p hj => ?_⟩⟩, by omega, fun x hx => ?_⟩
    · obtain ⟨⟨cs', h1, h2⟩, _⟩ := hxs j p hj
      obtain ⟨_, hcl, hat⟩ := World.cells?_some h1
      refine ⟨cs', by rw [hcl, hc], h2, fun i u hu => ?_⟩
      have hil : i < P.cellsOf e := by rw [← hcl]; exact (List.getElem?_eq_some_iff.1 hu).1
      have := hat i hil
      rw [hu, hc] at this
      rw [← this]
      rw [Addr.add_add]
    · obtain ⟨j, hj⟩ := List.mem_iff_getElem?.1 hx
      exact (hxs j x hj).2
theorem Opens.imp {α : Type} {P : Program} {T : TypeId} {d : Kd α} {g g' : α → Prop} (h : Opens P T d g) (hg : ∀ x, g x → g' x) : Opens P T d g' := by
  intro H enc W sp held fuel cs y hy
  obtain ⟨x, hk, hx⟩ := h enc W sp held fuel cs y hy
  exact ⟨x, hk, hg x hx⟩
theorem opensAddr : Opens Tryz.prog 49 k49 (fun _ => True) :=
  Opens.imp (Opens.struct (P := Tryz.prog) (fun x : Int × Int => (⟨x.1, x.2⟩ : S49)) (f := fun x : S49 => (x.f0, x.f1)) (fun _ => rfl) Tryz.underlying49 (by kernel_rfl)
    (OpensF.cons (by kernel_rfl) (Opens.int Tryz.underlying3) (OpensF.one (by kernel_rfl) (Opens.int Tryz.underlying3)))) (fun _ hg => trivial)
theorem opensContact : Opens Tryz.prog 51 k51 (fun _ => True) :=
  Opens.imp (Opens.struct (P := Tryz.prog) (fun x : Int × S49 × ByteArray × ByteArray => (⟨x.1, x.2.1, x.2.2.1, x.2.2.2⟩ : S51)) (f := fun x : S51 => (x.f0, x.f1, x.f2, x.f3)) (fun _ => rfl) Tryz.underlying51 (by kernel_rfl)
    (OpensF.cons (by kernel_rfl) (Opens.int Tryz.underlying3) (OpensF.cons (by kernel_rfl) opensAddr (OpensF.cons (by kernel_rfl) (Opens.string Tryz.underlying9) (OpensF.one (by kernel_rfl) (Opens.string Tryz.underlying9)))))) (fun _ hg => trivial)
theorem opensCoil : Opens Tryz.prog 75 k75 (fun _ => True) :=
  Opens.imp (Opens.struct (P := Tryz.prog) (fun x : Int × S49 => (⟨x.1, x.2⟩ : S75)) (f := fun x : S75 => (x.f0, x.f1)) (fun _ => rfl) Tryz.underlying75 (by kernel_rfl)
    (OpensF.cons (by kernel_rfl) (Opens.int Tryz.underlying3) (OpensF.one (by kernel_rfl) opensAddr))) (fun _ hg => trivial)
theorem opensRung : Opens Tryz.prog 47 k47 (fun r => r.f1.length ≤ maxLen ∧ r.f2.length ≤ maxLen) :=
  Opens.imp (Opens.struct (P := Tryz.prog) (fun x : ByteArray × List S51 × List S75 × ByteArray => (⟨x.1, x.2.1, x.2.2.1, x.2.2.2⟩ : S47)) (f := fun x : S47 => (x.f0, x.f1, x.f2, x.f3)) (fun _ => rfl) Tryz.underlying47 (by kernel_rfl)
    (OpensF.cons (by kernel_rfl) (Opens.string Tryz.underlying9) (OpensF.cons (by kernel_rfl) (Opens.slice Tryz.underlying44 (by kernel_rfl) opensContact) (OpensF.cons (by kernel_rfl) (Opens.slice Tryz.underlying45 (by kernel_rfl) opensCoil) (OpensF.one (by kernel_rfl) (Opens.string Tryz.underlying9)))))) (fun _ hg => ⟨hg.2.1.1, hg.2.2.1.1⟩)
theorem opensLadder : Opens Tryz.prog 25 k25 (fun l => l.f3.length ≤ maxLen ∧ ∀ r ∈ l.f3, r.f1.length ≤ maxLen ∧ r.f2.length ≤ maxLen) :=
  Opens.imp (Opens.struct (P := Tryz.prog) (fun x : Int × Int × Int × List S47 => (⟨x.1, x.2.1, x.2.2.1, x.2.2.2⟩ : S25)) (f := fun x : S25 => (x.f0, x.f1, x.f2, x.f3)) (fun _ => rfl) Tryz.underlying25 (by kernel_rfl)
    (OpensF.cons (by kernel_rfl) (Opens.int Tryz.underlying3) (OpensF.cons (by kernel_rfl) (Opens.int Tryz.underlying3) (OpensF.cons (by kernel_rfl) (Opens.int Tryz.underlying3) (OpensF.one (by kernel_rfl) (Opens.slice Tryz.underlying23 (by kernel_rfl) opensRung)))))) (fun _ hg => hg.2.2.2)
end Go.Proofs.YtdbjjbooalkkbaaGreatDoor.P

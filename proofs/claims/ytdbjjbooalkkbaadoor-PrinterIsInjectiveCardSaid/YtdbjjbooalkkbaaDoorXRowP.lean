/- The rows of package printer's laws: what they list gives the premise of the contracts; the ladder as a parameter. -/
import Derived.Test.YtdbjjbooalkkbaaDoorRows
import Derived.Test.YtdbjjbooalkkbaaDoorXRow
import Derived.Test.YtdbjjbooalkkbaaDoorPQ0
import Derived.Deep.Slices
namespace Go.Proofs.YtdbjjbooalkkbaaDoor.P
open Go.RowKit Go.Proofs.YtdbjjbooalkkbaaDoorW.PrintWords Go.WideShapes

theorem pow_eq : (Rows.laid_internal_strconv_uint64pow10 : DataW Unit) = Lib.tabData .u64 Lib.pow10Tab := by kernel_rfl
theorem letters_eq : (Rows.laid_busbar_addr_letters : DataW Unit) = .agg ([[73], [81], [77]].map fun b => .lit (.string b)) := rfl
theorem contacts_eq : (Rows.laid_busbar_parse_contacts : DataW Unit) = .agg ([[110, 111], [110, 99], [117, 112], [100, 111, 119, 110]].map fun b => .lit (.string b)) := rfl
theorem coils_eq : (Rows.laid_busbar_parse_coils : DataW Unit) = .agg ([[111, 117, 116], [110, 111, 116], [115, 101, 116], [114, 101, 115, 101, 116]].map fun b => .lit (.string b)) := rfl
def laidR : List (String × DataW Unit) := [("math/bits.deBruijn32tab", Rows.laid_math_bits_deBruijn32tab), ("math/bits.deBruijn64tab", Rows.laid_math_bits_deBruijn64tab), ("internal/strconv.uint64pow10", Rows.laid_internal_strconv_uint64pow10), ("busbar/addr.letters", Rows.laid_busbar_addr_letters), ("busbar/parse.contacts", Rows.laid_busbar_parse_contacts), ("busbar/parse.coils", Rows.laid_busbar_parse_coils)]
theorem laidR_of {W : World} (h : laidMetH Tryd.prog laidR W) : Aside0 (LaidW 50 W) := by
  have hr := reads_of (P := Tryd.prog) (l := laidR) (by rfl) h
  refine ⟨⟨fun e => absurd e (by decide), fun _ => ?_, fun e => absurd e (by decide), fun e => absurd e (by decide), fun _ => ?_, fun _ => ?_⟩⟩
  · have := hr "busbar/addr.letters" Rows.laid_busbar_addr_letters (by simp [laidR])
    rw [letters_eq] at this
    have hs := strs_of_reads (P := Tryd.prog) (g := 2) (by kernel_rfl) (by kernel_rfl) Tryd.underlying99 Tryd.underlying9 (by kernel_rfl) this
    exact ⟨hs 0 (by decide), hs 1 (by decide), hs 2 (by decide)⟩
  · have := hr "internal/strconv.uint64pow10" Rows.laid_internal_strconv_uint64pow10 (by simp [laidR])
    rw [pow_eq] at this
    exact tab_of_reads (P := Tryd.prog) (g := 4) (by kernel_rfl) (by kernel_rfl) Tryd.underlying138 Tryd.underlying115 (by kernel_rfl) (by kernel_rfl) this
  · have h1 := hr "busbar/parse.contacts" Rows.laid_busbar_parse_contacts (by simp [laidR])
    rw [contacts_eq] at h1
    have hs := strs_of_reads (P := Tryd.prog) (g := 0) (by kernel_rfl) (by kernel_rfl) Tryd.underlying92 Tryd.underlying9 (by kernel_rfl) h1
    have h2 := hr "busbar/parse.coils" Rows.laid_busbar_parse_coils (by simp [laidR])
    rw [coils_eq] at h2
    have ht := strs_of_reads (P := Tryd.prog) (g := 1) (by kernel_rfl) (by kernel_rfl) Tryd.underlying92 Tryd.underlying9 (by kernel_rfl) h2
    exact ⟨hs 0 (by decide), hs 1 (by decide), hs 2 (by decide), hs 3 (by decide), ht 0 (by decide), ht 1 (by decide), ht 2 (by decide), ht 3 (by decide)⟩

theorem list_of2 {α : Type} (p : Nat → α → Prop) : ∀ n, (∀ i, i < n → ∃ x, p i x) → ∃ xs : List α, xs.length = n ∧ ∀ i x, xs[i]? = some x → p i x
  | 0, _ => ⟨[], rfl, fun i x h => by simp at h⟩
  | n + 1, h => by
    obtain ⟨xs, hl, hx⟩ := list_of2 p n (fun i hi => h i (by omega))
    obtain ⟨y, hy⟩ := h n (by omega)
    refine ⟨xs ++ [y], by simp [hl], fun i x hi => ?_⟩
    by_cases hlt : i < xs.length
    · rw [List.getElem?_append_left hlt] at hi
      exact hx i x hi
    · rw [List.getElem?_append_right (by omega)] at hi
      obtain ⟨h0, rfl⟩ : i = xs.length ∧ y = x := by
        cases hk : i - xs.length with
        | zero => rw [hk] at hi; exact ⟨by omega, by simpa using hi⟩
        | succ k => rw [hk] at hi; simp at hi
      rw [h0, hl]
      exact hy
theorem Opens.slice {α : Type} {P : Program} {T e : TypeId} {d : Kd α} {g : α → Prop} (ht : P.underlying T = some (.slice e)) (hc : P.cellsOf e = d.sz) (h : Opens P e d g) :
    Opens P T (Kd.slice e d) (fun l => l.length ≤ maxLen ∧ ∀ x ∈ l, g x) := by
  intro H enc W sp held fuel cs y hy
  rcases Go.Deep.open_slice ht hy with ⟨rfl, _⟩ | ⟨a, len, cap, m, n, D, Pl, rfl, hb, hl, hm, hmm, hx, hi⟩
  · exact ⟨[], ⟨none, 0, rfl, Nat.le_refl _, rfl, Nat.zero_le _, fun h => absurd h (Nat.lt_irrefl 0)⟩, Nat.zero_le _, fun x hx => by simp at hx⟩
  · have hlm : len ≤ m := by subst hmm; split <;> omega
    have hall : ∀ i, i < len → ∃ x, (∃ cs', W.cells? 0 (a.add (i * P.cellsOf e)) (P.cellsOf e) = some cs' ∧ d.K W x cs') ∧ g x := fun i hlt => by
      obtain ⟨cs', h1, h2⟩ := hi i (by omega)
      obtain ⟨x, hk, hg⟩ := h enc W sp held n cs' _ h2
      exact ⟨x, ⟨cs', h1, hk⟩, hg⟩
    obtain ⟨xs, hxl, hxs⟩ := list_of2 _ len hall
    have hmx : maxLen ≤ 9223372036854775807 := by decide
    refine ⟨xs, ⟨some a, cap, by rw [hxl], by omega, rfl, by omega, fun _ => ⟨a, rfl, fun j p hj => ?_⟩⟩, by omega, fun x hx => ?_⟩
    · obtain ⟨⟨cs', h1, h2⟩, _⟩ := hxs j p hj
      obtain ⟨_, hcl, hat⟩ := World.cells?_some h1
      refine ⟨cs', by rw [hcl, hc], h2, fun i u hu => ?_⟩
      have hil : i < P.cellsOf e := by rw [← hcl]; exact (List.getElem?_eq_some_iff.1 hu).1
      have := hat i hil
      rw [hu, hc] at this
      rw [← this]
      rw [Addr.add_add]
    · obtain ⟨j, hj⟩ := List.mem_iff_getElem?.1 hx
      exact (hxs j x hj).2
theorem Opens.imp {α : Type} {P : Program} {T : TypeId} {d : Kd α} {g g' : α → Prop} (h : Opens P T d g) (hg : ∀ x, g x → g' x) : Opens P T d g' := by
  intro H enc W sp held fuel cs y hy
  obtain ⟨x, hk, hx⟩ := h enc W sp held fuel cs y hy
  exact ⟨x, hk, hg x hx⟩
theorem opensAddr : Opens Tryd.prog 42 k42 (fun _ => True) :=
  Opens.imp (Opens.struct (P := Tryd.prog) (fun x : Int × Int => (⟨x.1, x.2⟩ : S42)) (f := fun x : S42 => (x.f0, x.f1)) (fun _ => rfl) Tryd.underlying42 (by kernel_rfl)
    (OpensF.cons (by kernel_rfl) (Opens.int Tryd.underlying3) (OpensF.one (by kernel_rfl) (Opens.int Tryd.underlying3)))) (fun _ hg => trivial)
theorem opensContact : Opens Tryd.prog 44 k44 (fun _ => True) :=
  Opens.imp (Opens.struct (P := Tryd.prog) (fun x : Int × S42 × ByteArray × ByteArray => (⟨x.1, x.2.1, x.2.2.1, x.2.2.2⟩ : S44)) (f := fun x : S44 => (x.f0, x.f1, x.f2, x.f3)) (fun _ => rfl) Tryd.underlying44 (by kernel_rfl)
    (OpensF.cons (by kernel_rfl) (Opens.int Tryd.underlying3) (OpensF.cons (by kernel_rfl) opensAddr (OpensF.cons (by kernel_rfl) (Opens.string Tryd.underlying9) (OpensF.one (by kernel_rfl) (Opens.string Tryd.underlying9)))))) (fun _ hg => trivial)
theorem opensCoil : Opens Tryd.prog 47 k47 (fun _ => True) :=
  Opens.imp (Opens.struct (P := Tryd.prog) (fun x : Int × S42 => (⟨x.1, x.2⟩ : S47)) (f := fun x : S47 => (x.f0, x.f1)) (fun _ => rfl) Tryd.underlying47 (by kernel_rfl)
    (OpensF.cons (by kernel_rfl) (Opens.int Tryd.underlying3) (OpensF.one (by kernel_rfl) opensAddr))) (fun _ hg => trivial)
theorem opensRung : Opens Tryd.prog 28 k28 (fun r => r.f1.length ≤ maxLen ∧ r.f2.length ≤ maxLen) :=
  Opens.imp (Opens.struct (P := Tryd.prog) (fun x : ByteArray × List S44 × List S47 × ByteArray => (⟨x.1, x.2.1, x.2.2.1, x.2.2.2⟩ : S28)) (f := fun x : S28 => (x.f0, x.f1, x.f2, x.f3)) (fun _ => rfl) Tryd.underlying28 (by kernel_rfl)
    (OpensF.cons (by kernel_rfl) (Opens.string Tryd.underlying9) (OpensF.cons (by kernel_rfl) (Opens.slice Tryd.underlying25 (by kernel_rfl) opensContact) (OpensF.cons (by kernel_rfl) (Opens.slice Tryd.underlying26 (by kernel_rfl) opensCoil) (OpensF.one (by kernel_rfl) (Opens.string Tryd.underlying9)))))) (fun _ hg => ⟨hg.2.1.1, hg.2.2.1.1⟩)
theorem opensLadder : Opens Tryd.prog 24 k24 (fun l => l.f3.length ≤ maxLen ∧ ∀ r ∈ l.f3, r.f1.length ≤ maxLen ∧ r.f2.length ≤ maxLen) :=
  Opens.imp (Opens.struct (P := Tryd.prog) (fun x : Int × Int × Int × List S28 => (⟨x.1, x.2.1, x.2.2.1, x.2.2.2⟩ : S24)) (f := fun x : S24 => (x.f0, x.f1, x.f2, x.f3)) (fun _ => rfl) Tryd.underlying24 (by kernel_rfl)
    (OpensF.cons (by kernel_rfl) (Opens.int Tryd.underlying3) (OpensF.cons (by kernel_rfl) (Opens.int Tryd.underlying3) (OpensF.cons (by kernel_rfl) (Opens.int Tryd.underlying3) (OpensF.one (by kernel_rfl) (Opens.slice Tryd.underlying22 (by kernel_rfl) opensRung)))))) (fun _ hg => hg.2.2.2)
end Go.Proofs.YtdbjjbooalkkbaaDoor.P

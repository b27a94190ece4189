/- The premise on the world that the contracts of this seat carry: the package-level variables of Go's library and of package addr that are listed, as they are laid. -/
import Derived.Test.YtdbjjbooalkkbaaGreatDoorProg
import Derived.Test.YtdbjjbooalkkbaaGreatDoorYW
import Derived.Shelf.Unicode.DecodeSlow
import Derived.Lib.LaidTab
import Derived.Lib.Space
import Derived.Lib.ItoaNum
namespace Go.Proofs.YtdbjjbooalkkbaaGreatDoor.P
open Go.RowKit Go.Proofs.YtdbjjbooalkkbaaGreatDoorW.PrintWords

/-- The tables of strings.Fields and of the decoder. -/
structure LaidTabs (w : World) : Prop where
  ascii : Lib.TabIs Tryz.prog w "strings.asciiSpace" .u8 Lib.asciiSpaceTab
/-- addr.letters. -/
structure LaidLetters (w : World) : Prop where
  c0 : w.cell? ⟨2, 0, none⟩ = some (.string ⟨#[73]⟩)
  c1 : w.cell? ⟨2, 1, none⟩ = some (.string ⟨#[81]⟩)
  c2 : w.cell? ⟨2, 2, none⟩ = some (.string ⟨#[77]⟩)
/-- parse.contacts and parse.coils. -/
structure LaidKey (w : World) : Prop where
  a0 : w.cell? ⟨0, 0, none⟩ = some (.string ⟨#[110, 111]⟩)
  a1 : w.cell? ⟨0, 1, none⟩ = some (.string ⟨#[110, 99]⟩)
  a2 : w.cell? ⟨0, 2, none⟩ = some (.string ⟨#[117, 112]⟩)
  a3 : w.cell? ⟨0, 3, none⟩ = some (.string ⟨#[100, 111, 119, 110]⟩)
  b0 : w.cell? ⟨1, 0, none⟩ = some (.string ⟨#[111, 117, 116]⟩)
  b1 : w.cell? ⟨1, 1, none⟩ = some (.string ⟨#[110, 111, 116]⟩)
  b2 : w.cell? ⟨1, 2, none⟩ = some (.string ⟨#[115, 101, 116]⟩)
  b3 : w.cell? ⟨1, 3, none⟩ = some (.string ⟨#[114, 101, 115, 101, 116]⟩)
/-- strconv.ErrRange. -/
def LaidRange (w : World) : Prop := ∃ tp p, w.var? Tryz.prog "strconv.ErrRange" = some #[.iface tp p]
/-- internal/bytealg.MaxLen. -/
def LaidMax (w : World) : Prop := ∃ m, w.cell? ⟨5, 0, none⟩ = some (.int .i64 m)
/-- internal/strconv.uint64pow10. -/
def LaidPow (w : World) : Prop := Lib.TabIs Tryz.prog w "internal/strconv.uint64pow10" .u64 Lib.pow10Tab

theorem var_below {w W : World} {name : String} {cs : Array Value} (hv : w.var? Tryz.prog name = some cs) (hb : Below w.heap.size w W) : W.var? Tryz.prog name = some cs := by
  unfold World.var? at hv ⊢
  obtain ⟨g, hg, h⟩ := Option.bind_eq_some_iff.mp hv
  rw [hg, Option.bind_some]
  cases hh : w.heap[g]? with
  | none => rw [hh] at h; cases h
  | some o =>
    have hlt : g < w.heap.size := (Array.getElem?_eq_some_iff.mp hh).1
    rw [hb.block g hlt, hh]
    rw [hh] at h
    exact h

/-- The parts of the premise by the bits of a number: 1 tables, 2 letters, 4 the error, 8 MaxLen, 16 the powers of ten. -/
structure LaidW (m : Nat) (w : World) : Prop where
  tabs : m.testBit 0 = true → LaidTabs w
  letters : m.testBit 1 = true → LaidLetters w
  range : m.testBit 2 = true → LaidRange w
  max : m.testBit 3 = true → LaidMax w
  pow : m.testBit 4 = true → LaidPow w
  key : m.testBit 5 = true → LaidKey w

theorem LaidTabs.on {w W : World} (h : LaidTabs w) (hb : Below w.heap.size w W) : LaidTabs W := ⟨var_below h.ascii hb⟩
theorem LaidLetters.on {w W : World} (h : LaidLetters w) (hb : Below w.heap.size w W) : LaidLetters W := ⟨pw_cell_below hb h.c0, pw_cell_below hb h.c1, pw_cell_below hb h.c2⟩
theorem LaidKey.on {w W : World} (h : LaidKey w) (hb : Below w.heap.size w W) : LaidKey W := ⟨pw_cell_below hb h.a0, pw_cell_below hb h.a1, pw_cell_below hb h.a2, pw_cell_below hb h.a3, pw_cell_below hb h.b0, pw_cell_below hb h.b1, pw_cell_below hb h.b2, pw_cell_below hb h.b3⟩
theorem LaidRange.on {w W : World} (h : LaidRange w) (hb : Below w.heap.size w W) : LaidRange W := by
  obtain ⟨tp, p, h⟩ := h
  exact ⟨tp, p, var_below h hb⟩
theorem LaidMax.on {w W : World} (h : LaidMax w) (hb : Below w.heap.size w W) : LaidMax W := by
  obtain ⟨m, h⟩ := h
  exact ⟨m, pw_cell_below hb h⟩
theorem LaidPow.on {w W : World} (h : LaidPow w) (hb : Below w.heap.size w W) : LaidPow W := var_below h hb

theorem bits_sub {m m' : Nat} (hm : (m &&& m' == m') = true) (i : Nat) (h : m'.testBit i = true) : m.testBit i = true := by
  have e : m &&& m' = m' := by simpa using hm
  rw [← e, Nat.testBit_and] at h
  simp only [Bool.and_eq_true] at h
  exact h.1
theorem LaidW.below {m m' : Nat} {w W : World} (h : Aside0 (LaidW m w)) (hm : (m &&& m' == m') = true) (hb : Below w.heap.size w W) : Aside0 (LaidW m' W) :=
  ⟨⟨fun e => (h.out.tabs (bits_sub hm _ e)).on hb, fun e => (h.out.letters (bits_sub hm _ e)).on hb, fun e => (h.out.range (bits_sub hm _ e)).on hb, fun e => (h.out.max (bits_sub hm _ e)).on hb, fun e => (h.out.pow (bits_sub hm _ e)).on hb, fun e => (h.out.key (bits_sub hm _ e)).on hb⟩⟩
theorem LaidW.drawn {m m' : Nat} {w W : World} (h : Aside0 (LaidW m w)) (hm : (m &&& m' == m') = true) (hb : Drawn0 w W) : Aside0 (LaidW m' W) := LaidW.below h hm hb.below
theorem LaidW.sub {m m' : Nat} {w : World} (h : Aside0 (LaidW m w)) (hm : (m &&& m' == m') = true) : Aside0 (LaidW m' w) := LaidW.below h hm (Below.refl _ _)
end Go.Proofs.YtdbjjbooalkkbaaGreatDoor.P

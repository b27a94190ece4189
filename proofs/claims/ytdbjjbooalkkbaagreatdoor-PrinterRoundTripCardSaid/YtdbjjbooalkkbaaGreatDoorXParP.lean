/- Several texts in one: XLineT, XParP. -/
import Derived.Test.YtdbjjbooalkkbaaGreatDoorPQ0
import Derived.Test.YtdbjjbooalkkbaaGreatDoorXLast
import Derived.Test.YtdbjjbooalkkbaaGreatDoorXSpec
import Derived.Test.YtdbjjbooalkkbaaGreatDoorXContains
import Derived.Test.YtdbjjbooalkkbaaGreatDoorXStrE
/- lex.Line as a kind (written as the print writes it for the types that it meets). -/
namespace Go.Proofs.YtdbjjbooalkkbaaGreatDoor.P
open Go.RowKit Go.Proofs.YtdbjjbooalkkbaaGreatDoorW.PrintWords Go.Proofs.YtdbjjbooalkkbaaGreatDoorW.PrintLast Go.Proofs.YtdbjjbooalkkbaaGreatDoorW.PrintMore
set_option linter.unusedVariables false

/-! #### lex.Line -/
structure S61 where
  f0 : Int
  f1 : (List ByteArray)
def z61 : S61 := ⟨(0 : Int), ([] : List ByteArray)⟩
def k61 : Kd S61 := Kd.iso (Kd.pair (Kd.int .i64) (Kd.slice 9 Kd.string)) (fun x : S61 => (x.f0, x.f1))
theorem k61_open {w : World} {x : S61} {cs : List Value} (h : k61.K w x cs) : ∃ A1 c1, cs = [.int .i64 x.f0, .slice A1 x.f1.length c1] ∧ x.f1.length ≤ c1 ∧ Kd.string.C w A1 x.f1.length x.f1 := by
  obtain ⟨_, _, rfl, rfl, ⟨A1, c1, rfl, l1, g1⟩⟩ := h
  exact ⟨A1, c1, rfl, l1, g1⟩
theorem k61_openM {w : World} {base : Nat} {ok : Nat → Prop} {x : S61} {cs : List Value} (h : k61.M w base ok x cs) : ∃ v1, cs = [.int .i64 x.f0, v1] ∧ Kd.string.R 9 w base ok v1 x.f1 := by
  obtain ⟨_, _, rfl, rfl, ⟨v1, rfl, g1⟩⟩ := h
  exact ⟨v1, rfl, g1⟩
theorem k61_mk (w : World) (x : S61) {A1 : Option Addr} {c1 : Nat} (l1 : x.f1.length ≤ c1) (g1 : Kd.string.C w A1 x.f1.length x.f1) : k61.K w x [.int .i64 x.f0, .slice A1 x.f1.length c1] := ⟨[.int .i64 x.f0], [.slice A1 x.f1.length c1], rfl, rfl, ⟨A1, c1, rfl, l1, g1⟩⟩
theorem k61_mkM (w : World) (base : Nat) (ok : Nat → Prop) (x : S61) {v1 : Value} (g1 : Kd.string.R 9 w base ok v1 x.f1) : k61.M w base ok x [.int .i64 x.f0, v1] := ⟨[.int .i64 x.f0], [v1], rfl, rfl, ⟨v1, rfl, g1⟩⟩
def rd_T61 (xs : List S61) (i : Int) : S61 := xs.getD i.toNat z61
theorem at_T61 {w : World} {A : Option Addr} {n : Nat} {xs : List S61} (h : Kd.C k61 w A n xs) (i : Int) (h0 : 0 ≤ i) (h1 : i < n) : ∃ ad A1 c1, A = some ad ∧ w.cell? (ad.add (i.toNat * 2)) = some (.int .i64 (rd_T61 xs i).f0) ∧ w.cell? ⟨(ad.add (i.toNat * 2)).block, (ad.add (i.toNat * 2)).off + 1, none⟩ = some (.slice A1 (rd_T61 xs i).f1.length c1) ∧ (rd_T61 xs i).f1.length ≤ c1 ∧ Kd.string.C w A1 (rd_T61 xs i).f1.length (rd_T61 xs i).f1 := by
  obtain ⟨ad, c, e, _, hK, hc0⟩ := Kd.C_get h z61 i h0 h1
  have hc : ∀ j u, c[j]? = some u → w.cell? (ad.add (i.toNat * 2 + j)) = some u := hc0
  obtain ⟨A1, c1, rfl, l1, g1⟩ := k61_open hK
  exact ⟨ad, A1, c1, e, hc 0 _ rfl, by rw [← add_field _ _ 1 (by omega)]; exact hc 1 _ rfl, l1, g1⟩
end Go.Proofs.YtdbjjbooalkkbaaGreatDoor.P

/- The parser, plainly: what each line does to what has been parsed so far. -/
namespace Go.Proofs.YtdbjjbooalkkbaaGreatDoor.P
open Go.RowKit Go.Proofs.YtdbjjbooalkkbaaGreatDoorW.PrintWords

abbrev LN := S61
structure PSt where
  I : Int
  Q : Int
  M : Int
  rungs : List SR
  sized : Bool
  lines : List Int
  jumps : List Int
def wd (l : LN) (i : Nat) : ByteArray := l.f1.getD i ByteArray.empty
def sizeP (s : PSt) (l : LN) : Int × PSt :=
  if s.sized = true then (9, s) else
  if (number (wd l 1).data.toList 256).2 ≠ 0 then ((number (wd l 1).data.toList 256).2, s) else
  if (number (wd l 2).data.toList 256).2 ≠ 0 then ((number (wd l 2).data.toList 256).2, s) else
  if (number (wd l 3).data.toList 256).2 ≠ 0 then ((number (wd l 3).data.toList 256).2, s) else
  (0, { s with I := (number (wd l 1).data.toList 256).1, Q := (number (wd l 2).data.toList 256).1, M := (number (wd l 3).data.toList 256).1, sized := true })
def addP (s : PSt) (n : Int) (lab : ByteArray) : PSt := { s with rungs := s.rungs ++ [⟨lab, [], [], ⟨#[]⟩⟩], lines := s.lines ++ [n], jumps := s.jumps ++ [0] }
def beginP (s : PSt) (l : LN) : Int × PSt :=
  if 1 < l.f1.length then
    (if isName (wd l 1).data.toList = false then (6, s) else if hasLabel s.rungs (wd l 1) = true then (9, s) else if s.rungs.length = 64 then (10, s) else (0, addP s l.f0 (wd l 1)))
  else if s.rungs.length = 64 then (10, s) else (0, addP s l.f0 ⟨#[]⟩)
def addressP (s : PSt) (w : ByteArray) : Int × Int × Int :=
  if (parseAddr w.data.toList).2.2 = 0 then ((parseAddr w.data.toList).1, (parseAddr w.data.toList).2.1, addrP s.I s.Q s.M (parseAddr w.data.toList).1 (parseAddr w.data.toList).2.1) else parseAddr w.data.toList
def conAdd (s : PSt) (l : LN) (k : Int) : PSt := { s with rungs := setR s.rungs { lastR s.rungs with f1 := (lastR s.rungs).f1 ++ [⟨k, ⟨(addressP s (wd l 1)).1, (addressP s (wd l 1)).2.1⟩, wd l 2, wd l 3⟩] } }
def contactP (s : PSt) (l : LN) (k : Int) : Int × PSt :=
  if 0 < (lastR s.rungs).f2.length then (17, s) else if 0 < (lastR s.rungs).f3.size then (17, s) else if (lastR s.rungs).f1.length = 256 then (10, s) else
  if (addressP s (wd l 1)).2.2 ≠ 0 then ((addressP s (wd l 1)).2.2, s) else if isName (wd l 2).data.toList = false then (6, s) else if isName (wd l 3).data.toList = false then (6, s) else (0, conAdd s l k)
def coilAdd (s : PSt) (l : LN) (k : Int) : PSt := { s with rungs := setR s.rungs { lastR s.rungs with f2 := (lastR s.rungs).f2 ++ [⟨k, ⟨(addressP s (wd l 1)).1, (addressP s (wd l 1)).2.1⟩⟩] } }
def coilP (s : PSt) (l : LN) (k : Int) : Int × PSt :=
  if 0 < (lastR s.rungs).f3.size then (17, s) else if (lastR s.rungs).f2.length = 16 then (10, s) else
  if (addressP s (wd l 1)).2.2 ≠ 0 then ((addressP s (wd l 1)).2.2, s) else if (addressP s (wd l 1)).1 = 0 then (2, s) else (0, coilAdd s l k)
def jumpAdd (s : PSt) (l : LN) : PSt := { s with rungs := setR s.rungs { lastR s.rungs with f3 := wd l 1 }, jumps := s.jumps.set (s.jumps.length - 1) l.f0 }
def jumpP (s : PSt) (l : LN) : Int × PSt :=
  if 0 < (lastR s.rungs).f3.size then (9, s) else if isName (wd l 1).data.toList = false then (6, s) else (0, jumpAdd s l)
/-- What holds of a parser between lines. -/
structure POk (s : PSt) : Prop where
  size : OkSize s.I s.Q s.M
  rungs : s.rungs.length ≤ 64
  lines : s.lines.length = s.rungs.length
  jumps : s.jumps.length = s.rungs.length
  con : ∀ r ∈ s.rungs, r.f1.length ≤ 256
  coil : ∀ r ∈ s.rungs, r.f2.length ≤ 16
theorem lastR_mem {xs : List SR} (h : 0 < xs.length) : lastR xs ∈ xs := by
  unfold lastR
  rw [List.getD_eq_getElem?_getD, List.getElem?_eq_getElem (by omega)]
  exact List.getElem_mem _
def kwC0 : List ByteArray := [⟨#[110, 111]⟩, ⟨#[110, 99]⟩, ⟨#[117, 112]⟩, ⟨#[100, 111, 119, 110]⟩]
def kwQ0 : List ByteArray := [⟨#[111, 117, 116]⟩, ⟨#[110, 111, 116]⟩, ⟨#[115, 101, 116]⟩, ⟨#[114, 101, 115, 101, 116]⟩]
def kwSize : ByteArray := ⟨#[115, 105, 122, 101]⟩
def kwRung : ByteArray := ⟨#[114, 117, 110, 103]⟩
def kwJump : ByteArray := ⟨#[106, 117, 109, 112]⟩
def pick (k w : ByteArray) : Bool := k.toList == w.toList
end Go.Proofs.YtdbjjbooalkkbaaGreatDoor.P

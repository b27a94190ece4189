/- The parser, plainly: what each line does to what has been parsed so far. -/
import Derived.Test.YtdbjjbooalkkbaaGreatDoorXLast
import Derived.Test.YtdbjjbooalkkbaaGreatDoorXAddrC
import Derived.Test.YtdbjjbooalkkbaaGreatDoorXContains
import Derived.Test.YtdbjjbooalkkbaaGreatDoorXPlain
import Derived.Test.YtdbjjbooalkkbaaGreatDoorXLineT
namespace Go.Proofs.YtdbjjbooalkkbaaGreatDoor.P
open Go.RowKit Go.Proofs.YtdbjjbooalkkbaaGreatDoorW.PrintWords

abbrev LN := S61
structure PSt where
  I : Int
  Q : Int
  M : Int
  rungs : List SR
  sized : Bool
  lines : List Int
  jumps : List Int
def wd (l : LN) (i : Nat) : ByteArray := l.f1.getD i ByteArray.empty
def sizeP (s : PSt) (l : LN) : Int × PSt :=
  if s.sized = true then (9, s) else
  if (number (wd l 1).data.toList 256).2 ≠ 0 then ((number (wd l 1).data.toList 256).2, s) else
  if (number (wd l 2).data.toList 256).2 ≠ 0 then ((number (wd l 2).data.toList 256).2, s) else
  if (number (wd l 3).data.toList 256).2 ≠ 0 then ((number (wd l 3).data.toList 256).2, s) else
  (0, { s with I := (number (wd l 1).data.toList 256).1, Q := (number (wd l 2).data.toList 256).1, M := (number (wd l 3).data.toList 256).1, sized := true })
def addP (s : PSt) (n : Int) (lab : ByteArray) : PSt := { s with rungs := s.rungs ++ [⟨lab, [], [], ⟨#[]⟩⟩], lines := s.lines ++ [n], jumps := s.jumps ++ [0] }
def beginP (s : PSt) (l : LN) : Int × PSt :=
  if 1 < l.f1.length then
    (if isName (wd l 1).data.toList = false then (6, s) else if hasLabel s.rungs (wd l 1) = true then (9, s) else if s.rungs.length = 64 then (10, s) else (0, addP s l.f0 (wd l 1)))
  else if s.rungs.length = 64 then (10, s) else (0, addP s l.f0 ⟨#[]⟩)
def addressP (s : PSt) (w : ByteArray) : Int × Int × Int :=
  if (parseAddr w.data.toList).2.2 = 0 then ((parseAddr w.data.toList).1, (parseAddr w.data.toList).2.1, addrP s.I s.Q s.M (parseAddr w.data.toList).1 (parseAddr w.data.toList).2.1) else parseAddr w.data.toList
def conAdd (s : PSt) (l : LN) (k : Int) : PSt := { s with rungs := setR s.rungs { lastR s.rungs with f1 := (lastR s.rungs).f1 ++ [⟨k, ⟨(addressP s (wd l 1)).1, (addressP s (wd l 1)).2.1⟩, wd l 2, wd l 3⟩] } }
def contactP (s : PSt) (l : LN) (k : Int) : Int × PSt :=
  if 0 < (lastR s.rungs).f2.length then (17, s) else if 0 < (lastR s.rungs).f3.size then (17, s) else if (lastR s.rungs).f1.length = 256 then (10, s) else
  if (addressP s (wd l 1)).2.2 ≠ 0 then ((addressP s (wd l 1)).2.2, s) else if isName (wd l 2).data.toList = false then (6, s) else if isName (wd l 3).data.toList = false then (6, s) else (0, conAdd s l k)
def coilAdd (s : PSt) (l : LN) (k : Int) : PSt := { s with rungs := setR s.rungs { lastR s.rungs with f2 := (lastR s.rungs).f2 ++ [⟨k, ⟨(addressP s (wd l 1)).1, (addressP s (wd l 1)).2.1⟩⟩] } }
def coilP (s : PSt) (l : LN) (k : Int) : Int × PSt :=
  if 0 < (lastR s.rungs).f3.size then (17, s) else if (lastR s.rungs).f2.length = 16 then (10, s) else
  if (addressP s (wd l 1)).2.2 ≠ 0 then ((addressP s (wd l 1)).2.2, s) else if (addressP s (wd l 1)).1 = 0 then (2, s) else (0, coilAdd s l k)
def jumpAdd (s : PSt) (l : LN) : PSt := { s with rungs := setR s.rungs { lastR s.rungs with f3 := wd l 1 }, jumps := s.jumps.set (s.jumps.length - 1) l.f0 }
def jumpP (s : PSt) (l : LN) : Int × PSt :=
  if 0 < (lastR s.rungs).f3.size then (9, s) else if isName (wd l 1).data.toList = false then (6, s) else (0, jumpAdd s l)
/-- What holds of a parser between lines. -/
structure POk (s : PSt) : Prop where
  size : OkSize s.I s.Q s.M
  rungs : s.rungs.length ≤ 64
  lines : s.lines.length = s.rungs.length
  jumps : s.jumps.length = s.rungs.length
  con : ∀ r ∈ s.rungs, r.f1.length ≤ 256
  coil : ∀ r ∈ s.rungs, r.f2.length ≤ 16
theorem lastR_mem {xs : List SR} (h : 0 < xs.length) : lastR xs ∈ xs := by
  unfold lastR
  rw [List.getD_eq_getElem?_getD, List.getElem?_eq_getElem (by omega)]
  exact List.getElem_mem _
def kwC0 : List ByteArray := [⟨#[110, 111]⟩, ⟨#[110, 99]⟩, ⟨#[117, 112]⟩, ⟨#[100, 111, 119, 110]⟩]
def kwQ0 : List ByteArray := [⟨#[111, 117, 116]⟩, ⟨#[110, 111, 116]⟩, ⟨#[115, 101, 116]⟩, ⟨#[114, 101, 115, 101, 116]⟩]
def kwSize : ByteArray := ⟨#[115, 105, 122, 101]⟩
def kwRung : ByteArray := ⟨#[114, 117, 110, 103]⟩
def kwJump : ByteArray := ⟨#[106, 117, 109, 112]⟩
def pick (k w : ByteArray) : Bool := k.toList == w.toList
end Go.Proofs.YtdbjjbooalkkbaaGreatDoor.P

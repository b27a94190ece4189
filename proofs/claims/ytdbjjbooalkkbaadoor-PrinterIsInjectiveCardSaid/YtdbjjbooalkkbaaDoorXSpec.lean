/- printer.Check, plainly: what the printed functions compute, as structural functions over lists. -/
import Derived.Test.YtdbjjbooalkkbaaDoorXPrint
import Derived.Test.YtdbjjbooalkkbaaDoorXAddrC
import Derived.Test.YtdbjjbooalkkbaaDoorPQ5
import Derived.Test.YtdbjjbooalkkbaaDoorPQ4
namespace Go.Proofs.YtdbjjbooalkkbaaDoor.P
open Go.RowKit Go.Proofs.YtdbjjbooalkkbaaDoorW.PrintWords

def partP (I Q M k s n : Int) : Int := if k < 0 ∨ 4 ≤ k then 8 else addrP I Q M s n
theorem part_eq {I Q M : Int} (hs : OkSize I Q M) (k s n : Int) : printer_part.f I Q M 0 k s n = some (partP I Q M k s n) := by
  unfold printer_part.f partP
  rw [addr_eq hs]
  by_cases h1 : k < 0
  · rw [if_pos h1, if_pos (Or.inl h1)]
  · rw [if_neg h1]
    by_cases h2 : k ≥ 4
    · rw [if_pos h2, if_pos (Or.inr h2)]
    · rw [if_neg h2, if_neg (by omega)]
      rfl
theorem name_eq (s : ByteArray) : lex_IsName.f s = some (isName s.data.toList) := rfl
def nameB (s : ByteArray) : Bool := isName s.data.toList

def consP (I Q M : Int) : List S44 → Int
  | [] => 0
  | c :: r => if partP I Q M c.f0 c.f1.f0 c.f1.f1 = 0 then (if nameB c.f2 = true then (if nameB c.f3 = true then consP I Q M r else 6) else 6) else partP I Q M c.f0 c.f1.f0 c.f1.f1
def coilsP (I Q M : Int) : List S47 → Int
  | [] => 0
  | c :: r => if partP I Q M c.f0 c.f1.f0 c.f1.f1 = 0 then (if c.f1.f0 = 0 then 2 else coilsP I Q M r) else partP I Q M c.f0 c.f1.f0 c.f1.f1
def jumpPr (j : ByteArray) : Int := if j.toList = ([] : List UInt8) then 0 else if nameB j = true then 0 else 6
def tailP (I Q M : Int) (l : List S47) (j : ByteArray) : Int := if coilsP I Q M l = 0 then jumpPr j else coilsP I Q M l
def restP (I Q M : Int) (l : List S47) (j : ByteArray) : Int := if 16 < l.length then 10 else tailP I Q M l j
def bodyP (I Q M : Int) (r : S28) : Int := if 256 < r.f1.length then 10 else if consP I Q M r.f1 = 0 then restP I Q M r.f2 r.f3 else consP I Q M r.f1
def rungP (I Q M : Int) (ahead : List S28) (r : S28) : Int :=
  if r.f0.toList = ([] : List UInt8) then bodyP I Q M r else if nameB r.f0 = true then (if hasLabel ahead r.f0 = true then 9 else bodyP I Q M r) else 6
theorem drop_at {α : Type} (l : List α) (i : Nat) (x : α) (h : l[i]? = some x) : l.drop i = x :: l.drop (i + 1) := by
  have hi := (List.getElem?_eq_some_iff.1 h)
  rw [List.drop_eq_getElem_cons hi.1, hi.2]
theorem rung_l1 {I Q M : Int} (hs : OkSize I Q M) (a : ByteArray) (cs : List S44) (qs : List S47) (j : ByteArray) (hq : qs.length ≤ 16) (d : Nat) : ∀ k i : Nat, i + d = qs.length → d + 1 ≤ k →
    printer_rung.l1 k qs (qs.length : Int) (i : Int) I Q M 0 a cs qs j = some (tailP I Q M (qs.drop i) j) := by
  induction d with
  | zero =>
    intro k i hi hk
    obtain ⟨k, rfl⟩ : ∃ m, k = m + 1 := ⟨k - 1, by omega⟩
    rw [printer_rung.l1, if_neg (by omega), List.drop_eq_nil_of_le (by omega)]
    unfold tailP coilsP jumpPr
    rw [if_pos rfl]
    by_cases h : j.toList = ([] : List UInt8)
    · rw [if_pos h, if_pos h]
    · rw [if_neg h, if_neg h, name_eq, Option.bind_some]
      show (if nameB j = true then some 0 else some 6) = some (if nameB j = true then 0 else 6)
      split <;> rfl
  | succ d ih =>
    intro k i hi hk
    obtain ⟨k, rfl⟩ : ∃ m, k = m + 1 := ⟨k - 1, by omega⟩
    obtain ⟨x, hx⟩ : ∃ x, qs[i]? = some x := ⟨_, List.getElem?_eq_getElem (by omega)⟩
    rw [printer_rung.l1, if_pos (by omega), if_pos (by omega), if_pos (by omega), rd53_at qs i x hx, part_eq hs, Option.bind_some, drop_at qs i x hx, wrap_nat (by omega), ih k (i + 1) (by omega) (by omega)]
    unfold tailP
    rw [coilsP]
    by_cases h1 : partP I Q M x.f0 x.f1.f0 x.f1.f1 = 0
    · rw [if_pos h1, if_pos h1]
      by_cases h2 : x.f1.f0 = 0
      · rw [if_pos h2, if_pos h2]; rfl
      · rw [if_neg h2, if_neg h2]
    · rw [if_neg h1, if_neg h1, if_neg h1]
theorem rung_l0 {I Q M : Int} (hs : OkSize I Q M) (a : ByteArray) (cs : List S44) (qs : List S47) (j : ByteArray) (hc : cs.length ≤ 256) (d : Nat) : ∀ k i : Nat, i + d = cs.length → d + 20 ≤ k →
    printer_rung.l0 k cs (cs.length : Int) (i : Int) I Q M 0 a cs qs j = some (if consP I Q M (cs.drop i) = 0 then restP I Q M qs j else consP I Q M (cs.drop i)) := by
  induction d with
  | zero =>
    intro k i hi hk
    obtain ⟨k, rfl⟩ : ∃ m, k = m + 1 := ⟨k - 1, by omega⟩
    rw [printer_rung.l0, if_neg (by omega), List.drop_eq_nil_of_le (by omega)]
    unfold consP restP
    rw [if_pos rfl]
    by_cases h : 16 < qs.length
    · rw [if_pos (by omega), if_pos h]
    · rw [if_neg (by omega), if_neg h]
      exact rung_l1 hs a cs qs j (by omega) qs.length k 0 (by omega) (by omega)
  | succ d ih =>
    intro k i hi hk
    obtain ⟨k, rfl⟩ : ∃ m, k = m + 1 := ⟨k - 1, by omega⟩
    obtain ⟨x, hx⟩ : ∃ x, cs[i]? = some x := ⟨_, List.getElem?_eq_getElem (by omega)⟩
    rw [printer_rung.l0, if_pos (by omega), if_pos (by omega), if_pos (by omega), rd50_at cs i x hx, part_eq hs, Option.bind_some, drop_at cs i x hx, wrap_nat (by omega), ih k (i + 1) (by omega) (by omega)]
    rw [consP]
    by_cases h1 : partP I Q M x.f0 x.f1.f0 x.f1.f1 = 0
    · rw [if_pos h1, if_pos h1]
      simp only [name_eq, Option.bind_some]
      by_cases h2 : nameB x.f2 = true
      · rw [if_pos (show isName x.f2.data.toList = true from h2), if_pos h2]
        by_cases h3 : nameB x.f3 = true
        · rw [if_pos (show isName x.f3.data.toList = true from h3), if_pos h3]
        · rw [if_neg (show ¬ isName x.f3.data.toList = true from h3), if_neg h3]; rfl
      · rw [if_neg (show ¬ isName x.f2.data.toList = true from h2), if_neg h2]; rfl
    · rw [if_neg h1, if_neg h1, if_neg h1]
theorem rung_eq {I Q M : Int} (hs : OkSize I Q M) (ahead : List S28) (r : S28) (k : Nat) (hk : 300 ≤ k) : printer_rung.f k I Q M 0 ahead r.f0 r.f1 r.f2 r.f3 = some (rungP I Q M ahead r) := by
  have hj : printer_rung.j0 k I Q M 0 r.f0 r.f1 r.f2 r.f3 = some (bodyP I Q M r) := by
    obtain ⟨k, rfl⟩ : ∃ m, k = m + 1 := ⟨k - 1, by omega⟩
    rw [printer_rung.j0]
    unfold bodyP
    by_cases h : 256 < r.f1.length
    · rw [if_pos (by omega), if_pos h]
    · rw [if_neg (by omega), if_neg h]
      exact rung_l0 hs r.f0 r.f1 r.f2 r.f3 (by omega) r.f1.length k 0 (by omega) (by omega)
  unfold printer_rung.f rungP printer_rung_1.f
  rw [hj]
  by_cases h0 : r.f0.toList = ([] : List UInt8)
  · rw [if_pos h0, if_pos h0]
  · rw [if_neg h0, if_neg h0, name_eq, Option.bind_some]
    by_cases h1 : nameB r.f0 = true
    · rw [if_pos (show isName r.f0.data.toList = true from h1), if_pos h1, Option.bind_some]
      split <;> rfl
    · rw [if_neg (show ¬ isName r.f0.data.toList = true from h1), if_neg h1]

def scanR (I Q M : Int) : List S28 → List S28 → Nat → Option (Int × Int)
  | _, [], _ => none
  | a, r :: t, i => if rungP I Q M a r = 0 then scanR I Q M (a ++ [r]) t (i + 1) else some ((i : Int), rungP I Q M a r)
def scanJ : List S28 → Nat → Option (Int × Int)
  | [], _ => none
  | r :: t, i => if r.f3.toList = ([] : List UInt8) then scanJ t (i + 1) else if hasLabel t r.f3 = true then scanJ t (i + 1) else some ((i : Int), 15)
def checkP (I Q M : Int) (l : List S28) : Int × Int :=
  if OkSize I Q M then (if 64 < l.length then (0, 10) else match scanR I Q M [] l 0 with
    | some p => p
    | none => match scanJ l 0 with
      | some p => p
      | none => ((l.length : Int), 0)) else (0, 3)
theorem check_l1 (I Q M : Int) (l : List S28) (hl : l.length ≤ 64) (d : Nat) : ∀ k i : Nat, i + d = l.length → d + 1 ≤ k →
    printer_Check.l1 k l (l.length : Int) (i : Int) I Q M l = some (match scanJ (l.drop i) i with | some p => p | none => ((l.length : Int), 0)) := by
  induction d with
  | zero =>
    intro k i hi hk
    obtain ⟨k, rfl⟩ : ∃ m, k = m + 1 := ⟨k - 1, by omega⟩
    rw [printer_Check.l1, if_neg (by omega), List.drop_eq_nil_of_le (by omega)]
    rfl
  | succ d ih =>
    intro k i hi hk
    obtain ⟨k, rfl⟩ : ∃ m, k = m + 1 := ⟨k - 1, by omega⟩
    obtain ⟨x, hx⟩ : ∃ x, l[i]? = some x := ⟨_, List.getElem?_eq_getElem (by omega)⟩
    rw [printer_Check.l1, if_pos (by omega), if_pos (by omega), if_pos (by omega), rd40_at l i x hx, drop_at l i x hx, wrap_nat (by omega), ih k (i + 1) (by omega) (by omega), scanJ]
    by_cases h1 : x.f3.toList = ([] : List UInt8)
    · rw [if_pos h1, if_pos h1]
    · rw [if_neg h1, if_neg h1, if_pos (by omega), if_pos (by omega)]
      unfold printer_Check_1.f
      rw [Int.toNat_natCast, Option.bind_some]
      by_cases h2 : hasLabel (l.drop (i + 1)) x.f3 = true
      · rw [if_pos h2, if_pos h2]
      · rw [if_neg h2, if_neg h2]
theorem check_l0 {I Q M : Int} (hs : OkSize I Q M) (l : List S28) (hl : l.length ≤ 64) (d : Nat) : ∀ k i : Nat, i + d = l.length → d + 400 ≤ k →
    printer_Check.l0 k l (l.length : Int) (i : Int) I Q M l I Q M 0 = some (match scanR I Q M (l.take i) (l.drop i) i with | some p => p | none => match scanJ l 0 with | some p => p | none => ((l.length : Int), 0)) := by
  induction d with
  | zero =>
    intro k i hi hk
    obtain ⟨k, rfl⟩ : ∃ m, k = m + 1 := ⟨k - 1, by omega⟩
    rw [printer_Check.l0, if_neg (by omega), List.drop_eq_nil_of_le (by omega)]
    exact check_l1 I Q M l hl l.length k 0 (by omega) (by omega)
  | succ d ih =>
    intro k i hi hk
    obtain ⟨k, rfl⟩ : ∃ m, k = m + 1 := ⟨k - 1, by omega⟩
    obtain ⟨x, hx⟩ : ∃ x, l[i]? = some x := ⟨_, List.getElem?_eq_getElem (by omega)⟩
    rw [printer_Check.l0, if_pos (by omega), if_pos (by omega), if_pos (by omega), if_pos (by omega), rd40_at l i x hx, Int.toNat_natCast, rung_eq hs _ _ k (by omega), Option.bind_some, drop_at l i x hx, wrap_nat (by omega), ih k (i + 1) (by omega) (by omega), scanR]
    rw [show l.take (i + 1) = l.take i ++ [x] by rw [List.take_add_one, hx]; rfl]
    by_cases h1 : rungP I Q M (l.take i) x = 0
    · rw [if_pos h1, if_pos h1]
    · rw [if_neg h1, if_neg h1]
theorem check_eq (I Q M : Int) (l : List S28) : printer_Check.f 1000 I Q M l = some (checkP I Q M l) := by
  unfold printer_Check.f printer_sizes.f checkP
  simp only [Option.bind_some, size_eq]
  by_cases hs : OkSize I Q M
  · rw [if_pos hs, if_pos rfl, if_pos hs]
    by_cases h : 64 < l.length
    · rw [if_pos (by omega), if_pos h]
    · rw [if_neg (by omega), if_neg h]
      exact check_l0 hs l (by omega) l.length 1000 0 (by omega) (by omega)
  · rw [if_neg hs, if_neg (by decide), if_neg hs]
end Go.Proofs.YtdbjjbooalkkbaaDoor.P

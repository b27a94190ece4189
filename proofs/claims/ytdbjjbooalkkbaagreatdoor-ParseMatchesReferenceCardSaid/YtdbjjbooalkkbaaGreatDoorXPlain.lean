/- Plain lists of bytes: numerals, names, plain lines; what the hand-written contracts of this seat say. -/
import Derived.Lib.AtoiAllCases
import Derived.Lib.SlTrimSet
import Derived.Lib.ItoaNum
namespace Go.Proofs.YtdbjjbooalkkbaaGreatDoor.P
open Go

def isDig (b : UInt8) : Bool := decide (48 ≤ b.toNat ∧ b.toNat ≤ 57)
def decStep (a : Nat) (c : UInt8) : Nat := a * 10 + (c.toNat - 48)
def decFrom (a : Nat) (l : List UInt8) : Nat := l.foldl decStep a
def decVal (l : List UInt8) : Nat := decFrom 0 l
theorem decFrom_cons (a : Nat) (c : UInt8) (r : List UInt8) : decFrom a (c :: r) = decFrom (a * 10 + (c.toNat - 48)) r := by unfold decFrom; rw [List.foldl_cons]; unfold decStep; rfl
theorem decFrom_le (l : List UInt8) : ∀ a : Nat, a ≤ decFrom a l := by
  induction l with
  | nil => exact fun a => Nat.le_refl _
  | cons c r ih =>
    intro a
    rw [decFrom_cons]
    have := ih (a * 10 + (c.toNat - 48))
    omega
theorem parse_dig (l : List UInt8) : ∀ a : Nat, a < 18446744073709551616 → l.all isDig = true → Lib.parseUint10 a l = if decFrom a l < 18446744073709551616 then .ok (decFrom a l) else .range := by
  induction l with
  | nil =>
    intro a ha _
    show Lib.NumEnd.ok a = if a < 18446744073709551616 then .ok a else .range
    rw [if_pos ha]
  | cons c r ih =>
    intro a ha h
    rw [List.all_cons, Bool.and_eq_true] at h
    obtain ⟨hc0, hr⟩ := h
    have hc : 48 ≤ c.toNat ∧ c.toNat ≤ 57 := of_decide_eq_true hc0
    rw [decFrom_cons]
    have hle := decFrom_le r (a * 10 + (c.toNat - 48))
    unfold Lib.parseUint10
    rw [if_pos hc]
    by_cases h1 : 1844674407370955162 ≤ a
    · rw [if_pos h1, if_neg (by omega)]
    · rw [if_neg h1]
      by_cases h2 : 18446744073709551616 ≤ a * 10 + (c.toNat - 48)
      · rw [if_pos h2, if_neg (by omega)]
      · rw [if_neg h2]
        exact ih _ (by omega) hr
theorem atoi_dig (l : List UInt8) (hne : l ≠ []) (h : l.all isDig = true) : Lib.atoiAll l = if decVal l < 9223372036854775808 then .ok (decVal l : Int) else .range := by
  match l, hne, h with
  | c :: r, _, h =>
    have hc : 48 ≤ c.toNat ∧ c.toNat ≤ 57 := by
      simp only [List.all_cons, Bool.and_eq_true, isDig, decide_eq_true_eq] at h
      exact h.1
    rw [Lib.atoiAll_plain c r (by omega) (by omega)]
    unfold Lib.parseMag
    rw [if_neg (by simp), parse_dig _ 0 (by omega) h]
    show Lib.signless (if decVal (c :: r) < _ then .ok (decVal (c :: r)) else .range) = _
    by_cases h1 : decVal (c :: r) < 18446744073709551616
    · rw [if_pos h1]
      simp only [Lib.signless]
      by_cases h2 : decVal (c :: r) < 9223372036854775808
      · rw [if_neg (by omega), if_pos h2]
      · rw [if_pos (by omega), if_neg h2]
    · rw [if_neg h1, if_neg (by omega)]
      rfl
/-- The cutset of strings.Trim. -/
def digs : List UInt8 := [48, 49, 50, 51, 52, 53, 54, 55, 56, 57]
theorem digs_contains (b : UInt8) : digs.contains b = isDig b := by
  have h : ∀ n : Fin 256, digs.contains (UInt8.ofNat n.val) = isDig (UInt8.ofNat n.val) := by decide +kernel
  have := h ⟨b.toNat, b.toNat_lt⟩
  simpa using this
theorem dropWhile_nil {p : UInt8 → Bool} : ∀ {l : List UInt8}, l.dropWhile p = [] ↔ l.all p = true
  | [] => by simp
  | c :: r => by
    cases h : p c
    · simp [h]
    · simp [h, dropWhile_nil (l := r)]
theorem all_drop {p : UInt8 → Bool} {l : List UInt8} (h : (l.dropWhile p).all p = true) : l.all p = true := by
  have := dropWhile_nil.mpr h
  cases hd : l.dropWhile p with
  | nil => exact dropWhile_nil.mp hd
  | cons c r =>
    have h1 : p c = true := by rw [hd] at h; simp only [List.all_cons, Bool.and_eq_true] at h; exact h.1
    have h2 := List.head?_dropWhile_not p l
    rw [hd] at h2
    simp [h1] at h2
theorem trim_digs (l : List UInt8) : Lib.trimS l digs = [] ↔ l.all isDig = true := by
  have e : (fun x => digs.contains x) = isDig := funext digs_contains
  unfold Lib.trimS Lib.trimLeftS Lib.trimRightS
  rw [e, dropWhile_nil, List.all_reverse]
  constructor
  · intro h
    have := all_drop (p := isDig) (l := l.reverse) h
    rwa [List.all_reverse] at this
  · intro h
    have h' : l.reverse.all isDig = true := by rwa [List.all_reverse]
    rw [dropWhile_nil.mpr h']
    rfl

/-- A word that is a numeral without leading zeros. -/
def isNum (l : List UInt8) : Bool := !l.isEmpty && l.all isDig && (decide (l.length ≤ 1) || decide (l.head? ≠ some 48))

/-! addr -/
def spaceOf (c : UInt8) : Option Int := if c = 73 then some 0 else if c = 81 then some 1 else if c = 77 then some 2 else none
def letterB (s : Int) : UInt8 := if s = 0 then 73 else if s = 1 then 81 else 77
def addr_Format.f (a0_0 : Int) (a0_1 : Int) : Option (ByteArray) := some (if 0 ≤ a0_0 ∧ a0_0 ≤ 2 ∧ 0 ≤ a0_1 ∧ a0_1 ≤ 255 then ⟨(letterB a0_0 :: Lib.itoa a0_1).toArray⟩ else ⟨#[]⟩)
def parseAddr (l : List UInt8) : Int × Int × Int :=
  match l with
  | [] => (0, 0, 6)
  | c :: ds => match spaceOf c with
    | none => (0, 0, 6)
    | some sp => if isNum ds = true then (if decVal ds < 256 then (sp, (decVal ds : Int), 0) else (0, 0, 3)) else (0, 0, 6)
def addr_Parse.f (a0 : ByteArray) : Option (Int × Int × Int) := if a0.size ≤ 281474976710656 then some (parseAddr a0.data.toList) else none

/-! lex -/
def number (l : List UInt8) (most : Int) : Int × Int :=
  if most < 0 ∨ 1000000 < most then (0, 2) else if isNum l = true then (if (decVal l : Int) ≤ most then ((decVal l : Int), 0) else (0, 3)) else (0, 6)
def lex_Number.f (a0 : ByteArray) (a1 : Int) : Option (Int × Int) := if a0.size ≤ 281474976710656 then some (number a0.data.toList a1) else none
def isLetter (b : UInt8) : Bool := decide (97 ≤ b.toNat ∧ b.toNat ≤ 122 ∨ 65 ≤ b.toNat ∧ b.toNat ≤ 90)
def nameTail (b : UInt8) : Bool := isLetter b || decide (b.toNat = 95 ∨ 48 ≤ b.toNat ∧ b.toNat ≤ 57)
def isName (l : List UInt8) : Bool :=
  match l with
  | [] => false
  | c :: r => decide (r.length < 16) && isLetter c && r.all nameTail
def lex_IsName.f (a0 : ByteArray) : Option (Bool) := some (isName a0.data.toList)
def isPlain (b : UInt8) : Bool := decide (b.toNat = 9 ∨ 32 ≤ b.toNat ∧ b.toNat ≤ 126)
end Go.Proofs.YtdbjjbooalkkbaaGreatDoor.P

/- Plain lists of bytes: a text cut at a byte, lines without comments, words. -/
import Derived.Test.YtdbjjbooalkkbaaGreatDoorXPlain
import Derived.Lib.FieldsLaws
import Derived.Lib.SplitLaws
namespace Go.Proofs.YtdbjjbooalkkbaaGreatDoor.P
open Go

/-- A list cut at each instance of a byte. -/
def cutAt (c : UInt8) : List UInt8 → List (List UInt8)
  | [] => [[]]
  | b :: r => if b = c then [] :: cutAt c r else (b :: (cutAt c r).headD []) :: (cutAt c r).tail
theorem cutAt_ne (c : UInt8) (l : List UInt8) : cutAt c l ≠ [] := by
  cases l with
  | nil => simp [cutAt]
  | cons b r => rw [cutAt]; split <;> simp
theorem cutAt_split (c : UInt8) (l : List UInt8) : (cutAt c l).headD [] :: (cutAt c l).tail = cutAt c l := by
  cases h : cutAt c l with
  | nil => exact absurd h (cutAt_ne c l)
  | cons x t => rfl
theorem index_one_eq (c : UInt8) (l : List UInt8) : Lib.index (c :: l) [c] = 0 := by rw [Lib.index]; simp [List.isPrefixOf]
theorem index_one_ne {b c : UInt8} (l : List UInt8) (h : b ≠ c) : Lib.index (b :: l) [c] = if Lib.index l [c] == -1 then -1 else Lib.index l [c] + 1 := by
  have hp : ([c] : List UInt8).isPrefixOf (b :: l) = false := by simp [List.isPrefixOf, Ne.symm h]
  rw [Lib.index, hp]
  simp
theorem splitK_cutAt (c : UInt8) (l : List UInt8) : Lib.splitK [c] 0 (Lib.count l [c]) l = cutAt c l := by
  induction l with
  | nil => rw [Lib.count_miss (by simp [Lib.index])]; rfl
  | cons b l ih =>
    by_cases h : b = c
    · subst h
      rw [Lib.count_cons_eq, Nat.add_comm 1, Lib.splitK, index_one_eq, if_neg (by decide), cutAt, if_pos rfl, ← ih]
      rfl
    · rw [Lib.count_cons_ne b c l h, cutAt, if_neg h]
      by_cases hm : Lib.index l [c] = -1
      · rw [Lib.count_miss hm] at ih ⊢
        rw [← ih]
        rfl
      · have hge := Lib.index_ge l [c]
        obtain ⟨j, hj⟩ : ∃ j : Nat, Lib.index l [c] = j := ⟨(Lib.index l [c]).toNat, by omega⟩
        have hix : Lib.index (b :: l) [c] = ((j + 1 : Nat) : Int) := by rw [index_one_ne l h, if_neg (fun e => hm (beq_iff_eq.1 e)), hj]; omega
        rw [Lib.count_hit (by simp) hj, Nat.add_comm 1] at ih ⊢
        have n1 : ¬ ((j : Int) == -1) = true := fun e => by have := beq_iff_eq.1 e; omega
        have n2 : ¬ (((j + 1 : Nat) : Int) == -1) = true := fun e => by have := beq_iff_eq.1 e; omega
        rw [Lib.splitK, hj, if_neg n1] at ih
        rw [Lib.splitK, hix, if_neg n2, ← ih]
        simp
theorem split_cutAt (c : UInt8) (l : List UInt8) : Lib.split l [c] = cutAt c l := splitK_cutAt c l
theorem count_cutAt (c : UInt8) (l : List UInt8) : (cutAt c l).length = l.count c + 1 := by
  induction l with
  | nil => rfl
  | cons b r ih =>
    rw [cutAt]
    split
    · rename_i h
      rw [List.length_cons, ih, h, List.count_cons_self]
    · rename_i h
      rw [List.length_cons, List.count_cons_of_ne h, ← ih, ← cutAt_split c r]
      simp
/-- What stands ahead of the first semicolon. -/
def ahead (l : List UInt8) : List UInt8 := l.takeWhile (fun b => !(b == 59))
theorem cut_ahead (l : List UInt8) : (Lib.cut l [59]).1 = ahead l := by
  induction l with
  | nil => rfl
  | cons b l ih =>
    by_cases h : b = 59
    · subst h
      unfold Lib.cut
      rw [index_one_eq, if_pos (by decide)]
      rfl
    · have ha : ahead (b :: l) = b :: ahead l := by simp [ahead, h]
      rw [ha, ← ih]
      unfold Lib.cut
      have hge := Lib.index_ge l [59]
      by_cases hm : Lib.index l [59] = -1
      · rw [index_one_ne l h, hm]
        rfl
      · obtain ⟨j, hj⟩ : ∃ j : Nat, Lib.index l [59] = j := ⟨(Lib.index l [59]).toNat, by omega⟩
        have hix : Lib.index (b :: l) [59] = ((j + 1 : Nat) : Int) := by rw [index_one_ne l h, if_neg (fun e => hm (beq_iff_eq.1 e)), hj]; omega
        rw [hix, hj, if_pos (by omega), if_pos (by omega)]
        simp

/-! ### lines -/
/-- A line of a text: its number, what stands ahead of the comment. -/
def numbered : Nat → List (List UInt8) → List (Nat × List UInt8)
  | _, [] => []
  | i, l :: r => (i + 1, ahead l) :: numbered (i + 1) r
def wordy (ps : List (Nat × List UInt8)) : List (Nat × List (List UInt8)) := (ps.map fun p => (p.1, Lib.fields p.2)).filter fun q => !q.2.isEmpty
/-- lex.Lines, of numbered lines. -/
def linesOf (ps : List (Nat × List UInt8)) : List (Nat × List (List UInt8)) × Nat × Nat :=
  match ps.find? fun p => !p.2.all isPlain with
  | some p => ([], p.1, 6)
  | none => (wordy ps, 0, 0)
def linesL (t : List UInt8) : List (Nat × List (List UInt8)) × Nat × Nat := if 65536 < t.length then ([], 0, 7) else linesOf (numbered 0 (cutAt 10 t))
theorem wordy_append (a b : List (Nat × List UInt8)) : wordy (a ++ b) = wordy a ++ wordy b := by simp [wordy]
end Go.Proofs.YtdbjjbooalkkbaaGreatDoor.P

/- strings.ReplaceAll of one byte, plainly. -/
import Derived.Test.YtmcmpjkfdkogiaaGreatDoorXLexG
import Derived.Lib.Replace
namespace Go.Proofs.YtmcmpjkfdkogiaaGreatDoor.P

def rep1 (c : UInt8) (new : List UInt8) (s : List UInt8) : List UInt8 := s.flatMap fun b => if b = c then new else [b]
theorem rep1_cons_eq (c : UInt8) (new l : List UInt8) : rep1 c new (c :: l) = new ++ rep1 c new l := by simp [rep1]
theorem rep1_cons_ne {b c : UInt8} (new l : List UInt8) (h : b ≠ c) : rep1 c new (b :: l) = b :: rep1 c new l := by simp [rep1, h]
theorem rep1_none (c : UInt8) (new : List UInt8) : ∀ s : List UInt8, (∀ b ∈ s, b ≠ c) → rep1 c new s = s
  | [], _ => rfl
  | b :: l, h => by rw [rep1_cons_ne new l (h b List.mem_cons_self), rep1_none c new l (fun x hx => h x (List.mem_cons_of_mem _ hx))]
theorem rep1_le (c : UInt8) : ∀ s : List UInt8, (rep1 c [] s).length ≤ s.length
  | [] => Nat.le_refl _
  | b :: l => by
    have ih := rep1_le c l
    by_cases h : b = c
    · subst h
      rw [rep1_cons_eq, List.nil_append, List.length_cons]
      omega
    · rw [rep1_cons_ne [] l h, List.length_cons, List.length_cons]
      omega
theorem replaceK_one (c : UInt8) (new : List UInt8) : ∀ s : List UInt8, Lib.replaceK [c] new (s.count c) s = rep1 c new s
  | [] => rfl
  | b :: l => by
    have ih := replaceK_one c new l
    by_cases h : b = c
    · subst h
      rw [List.count_cons_self, Lib.replaceK_hit [b] new _ (b :: l) 0 (index_one_eq b l), rep1_cons_eq]
      simpa using ih
    · rw [List.count_cons_of_ne h, rep1_cons_ne new l h]
      cases hk : l.count c with
      | zero =>
        rw [hk] at ih
        rw [Lib.replaceK] at ih ⊢
        rw [← ih]
      | succ k =>
        rw [hk] at ih
        have hc : 0 < Lib.count l [c] := by rw [Lib.count_one]; omega
        obtain ⟨i, hi⟩ := Lib.index_of_count hc
        have h2 : Lib.index (b :: l) [c] = ((i + 1 : Nat) : Int) := by
          rw [index_one_ne l h, hi]
          have : ¬ (((i : Nat) : Int) == -1) = true := by rw [beq_iff_eq]; omega
          rw [if_neg this]
          rfl
        rw [Lib.replaceK_hit [c] new k l i hi] at ih
        rw [Lib.replaceK_hit [c] new k (b :: l) (i + 1) h2, ← ih]
        have e : i + 1 + [c].length = (i + [c].length) + 1 := by simp
        rw [e, List.drop_succ_cons, List.take_succ_cons]
        rfl
theorem replaceAll_one (c : UInt8) (new s : List UInt8) (h : new ≠ [c]) : Lib.replaceAll s [c] new = rep1 c new s := by
  unfold Lib.replaceAll Lib.replace
  rw [if_neg (by rw [beq_iff_eq]; exact Ne.symm h)]
  unfold Lib.replaceNum
  rw [if_pos (.inl (by decide)), Lib.count_one]
  exact replaceK_one c new s
end Go.Proofs.YtmcmpjkfdkogiaaGreatDoor.P

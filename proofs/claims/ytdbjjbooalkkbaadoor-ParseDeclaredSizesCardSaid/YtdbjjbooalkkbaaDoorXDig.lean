/- Plain facts on numerals: the value of the digits of a number. -/
import Derived.Test.YtdbjjbooalkkbaaDoorXPlain
import Derived.Test.YtdbjjbooalkkbaaDoorYW
namespace Go.Proofs.YtdbjjbooalkkbaaDoor.P
open Go Go.RowKit Go.Proofs.YtdbjjbooalkkbaaDoorW.PrintWords

theorem decFrom_snoc (a : Nat) (l : List UInt8) (c : UInt8) : decFrom a (l ++ [c]) = decFrom a l * 10 + (c.toNat - 48) := by
  unfold decFrom; rw [List.foldl_append]; rfl
theorem decVal_snoc (l : List UInt8) (c : UInt8) : decVal (l ++ [c]) = decVal l * 10 + (c.toNat - 48) := decFrom_snoc 0 l c
theorem dig_toNat (d : Nat) (h : d < 10) : (UInt8.ofNat (48 + d)).toNat = 48 + d := by
  rw [UInt8.toNat_ofNat']; omega
theorem decDigits_one (u : Nat) (h : u < 10) : Lib.decDigits u = [UInt8.ofNat (48 + u)] := by rw [Lib.decDigits]; rw [dif_pos h]
theorem decDigits_more (u : Nat) (h : ¬ u < 10) : Lib.decDigits u = Lib.decDigits (u / 10) ++ [UInt8.ofNat (48 + u % 10)] := by
  conv => lhs; rw [Lib.decDigits]
  rw [dif_neg h]
theorem decDigits_ne (u : Nat) : Lib.decDigits u ≠ [] := by
  by_cases h : u < 10
  · rw [decDigits_one u h]; simp
  · rw [decDigits_more u h]; simp
theorem isDig_ofNat (d : Nat) (h : d < 10) : isDig (UInt8.ofNat (48 + d)) = true := by
  unfold isDig; rw [dig_toNat d h]; simp; omega
theorem decDigits_spec (u : Nat) : decVal (Lib.decDigits u) = u ∧ (Lib.decDigits u).all isDig = true ∧ (0 < u → (Lib.decDigits u).head? ≠ some 48) := by
  induction u using Nat.strongRecOn with
  | _ u ih =>
    by_cases h : u < 10
    · rw [decDigits_one u h]
      refine ⟨?_, ?_, ?_⟩
      · have := decVal_snoc [] (UInt8.ofNat (48 + u))
        rw [List.nil_append] at this
        rw [this, dig_toNat u h]
        show 0 * 10 + _ = u
        omega
      · rw [List.all_cons, List.all_nil, isDig_ofNat u h]; rfl
      · intro h0 e
        have e1 : UInt8.ofNat (48 + u) = 48 := by simpa using e
        have := congrArg UInt8.toNat e1
        rw [dig_toNat u h] at this
        simp at this
        omega
    · obtain ⟨h1, h2, h3⟩ := ih (u / 10) (by omega)
      rw [decDigits_more u h]
      have hm : u % 10 < 10 := Nat.mod_lt _ (by omega)
      refine ⟨?_, ?_, ?_⟩
      · rw [decVal_snoc, h1, dig_toNat _ hm]
        omega
      · rw [List.all_append, h2, List.all_cons, List.all_nil, isDig_ofNat _ hm]; rfl
      · intro _
        have := h3 (by omega)
        cases hd : Lib.decDigits (u / 10) with
        | nil => exact absurd hd (decDigits_ne _)
        | cons c r => rw [hd] at this; simpa using this
theorem isNum_digits (u : Nat) : isNum (Lib.decDigits u) = true := by
  obtain ⟨h1, h2, h3⟩ := decDigits_spec u
  have hne : (Lib.decDigits u).isEmpty = false := by simpa using decDigits_ne u
  unfold isNum
  simp only [hne, h2, Bool.not_false, Bool.true_and, Bool.or_eq_true, decide_eq_true_eq]
  by_cases h : u < 10
  · left; rw [decDigits_one u h]; simp
  · right; exact h3 (by omega)
end Go.Proofs.YtdbjjbooalkkbaaDoor.P

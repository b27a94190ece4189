/- Plain facts on numerals: the value of the digits of a number, the digits of a value; strings as lists of bytes. -/
import Derived.Test.YtdbjjbooalkkbaaGreatDoorXPlain
import Derived.Test.YtdbjjbooalkkbaaGreatDoorYW
namespace Go.Proofs.YtdbjjbooalkkbaaGreatDoor.P
open Go Go.RowKit Go.Proofs.YtdbjjbooalkkbaaGreatDoorW.PrintWords

theorem decFrom_snoc (a : Nat) (l : List UInt8) (c : UInt8) : decFrom a (l ++ [c]) = decFrom a l * 10 + (c.toNat - 48) := by
  unfold decFrom; rw [List.foldl_append]; rfl
theorem decVal_snoc (l : List UInt8) (c : UInt8) : decVal (l ++ [c]) = decVal l * 10 + (c.toNat - 48) := decFrom_snoc 0 l c
theorem dig_toNat (d : Nat) (h : d < 10) : (UInt8.ofNat (48 + d)).toNat = 48 + d := by
  rw [UInt8.toNat_ofNat']; omega
theorem decDigits_one (u : Nat) (h : u < 10) : Lib.decDigits u = [UInt8.ofNat (48 + u)] := by rw [Lib.decDigits]; rw [dif_pos h]
theorem decDigits_more (u : Nat) (h : ¬ u < 10) : Lib.decDigits u = Lib.decDigits (u / 10) ++ [UInt8.ofNat (48 + u % 10)] := by
  conv => lhs; rw [Lib.decDigits]
  rw [dif_neg h]
theorem decDigits_ne (u : Nat) : Lib.decDigits u ≠ [] := by
  by_cases h : u < 10
  · rw [decDigits_one u h]; simp
  · rw [decDigits_more u h]; simp
theorem isDig_ofNat (d : Nat) (h : d < 10) : isDig (UInt8.ofNat (48 + d)) = true := by
  unfold isDig; rw [dig_toNat d h]; simp; omega
theorem decDigits_spec (u : Nat) : decVal (Lib.decDigits u) = u ∧ (Lib.decDigits u).all isDig = true ∧ (0 < u → (Lib.decDigits u).head? ≠ some 48) := by
  induction u using Nat.strongRecOn with
  | _ u ih =>
    by_cases h : u < 10
    · rw [decDigits_one u h]
      refine ⟨?_, ?_, ?_⟩
      · have := decVal_snoc [] (UInt8.ofNat (48 + u))
        rw [List.nil_append] at this
        rw [this, dig_toNat u h]
        show 0 * 10 + _ = u
        omega
      · rw [List.all_cons, List.all_nil, isDig_ofNat u h]; rfl
      · intro h0 e
        have e1 : UInt8.ofNat (48 + u) = 48 := by simpa using e
        have := congrArg UInt8.toNat e1
        rw [dig_toNat u h] at this
        simp at this
        omega
    · obtain ⟨h1, h2, h3⟩ := ih (u / 10) (by omega)
      rw [decDigits_more u h]
      have hm : u % 10 < 10 := Nat.mod_lt _ (by omega)
      refine ⟨?_, ?_, ?_⟩
      · rw [decVal_snoc, h1, dig_toNat _ hm]
        omega
      · rw [List.all_append, h2, List.all_cons, List.all_nil, isDig_ofNat _ hm]; rfl
      · intro _
        have := h3 (by omega)
        cases hd : Lib.decDigits (u / 10) with
        | nil => exact absurd hd (decDigits_ne _)
        | cons c r => rw [hd] at this; simpa using this
theorem isNum_digits (u : Nat) : isNum (Lib.decDigits u) = true := by
  obtain ⟨h1, h2, h3⟩ := decDigits_spec u
  have hne : (Lib.decDigits u).isEmpty = false := by simpa using decDigits_ne u
  unfold isNum
  simp only [hne, h2, Bool.not_false, Bool.true_and, Bool.or_eq_true, decide_eq_true_eq]
  by_cases h : u < 10
  · left; rw [decDigits_one u h]; simp
  · right; exact h3 (by omega)
theorem decFrom_pos (l : List UInt8) (c : UInt8) (hc : 49 ≤ c.toNat) : 0 < decVal (c :: l) := by
  have := decFrom_le l (0 * 10 + (c.toNat - 48))
  have e : decVal (c :: l) = decFrom (0 * 10 + (c.toNat - 48)) l := decFrom_cons 0 c l
  omega
theorem isNum_cons {c : UInt8} {r : List UInt8} : isNum (c :: r) = true ↔ isDig c = true ∧ r.all isDig = true ∧ (r = [] ∨ c ≠ 48) := by
  unfold isNum
  simp only [List.isEmpty_cons, Bool.not_false, Bool.true_and, List.all_cons, Bool.and_eq_true, Bool.or_eq_true, decide_eq_true_eq, List.length_cons, List.head?_cons]
  constructor
  · rintro ⟨⟨h1, h2⟩, h3⟩
    refine ⟨h1, h2, ?_⟩
    rcases h3 with h3 | h3
    · left; exact List.length_eq_zero_iff.mp (by omega)
    · right; intro e; exact (of_decide_eq_true h3) (by rw [e])
  · rintro ⟨h1, h2, h3⟩
    refine ⟨⟨h1, h2⟩, ?_⟩
    rcases h3 with h3 | h3
    · left; rw [h3]; simp
    · right; exact decide_eq_true (fun e => h3 (Option.some.inj e))
theorem digits_val_n (n : Nat) : ∀ l : List UInt8, l.length = n → isNum l = true → Lib.decDigits (decVal l) = l := by
  induction n with
  | zero =>
    intro l hl h
    rw [List.length_eq_zero_iff.mp hl] at h
    cases h
  | succ n ihn =>
    intro l0 hl0 h
    obtain ⟨l, c, rfl⟩ : ∃ l c, l0 = l ++ [c] := by
      rcases List.eq_nil_or_concat l0 with e | ⟨l, c, e⟩
      · rw [e] at hl0; cases hl0
      · exact ⟨l, c, by rw [e, List.concat_eq_append]⟩
    have ih := ihn l (by simpa using hl0)
    cases l with
    | nil =>
      rw [List.nil_append] at h ⊢
      obtain ⟨h1, _, _⟩ := isNum_cons.mp h
      have hc : 48 ≤ c.toNat ∧ c.toNat ≤ 57 := of_decide_eq_true h1
      have hv : decVal [c] = c.toNat - 48 := by
        have := decVal_snoc [] c
        rw [List.nil_append] at this
        rw [this]
        show 0 * 10 + _ = _
        omega
      rw [hv, decDigits_one _ (by omega)]
      congr 1
      apply UInt8.toNat_inj.mp
      rw [dig_toNat _ (by omega)]
      omega
    | cons d r =>
      have h0 := h
      rw [List.cons_append] at h0
      obtain ⟨h1, h2, h3⟩ := isNum_cons.mp h0
      rw [List.all_append, Bool.and_eq_true] at h2
      have hd : d ≠ 48 := by
        rcases h3 with h3 | h3
        · simp at h3
        · exact h3
      have hn : isNum (d :: r) = true := isNum_cons.mpr ⟨h1, h2.1, .inr hd⟩
      have hc : isDig c = true := by simpa using h2.2
      have hc' : 48 ≤ c.toNat ∧ c.toNat ≤ 57 := of_decide_eq_true hc
      have hd' : 48 ≤ d.toNat ∧ d.toNat ≤ 57 := of_decide_eq_true h1
      have hd49 : 49 ≤ d.toNat := by
        by_cases e : d.toNat = 48
        · exact absurd (UInt8.toNat_inj.mp e) hd
        · omega
      have hpos := decFrom_pos r d hd49
      rw [decVal_snoc, decDigits_more _ (by omega)]
      rw [show (decVal (d :: r) * 10 + (c.toNat - 48)) / 10 = decVal (d :: r) by omega, show (decVal (d :: r) * 10 + (c.toNat - 48)) % 10 = c.toNat - 48 by omega, ih hn]
      congr 1
      congr 1
      apply UInt8.toNat_inj.mp
      rw [dig_toNat _ (by omega)]
      omega

theorem digits_val (l : List UInt8) (h : isNum l = true) : Lib.decDigits (decVal l) = l := digits_val_n l.length l rfl h

/-! strings as lists -/
theorem toList_mk (l : List UInt8) : (⟨l.toArray⟩ : ByteArray).toList = l := by rw [ByteArray.toList_eq]
theorem size_mk (l : List UInt8) : (⟨l.toArray⟩ : ByteArray).size = l.length := by show l.toArray.size = _; simp
theorem size_list (s : ByteArray) : s.size = s.data.toList.length := by rw [Array.length_toList]; rfl
theorem mk_list (s : ByteArray) : (⟨s.data.toList.toArray⟩ : ByteArray) = s := by cases s; simp
theorem bt_list (s : ByteArray) (i : Int) (c : UInt8) (h : s.data.toList[i.toNat]? = some c) : bt s i = c.toNat := by
  have hl : i.toNat < s.size := by rw [size_list]; exact (List.getElem?_eq_some_iff.mp h).1
  rw [← bt_at s i hl]
  have h2 := (List.getElem?_eq_some_iff.mp h).2
  rw [Array.getElem_toList] at h2
  have : s[i.toNat]'hl = c := h2
  rw [this]
theorem append_list (s t : ByteArray) : (s ++ t).data.toList = s.data.toList ++ t.data.toList := by rw [ByteArray.data_append, Array.toList_append]
theorem wrap_id {x : Int} (h1 : -9223372036854775808 ≤ x) (h2 : x ≤ 9223372036854775807) : wrap64 x = x := by unfold wrap64; omega
end Go.Proofs.YtdbjjbooalkkbaaGreatDoor.P

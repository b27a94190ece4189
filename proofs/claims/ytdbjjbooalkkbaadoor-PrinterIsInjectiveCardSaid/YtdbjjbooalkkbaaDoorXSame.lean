/- printer.Equal and the reference's Same, plainly. -/
import Derived.Test.YtdbjjbooalkkbaaDoorXEvn
import Derived.Test.YtdbjjbooalkkbaaDoorXSameA
import Derived.Test.YtdbjjbooalkkbaaDoorPQ8
namespace Go.Proofs.YtdbjjbooalkkbaaDoor.P
open Go.RowKit Go.Proofs.YtdbjjbooalkkbaaDoorW.PrintWords

theorem eq_con (x y : List S44) (hl : x.length = y.length) (hx : x.length ≤ 9223372036854775807) (d : Nat) : ∀ i : Nat, i + d = x.length → Evn (fun k => api_Contact.l0 k x y (x.length : Int) (i : Int)) (listEq conEq (x.drop i) (y.drop i)) := by
  induction d with
  | zero =>
    intro i hi
    rw [List.drop_eq_nil_of_le (by omega), List.drop_eq_nil_of_le (by omega)]
    exact (Evn.const true).step (fun k => by rw [api_Contact.l0, if_neg (by omega)])
  | succ d ih =>
    intro i hi
    obtain ⟨a, ha⟩ : ∃ a, x[i]? = some a := ⟨_, List.getElem?_eq_getElem (by omega)⟩
    obtain ⟨b, hb⟩ : ∃ b, y[i]? = some b := ⟨_, List.getElem?_eq_getElem (by omega)⟩
    rw [drop_at x i a ha, drop_at y i b hb, listEq]
    have h := ih (i + 1) (by omega)
    cases he : conEq a b with
    | true =>
      refine h.step (fun k => ?_)
      rw [api_Contact.l0, if_pos (by omega), if_pos (by omega), if_pos (by omega), if_pos (by omega), rd50_at x i a ha, rd50_at y i b hb, con_test, he, if_neg (by decide), wrap_nat (by omega)]
    | false =>
      refine (Evn.const false).step (fun k => ?_)
      rw [api_Contact.l0, if_pos (by omega), if_pos (by omega), if_pos (by omega), if_pos (by omega), rd50_at x i a ha, rd50_at y i b hb, con_test, he, if_pos (by decide)]
theorem eq_coil (x y : List S47) (hl : x.length = y.length) (hx : x.length ≤ 9223372036854775807) (d : Nat) : ∀ i : Nat, i + d = x.length → Evn (fun k => api_Coil.l0 k x y (x.length : Int) (i : Int)) (listEq coilEq (x.drop i) (y.drop i)) := by
  induction d with
  | zero =>
    intro i hi
    rw [List.drop_eq_nil_of_le (by omega), List.drop_eq_nil_of_le (by omega)]
    exact (Evn.const true).step (fun k => by rw [api_Coil.l0, if_neg (by omega)])
  | succ d ih =>
    intro i hi
    obtain ⟨a, ha⟩ : ∃ a, x[i]? = some a := ⟨_, List.getElem?_eq_getElem (by omega)⟩
    obtain ⟨b, hb⟩ : ∃ b, y[i]? = some b := ⟨_, List.getElem?_eq_getElem (by omega)⟩
    rw [drop_at x i a ha, drop_at y i b hb, listEq]
    have h := ih (i + 1) (by omega)
    cases he : coilEq a b with
    | true =>
      refine h.step (fun k => ?_)
      rw [api_Coil.l0, if_pos (by omega), if_pos (by omega), if_pos (by omega), if_pos (by omega), rd53_at x i a ha, rd53_at y i b hb, coil_test, he, if_neg (by decide), wrap_nat (by omega)]
    | false =>
      refine (Evn.const false).step (fun k => ?_)
      rw [api_Coil.l0, if_pos (by omega), if_pos (by omega), if_pos (by omega), if_pos (by omega), rd53_at x i a ha, rd53_at y i b hb, coil_test, he, if_pos (by decide)]
theorem eq_cons (x y : List S44) (hx : x.length ≤ 9223372036854775807) : Evn (fun k => api_Contact.f k x y) (listEq conEq x y) := by
  by_cases h : x.length = y.length
  · refine (eq_con x y h hx x.length 0 (by omega)).same (fun k => ?_)
    unfold api_Contact.f
    rw [if_pos (by omega)]; rfl
  · rw [listEq_len _ x y h]
    refine (Evn.const false).same (fun k => ?_)
    unfold api_Contact.f
    rw [if_neg (by omega)]
theorem eq_coils (x y : List S47) (hx : x.length ≤ 9223372036854775807) : Evn (fun k => api_Coil.f k x y) (listEq coilEq x y) := by
  by_cases h : x.length = y.length
  · refine (eq_coil x y h hx x.length 0 (by omega)).same (fun k => ?_)
    unfold api_Coil.f
    rw [if_pos (by omega)]; rfl
  · rw [listEq_len _ x y h]
    refine (Evn.const false).same (fun k => ?_)
    unfold api_Coil.f
    rw [if_neg (by omega)]
theorem eq_rung (a b : S28) (h1 : a.f1.length ≤ 9223372036854775807) (h2 : a.f2.length ≤ 9223372036854775807) : Evn (fun k => printer_Equal_1.f k a.f0 a.f1 a.f2 a.f3 b.f0 b.f1 b.f2 b.f3) (rungEq a b) := by
  unfold rungEq printer_Equal_1.f
  by_cases e0 : a.f0.toList = b.f0.toList
  · by_cases e3 : a.f3.toList = b.f3.toList
    · simp only [if_pos e0, if_pos e3, beq_iff_eq.mpr e0, beq_iff_eq.mpr e3, Bool.true_and]
      refine (eq_cons a.f1 b.f1 h1).bind ?_
      cases listEq conEq a.f1 b.f1 with
      | true => exact (eq_coils a.f2 b.f2 h2).bind (Evn.const _)
      | false => exact Evn.const _
    · simp only [if_pos e0, if_neg e3, beq_iff_eq.mpr e0, beq_eq_false_iff_ne.mpr e3, Bool.true_and, Bool.false_and]
      exact Evn.const _
  · simp only [if_neg e0, beq_eq_false_iff_ne.mpr e0, Bool.false_and]
    exact Evn.const _
theorem eq_rungs (x y : List S28) (hl : x.length = y.length) (hx : x.length ≤ 9223372036854775807) (hc : ∀ r ∈ x, r.f1.length ≤ 9223372036854775807 ∧ r.f2.length ≤ 9223372036854775807) (d : Nat) : ∀ i : Nat, i + d = x.length → Evn (fun k => api_Rung_29.l0 k y x (x.length : Int) (i : Int)) (listEq rungEq (x.drop i) (y.drop i)) := by
  induction d with
  | zero =>
    intro i hi
    rw [List.drop_eq_nil_of_le (by omega), List.drop_eq_nil_of_le (by omega)]
    exact (Evn.const true).step (fun k => by rw [api_Rung_29.l0, if_neg (by omega)])
  | succ d ih =>
    intro i hi
    obtain ⟨a, ha⟩ : ∃ a, x[i]? = some a := ⟨_, List.getElem?_eq_getElem (by omega)⟩
    obtain ⟨b, hb⟩ : ∃ b, y[i]? = some b := ⟨_, List.getElem?_eq_getElem (by omega)⟩
    rw [drop_at x i a ha, drop_at y i b hb, listEq]
    have h := ih (i + 1) (by omega)
    have hm := hc a (List.mem_of_getElem? ha)
    have hr := eq_rung a b hm.1 hm.2
    refine Evn.step (g := fun k => (printer_Equal_1.f k a.f0 a.f1 a.f2 a.f3 b.f0 b.f1 b.f2 b.f3).bind fun t => if t = true then api_Rung_29.l0 k y x (x.length : Int) ((i + 1 : Nat) : Int) else some false) ?_ (fun k => by
      rw [api_Rung_29.l0, if_pos (by omega), if_pos (by omega), if_pos (by omega), if_pos (by omega), rd40_at x i a ha, rd40_at y i b hb, wrap_nat (by omega)])
    refine hr.bind ?_
    cases rungEq a b with
    | true => exact h
    | false => exact Evn.const _
theorem equal_eq (I Q M : Int) (x : List S28) (I' Q' M' : Int) (y : List S28) (hx : x.length ≤ 9223372036854775807) (hc : ∀ r ∈ x, r.f1.length ≤ 9223372036854775807 ∧ r.f2.length ≤ 9223372036854775807) :
    Evn (fun k => printer_Equal.f k I Q M x I' Q' M' y) (sameP I Q M x I' Q' M' y) := by
  unfold printer_Equal.f printer_sizes.f sameP
  simp only [Option.bind_some]
  rw [show ((0 : Int) == 0) = true from rfl]
  cases h : (I == I' && (Q == Q' && M == M')) with
  | false =>
    have : (I == I' && (Q == Q' && (M == M' && true))) = false := by rw [Bool.and_true]; exact h
    simp only [this]
    exact Evn.const _
  | true =>
    have : (I == I' && (Q == Q' && (M == M' && true))) = true := by rw [Bool.and_true]; exact h
    simp only [this, if_true, Bool.true_and]
    refine Evn.bind (v := listEq rungEq x y) ?_ (Evn.const _)
    unfold api_Rung_29.f
    by_cases hl : x.length = y.length
    · exact (eq_rungs x y hl hx hc x.length 0 (by omega)).same (fun k => by rw [if_pos (by omega)]; rfl)
    · rw [listEq_len _ x y hl]
      exact (Evn.const false).same (fun k => by rw [if_neg (by omega)])
end Go.Proofs.YtdbjjbooalkkbaaDoor.P

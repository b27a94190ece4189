/- The reference's Same, plainly. -/
import Derived.Test.YtmcmpjkfdkogiaaDoorXSame
namespace Go.Proofs.YtmcmpjkfdkogiaaDoor.P
open Go.RowKit Go.Proofs.YtmcmpjkfdkogiaaDoorW.PrintWords

theorem same_l2 (I Q M : Int) (x : List S40) (I' Q' M' : Int) (y : List S40) (i : Int) (a b : S40) (hl : a.f2.length = b.f2.length) (hb : a.f2.length ≤ 9223372036854775807) (v : Bool)
    (hn : Evn (fun k => ref10_Same.l0 k (wrap64 (i + 1)) I Q M x I' Q' M' y) v) (d : Nat) : ∀ j : Nat, j + d = a.f2.length →
    Evn (fun k => ref10_Same.l2 k i (j : Int) I Q M x I' Q' M' y a.f0 a.f1 a.f2 a.f3 b.f0 b.f1 b.f2 b.f3) (listEq coilEq (a.f2.drop j) (b.f2.drop j) && v) := by
  induction d with
  | zero =>
    intro j hj
    rw [List.drop_eq_nil_of_le (by omega), List.drop_eq_nil_of_le (by omega), listEq, Bool.true_and]
    exact hn.step (fun k => by rw [ref10_Same.l2, if_neg (by omega)])
  | succ d ih =>
    intro j hj
    obtain ⟨p, hp⟩ : ∃ p, a.f2[j]? = some p := ⟨_, List.getElem?_eq_getElem (by omega)⟩
    obtain ⟨q, hq⟩ : ∃ q, b.f2[j]? = some q := ⟨_, List.getElem?_eq_getElem (by omega)⟩
    rw [drop_at a.f2 j p hp, drop_at b.f2 j q hq, listEq]
    have h := ih (j + 1) (by omega)
    cases he : coilEq p q with
    | true =>
      refine h.step (fun k => ?_)
      rw [ref10_Same.l2, if_pos (by omega), if_pos (by omega), if_pos (by omega), rd53_at a.f2 j p hp, rd53_at b.f2 j q hq, coil_test, he, if_neg (by decide), wrap_nat (by omega)]
    | false =>
      refine (Evn.const false).step (fun k => ?_)
      rw [ref10_Same.l2, if_pos (by omega), if_pos (by omega), if_pos (by omega), rd53_at a.f2 j p hp, rd53_at b.f2 j q hq, coil_test, he, if_pos (by decide)]
theorem same_l1 (I Q M : Int) (x : List S40) (I' Q' M' : Int) (y : List S40) (i : Int) (a b : S40) (hl : a.f1.length = b.f1.length) (hb : a.f1.length ≤ 9223372036854775807) (hl2 : a.f2.length = b.f2.length) (hb2 : a.f2.length ≤ 9223372036854775807) (v : Bool)
    (hn : Evn (fun k => ref10_Same.l0 k (wrap64 (i + 1)) I Q M x I' Q' M' y) v) (d : Nat) : ∀ j : Nat, j + d = a.f1.length →
    Evn (fun k => ref10_Same.l1 k i (j : Int) I Q M x I' Q' M' y a.f0 a.f1 a.f2 a.f3 b.f0 b.f1 b.f2 b.f3) (listEq conEq (a.f1.drop j) (b.f1.drop j) && (listEq coilEq a.f2 b.f2 && v)) := by
  induction d with
  | zero =>
    intro j hj
    rw [List.drop_eq_nil_of_le (by omega), List.drop_eq_nil_of_le (by omega), listEq, Bool.true_and]
    exact (same_l2 I Q M x I' Q' M' y i a b hl2 hb2 v hn a.f2.length 0 (by omega)).step (fun k => by rw [ref10_Same.l1, if_neg (by omega)]; rfl)
  | succ d ih =>
    intro j hj
    obtain ⟨p, hp⟩ : ∃ p, a.f1[j]? = some p := ⟨_, List.getElem?_eq_getElem (by omega)⟩
    obtain ⟨q, hq⟩ : ∃ q, b.f1[j]? = some q := ⟨_, List.getElem?_eq_getElem (by omega)⟩
    rw [drop_at a.f1 j p hp, drop_at b.f1 j q hq, listEq]
    have h := ih (j + 1) (by omega)
    cases he : conEq p q with
    | true =>
      refine h.step (fun k => ?_)
      rw [ref10_Same.l1, if_pos (by omega), if_pos (by omega), if_pos (by omega), rd50_at a.f1 j p hp, rd50_at b.f1 j q hq, con_test, he, if_neg (by decide), wrap_nat (by omega)]
    | false =>
      refine (Evn.const false).step (fun k => ?_)
      rw [ref10_Same.l1, if_pos (by omega), if_pos (by omega), if_pos (by omega), rd50_at a.f1 j p hp, rd50_at b.f1 j q hq, con_test, he, if_pos (by decide)]
theorem same_l0 (I Q M : Int) (x : List S40) (I' Q' M' : Int) (y : List S40) (hl : x.length = y.length) (hx : x.length ≤ 9223372036854775807) (hc : ∀ r ∈ x, r.f1.length ≤ 9223372036854775807 ∧ r.f2.length ≤ 9223372036854775807) (d : Nat) : ∀ i : Nat, i + d = x.length →
    Evn (fun k => ref10_Same.l0 k (i : Int) I Q M x I' Q' M' y) (listEq rungEq (x.drop i) (y.drop i)) := by
  induction d with
  | zero =>
    intro i hi
    rw [List.drop_eq_nil_of_le (by omega), List.drop_eq_nil_of_le (by omega)]
    exact (Evn.const true).step (fun k => by rw [ref10_Same.l0, if_neg (by omega)])
  | succ d ih =>
    intro i hi
    obtain ⟨a, ha⟩ : ∃ a, x[i]? = some a := ⟨_, List.getElem?_eq_getElem (by omega)⟩
    obtain ⟨b, hb⟩ : ∃ b, y[i]? = some b := ⟨_, List.getElem?_eq_getElem (by omega)⟩
    rw [drop_at x i a ha, drop_at y i b hb, listEq]
    have h := ih (i + 1) (by omega)
    have hm := hc a (List.mem_of_getElem? ha)
    have hno : ∀ (p : Bool), p = true → Evn (fun k => ref10_Same.j2 k (i : Int) p I Q M x I' Q' M' y a.f0 a.f1 a.f2 a.f3 b.f0 b.f1 b.f2 b.f3) false := fun p hp => (Evn.const false).step (fun k => by rw [ref10_Same.j2, if_pos hp])
    have hne : ∀ v, (rungEq a b && v) = (a.f0.toList == b.f0.toList && (a.f3.toList == b.f3.toList && (listEq conEq a.f1 b.f1 && (listEq coilEq a.f2 b.f2 && v)))) := fun v => by unfold rungEq; simp only [Bool.and_assoc]
    rw [hne]
    by_cases e0 : a.f0.toList = b.f0.toList
    · by_cases e3 : a.f3.toList = b.f3.toList
      · rw [beq_iff_eq.mpr e0, beq_iff_eq.mpr e3, Bool.true_and, Bool.true_and]
        by_cases e1 : a.f1.length = b.f1.length
        · by_cases e2 : a.f2.length = b.f2.length
          · have hj : Evn (fun k => ref10_Same.j2 k (i : Int) false I Q M x I' Q' M' y a.f0 a.f1 a.f2 a.f3 b.f0 b.f1 b.f2 b.f3) (listEq conEq a.f1 b.f1 && (listEq coilEq a.f2 b.f2 && listEq rungEq (x.drop (i + 1)) (y.drop (i + 1)))) :=
              (same_l1 I Q M x I' Q' M' y (i : Int) a b e1 hm.1 e2 hm.2 _ (h.same (fun k => by rw [wrap_nat (by omega)])) a.f1.length 0 (by omega)).step (fun k => by rw [ref10_Same.j2, if_neg (by decide)]; rfl)
            refine hj.step (fun k => ?_)
            rw [ref10_Same.l0, if_pos (by omega), if_pos (by omega), if_pos (by omega), rd40_at x i a ha, rd40_at y i b hb, if_pos e0, if_pos e3, if_pos (by omega), show ((a.f2.length : Int) != (b.f2.length : Int)) = false by simp [e2]]
          · rw [listEq_len coilEq _ _ e2, Bool.false_and, Bool.and_false]
            refine (hno true rfl).step (fun k => ?_)
            rw [ref10_Same.l0, if_pos (by omega), if_pos (by omega), if_pos (by omega), rd40_at x i a ha, rd40_at y i b hb, if_pos e0, if_pos e3, if_pos (by omega), show ((a.f2.length : Int) != (b.f2.length : Int)) = true by rw [bne_iff_ne]; omega]
        · rw [listEq_len conEq _ _ e1, Bool.false_and]
          refine (hno true rfl).step (fun k => ?_)
          rw [ref10_Same.l0, if_pos (by omega), if_pos (by omega), if_pos (by omega), rd40_at x i a ha, rd40_at y i b hb, if_pos e0, if_pos e3, if_neg (by omega)]
      · rw [beq_eq_false_iff_ne.mpr e3, Bool.false_and, Bool.and_false]
        refine (hno true rfl).step (fun k => ?_)
        rw [ref10_Same.l0, if_pos (by omega), if_pos (by omega), if_pos (by omega), rd40_at x i a ha, rd40_at y i b hb, if_pos e0, if_neg e3]
    · rw [beq_eq_false_iff_ne.mpr e0, Bool.false_and]
      refine (hno true rfl).step (fun k => ?_)
      rw [ref10_Same.l0, if_pos (by omega), if_pos (by omega), if_pos (by omega), rd40_at x i a ha, rd40_at y i b hb, if_neg e0]
theorem same_eq (I Q M : Int) (x : List S40) (I' Q' M' : Int) (y : List S40) (hx : x.length ≤ 9223372036854775807) (hc : ∀ r ∈ x, r.f1.length ≤ 9223372036854775807 ∧ r.f2.length ≤ 9223372036854775807) :
    Evn (fun k => ref10_Same.f k I Q M x I' Q' M' y) (sameP I Q M x I' Q' M' y) := by
  have hno : Evn (fun k => ref10_Same.j0 k true I Q M x I' Q' M' y) false := (Evn.const false).step (fun k => by rw [ref10_Same.j0, if_pos rfl])
  unfold ref10_Same.f sameP
  by_cases h1 : I = I'
  · by_cases h2 : Q = Q'
    · by_cases h3 : M = M'
      · simp only [if_pos h1, if_pos h2, if_pos h3, beq_iff_eq.mpr h1, beq_iff_eq.mpr h2, beq_iff_eq.mpr h3, Bool.true_and]
        by_cases hl : x.length = y.length
        · refine (same_l0 I Q M x I' Q' M' y hl hx hc x.length 0 (by omega)).step (fun k => ?_)
          rw [show ((x.length : Int) != (y.length : Int)) = false by simp [hl], ref10_Same.j0, if_neg (by decide)]; rfl
        · rw [listEq_len _ x y hl, show ((x.length : Int) != (y.length : Int)) = true by rw [bne_iff_ne]; omega]
          exact hno
      · simp only [if_pos h1, if_pos h2, if_neg h3, beq_eq_false_iff_ne.mpr h3, Bool.and_false, Bool.false_and]
        exact hno
    · simp only [if_pos h1, if_neg h2, beq_eq_false_iff_ne.mpr h2, Bool.and_false, Bool.false_and]
      exact hno
  · simp only [if_neg h1, beq_eq_false_iff_ne.mpr h1, Bool.false_and]
    exact hno
end Go.Proofs.YtmcmpjkfdkogiaaDoor.P

/- Equal ladders: the reference's Same, plainly (the texts XEvn0, XSameA, XSame2 in one). -/
import Derived.Test.YtmcmpjkfdkogiaaGreatDoorXAddrC
import Derived.Test.YtmcmpjkfdkogiaaGreatDoorPQ10
namespace Go.Proofs.YtmcmpjkfdkogiaaGreatDoor.P
open Go.RowKit Go.Proofs.YtmcmpjkfdkogiaaGreatDoorW.PrintWords

/-- With rounds enough the answer is v. -/
def Evn {α : Type} (f : Nat → Option α) (v : α) : Prop := ∃ K, ∀ k, K ≤ k → f k = some v
theorem Evn.const {α : Type} (v : α) : Evn (fun _ => some v) v := ⟨0, fun _ _ => rfl⟩
theorem Evn.step {α : Type} {f g : Nat → Option α} {v : α} (h : Evn g v) (hs : ∀ k, f (k + 1) = g k) : Evn f v := by
  obtain ⟨K, h⟩ := h
  refine ⟨K + 1, fun k hk => ?_⟩
  obtain ⟨k, rfl⟩ : ∃ m, k = m + 1 := ⟨k - 1, by omega⟩
  rw [hs]
  exact h k (by omega)
theorem Evn.same {α : Type} {f g : Nat → Option α} {v : α} (h : Evn g v) (hs : ∀ k, f k = g k) : Evn f v := by
  obtain ⟨K, h⟩ := h
  exact ⟨K, fun k hk => (hs k).trans (h k hk)⟩
theorem Evn.bind {α β : Type} {f : Nat → Option α} {v : α} {g : Nat → α → Option β} {u : β} (h : Evn f v) (hg : Evn (fun k => g k v) u) : Evn (fun k => (f k).bind (g k)) u := by
  obtain ⟨K, h⟩ := h
  obtain ⟨L, hg⟩ := hg
  exact ⟨K + L, fun k hk => by show (f k).bind (g k) = some u; rw [h k (by omega), Option.bind_some]; exact hg k (by omega)⟩
theorem Evn.at2 {α β : Type} {f : Nat → Option α} {g : Nat → Option β} {u : α} {v : β} (h : Evn f u) (hg : Evn g v) : ∃ k, f k = some u ∧ g k = some v := by
  obtain ⟨K, h⟩ := h
  obtain ⟨L, hg⟩ := hg
  exact ⟨K + L, h _ (by omega), hg _ (by omega)⟩
theorem Evn.one {α : Type} {f : Nat → Option α} {u : α} (h : Evn f u) : ∃ k, f k = some u := by
  obtain ⟨K, h⟩ := h
  exact ⟨K, h _ (Nat.le_refl _)⟩

theorem dropG_at {α : Type} (l : List α) (i : Nat) (x : α) (h : l[i]? = some x) : l.drop i = x :: l.drop (i + 1) := by
  have hi := (List.getElem?_eq_some_iff.1 h)
  rw [List.drop_eq_getElem_cons hi.1, hi.2]
theorem rdG_at (l : List S47) (k : Nat) (x : S47) (h : l[k]? = some x) : rd_T47 l (k : Int) = x := by
  unfold rd_T47
  rw [List.getD_eq_getElem?_getD, Int.toNat_natCast, h]
  rfl
theorem rdQ_at (l : List S87) (k : Nat) (x : S87) (h : l[k]? = some x) : rd_T87 l (k : Int) = x := by
  unfold rd_T87
  rw [List.getD_eq_getElem?_getD, Int.toNat_natCast, h]
  rfl
theorem rdC_at (l : List S60) (k : Nat) (x : S60) (h : l[k]? = some x) : rd_T60 l (k : Int) = x := by
  unfold rd_T60
  rw [List.getD_eq_getElem?_getD, Int.toNat_natCast, h]
  rfl
/-! ### equal? -/
def listEq {α : Type} (eq : α → α → Bool) : List α → List α → Bool
  | [], [] => true
  | a :: l, b :: m => eq a b && listEq eq l m
  | _, _ => false
theorem listEq_len {α : Type} (eq : α → α → Bool) (l : List α) : ∀ m, l.length ≠ m.length → listEq eq l m = false := by
  induction l with
  | nil => intro m h; cases m with
    | nil => exact absurd rfl h
    | cons b m => rfl
  | cons a l ih => intro m h; cases m with
    | nil => rfl
    | cons b m => rw [listEq, ih m (by simpa using h), Bool.and_false]
theorem listEq_refl {α : Type} (eq : α → α → Bool) (he : ∀ a, eq a a = true) (l : List α) : listEq eq l l = true := by
  induction l with
  | nil => rfl
  | cons a l ih => rw [listEq, he, ih]; rfl
theorem listEq_comm {α : Type} (eq : α → α → Bool) (he : ∀ a b, eq a b = eq b a) (l : List α) : ∀ m, listEq eq l m = listEq eq m l := by
  induction l with
  | nil => intro m; cases m <;> rfl
  | cons a l ih => intro m; cases m with
    | nil => rfl
    | cons b m => rw [listEq, listEq, he, ih]
theorem beqI_comm (a b : Int) : (a == b) = (b == a) := by rw [Bool.eq_iff_iff, beq_iff_eq, beq_iff_eq]; exact eq_comm
theorem beqL_comm (a b : List UInt8) : (a == b) = (b == a) := by rw [Bool.eq_iff_iff, beq_iff_eq, beq_iff_eq]; exact eq_comm
def conEq (a b : S60) : Bool := a.f0 == b.f0 && (a.f1.f0 == b.f1.f0 && a.f1.f1 == b.f1.f1 && (a.f2.toList == b.f2.toList && a.f3.toList == b.f3.toList))
def coilEq (a b : S87) : Bool := a.f0 == b.f0 && (a.f1.f0 == b.f1.f0 && a.f1.f1 == b.f1.f1)
def rungEq (a b : S47) : Bool := a.f0.toList == b.f0.toList && (a.f3.toList == b.f3.toList && (listEq conEq a.f1 b.f1 && listEq coilEq a.f2 b.f2))
def sameP (I Q M : Int) (l : List S47) (I' Q' M' : Int) (l' : List S47) : Bool := (I == I' && (Q == Q' && M == M')) && listEq rungEq l l'
theorem conEq_refl (a : S60) : conEq a a = true := by simp [conEq]
theorem coilEq_refl (a : S87) : coilEq a a = true := by simp [coilEq]
theorem conEq_comm (a b : S60) : conEq a b = conEq b a := by unfold conEq; rw [beqI_comm a.f0, beqI_comm a.f1.f0, beqI_comm a.f1.f1, beqL_comm a.f2.toList, beqL_comm a.f3.toList]
theorem coilEq_comm (a b : S87) : coilEq a b = coilEq b a := by unfold coilEq; rw [beqI_comm a.f0, beqI_comm a.f1.f0, beqI_comm a.f1.f1]
theorem rungEq_refl (a : S47) : rungEq a a = true := by simp [rungEq, listEq_refl _ conEq_refl, listEq_refl _ coilEq_refl]
theorem rungEq_comm (a b : S47) : rungEq a b = rungEq b a := by unfold rungEq; rw [beqL_comm a.f0.toList, beqL_comm a.f3.toList, listEq_comm _ conEq_comm, listEq_comm _ coilEq_comm]
theorem sameP_refl (I Q M : Int) (l : List S47) : sameP I Q M l I Q M l = true := by simp [sameP, listEq_refl _ rungEq_refl]
theorem sameP_comm (I Q M : Int) (l : List S47) (I' Q' M' : Int) (l' : List S47) : sameP I Q M l I' Q' M' l' = sameP I' Q' M' l' I Q M l := by unfold sameP; rw [beqI_comm I, beqI_comm Q, beqI_comm M, listEq_comm _ rungEq_comm]

theorem con_test (a b : S60) : (!(a.f0 == b.f0) || ((!(a.f1.f0 == b.f1.f0) || (!(a.f1.f1 == b.f1.f1))) || (!(a.f2.toList == b.f2.toList) || (!(a.f3.toList == b.f3.toList))))) = !conEq a b := by
  unfold conEq
  cases (a.f0 == b.f0) <;> cases (a.f1.f0 == b.f1.f0) <;> cases (a.f1.f1 == b.f1.f1) <;> cases (a.f2.toList == b.f2.toList) <;> cases (a.f3.toList == b.f3.toList) <;> rfl
theorem coil_test (a b : S87) : (!(a.f0 == b.f0) || ((!(a.f1.f0 == b.f1.f0) || (!(a.f1.f1 == b.f1.f1))))) = !coilEq a b := by
  unfold coilEq
  cases (a.f0 == b.f0) <;> cases (a.f1.f0 == b.f1.f0) <;> cases (a.f1.f1 == b.f1.f1) <;> rfl

theorem same_l2 (I Q M : Int) (x : List S47) (I' Q' M' : Int) (y : List S47) (i : Int) (a b : S47) (hl : a.f2.length = b.f2.length) (hb : a.f2.length ≤ 9223372036854775807) (v : Bool)
    (hn : Evn (fun k => ref10_Same.l0 k (wrap64 (i + 1)) I Q M x I' Q' M' y) v) (d : Nat) : ∀ j : Nat, j + d = a.f2.length →
    Evn (fun k => ref10_Same.l2 k i (j : Int) I Q M x I' Q' M' y a.f0 a.f1 a.f2 a.f3 b.f0 b.f1 b.f2 b.f3) (listEq coilEq (a.f2.drop j) (b.f2.drop j) && v) := by
  induction d with
  | zero =>
    intro j hj
    rw [List.drop_eq_nil_of_le (by omega), List.drop_eq_nil_of_le (by omega), listEq, Bool.true_and]
    exact hn.step (fun k => by rw [ref10_Same.l2, if_neg (by omega)])
  | succ d ih =>
    intro j hj
    obtain ⟨p, hp⟩ : ∃ p, a.f2[j]? = some p := ⟨_, List.getElem?_eq_getElem (by omega)⟩
    obtain ⟨q, hq⟩ : ∃ q, b.f2[j]? = some q := ⟨_, List.getElem?_eq_getElem (by omega)⟩
    rw [dropG_at a.f2 j p hp, dropG_at b.f2 j q hq, listEq]
    have h := ih (j + 1) (by omega)
    cases he : coilEq p q with
    | true =>
      refine h.step (fun k => ?_)
      rw [ref10_Same.l2, if_pos (by omega), if_pos (by omega), if_pos (by omega), rdQ_at a.f2 j p hp, rdQ_at b.f2 j q hq, coil_test, he, if_neg (by decide), wrap_nat (by omega)]
    | false =>
      refine (Evn.const false).step (fun k => ?_)
      rw [ref10_Same.l2, if_pos (by omega), if_pos (by omega), if_pos (by omega), rdQ_at a.f2 j p hp, rdQ_at b.f2 j q hq, coil_test, he, if_pos (by decide)]
theorem same_l1 (I Q M : Int) (x : List S47) (I' Q' M' : Int) (y : List S47) (i : Int) (a b : S47) (hl : a.f1.length = b.f1.length) (hb : a.f1.length ≤ 9223372036854775807) (hl2 : a.f2.length = b.f2.length) (hb2 : a.f2.length ≤ 9223372036854775807) (v : Bool)
    (hn : Evn (fun k => ref10_Same.l0 k (wrap64 (i + 1)) I Q M x I' Q' M' y) v) (d : Nat) : ∀ j : Nat, j + d = a.f1.length →
    Evn (fun k => ref10_Same.l1 k i (j : Int) I Q M x I' Q' M' y a.f0 a.f1 a.f2 a.f3 b.f0 b.f1 b.f2 b.f3) (listEq conEq (a.f1.drop j) (b.f1.drop j) && (listEq coilEq a.f2 b.f2 && v)) := by
  induction d with
  | zero =>
    intro j hj
    rw [List.drop_eq_nil_of_le (by omega), List.drop_eq_nil_of_le (by omega), listEq, Bool.true_and]
    exact (same_l2 I Q M x I' Q' M' y i a b hl2 hb2 v hn a.f2.length 0 (by omega)).step (fun k => by rw [ref10_Same.l1, if_neg (by omega)]; rfl)
  | succ d ih =>
    intro j hj
    obtain ⟨p, hp⟩ : ∃ p, a.f1[j]? = some p := ⟨_, List.getElem?_eq_getElem (by omega)⟩
    obtain ⟨q, hq⟩ : ∃ q, b.f1[j]? = some q := ⟨_, List.getElem?_eq_getElem (by omega)⟩
    rw [dropG_at a.f1 j p hp, dropG_at b.f1 j q hq, listEq]
    have h := ih (j + 1) (by omega)
    cases he : conEq p q with
    | true =>
      refine h.step (fun k => ?_)
      rw [ref10_Same.l1, if_pos (by omega), if_pos (by omega), if_pos (by omega), rdC_at a.f1 j p hp, rdC_at b.f1 j q hq, con_test, he, if_neg (by decide), wrap_nat (by omega)]
    | false =>
      refine (Evn.const false).step (fun k => ?_)
      rw [ref10_Same.l1, if_pos (by omega), if_pos (by omega), if_pos (by omega), rdC_at a.f1 j p hp, rdC_at b.f1 j q hq, con_test, he, if_pos (by decide)]
theorem same_l0 (I Q M : Int) (x : List S47) (I' Q' M' : Int) (y : List S47) (hl : x.length = y.length) (hx : x.length ≤ 9223372036854775807) (hc : ∀ r ∈ x, r.f1.length ≤ 9223372036854775807 ∧ r.f2.length ≤ 9223372036854775807) (d : Nat) : ∀ i : Nat, i + d = x.length →
    Evn (fun k => ref10_Same.l0 k (i : Int) I Q M x I' Q' M' y) (listEq rungEq (x.drop i) (y.drop i)) := by
  induction d with
  | zero =>
    intro i hi
    rw [List.drop_eq_nil_of_le (by omega), List.drop_eq_nil_of_le (by omega)]
    exact (Evn.const true).step (fun k => by rw [ref10_Same.l0, if_neg (by omega)])
  | succ d ih =>
    intro i hi
    obtain ⟨a, ha⟩ : ∃ a, x[i]? = some a := ⟨_, List.getElem?_eq_getElem (by omega)⟩
    obtain ⟨b, hb⟩ : ∃ b, y[i]? = some b := ⟨_, List.getElem?_eq_getElem (by omega)⟩
    rw [dropG_at x i a ha, dropG_at y i b hb, listEq]
    have h := ih (i + 1) (by omega)
    have hm := hc a (List.mem_of_getElem? ha)
    have hno : ∀ (p : Bool), p = true → Evn (fun k => ref10_Same.j2 k (i : Int) p I Q M x I' Q' M' y a.f0 a.f1 a.f2 a.f3 b.f0 b.f1 b.f2 b.f3) false := fun p hp => (Evn.const false).step (fun k => by rw [ref10_Same.j2, if_pos hp])
    have hne : ∀ v, (rungEq a b && v) = (a.f0.toList == b.f0.toList && (a.f3.toList == b.f3.toList && (listEq conEq a.f1 b.f1 && (listEq coilEq a.f2 b.f2 && v)))) := fun v => by unfold rungEq; simp only [Bool.and_assoc]
    rw [hne]
    by_cases e0 : a.f0.toList = b.f0.toList
    · by_cases e3 : a.f3.toList = b.f3.toList
      · rw [beq_iff_eq.mpr e0, beq_iff_eq.mpr e3, Bool.true_and, Bool.true_and]
        by_cases e1 : a.f1.length = b.f1.length
        · by_cases e2 : a.f2.length = b.f2.length
          · have hj : Evn (fun k => ref10_Same.j2 k (i : Int) false I Q M x I' Q' M' y a.f0 a.f1 a.f2 a.f3 b.f0 b.f1 b.f2 b.f3) (listEq conEq a.f1 b.f1 && (listEq coilEq a.f2 b.f2 && listEq rungEq (x.drop (i + 1)) (y.drop (i + 1)))) :=
              (same_l1 I Q M x I' Q' M' y (i : Int) a b e1 hm.1 e2 hm.2 _ (h.same (fun k => by rw [wrap_nat (by omega)])) a.f1.length 0 (by omega)).step (fun k => by rw [ref10_Same.j2, if_neg (by decide)]; rfl)
            refine hj.step (fun k => ?_)
            rw [ref10_Same.l0, if_pos (by omega), if_pos (by omega), if_pos (by omega), rdG_at x i a ha, rdG_at y i b hb, if_pos e0, if_pos e3, if_pos (by omega), show ((a.f2.length : Int) != (b.f2.length : Int)) = false by simp [e2]]
          · rw [listEq_len coilEq _ _ e2, Bool.false_and, Bool.and_false]
            refine (hno true rfl).step (fun k => ?_)
            rw [ref10_Same.l0, if_pos (by omega), if_pos (by omega), if_pos (by omega), rdG_at x i a ha, rdG_at y i b hb, if_pos e0, if_pos e3, if_pos (by omega), show ((a.f2.length : Int) != (b.f2.length : Int)) = true by rw [bne_iff_ne]; omega]
        · rw [listEq_len conEq _ _ e1, Bool.false_and]
          refine (hno true rfl).step (fun k => ?_)
          rw [ref10_Same.l0, if_pos (by omega), if_pos (by omega), if_pos (by omega), rdG_at x i a ha, rdG_at y i b hb, if_pos e0, if_pos e3, if_neg (by omega)]
      · rw [beq_eq_false_iff_ne.mpr e3, Bool.false_and, Bool.and_false]
        refine (hno true rfl).step (fun k => ?_)
        rw [ref10_Same.l0, if_pos (by omega), if_pos (by omega), if_pos (by omega), rdG_at x i a ha, rdG_at y i b hb, if_pos e0, if_neg e3]
    · rw [beq_eq_false_iff_ne.mpr e0, Bool.false_and]
      refine (hno true rfl).step (fun k => ?_)
      rw [ref10_Same.l0, if_pos (by omega), if_pos (by omega), if_pos (by omega), rdG_at x i a ha, rdG_at y i b hb, if_neg e0]
theorem same_eq (I Q M : Int) (x : List S47) (I' Q' M' : Int) (y : List S47) (hx : x.length ≤ 9223372036854775807) (hc : ∀ r ∈ x, r.f1.length ≤ 9223372036854775807 ∧ r.f2.length ≤ 9223372036854775807) :
    Evn (fun k => ref10_Same.f k I Q M x I' Q' M' y) (sameP I Q M x I' Q' M' y) := by
  have hno : Evn (fun k => ref10_Same.j0 k true I Q M x I' Q' M' y) false := (Evn.const false).step (fun k => by rw [ref10_Same.j0, if_pos rfl])
  unfold ref10_Same.f sameP
  by_cases h1 : I = I'
  · by_cases h2 : Q = Q'
    · by_cases h3 : M = M'
      · simp only [if_pos h1, if_pos h2, if_pos h3, beq_iff_eq.mpr h1, beq_iff_eq.mpr h2, beq_iff_eq.mpr h3, Bool.true_and]
        by_cases hl : x.length = y.length
        · refine (same_l0 I Q M x I' Q' M' y hl hx hc x.length 0 (by omega)).step (fun k => ?_)
          rw [show ((x.length : Int) != (y.length : Int)) = false by simp [hl], ref10_Same.j0, if_neg (by decide)]; rfl
        · rw [listEq_len _ x y hl, show ((x.length : Int) != (y.length : Int)) = true by rw [bne_iff_ne]; omega]
          exact hno
      · simp only [if_pos h1, if_pos h2, if_neg h3, beq_eq_false_iff_ne.mpr h3, Bool.and_false, Bool.false_and]
        exact hno
    · simp only [if_pos h1, if_neg h2, beq_eq_false_iff_ne.mpr h2, Bool.and_false, Bool.false_and]
      exact hno
  · simp only [if_neg h1, beq_eq_false_iff_ne.mpr h1, Bool.false_and]
    exact hno
end Go.Proofs.YtmcmpjkfdkogiaaGreatDoor.P

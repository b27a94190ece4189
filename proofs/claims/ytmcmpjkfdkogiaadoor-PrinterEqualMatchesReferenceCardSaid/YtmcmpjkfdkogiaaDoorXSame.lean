/- printer.Equal and the reference's Same, plainly. -/
import Derived.Test.YtmcmpjkfdkogiaaDoorXSpec
import Derived.Test.YtmcmpjkfdkogiaaDoorPQ18
import Derived.Test.YtmcmpjkfdkogiaaDoorPQ19
import Derived.Test.YtmcmpjkfdkogiaaDoorPQ4
namespace Go.Proofs.YtmcmpjkfdkogiaaDoor.P
open Go.RowKit Go.Proofs.YtmcmpjkfdkogiaaDoorW.PrintWords

/-- With rounds enough the answer is v. -/
def Evn {α : Type} (f : Nat → Option α) (v : α) : Prop := ∃ K, ∀ k, K ≤ k → f k = some v
theorem Evn.const {α : Type} (v : α) : Evn (fun _ => some v) v := ⟨0, fun _ _ => rfl⟩
theorem Evn.step {α : Type} {f g : Nat → Option α} {v : α} (h : Evn g v) (hs : ∀ k, f (k + 1) = g k) : Evn f v := by
  obtain ⟨K, h⟩ := h
  refine ⟨K + 1, fun k hk => ?_⟩
  obtain ⟨k, rfl⟩ : ∃ m, k = m + 1 := ⟨k - 1, by omega⟩
  rw [hs]
  exact h k (by omega)
theorem Evn.same {α : Type} {f g : Nat → Option α} {v : α} (h : Evn g v) (hs : ∀ k, f k = g k) : Evn f v := by
  obtain ⟨K, h⟩ := h
  exact ⟨K, fun k hk => (hs k).trans (h k hk)⟩
theorem Evn.bind {α β : Type} {f : Nat → Option α} {v : α} {g : Nat → α → Option β} {u : β} (h : Evn f v) (hg : Evn (fun k => g k v) u) : Evn (fun k => (f k).bind (g k)) u := by
  obtain ⟨K, h⟩ := h
  obtain ⟨L, hg⟩ := hg
  exact ⟨K + L, fun k hk => by show (f k).bind (g k) = some u; rw [h k (by omega), Option.bind_some]; exact hg k (by omega)⟩
theorem Evn.at2 {α β : Type} {f : Nat → Option α} {g : Nat → Option β} {u : α} {v : β} (h : Evn f u) (hg : Evn g v) : ∃ k, f k = some u ∧ g k = some v := by
  obtain ⟨K, h⟩ := h
  obtain ⟨L, hg⟩ := hg
  exact ⟨K + L, h _ (by omega), hg _ (by omega)⟩
theorem Evn.one {α : Type} {f : Nat → Option α} {u : α} (h : Evn f u) : ∃ k, f k = some u := by
  obtain ⟨K, h⟩ := h
  exact ⟨K, h _ (Nat.le_refl _)⟩

/-! ### too large? -/
theorem large_l1 (rs : List S40) (ns i I Q M : Int) (l : List S40) (cs : List S50) (hc : cs.length ≤ 9223372036854775807) (hnext : ∀ n, ∃ t, Evn (fun k => law11_TooLarge.l0 k n rs ns (wrap64 (i + 1)) I Q M l) t) (d : Nat) : ∀ (j : Nat) (n : Int), j + d = cs.length →
    ∃ t, Evn (fun k => law11_TooLarge.l1 k n rs ns i cs (cs.length : Int) (j : Int) I Q M l) t := by
  induction d with
  | zero =>
    intro j n hj
    obtain ⟨t, ht⟩ := hnext n
    exact ⟨t, ht.step (fun k => by rw [law11_TooLarge.l1, if_neg (by omega)])⟩
  | succ d ih =>
    intro j n hj
    obtain ⟨t, ht⟩ := ih (j + 1) (wrap64 (n + (wrap64 ((((rd_T50 cs (j : Int)).f2).size : Int) + (((rd_T50 cs (j : Int)).f3).size : Int))))) (by omega)
    exact ⟨t, ht.step (fun k => by rw [law11_TooLarge.l1, if_pos (by omega), if_pos (by omega), if_pos (by omega), wrap_nat (by omega)])⟩
theorem large_l0 (I Q M : Int) (l : List S40) (hl : l.length ≤ 9223372036854775807) (hc : ∀ r ∈ l, r.f1.length ≤ 9223372036854775807) (d : Nat) : ∀ (i : Nat) (n : Int), i + d = l.length →
    ∃ t, Evn (fun k => law11_TooLarge.l0 k n l (l.length : Int) (i : Int) I Q M l) t := by
  induction d with
  | zero =>
    intro i n hi
    by_cases h : (l.length : Int) > 70
    · exact ⟨1, (Evn.const 1).step (fun k => by rw [law11_TooLarge.l0, if_neg (by omega), if_pos h])⟩
    · by_cases h2 : n > 20000
      · exact ⟨1, (Evn.const 1).step (fun k => by rw [law11_TooLarge.l0, if_neg (by omega), if_neg h, if_pos h2])⟩
      · exact ⟨0, (Evn.const 0).step (fun k => by rw [law11_TooLarge.l0, if_neg (by omega), if_neg h, if_neg h2])⟩
  | succ d ih =>
    intro i n hi
    obtain ⟨x, hx⟩ : ∃ x, l[i]? = some x := ⟨_, List.getElem?_eq_getElem (by omega)⟩
    have hw : wrap64 ((i : Int) + 1) = ((i + 1 : Nat) : Int) := wrap_nat (by omega)
    obtain ⟨t, ht⟩ := large_l1 l (l.length : Int) (i : Int) I Q M l x.f1 (hc x (List.mem_of_getElem? hx)) (fun n => by rw [hw]; exact ih (i + 1) n (by omega)) x.f1.length 0
      (wrap64 (n + (wrap64 ((wrap64 ((wrap64 (((x.f1).length : Int) + ((x.f2).length : Int))) + ((x.f0).size : Int))) + ((x.f3).size : Int))))) (by omega)
    exact ⟨t, ht.step (fun k => by rw [law11_TooLarge.l0, if_pos (by omega), if_pos (by omega), if_pos (by omega), rd40_at l i x hx]; rfl)⟩
theorem large_some (I Q M : Int) (l : List S40) (hl : l.length ≤ 9223372036854775807) (hc : ∀ r ∈ l, r.f1.length ≤ 9223372036854775807) : ∃ k t, law11_TooLarge.f k I Q M l = some t := by
  obtain ⟨t, K, h⟩ := large_l0 I Q M l hl hc l.length 0 0 (by omega)
  exact ⟨K, t, h K (Nat.le_refl _)⟩

/-! ### equal? -/
def listEq {α : Type} (eq : α → α → Bool) : List α → List α → Bool
  | [], [] => true
  | a :: l, b :: m => eq a b && listEq eq l m
  | _, _ => false
theorem listEq_len {α : Type} (eq : α → α → Bool) (l : List α) : ∀ m, l.length ≠ m.length → listEq eq l m = false := by
  induction l with
  | nil => intro m h; cases m with
    | nil => exact absurd rfl h
    | cons b m => rfl
  | cons a l ih => intro m h; cases m with
    | nil => rfl
    | cons b m => rw [listEq, ih m (by simpa using h), Bool.and_false]
theorem listEq_refl {α : Type} (eq : α → α → Bool) (he : ∀ a, eq a a = true) (l : List α) : listEq eq l l = true := by
  induction l with
  | nil => rfl
  | cons a l ih => rw [listEq, he, ih]; rfl
theorem listEq_comm {α : Type} (eq : α → α → Bool) (he : ∀ a b, eq a b = eq b a) (l : List α) : ∀ m, listEq eq l m = listEq eq m l := by
  induction l with
  | nil => intro m; cases m <;> rfl
  | cons a l ih => intro m; cases m with
    | nil => rfl
    | cons b m => rw [listEq, listEq, he, ih]
theorem beqI_comm (a b : Int) : (a == b) = (b == a) := by rw [Bool.eq_iff_iff, beq_iff_eq, beq_iff_eq]; exact eq_comm
theorem beqL_comm (a b : List UInt8) : (a == b) = (b == a) := by rw [Bool.eq_iff_iff, beq_iff_eq, beq_iff_eq]; exact eq_comm
def conEq (a b : S50) : Bool := a.f0 == b.f0 && (a.f1.f0 == b.f1.f0 && a.f1.f1 == b.f1.f1 && (a.f2.toList == b.f2.toList && a.f3.toList == b.f3.toList))
def coilEq (a b : S53) : Bool := a.f0 == b.f0 && (a.f1.f0 == b.f1.f0 && a.f1.f1 == b.f1.f1)
def rungEq (a b : S40) : Bool := a.f0.toList == b.f0.toList && (a.f3.toList == b.f3.toList && (listEq conEq a.f1 b.f1 && listEq coilEq a.f2 b.f2))
def sameP (I Q M : Int) (l : List S40) (I' Q' M' : Int) (l' : List S40) : Bool := (I == I' && (Q == Q' && M == M')) && listEq rungEq l l'
theorem conEq_refl (a : S50) : conEq a a = true := by simp [conEq]
theorem coilEq_refl (a : S53) : coilEq a a = true := by simp [coilEq]
theorem conEq_comm (a b : S50) : conEq a b = conEq b a := by unfold conEq; rw [beqI_comm a.f0, beqI_comm a.f1.f0, beqI_comm a.f1.f1, beqL_comm a.f2.toList, beqL_comm a.f3.toList]
theorem coilEq_comm (a b : S53) : coilEq a b = coilEq b a := by unfold coilEq; rw [beqI_comm a.f0, beqI_comm a.f1.f0, beqI_comm a.f1.f1]
theorem rungEq_refl (a : S40) : rungEq a a = true := by simp [rungEq, listEq_refl _ conEq_refl, listEq_refl _ coilEq_refl]
theorem rungEq_comm (a b : S40) : rungEq a b = rungEq b a := by unfold rungEq; rw [beqL_comm a.f0.toList, beqL_comm a.f3.toList, listEq_comm _ conEq_comm, listEq_comm _ coilEq_comm]
theorem sameP_refl (I Q M : Int) (l : List S40) : sameP I Q M l I Q M l = true := by simp [sameP, listEq_refl _ rungEq_refl]
theorem sameP_comm (I Q M : Int) (l : List S40) (I' Q' M' : Int) (l' : List S40) : sameP I Q M l I' Q' M' l' = sameP I' Q' M' l' I Q M l := by unfold sameP; rw [beqI_comm I, beqI_comm Q, beqI_comm M, listEq_comm _ rungEq_comm]

theorem con_test (a b : S50) : (!(a.f0 == b.f0) || ((!(a.f1.f0 == b.f1.f0) || (!(a.f1.f1 == b.f1.f1))) || (!(a.f2.toList == b.f2.toList) || (!(a.f3.toList == b.f3.toList))))) = !conEq a b := by
  unfold conEq
  cases (a.f0 == b.f0) <;> cases (a.f1.f0 == b.f1.f0) <;> cases (a.f1.f1 == b.f1.f1) <;> cases (a.f2.toList == b.f2.toList) <;> cases (a.f3.toList == b.f3.toList) <;> rfl
theorem coil_test (a b : S53) : (!(a.f0 == b.f0) || ((!(a.f1.f0 == b.f1.f0) || (!(a.f1.f1 == b.f1.f1))))) = !coilEq a b := by
  unfold coilEq
  cases (a.f0 == b.f0) <;> cases (a.f1.f0 == b.f1.f0) <;> cases (a.f1.f1 == b.f1.f1) <;> rfl
theorem eq_con (x y : List S50) (hl : x.length = y.length) (hx : x.length ≤ 9223372036854775807) (d : Nat) : ∀ i : Nat, i + d = x.length → Evn (fun k => api_Contact.l0 k x y (x.length : Int) (i : Int)) (listEq conEq (x.drop i) (y.drop i)) := by
  induction d with
  | zero =>
    intro i hi
    rw [List.drop_eq_nil_of_le (by omega), List.drop_eq_nil_of_le (by omega)]
    exact (Evn.const true).step (fun k => by rw [api_Contact.l0, if_neg (by omega)])
  | succ d ih =>
    intro i hi
    obtain ⟨a, ha⟩ : ∃ a, x[i]? = some a := ⟨_, List.getElem?_eq_getElem (by omega)⟩
    obtain ⟨b, hb⟩ : ∃ b, y[i]? = some b := ⟨_, List.getElem?_eq_getElem (by omega)⟩
    rw [drop_at x i a ha, drop_at y i b hb, listEq]
    have h := ih (i + 1) (by omega)
    cases he : conEq a b with
    | true =>
      refine h.step (fun k => ?_)
      rw [api_Contact.l0, if_pos (by omega), if_pos (by omega), if_pos (by omega), if_pos (by omega), rd50_at x i a ha, rd50_at y i b hb, con_test, he, if_neg (by decide), wrap_nat (by omega)]
    | false =>
      refine (Evn.const false).step (fun k => ?_)
      rw [api_Contact.l0, if_pos (by omega), if_pos (by omega), if_pos (by omega), if_pos (by omega), rd50_at x i a ha, rd50_at y i b hb, con_test, he, if_pos (by decide)]
theorem eq_coil (x y : List S53) (hl : x.length = y.length) (hx : x.length ≤ 9223372036854775807) (d : Nat) : ∀ i : Nat, i + d = x.length → Evn (fun k => api_Coil.l0 k x y (x.length : Int) (i : Int)) (listEq coilEq (x.drop i) (y.drop i)) := by
  induction d with
  | zero =>
    intro i hi
    rw [List.drop_eq_nil_of_le (by omega), List.drop_eq_nil_of_le (by omega)]
    exact (Evn.const true).step (fun k => by rw [api_Coil.l0, if_neg (by omega)])
  | succ d ih =>
    intro i hi
    obtain ⟨a, ha⟩ : ∃ a, x[i]? = some a := ⟨_, List.getElem?_eq_getElem (by omega)⟩
    obtain ⟨b, hb⟩ : ∃ b, y[i]? = some b := ⟨_, List.getElem?_eq_getElem (by omega)⟩
    rw [drop_at x i a ha, drop_at y i b hb, listEq]
    have h := ih (i + 1) (by omega)
    cases he : coilEq a b with
    | true =>
      refine h.step (fun k => ?_)
      rw [api_Coil.l0, if_pos (by omega), if_pos (by omega), if_pos (by omega), if_pos (by omega), rd53_at x i a ha, rd53_at y i b hb, coil_test, he, if_neg (by decide), wrap_nat (by omega)]
    | false =>
      refine (Evn.const false).step (fun k => ?_)
      rw [api_Coil.l0, if_pos (by omega), if_pos (by omega), if_pos (by omega), if_pos (by omega), rd53_at x i a ha, rd53_at y i b hb, coil_test, he, if_pos (by decide)]
theorem eq_cons (x y : List S50) (hx : x.length ≤ 9223372036854775807) : Evn (fun k => api_Contact.f k x y) (listEq conEq x y) := by
  by_cases h : x.length = y.length
  · refine (eq_con x y h hx x.length 0 (by omega)).same (fun k => ?_)
    unfold api_Contact.f
    rw [if_pos (by omega)]; rfl
  · rw [listEq_len _ x y h]
    refine (Evn.const false).same (fun k => ?_)
    unfold api_Contact.f
    rw [if_neg (by omega)]
theorem eq_coils (x y : List S53) (hx : x.length ≤ 9223372036854775807) : Evn (fun k => api_Coil.f k x y) (listEq coilEq x y) := by
  by_cases h : x.length = y.length
  · refine (eq_coil x y h hx x.length 0 (by omega)).same (fun k => ?_)
    unfold api_Coil.f
    rw [if_pos (by omega)]; rfl
  · rw [listEq_len _ x y h]
    refine (Evn.const false).same (fun k => ?_)
    unfold api_Coil.f
    rw [if_neg (by omega)]
theorem eq_rung (a b : S40) (h1 : a.f1.length ≤ 9223372036854775807) (h2 : a.f2.length ≤ 9223372036854775807) : Evn (fun k => printer_Equal_1.f k a.f0 a.f1 a.f2 a.f3 b.f0 b.f1 b.f2 b.f3) (rungEq a b) := by
  unfold rungEq printer_Equal_1.f
  by_cases e0 : a.f0.toList = b.f0.toList
  · by_cases e3 : a.f3.toList = b.f3.toList
    · simp only [if_pos e0, if_pos e3, beq_iff_eq.mpr e0, beq_iff_eq.mpr e3, Bool.true_and]
      refine (eq_cons a.f1 b.f1 h1).bind ?_
      cases listEq conEq a.f1 b.f1 with
      | true => exact (eq_coils a.f2 b.f2 h2).bind (Evn.const _)
      | false => exact Evn.const _
    · simp only [if_pos e0, if_neg e3, beq_iff_eq.mpr e0, beq_eq_false_iff_ne.mpr e3, Bool.true_and, Bool.false_and]
      exact Evn.const _
  · simp only [if_neg e0, beq_eq_false_iff_ne.mpr e0, Bool.false_and]
    exact Evn.const _
theorem eq_rungs (x y : List S40) (hl : x.length = y.length) (hx : x.length ≤ 9223372036854775807) (hc : ∀ r ∈ x, r.f1.length ≤ 9223372036854775807 ∧ r.f2.length ≤ 9223372036854775807) (d : Nat) : ∀ i : Nat, i + d = x.length → Evn (fun k => api_Rung_42.l0 k y x (x.length : Int) (i : Int)) (listEq rungEq (x.drop i) (y.drop i)) := by
  induction d with
  | zero =>
    intro i hi
    rw [List.drop_eq_nil_of_le (by omega), List.drop_eq_nil_of_le (by omega)]
    exact (Evn.const true).step (fun k => by rw [api_Rung_42.l0, if_neg (by omega)])
  | succ d ih =>
    intro i hi
    obtain ⟨a, ha⟩ : ∃ a, x[i]? = some a := ⟨_, List.getElem?_eq_getElem (by omega)⟩
    obtain ⟨b, hb⟩ : ∃ b, y[i]? = some b := ⟨_, List.getElem?_eq_getElem (by omega)⟩
    rw [drop_at x i a ha, drop_at y i b hb, listEq]
    have h := ih (i + 1) (by omega)
    have hm := hc a (List.mem_of_getElem? ha)
    have hr := eq_rung a b hm.1 hm.2
    refine Evn.step (g := fun k => (printer_Equal_1.f k a.f0 a.f1 a.f2 a.f3 b.f0 b.f1 b.f2 b.f3).bind fun t => if t = true then api_Rung_42.l0 k y x (x.length : Int) ((i + 1 : Nat) : Int) else some false) ?_ (fun k => by
      rw [api_Rung_42.l0, if_pos (by omega), if_pos (by omega), if_pos (by omega), if_pos (by omega), rd40_at x i a ha, rd40_at y i b hb, wrap_nat (by omega)])
    refine hr.bind ?_
    cases rungEq a b with
    | true => exact h
    | false => exact Evn.const _
theorem equal_eq (I Q M : Int) (x : List S40) (I' Q' M' : Int) (y : List S40) (hx : x.length ≤ 9223372036854775807) (hc : ∀ r ∈ x, r.f1.length ≤ 9223372036854775807 ∧ r.f2.length ≤ 9223372036854775807) :
    Evn (fun k => printer_Equal.f k I Q M x I' Q' M' y) (sameP I Q M x I' Q' M' y) := by
  unfold printer_Equal.f printer_sizes.f sameP
  simp only [Option.bind_some]
  rw [show ((0 : Int) == 0) = true from rfl]
  cases h : (I == I' && (Q == Q' && M == M')) with
  | false =>
    have : (I == I' && (Q == Q' && (M == M' && true))) = false := by rw [Bool.and_true]; exact h
    simp only [this]
    exact Evn.const _
  | true =>
    have : (I == I' && (Q == Q' && (M == M' && true))) = true := by rw [Bool.and_true]; exact h
    simp only [this, if_true, Bool.true_and]
    refine Evn.bind (v := listEq rungEq x y) ?_ (Evn.const _)
    unfold api_Rung_42.f
    by_cases hl : x.length = y.length
    · exact (eq_rungs x y hl hx hc x.length 0 (by omega)).same (fun k => by rw [if_pos (by omega)]; rfl)
    · rw [listEq_len _ x y hl]
      exact (Evn.const false).same (fun k => by rw [if_neg (by omega)])
end Go.Proofs.YtmcmpjkfdkogiaaDoor.P

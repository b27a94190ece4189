/- Equal ladders, plainly. -/
import Derived.Test.YtdbjjbooalkkbaaDoorXEvn0
namespace Go.Proofs.YtdbjjbooalkkbaaDoor.P
open Go.RowKit Go.Proofs.YtdbjjbooalkkbaaDoorW.PrintWords

theorem dropG_at {α : Type} (l : List α) (i : Nat) (x : α) (h : l[i]? = some x) : l.drop i = x :: l.drop (i + 1) := by
  have hi := (List.getElem?_eq_some_iff.1 h)
  rw [List.drop_eq_getElem_cons hi.1, hi.2]
theorem rdG_at (l : List S28) (k : Nat) (x : S28) (h : l[k]? = some x) : rd_T28 l (k : Int) = x := by
  unfold rd_T28
  rw [List.getD_eq_getElem?_getD, Int.toNat_natCast, h]
  rfl
theorem rdQ_at (l : List S47) (k : Nat) (x : S47) (h : l[k]? = some x) : rd_T47 l (k : Int) = x := by
  unfold rd_T47
  rw [List.getD_eq_getElem?_getD, Int.toNat_natCast, h]
  rfl
theorem rdC_at (l : List S44) (k : Nat) (x : S44) (h : l[k]? = some x) : rd_T44 l (k : Int) = x := by
  unfold rd_T44
  rw [List.getD_eq_getElem?_getD, Int.toNat_natCast, h]
  rfl
/-! ### equal? -/
def listEq {α : Type} (eq : α → α → Bool) : List α → List α → Bool
  | [], [] => true
  | a :: l, b :: m => eq a b && listEq eq l m
  | _, _ => false
theorem listEq_len {α : Type} (eq : α → α → Bool) (l : List α) : ∀ m, l.length ≠ m.length → listEq eq l m = false := by
  induction l with
  | nil => intro m h; cases m with
    | nil => exact absurd rfl h
    | cons b m => rfl
  | cons a l ih => intro m h; cases m with
    | nil => rfl
    | cons b m => rw [listEq, ih m (by simpa using h), Bool.and_false]
theorem listEq_refl {α : Type} (eq : α → α → Bool) (he : ∀ a, eq a a = true) (l : List α) : listEq eq l l = true := by
  induction l with
  | nil => rfl
  | cons a l ih => rw [listEq, he, ih]; rfl
theorem listEq_comm {α : Type} (eq : α → α → Bool) (he : ∀ a b, eq a b = eq b a) (l : List α) : ∀ m, listEq eq l m = listEq eq m l := by
  induction l with
  | nil => intro m; cases m <;> rfl
  | cons a l ih => intro m; cases m with
    | nil => rfl
    | cons b m => rw [listEq, listEq, he, ih]
theorem beqI_comm (a b : Int) : (a == b) = (b == a) := by rw [Bool.eq_iff_iff, beq_iff_eq, beq_iff_eq]; exact eq_comm
theorem beqL_comm (a b : List UInt8) : (a == b) = (b == a) := by rw [Bool.eq_iff_iff, beq_iff_eq, beq_iff_eq]; exact eq_comm
def conEq (a b : S44) : Bool := a.f0 == b.f0 && (a.f1.f0 == b.f1.f0 && a.f1.f1 == b.f1.f1 && (a.f2.toList == b.f2.toList && a.f3.toList == b.f3.toList))
def coilEq (a b : S47) : Bool := a.f0 == b.f0 && (a.f1.f0 == b.f1.f0 && a.f1.f1 == b.f1.f1)
def rungEq (a b : S28) : Bool := a.f0.toList == b.f0.toList && (a.f3.toList == b.f3.toList && (listEq conEq a.f1 b.f1 && listEq coilEq a.f2 b.f2))
def sameP (I Q M : Int) (l : List S28) (I' Q' M' : Int) (l' : List S28) : Bool := (I == I' && (Q == Q' && M == M')) && listEq rungEq l l'
theorem conEq_refl (a : S44) : conEq a a = true := by simp [conEq]
theorem coilEq_refl (a : S47) : coilEq a a = true := by simp [coilEq]
theorem conEq_comm (a b : S44) : conEq a b = conEq b a := by unfold conEq; rw [beqI_comm a.f0, beqI_comm a.f1.f0, beqI_comm a.f1.f1, beqL_comm a.f2.toList, beqL_comm a.f3.toList]
theorem coilEq_comm (a b : S47) : coilEq a b = coilEq b a := by unfold coilEq; rw [beqI_comm a.f0, beqI_comm a.f1.f0, beqI_comm a.f1.f1]
theorem rungEq_refl (a : S28) : rungEq a a = true := by simp [rungEq, listEq_refl _ conEq_refl, listEq_refl _ coilEq_refl]
theorem rungEq_comm (a b : S28) : rungEq a b = rungEq b a := by unfold rungEq; rw [beqL_comm a.f0.toList, beqL_comm a.f3.toList, listEq_comm _ conEq_comm, listEq_comm _ coilEq_comm]
theorem sameP_refl (I Q M : Int) (l : List S28) : sameP I Q M l I Q M l = true := by simp [sameP, listEq_refl _ rungEq_refl]
theorem sameP_comm (I Q M : Int) (l : List S28) (I' Q' M' : Int) (l' : List S28) : sameP I Q M l I' Q' M' l' = sameP I' Q' M' l' I Q M l := by unfold sameP; rw [beqI_comm I, beqI_comm Q, beqI_comm M, listEq_comm _ rungEq_comm]

theorem con_test (a b : S44) : (!(a.f0 == b.f0) || ((!(a.f1.f0 == b.f1.f0) || (!(a.f1.f1 == b.f1.f1))) || (!(a.f2.toList == b.f2.toList) || (!(a.f3.toList == b.f3.toList))))) = !conEq a b := by
  unfold conEq
  cases (a.f0 == b.f0) <;> cases (a.f1.f0 == b.f1.f0) <;> cases (a.f1.f1 == b.f1.f1) <;> cases (a.f2.toList == b.f2.toList) <;> cases (a.f3.toList == b.f3.toList) <;> rfl
theorem coil_test (a b : S47) : (!(a.f0 == b.f0) || ((!(a.f1.f0 == b.f1.f0) || (!(a.f1.f1 == b.f1.f1))))) = !coilEq a b := by
  unfold coilEq
  cases (a.f0 == b.f0) <;> cases (a.f1.f0 == b.f1.f0) <;> cases (a.f1.f1 == b.f1.f1) <;> rfl
end Go.Proofs.YtdbjjbooalkkbaaDoor.P

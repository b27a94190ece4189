/- Several texts in one: XLad, XSameA. -/
import Derived.Test.YtdbjjbooalkkbaaGreatDoorXAlive
/- Ladders as arguments of the laws: TooLarge, alive. -/
namespace Go.Proofs.YtdbjjbooalkkbaaGreatDoor.P
open Go.RowKit Go.Proofs.YtdbjjbooalkkbaaGreatDoorW.PrintWords

abbrev ladV (x : S25) (A : Option Addr) (c : Nat) : Value := .agg #[.int .i64 x.f0, .int .i64 x.f1, .int .i64 x.f2, .slice A x.f3.length c]
abbrev ladC (x : S25) (A : Option Addr) (c : Nat) : Array Value := #[.int .i64 x.f0, .int .i64 x.f1, .int .i64 x.f2, .slice A x.f3.length c]
/-- What the law is told of a ladder. -/
structure Lad (x : S25) (A : Option Addr) (c : Nat) (w : World) : Prop where
  n : x.f3.length ≤ 9223372036854775807
  m : ∀ r ∈ x.f3, r.f1.length ≤ 9223372036854775807 ∧ r.f2.length ≤ 9223372036854775807
  room : x.f3.length ≤ c
  reads : Kd.C k47 w A x.f3.length x.f3
theorem Lad.on {x : S25} {A : Option Addr} {c : Nat} {w w' : World} (h : Lad x A c w) (hs : Since w w') : Lad x A c w' := ⟨h.n, h.m, h.room, Kd.C_below h.reads hs.out⟩
theorem Lad.of {x : S25} {A : Option Addr} {c : Nat} {w : World} (hg : x.f3.length ≤ maxLen ∧ ∀ r ∈ x.f3, r.f1.length ≤ maxLen ∧ r.f2.length ≤ maxLen) (hc : x.f3.length ≤ c) (hr : Kd.C k47 w A x.f3.length x.f3) : Lad x A c w :=
  ⟨Nat.le_trans hg.1 (by decide), fun r h => ⟨Nat.le_trans (hg.2 r h).1 (by decide), Nat.le_trans (hg.2 r h).2 (by decide)⟩, hc, hr⟩
theorem large_call (x : S25) (A : Option Addr) (c : Nat) (u : World) (hx : Lad x A c u) : ∃ t, ∀ w, Since u w →
    Calls Tryz.prog 14 #[ladV x A c] w fun e w' => e = .returned (.int .i64 t) ∧ Below w.heap.size w w' := by
  obtain ⟨k, t, h⟩ := large_some x.f0 x.f1 x.f2 x.f3 hx.n (fun r hr => (hx.m r hr).1)
  exact ⟨t, fun w hs => law11_TooLarge.calls k _ _ _ A c x.f3 t w (hx.on hs).reads hx.room h⟩
theorem alive_call (w u : World) (hL : Aside0 (LaidW 50 u)) (hs : Since u w) : Calls Tryz.prog 15 #[] w fun e w' => e = .returned (.bool true) ∧ Below w.heap.size w w' := law11_alive.calls true w (LaidW.below hL rfl hs.out) rfl
theorem Since.refl (w : World) : Since w w := ⟨Below.refl _ _⟩
end Go.Proofs.YtdbjjbooalkkbaaGreatDoor.P

/- Equal ladders, plainly. -/
namespace Go.Proofs.YtdbjjbooalkkbaaGreatDoor.P
open Go.RowKit Go.Proofs.YtdbjjbooalkkbaaGreatDoorW.PrintWords

theorem dropG_at {α : Type} (l : List α) (i : Nat) (x : α) (h : l[i]? = some x) : l.drop i = x :: l.drop (i + 1) := by
  have hi := (List.getElem?_eq_some_iff.1 h)
  rw [List.drop_eq_getElem_cons hi.1, hi.2]
theorem rdG_at (l : List S47) (k : Nat) (x : S47) (h : l[k]? = some x) : rd_T47 l (k : Int) = x := by
  unfold rd_T47
  rw [List.getD_eq_getElem?_getD, Int.toNat_natCast, h]
  rfl
theorem rdQ_at (l : List S75) (k : Nat) (x : S75) (h : l[k]? = some x) : rd_T75 l (k : Int) = x := by
  unfold rd_T75
  rw [List.getD_eq_getElem?_getD, Int.toNat_natCast, h]
  rfl
theorem rdC_at (l : List S51) (k : Nat) (x : S51) (h : l[k]? = some x) : rd_T51 l (k : Int) = x := by
  unfold rd_T51
  rw [List.getD_eq_getElem?_getD, Int.toNat_natCast, h]
  rfl
/-! ### equal? -/
def listEq {α : Type} (eq : α → α → Bool) : List α → List α → Bool
  | [], [] => true
  | a :: l, b :: m => eq a b && listEq eq l m
  | _, _ => false
theorem listEq_len {α : Type} (eq : α → α → Bool) (l : List α) : ∀ m, l.length ≠ m.length → listEq eq l m = false := by
  induction l with
  | nil => intro m h; cases m with
    | nil => exact absurd rfl h
    | cons b m => rfl
  | cons a l ih => intro m h; cases m with
    | nil => rfl
    | cons b m => rw [listEq, ih m (by simpa using h), Bool.and_false]
theorem listEq_refl {α : Type} (eq : α → α → Bool) (he : ∀ a, eq a a = true) (l : List α) : listEq eq l l = true := by
  induction l with
  | nil => rfl
  | cons a l ih => rw [listEq, he, ih]; rfl
theorem listEq_comm {α : Type} (eq : α → α → Bool) (he : ∀ a b, eq a b = eq b a) (l : List α) : ∀ m, listEq eq l m = listEq eq m l := by
  induction l with
  | nil => intro m; cases m <;> rfl
  | cons a l ih => intro m; cases m with
    | nil => rfl
    | cons b m => rw [listEq, listEq, he, ih]
theorem beqI_comm (a b : Int) : (a == b) = (b == a) := by rw [Bool.eq_iff_iff, beq_iff_eq, beq_iff_eq]; exact eq_comm
theorem beqL_comm (a b : List UInt8) : (a == b) = (b == a) := by rw [Bool.eq_iff_iff, beq_iff_eq, beq_iff_eq]; exact eq_comm
def conEq (a b : S51) : Bool := a.f0 == b.f0 && (a.f1.f0 == b.f1.f0 && a.f1.f1 == b.f1.f1 && (a.f2.toList == b.f2.toList && a.f3.toList == b.f3.toList))
def coilEq (a b : S75) : Bool := a.f0 == b.f0 && (a.f1.f0 == b.f1.f0 && a.f1.f1 == b.f1.f1)
def rungEq (a b : S47) : Bool := a.f0.toList == b.f0.toList && (a.f3.toList == b.f3.toList && (listEq conEq a.f1 b.f1 && listEq coilEq a.f2 b.f2))
def sameP (I Q M : Int) (l : List S47) (I' Q' M' : Int) (l' : List S47) : Bool := (I == I' && (Q == Q' && M == M')) && listEq rungEq l l'
theorem conEq_refl (a : S51) : conEq a a = true := by simp [conEq]
theorem coilEq_refl (a : S75) : coilEq a a = true := by simp [coilEq]
theorem conEq_comm (a b : S51) : conEq a b = conEq b a := by unfold conEq; rw [beqI_comm a.f0, beqI_comm a.f1.f0, beqI_comm a.f1.f1, beqL_comm a.f2.toList, beqL_comm a.f3.toList]
theorem coilEq_comm (a b : S75) : coilEq a b = coilEq b a := by unfold coilEq; rw [beqI_comm a.f0, beqI_comm a.f1.f0, beqI_comm a.f1.f1]
theorem rungEq_refl (a : S47) : rungEq a a = true := by simp [rungEq, listEq_refl _ conEq_refl, listEq_refl _ coilEq_refl]
theorem rungEq_comm (a b : S47) : rungEq a b = rungEq b a := by unfold rungEq; rw [beqL_comm a.f0.toList, beqL_comm a.f3.toList, listEq_comm _ conEq_comm, listEq_comm _ coilEq_comm]
theorem sameP_refl (I Q M : Int) (l : List S47) : sameP I Q M l I Q M l = true := by simp [sameP, listEq_refl _ rungEq_refl]
theorem sameP_comm (I Q M : Int) (l : List S47) (I' Q' M' : Int) (l' : List S47) : sameP I Q M l I' Q' M' l' = sameP I' Q' M' l' I Q M l := by unfold sameP; rw [beqI_comm I, beqI_comm Q, beqI_comm M, listEq_comm _ rungEq_comm]

theorem con_test (a b : S51) : (!(a.f0 == b.f0) || ((!(a.f1.f0 == b.f1.f0) || (!(a.f1.f1 == b.f1.f1))) || (!(a.f2.toList == b.f2.toList) || (!(a.f3.toList == b.f3.toList))))) = !conEq a b := by
  unfold conEq
  cases (a.f0 == b.f0) <;> cases (a.f1.f0 == b.f1.f0) <;> cases (a.f1.f1 == b.f1.f1) <;> cases (a.f2.toList == b.f2.toList) <;> cases (a.f3.toList == b.f3.toList) <;> rfl
theorem coil_test (a b : S75) : (!(a.f0 == b.f0) || ((!(a.f1.f0 == b.f1.f0) || (!(a.f1.f1 == b.f1.f1))))) = !coilEq a b := by
  unfold coilEq
  cases (a.f0 == b.f0) <;> cases (a.f1.f0 == b.f1.f0) <;> cases (a.f1.f1 == b.f1.f1) <;> rfl
end Go.Proofs.YtdbjjbooalkkbaaGreatDoor.P

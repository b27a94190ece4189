/- Merged by mergetop.py. -/
import Derived.Test.YtdbjjbooalkkbaaGreatDoorXParP
import Derived.Test.YtdbjjbooalkkbaaGreatDoorXLaid
import Derived.Test.YtdbjjbooalkkbaaGreatDoorShelf
import Derived.Test.YtdbjjbooalkkbaaGreatDoorXAddrC
import Derived.Test.YtdbjjbooalkkbaaGreatDoorPQ3
import Derived.Test.YtdbjjbooalkkbaaGreatDoorXParseAll
import Derived.Test.YtdbjjbooalkkbaaGreatDoorXParT
import Derived.Test.YtdbjjbooalkkbaaGreatDoorPQ0
import Derived.Test.YtdbjjbooalkkbaaGreatDoorXDec
import Derived.Test.YtdbjjbooalkkbaaGreatDoorXParse
import Derived.Test.YtdbjjbooalkkbaaGreatDoorPQ6
import Derived.Test.YtdbjjbooalkkbaaGreatDoorPQ7
import Derived.Test.YtdbjjbooalkkbaaGreatDoorPQ8
import Derived.Test.YtdbjjbooalkkbaaGreatDoorXLexG
import Derived.Test.YtdbjjbooalkkbaaGreatDoorPQ4
import Derived.Test.YtdbjjbooalkkbaaGreatDoorPQ5
import Derived.Test.YtdbjjbooalkkbaaGreatDoorXParB0
import Derived.Test.YtdbjjbooalkkbaaGreatDoorXParS
import Derived.Test.YtdbjjbooalkkbaaGreatDoorXParB
import Derived.Test.YtdbjjbooalkkbaaGreatDoorXParJ
import Derived.Test.YtdbjjbooalkkbaaGreatDoorXParR
import Derived.Test.YtdbjjbooalkkbaaGreatDoorXParA1
/- parse.ContactKeywords, parse.CoilKeywords, strings.Join: as the printed law asks for them. -/
namespace Go.Proofs.YtdbjjbooalkkbaaGreatDoor.P
open Go.RowKit Go.Shelf Go.Proofs.YtdbjjbooalkkbaaGreatDoorW.PrintWords

theorem clone_row (g : Nat) (ws : List ByteArray) (w : World) (hn : ws.length = 4) (hc : ∀ j, j < 4 → w.cell? ⟨g, j, none⟩ = some (.string (ws.getD j ByteArray.empty))) :
    Calls Tryz.prog 31 #[.slice (some ⟨g, 0, none⟩) 4 4] w fun e w' => ∃ v : Value, e = .returned v ∧ Kd.R Kd.string 9 w' w.heap.size (fun _ => True) v ws ∧ Below w.heap.size w w' := by
  refine (Tryz.slices_Clone_string g 0 4 4 ws w (by omega) (by decide) (fun j hj => by rw [Nat.zero_add]; exact hc j (by omega))).mono ?_
  rintro e w' ⟨v', rfl, hown, _, hb⟩
  rw [List.take_of_length_le (by omega)] at hown
  refine ⟨v', rfl, ⟨fun _ _ => trivial, ws.map Value.string, by rw [hn]; exact hown, ?_⟩, hb⟩
  match ws, hn with
  | [a, b, c, d], _ => exact Reps.one rfl (Reps.one rfl (Reps.one rfl (Reps.one rfl ⟨rfl, fun j q hq => by simp at hq⟩)))
def parse_ContactKeywords.f : Option (List ByteArray) := some kwC0
def parse_CoilKeywords.f : Option (List ByteArray) := some kwQ0
set_option maxHeartbeats 1000000 in
theorem parse_ContactKeywords.calls (r : List ByteArray) (w : World) (hL : Aside0 (LaidW 32 w)) (h : parse_ContactKeywords.f = some r) :
    Calls Tryz.prog 10 #[] w fun e w' => ∃ v0_ : Value, e = .returned (v0_) ∧ Kd.R Kd.string 9 w' w.heap.size (fun _ => True) v0_ r ∧ Below w.heap.size w w' := by
  obtain rfl := Option.some.inj h
  have hl := hL.out.key rfl
  have H := Lib.hid (clone_row 0 kwC0 w rfl (fun j hj => by
    match j, hj with
    | 0, _ => exact hl.a0
    | 1, _ => exact hl.a1
    | 2, _ => exact hl.a2
    | 3, _ => exact hl.a3))
  clear hl hL h
  go_enter Tryz.func10, Tryz.ntmps10
  go_wp2_with (go_at_call 31; (with_reducible refine H.out.mono ?_); rintro e w1 ⟨v, rfl, hR⟩; have HX := Lib.hid hR; clear hR)
  go_ret
  exact ⟨_, rfl, HX.out⟩
set_option maxHeartbeats 1000000 in
theorem parse_CoilKeywords.calls (r : List ByteArray) (w : World) (hL : Aside0 (LaidW 32 w)) (h : parse_CoilKeywords.f = some r) :
    Calls Tryz.prog 12 #[] w fun e w' => ∃ v0_ : Value, e = .returned (v0_) ∧ Kd.R Kd.string 9 w' w.heap.size (fun _ => True) v0_ r ∧ Below w.heap.size w w' := by
  obtain rfl := Option.some.inj h
  have hl := hL.out.key rfl
  have H := Lib.hid (clone_row 1 kwQ0 w rfl (fun j hj => by
    match j, hj with
    | 0, _ => exact hl.b0
    | 1, _ => exact hl.b1
    | 2, _ => exact hl.b2
    | 3, _ => exact hl.b3))
  clear hl hL h
  go_enter Tryz.func12, Tryz.ntmps12
  go_wp2_with (go_at_call 31; (with_reducible refine H.out.mono ?_); rintro e w1 ⟨v, rfl, hR⟩; have HX := Lib.hid hR; clear hR)
  go_ret
  exact ⟨_, rfl, HX.out⟩
def strings_Join.f (l : List ByteArray) (sep : ByteArray) : Option ByteArray :=
  if l.length ≤ 140737488355328 ∧ (Lib.join (l.map (·.data.toList)) sep.data.toList).length ≤ 140737488355328 then some ⟨(Lib.join (l.map (·.data.toList)) sep.data.toList).toArray⟩ else none
theorem strings_Join.calls (A : Option Addr) (c : Nat) (l : List ByteArray) (sep r : ByteArray) (w : World) (hC : Kd.C Kd.string w A l.length l) (hc : l.length ≤ c) (h : strings_Join.f l sep = some r) :
    Calls Tryz.prog 9 #[.slice A l.length c, .string sep] w fun e w' => e = .returned (.string r) ∧ Below w.heap.size w w' := by
  unfold strings_Join.f at h
  split at h
  case isFalse => cases h
  case isTrue hs =>
  obtain ⟨h1, h2⟩ := hs
  obtain rfl := Option.some.inj h
  cases l with
  | nil => exact (Tryz.strings_Join_none A c sep w).mono fun e w' ⟨he, hw⟩ => ⟨he, by rw [hw]; exact Below.refl _ _⟩
  | cons x xs =>
    obtain ⟨ad, hA, hall⟩ := hC.2.2 (Nat.succ_pos _)
    have hat : ∀ (j : Nat) y, (x :: xs)[j]? = some y → w.cell? (ad.add j) = some (.string y) := by
      intro j y hj
      obtain ⟨cs, _, hk, hcell⟩ := hall j y hj
      have e : cs = [.string y] := hk
      subst e
      have := hcell 0 _ rfl
      rwa [show Kd.string.sz = 1 from rfl, Nat.mul_one, Nat.add_zero] at this
    obtain ⟨bk, o, sp⟩ := ad
    have h0 : w.cell? ⟨bk, o, sp⟩ = some (.string x) := by
      have := hat 0 x rfl
      rwa [Addr.add, if_pos rfl] at this
    have hsp : sp = none := by
      cases sp with
      | none => rfl
      | some k =>
        unfold World.cell? at h0
        split at h0
        · simp at h0
        · cases h0
    subst hsp
    subst hA
    refine Tryz.strings_Join bk o c (x :: xs) sep w (fun j y hj => ?_) (World.block_lt_of_cell? _ _ h0) h1 hc h2
    have := hat j y hj
    unfold Addr.add at this
    split at this
    case isTrue hj0 => rw [hj0]; exact this
    case isFalse => exact this
end Go.Proofs.YtdbjjbooalkkbaaGreatDoor.P

/- Equal ladders: the reference's Same, plainly (the texts XEvn0, XSameA, XSame2 in one). -/
namespace Go.Proofs.YtdbjjbooalkkbaaGreatDoor.P
open Go.RowKit Go.Proofs.YtdbjjbooalkkbaaGreatDoorW.PrintWords

/-- With rounds enough the answer is v. -/
def Evn {α : Type} (f : Nat → Option α) (v : α) : Prop := ∃ K, ∀ k, K ≤ k → f k = some v
theorem Evn.const {α : Type} (v : α) : Evn (fun _ => some v) v := ⟨0, fun _ _ => rfl⟩
theorem Evn.step {α : Type} {f g : Nat → Option α} {v : α} (h : Evn g v) (hs : ∀ k, f (k + 1) = g k) : Evn f v := by
  obtain ⟨K, h⟩ := h
  refine ⟨K + 1, fun k hk => ?_⟩
  obtain ⟨k, rfl⟩ : ∃ m, k = m + 1 := ⟨k - 1, by omega⟩
  rw [hs]
  exact h k (by omega)
theorem Evn.same {α : Type} {f g : Nat → Option α} {v : α} (h : Evn g v) (hs : ∀ k, f k = g k) : Evn f v := by
  obtain ⟨K, h⟩ := h
  exact ⟨K, fun k hk => (hs k).trans (h k hk)⟩
theorem Evn.bind {α β : Type} {f : Nat → Option α} {v : α} {g : Nat → α → Option β} {u : β} (h : Evn f v) (hg : Evn (fun k => g k v) u) : Evn (fun k => (f k).bind (g k)) u := by
  obtain ⟨K, h⟩ := h
  obtain ⟨L, hg⟩ := hg
  exact ⟨K + L, fun k hk => by show (f k).bind (g k) = some u; rw [h k (by omega), Option.bind_some]; exact hg k (by omega)⟩
theorem Evn.at2 {α β : Type} {f : Nat → Option α} {g : Nat → Option β} {u : α} {v : β} (h : Evn f u) (hg : Evn g v) : ∃ k, f k = some u ∧ g k = some v := by
  obtain ⟨K, h⟩ := h
  obtain ⟨L, hg⟩ := hg
  exact ⟨K + L, h _ (by omega), hg _ (by omega)⟩
theorem Evn.one {α : Type} {f : Nat → Option α} {u : α} (h : Evn f u) : ∃ k, f k = some u := by
  obtain ⟨K, h⟩ := h
  exact ⟨K, h _ (Nat.le_refl _)⟩

theorem dropG_at {α : Type} (l : List α) (i : Nat) (x : α) (h : l[i]? = some x) : l.drop i = x :: l.drop (i + 1) := by
  have hi := (List.getElem?_eq_some_iff.1 h)
  rw [List.drop_eq_getElem_cons hi.1, hi.2]
theorem rdG_at (l : List S47) (k : Nat) (x : S47) (h : l[k]? = some x) : rd_T47 l (k : Int) = x := by
  unfold rd_T47
  rw [List.getD_eq_getElem?_getD, Int.toNat_natCast, h]
  rfl
theorem rdQ_at (l : List S75) (k : Nat) (x : S75) (h : l[k]? = some x) : rd_T75 l (k : Int) = x := by
  unfold rd_T75
  rw [List.getD_eq_getElem?_getD, Int.toNat_natCast, h]
  rfl
theorem rdC_at (l : List S51) (k : Nat) (x : S51) (h : l[k]? = some x) : rd_T51 l (k : Int) = x := by
  unfold rd_T51
  rw [List.getD_eq_getElem?_getD, Int.toNat_natCast, h]
  rfl
/-! ### equal? -/
def listEq {α : Type} (eq : α → α → Bool) : List α → List α → Bool
  | [], [] => true
  | a :: l, b :: m => eq a b && listEq eq l m
  | _, _ => false
theorem listEq_len {α : Type} (eq : α → α → Bool) (l : List α) : ∀ m, l.length ≠ m.length → listEq eq l m = false := by
  induction l with
  | nil => intro m h; cases m with
    | nil => exact absurd rfl h
    | cons b m => rfl
  | cons a l ih => intro m h; cases m with
    | nil => rfl
    | cons b m => rw [listEq, ih m (by simpa using h), Bool.and_false]
theorem listEq_refl {α : Type} (eq : α → α → Bool) (he : ∀ a, eq a a = true) (l : List α) : listEq eq l l = true := by
  induction l with
  | nil => rfl
  | cons a l ih => rw [listEq, he, ih]; rfl
theorem listEq_comm {α : Type} (eq : α → α → Bool) (he : ∀ a b, eq a b = eq b a) (l : List α) : ∀ m, listEq eq l m = listEq eq m l := by
  induction l with
  | nil => intro m; cases m <;> rfl
  | cons a l ih => intro m; cases m with
    | nil => rfl
    | cons b m => rw [listEq, listEq, he, ih]
theorem beqI_comm (a b : Int) : (a == b) = (b == a) := by rw [Bool.eq_iff_iff, beq_iff_eq, beq_iff_eq]; exact eq_comm
theorem beqL_comm (a b : List UInt8) : (a == b) = (b == a) := by rw [Bool.eq_iff_iff, beq_iff_eq, beq_iff_eq]; exact eq_comm
def conEq (a b : S51) : Bool := a.f0 == b.f0 && (a.f1.f0 == b.f1.f0 && a.f1.f1 == b.f1.f1 && (a.f2.toList == b.f2.toList && a.f3.toList == b.f3.toList))
def coilEq (a b : S75) : Bool := a.f0 == b.f0 && (a.f1.f0 == b.f1.f0 && a.f1.f1 == b.f1.f1)
def rungEq (a b : S47) : Bool := a.f0.toList == b.f0.toList && (a.f3.toList == b.f3.toList && (listEq conEq a.f1 b.f1 && listEq coilEq a.f2 b.f2))
def sameP (I Q M : Int) (l : List S47) (I' Q' M' : Int) (l' : List S47) : Bool := (I == I' && (Q == Q' && M == M')) && listEq rungEq l l'
theorem conEq_refl (a : S51) : conEq a a = true := by simp [conEq]
theorem coilEq_refl (a : S75) : coilEq a a = true := by simp [coilEq]
theorem conEq_comm (a b : S51) : conEq a b = conEq b a := by unfold conEq; rw [beqI_comm a.f0, beqI_comm a.f1.f0, beqI_comm a.f1.f1, beqL_comm a.f2.toList, beqL_comm a.f3.toList]
theorem coilEq_comm (a b : S75) : coilEq a b = coilEq b a := by unfold coilEq; rw [beqI_comm a.f0, beqI_comm a.f1.f0, beqI_comm a.f1.f1]
theorem rungEq_refl (a : S47) : rungEq a a = true := by simp [rungEq, listEq_refl _ conEq_refl, listEq_refl _ coilEq_refl]
theorem rungEq_comm (a b : S47) : rungEq a b = rungEq b a := by unfold rungEq; rw [beqL_comm a.f0.toList, beqL_comm a.f3.toList, listEq_comm _ conEq_comm, listEq_comm _ coilEq_comm]
theorem sameP_refl (I Q M : Int) (l : List S47) : sameP I Q M l I Q M l = true := by simp [sameP, listEq_refl _ rungEq_refl]
theorem sameP_comm (I Q M : Int) (l : List S47) (I' Q' M' : Int) (l' : List S47) : sameP I Q M l I' Q' M' l' = sameP I' Q' M' l' I Q M l := by unfold sameP; rw [beqI_comm I, beqI_comm Q, beqI_comm M, listEq_comm _ rungEq_comm]

theorem con_test (a b : S51) : (!(a.f0 == b.f0) || ((!(a.f1.f0 == b.f1.f0) || (!(a.f1.f1 == b.f1.f1))) || (!(a.f2.toList == b.f2.toList) || (!(a.f3.toList == b.f3.toList))))) = !conEq a b := by
  unfold conEq
  cases (a.f0 == b.f0) <;> cases (a.f1.f0 == b.f1.f0) <;> cases (a.f1.f1 == b.f1.f1) <;> cases (a.f2.toList == b.f2.toList) <;> cases (a.f3.toList == b.f3.toList) <;> rfl
theorem coil_test (a b : S75) : (!(a.f0 == b.f0) || ((!(a.f1.f0 == b.f1.f0) || (!(a.f1.f1 == b.f1.f1))))) = !coilEq a b := by
  unfold coilEq
  cases (a.f0 == b.f0) <;> cases (a.f1.f0 == b.f1.f0) <;> cases (a.f1.f1 == b.f1.f1) <;> rfl

theorem same_l2 (I Q M : Int) (x : List S47) (I' Q' M' : Int) (y : List S47) (i : Int) (a b : S47) (hl : a.f2.length = b.f2.length) (hb : a.f2.length ≤ 9223372036854775807) (v : Bool)
    (hn : Evn (fun k => ref10_Same.l0 k (wrap64 (i + 1)) I Q M x I' Q' M' y) v) (d : Nat) : ∀ j : Nat, j + d = a.f2.length →
    Evn (fun k => ref10_Same.l2 k i (j : Int) I Q M x I' Q' M' y a.f0 a.f1 a.f2 a.f3 b.f0 b.f1 b.f2 b.f3) (listEq coilEq (a.f2.drop j) (b.f2.drop j) && v) := by
  induction d with
  | zero =>
    intro j hj
    rw [List.drop_eq_nil_of_le (by omega), List.drop_eq_nil_of_le (by omega), listEq, Bool.true_and]
    exact hn.step (fun k => by rw [ref10_Same.l2, if_neg (by omega)])
  | succ d ih =>
    intro j hj
    obtain ⟨p, hp⟩ : ∃ p, a.f2[j]? = some p := ⟨_, List.getElem?_eq_getElem (by omega)⟩
    obtain ⟨q, hq⟩ : ∃ q, b.f2[j]? = some q := ⟨_, List.getElem?_eq_getElem (by omega)⟩
    rw [dropG_at a.f2 j p hp, dropG_at b.f2 j q hq, listEq]
    have h := ih (j + 1) (by omega)
    cases he : coilEq p q with
    | true =>
      refine h.step (fun k => ?_)
      rw [ref10_Same.l2, if_pos (by omega), if_pos (by omega), if_pos (by omega), rdQ_at a.f2 j p hp, rdQ_at b.f2 j q hq, coil_test, he, if_neg (by decide), wrap_nat (by omega)]
    | false =>
      refine (Evn.const false).step (fun k => ?_)
      rw [ref10_Same.l2, if_pos (by omega), if_pos (by omega), if_pos (by omega), rdQ_at a.f2 j p hp, rdQ_at b.f2 j q hq, coil_test, he, if_pos (by decide)]
theorem same_l1 (I Q M : Int) (x : List S47) (I' Q' M' : Int) (y : List S47) (i : Int) (a b : S47) (hl : a.f1.length = b.f1.length) (hb : a.f1.length ≤ 9223372036854775807) (hl2 : a.f2.length = b.f2.length) (hb2 : a.f2.length ≤ 9223372036854775807) (v : Bool)
    (hn : Evn (fun k => ref10_Same.l0 k (wrap64 (i + 1)) I Q M x I' Q' M' y) v) (d : Nat) : ∀ j : Nat, j + d = a.f1.length →
    Evn (fun k => ref10_Same.l1 k i (j : Int) I Q M x I' Q' M' y a.f0 a.f1 a.f2 a.f3 b.f0 b.f1 b.f2 b.f3) (listEq conEq (a.f1.drop j) (b.f1.drop j) && (listEq coilEq a.f2 b.f2 && v)) := by
  induction d with
  | zero =>
    intro j hj
    rw [List.drop_eq_nil_of_le (by omega), List.drop_eq_nil_of_le (by omega), listEq, Bool.true_and]
    exact (same_l2 I Q M x I' Q' M' y i a b hl2 hb2 v hn a.f2.length 0 (by omega)).step (fun k => by rw [ref10_Same.l1, if_neg (by omega)]; rfl)
  | succ d ih =>
    intro j hj
    obtain ⟨p, hp⟩ : ∃ p, a.f1[j]? = some p := ⟨_, List.getElem?_eq_getElem (by omega)⟩
    obtain ⟨q, hq⟩ : ∃ q, b.f1[j]? = some q := ⟨_, List.getElem?_eq_getElem (by omega)⟩
    rw [dropG_at a.f1 j p hp, dropG_at b.f1 j q hq, listEq]
    have h := ih (j + 1) (by omega)
    cases he : conEq p q with
    | true =>
      refine h.step (fun k => ?_)
      rw [ref10_Same.l1, if_pos (by omega), if_pos (by omega), if_pos (by omega), rdC_at a.f1 j p hp, rdC_at b.f1 j q hq, con_test, he, if_neg (by decide), wrap_nat (by omega)]
    | false =>
      refine (Evn.const false).step (fun k => ?_)
      rw [ref10_Same.l1, if_pos (by omega), if_pos (by omega), if_pos (by omega), rdC_at a.f1 j p hp, rdC_at b.f1 j q hq, con_test, he, if_pos (by decide)]
theorem same_l0 (I Q M : Int) (x : List S47) (I' Q' M' : Int) (y : List S47) (hl : x.length = y.length) (hx : x.length ≤ 9223372036854775807) (hc : ∀ r ∈ x, r.f1.length ≤ 9223372036854775807 ∧ r.f2.length ≤ 9223372036854775807) (d : Nat) : ∀ i : Nat, i + d = x.length →
    Evn (fun k => ref10_Same.l0 k (i : Int) I Q M x I' Q' M' y) (listEq rungEq (x.drop i) (y.drop i)) := by
  induction d with
  | zero =>
    intro i hi
    rw [List.drop_eq_nil_of_le (by omega), List.drop_eq_nil_of_le (by omega)]
    exact (Evn.const true).step (fun k => by rw [ref10_Same.l0, if_neg (by omega)])
  | succ d ih =>
    intro i hi
    obtain ⟨a, ha⟩ : ∃ a, x[i]? = some a := ⟨_, List.getElem?_eq_getElem (by omega)⟩
    obtain ⟨b, hb⟩ : ∃ b, y[i]? = some b := ⟨_, List.getElem?_eq_getElem (by omega)⟩
    rw [dropG_at x i a ha, dropG_at y i b hb, listEq]
    have h := ih (i + 1) (by omega)
    have hm := hc a (List.mem_of_getElem? ha)
    have hno : ∀ (p : Bool), p = true → Evn (fun k => ref10_Same.j2 k (i : Int) p I Q M x I' Q' M' y a.f0 a.f1 a.f2 a.f3 b.f0 b.f1 b.f2 b.f3) false := fun p hp => (Evn.const false).step (fun k => by rw [ref10_Same.j2, if_pos hp])
    have hne : ∀ v, (rungEq a b && v) = (a.f0.toList == b.f0.toList && (a.f3.toList == b.f3.toList && (listEq conEq a.f1 b.f1 && (listEq coilEq a.f2 b.f2 && v)))) := fun v => by unfold rungEq; simp only [Bool.and_assoc]
    rw [hne]
    by_cases e0 : a.f0.toList = b.f0.toList
    · by_cases e3 : a.f3.toList = b.f3.toList
      · rw [beq_iff_eq.mpr e0, beq_iff_eq.mpr e3, Bool.true_and, Bool.true_and]
        by_cases e1 : a.f1.length = b.f1.length
        · by_cases e2 : a.f2.length = b.f2.length
          · have hj : Evn (fun k => ref10_Same.j2 k (i : Int) false I Q M x I' Q' M' y a.f0 a.f1 a.f2 a.f3 b.f0 b.f1 b.f2 b.f3) (listEq conEq a.f1 b.f1 && (listEq coilEq a.f2 b.f2 && listEq rungEq (x.drop (i + 1)) (y.drop (i + 1)))) :=
              (same_l1 I Q M x I' Q' M' y (i : Int) a b e1 hm.1 e2 hm.2 _ (h.same (fun k => by rw [wrap_nat (by omega)])) a.f1.length 0 (by omega)).step (fun k => by rw [ref10_Same.j2, if_neg (by decide)]; rfl)
            refine hj.step (fun k => ?_)
            rw [ref10_Same.l0, if_pos (by omega), if_pos (by omega), if_pos (by omega), rdG_at x i a ha, rdG_at y i b hb, if_pos e0, if_pos e3, if_pos (by omega), show ((a.f2.length : Int) != (b.f2.length : Int)) = false by simp [e2]]
          · rw [listEq_len coilEq _ _ e2, Bool.false_and, Bool.and_false]
            refine (hno true rfl).step (fun k => ?_)
            rw [ref10_Same.l0, if_pos (by omega), if_pos (by omega), if_pos (by omega), rdG_at x i a ha, rdG_at y i b hb, if_pos e0, if_pos e3, if_pos (by omega), show ((a.f2.length : Int) != (b.f2.length : Int)) = true by rw [bne_iff_ne]; omega]
        · rw [listEq_len conEq _ _ e1, Bool.false_and]
          refine (hno true rfl).step (fun k => ?_)
          rw [ref10_Same.l0, if_pos (by omega), if_pos (by omega), if_pos (by omega), rdG_at x i a ha, rdG_at y i b hb, if_pos e0, if_pos e3, if_neg (by omega)]
      · rw [beq_eq_false_iff_ne.mpr e3, Bool.false_and, Bool.and_false]
        refine (hno true rfl).step (fun k => ?_)
        rw [ref10_Same.l0, if_pos (by omega), if_pos (by omega), if_pos (by omega), rdG_at x i a ha, rdG_at y i b hb, if_pos e0, if_neg e3]
    · rw [beq_eq_false_iff_ne.mpr e0, Bool.false_and]
      refine (hno true rfl).step (fun k => ?_)
      rw [ref10_Same.l0, if_pos (by omega), if_pos (by omega), if_pos (by omega), rdG_at x i a ha, rdG_at y i b hb, if_neg e0]
theorem same_eq (I Q M : Int) (x : List S47) (I' Q' M' : Int) (y : List S47) (hx : x.length ≤ 9223372036854775807) (hc : ∀ r ∈ x, r.f1.length ≤ 9223372036854775807 ∧ r.f2.length ≤ 9223372036854775807) :
    Evn (fun k => ref10_Same.f k I Q M x I' Q' M' y) (sameP I Q M x I' Q' M' y) := by
  have hno : Evn (fun k => ref10_Same.j0 k true I Q M x I' Q' M' y) false := (Evn.const false).step (fun k => by rw [ref10_Same.j0, if_pos rfl])
  unfold ref10_Same.f sameP
  by_cases h1 : I = I'
  · by_cases h2 : Q = Q'
    · by_cases h3 : M = M'
      · simp only [if_pos h1, if_pos h2, if_pos h3, beq_iff_eq.mpr h1, beq_iff_eq.mpr h2, beq_iff_eq.mpr h3, Bool.true_and]
        by_cases hl : x.length = y.length
        · refine (same_l0 I Q M x I' Q' M' y hl hx hc x.length 0 (by omega)).step (fun k => ?_)
          rw [show ((x.length : Int) != (y.length : Int)) = false by simp [hl], ref10_Same.j0, if_neg (by decide)]; rfl
        · rw [listEq_len _ x y hl, show ((x.length : Int) != (y.length : Int)) = true by rw [bne_iff_ne]; omega]
          exact hno
      · simp only [if_pos h1, if_pos h2, if_neg h3, beq_eq_false_iff_ne.mpr h3, Bool.and_false, Bool.false_and]
        exact hno
    · simp only [if_pos h1, if_neg h2, beq_eq_false_iff_ne.mpr h2, Bool.and_false, Bool.false_and]
      exact hno
  · simp only [if_neg h1, beq_eq_false_iff_ne.mpr h1, Bool.false_and]
    exact hno
end Go.Proofs.YtdbjjbooalkkbaaGreatDoor.P

/- law10_alive: the example of the chapter holds: called, it returns true. -/
namespace Go.Proofs.YtdbjjbooalkkbaaGreatDoor.P
open Go.RowKit Go.Proofs.YtdbjjbooalkkbaaGreatDoorW.PrintWords Go.Proofs.YtdbjjbooalkkbaaGreatDoorW.PrintLast Go.Proofs.YtdbjjbooalkkbaaGreatDoorW.PrintMore
attribute [local go_sem] max2_int min2_int max_two min_two max_three min_three max_four min_four   -- for this text's walks alone
set_option linter.unusedVariables false
set_option linter.unusedSimpArgs false
def law10_example.f  : Option (ByteArray) := some (⟨#[115, 105, 122, 101, 32, 49, 32, 49, 32, 48, 10, 114, 117, 110, 103, 10, 110, 111, 32, 73, 48, 32, 76, 32, 82, 10, 111, 117, 116, 32, 81, 48, 10]⟩ : ByteArray)
set_option maxHeartbeats 8000000 in
set_option maxRecDepth 100000 in
theorem law10_example.calls  (r : ByteArray) (w : World) (h : law10_example.f  = some r) :
  Calls Tryz.prog 19 #[] w fun e w' => e = .returned (.string r) ∧ Drawn0 w w' := by
 have H : (some (⟨#[115, 105, 122, 101, 32, 49, 32, 49, 32, 48, 10, 114, 117, 110, 103, 10, 110, 111, 32, 73, 48, 32, 76, 32, 82, 10, 111, 117, 116, 32, 81, 48, 10]⟩ : ByteArray)) = some r := h
 clear h
 obtain rfl := Option.some.inj H
 go_enter Tryz.func19, Tryz.ntmps19
 go_wp2
 go_ret
 exact ⟨by first | rfl | (simp; done) | (simp [*]; done), by repeat (first | exact Drawn0.refl _ | apply Drawn0.step)⟩

def law10_aliveL.f  : Option (Bool) := (law10_example.f).bind fun t101 => ((parse_Parse.f t101).bind fun bt102 => (if bt102.2.2.2.2.2.2 = 0 then (if bt102.2.2.2.2.2.1 = 0 then (if (bt102.2.2.2.2.1.length : Int) = 1 then (if 0 < (bt102.2.2.2.2.1.length : Int) then (if (rd bt102.2.2.2.2.1 0) = 2 then (if (bt102.2.2.2.1.length : Int) = 1 then (if 0 < (bt102.2.2.2.1.length : Int) then (if (((rd_T47 bt102.2.2.2.1 0).f1).length : Int) = 1 then (if (((rd_T47 bt102.2.2.2.1 0).f2).length : Int) = 1 then (if 0 < (((rd_T47 bt102.2.2.2.1 0).f1).length : Int) then (some (((rd_T51 ((rd_T47 bt102.2.2.2.1 0).f1) 0).f3).toList == ([82] : List UInt8))) else (none)) else (some false)) else (some false)) else (none)) else (some false)) else (some false)) else (none)) else (some false)) else (some false)) else (some false)))
theorem toList_mk' (l : List UInt8) : (⟨l.toArray⟩ : ByteArray).toList = l := by rw [ByteArray.toList_eq]
theorem parse_example : parse_Parse.f (⟨#[115, 105, 122, 101, 32, 49, 32, 49, 32, 48, 10, 114, 117, 110, 103, 10, 110, 111, 32, 73, 48, 32, 76, 32, 82, 10, 111, 117, 116, 32, 81, 48, 10]⟩ : ByteArray) = some (1, 1, 0, [⟨⟨#[]⟩, [⟨0, ⟨0, 0⟩, ⟨#[76]⟩, ⟨#[82]⟩⟩], [⟨0, ⟨1, 0⟩⟩], ⟨#[]⟩⟩], [2], 0, 0) := by
  rw [parse_eq]
  exact congrArg some (by kernel_rfl)
theorem law10_alive_true : law10_aliveL.f = some true := by
  unfold law10_aliveL.f law10_example.f
  simp only [Option.bind_some]
  rw [parse_example]
  have e2 : (⟨#[82]⟩ : ByteArray).toList = [82] := toList_mk' [82]
  simp [rd_T47, rd_T51, rd, rdOf, e2]
set_option maxHeartbeats 8000000 in
set_option maxRecDepth 100000 in
theorem law10_aliveL.calls  (r : Bool) (w : World) (hL : Aside0 (LaidW 47 w)) (h : law10_aliveL.f  = some r) :
  Calls Tryz.prog 5 #[] w fun e w' => e = .returned (.bool r) ∧ Below w.heap.size w w' := by
 have hu25 := Tryz.underlying25
 have hr_ : r = true := Option.some.inj (h.symm.trans law10_alive_true)
 have HB := Aside0.mk (Below.refl w.heap.size w)
 have H : ((law10_example.f).bind fun t101 => ((parse_Parse.f t101).bind fun bt102 => (if bt102.2.2.2.2.2.2 = 0 then (if bt102.2.2.2.2.2.1 = 0 then (if (bt102.2.2.2.2.1.length : Int) = 1 then (if 0 < (bt102.2.2.2.2.1.length : Int) then (if (rd bt102.2.2.2.2.1 0) = 2 then (if (bt102.2.2.2.1.length : Int) = 1 then (if 0 < (bt102.2.2.2.1.length : Int) then (if (((rd_T47 bt102.2.2.2.1 0).f1).length : Int) = 1 then (if (((rd_T47 bt102.2.2.2.1 0).f2).length : Int) = 1 then (if 0 < (((rd_T47 bt102.2.2.2.1 0).f1).length : Int) then (some (((rd_T51 ((rd_T47 bt102.2.2.2.1 0).f1) 0).f3).toList == ([82] : List UInt8))) else (none)) else (some false)) else (some false)) else (none)) else (some false)) else (some false)) else (none)) else (some false)) else (some false)) else (some false)))) = some r := h
 clear h
 replace H := Option.bind_eq_some_iff.mp H
 obtain ⟨t101, A10, H⟩ := H
 replace H : ((parse_Parse.f t101).bind fun bt102 => (if bt102.2.2.2.2.2.2 = 0 then (if bt102.2.2.2.2.2.1 = 0 then (if (bt102.2.2.2.2.1.length : Int) = 1 then (if 0 < (bt102.2.2.2.2.1.length : Int) then (if (rd bt102.2.2.2.2.1 0) = 2 then (if (bt102.2.2.2.1.length : Int) = 1 then (if 0 < (bt102.2.2.2.1.length : Int) then (if (((rd_T47 bt102.2.2.2.1 0).f1).length : Int) = 1 then (if (((rd_T47 bt102.2.2.2.1 0).f2).length : Int) = 1 then (if 0 < (((rd_T47 bt102.2.2.2.1 0).f1).length : Int) then (some (((rd_T51 ((rd_T47 bt102.2.2.2.1 0).f1) 0).f3).toList == ([82] : List UInt8))) else (none)) else (some false)) else (some false)) else (none)) else (some false)) else (some false)) else (none)) else (some false)) else (some false)) else (some false))) = some r := H
 have A1 := Aside0.mk A10
 clear A10
 replace H := Option.bind_eq_some_iff.mp H
 obtain ⟨⟨t102, t103, t104, t105, t108, t111, t112⟩, A20, H⟩ := H
 replace H : (if t112 = 0 then (if t111 = 0 then (if (t108.length : Int) = 1 then (if 0 < (t108.length : Int) then (if (rd t108 0) = 2 then (if (t105.length : Int) = 1 then (if 0 < (t105.length : Int) then (if (((rd_T47 t105 0).f1).length : Int) = 1 then (if (((rd_T47 t105 0).f2).length : Int) = 1 then (if 0 < (((rd_T47 t105 0).f1).length : Int) then (some (((rd_T51 ((rd_T47 t105 0).f1) 0).f3).toList == ([82] : List UInt8))) else (none)) else (some false)) else (some false)) else (none)) else (some false)) else (some false)) else (none)) else (some false)) else (some false)) else (some false)) = some r := H
 have A2 := Aside0.mk A20
 clear A20
 by_cases c3 : t112 = 0
 ·rw [if_pos c3] at H
  have c3b0 : (t112 == 0) = true := beq_iff_eq.mpr c3
  have c3b1 : (t112 != 0) = false := bne_eq_false_iff_eq.mpr c3
  clear c3
  by_cases c4 : t111 = 0
  ·rw [if_pos c4] at H
   have c4b0 : (t111 == 0) = true := beq_iff_eq.mpr c4
   have c4b1 : (t111 != 0) = false := bne_eq_false_iff_eq.mpr c4
   clear c4
   by_cases c5 : (t108.length : Int) = 1
   ·rw [if_pos c5] at H
    have c5b0 : ((t108.length : Int) == 1) = true := beq_iff_eq.mpr c5
    have c5b1 : ((t108.length : Int) != 1) = false := bne_eq_false_iff_eq.mpr c5
    clear c5
    by_cases c6 : 0 < (t108.length : Int)
    ·rw [if_pos c6] at H
     have c6b0 : decide (0 < (t108.length : Int)) = true := decide_eq_true c6
     have c6b1 : decide (0 < t108.length) = true := decide_eq_true (by omega)
     clear c6
     by_cases c7 : (rd t108 0) = 2
     ·rw [if_pos c7] at H
      have c7b0 : ((rd t108 0) == 2) = true := beq_iff_eq.mpr c7
      have c7b1 : ((rd t108 0) != 2) = false := bne_eq_false_iff_eq.mpr c7
      clear c7
      by_cases c8 : (t105.length : Int) = 1
      ·rw [if_pos c8] at H
       have c8b0 : ((t105.length : Int) == 1) = true := beq_iff_eq.mpr c8
       have c8b1 : ((t105.length : Int) != 1) = false := bne_eq_false_iff_eq.mpr c8
       clear c8
       by_cases c9 : 0 < (t105.length : Int)
       ·rw [if_pos c9] at H
        have c9b0 : decide (0 < (t105.length : Int)) = true := decide_eq_true c9
        have c9b1 : decide (0 < t105.length) = true := decide_eq_true (by omega)
        clear c9
        by_cases c10 : (((rd_T47 t105 0).f1).length : Int) = 1
        ·rw [if_pos c10] at H
         have c10b0 : ((((rd_T47 t105 0).f1).length : Int) == 1) = true := beq_iff_eq.mpr c10
         have c10b1 : ((((rd_T47 t105 0).f1).length : Int) != 1) = false := bne_eq_false_iff_eq.mpr c10
         clear c10
         by_cases c11 : (((rd_T47 t105 0).f2).length : Int) = 1
         ·rw [if_pos c11] at H
          have c11b0 : ((((rd_T47 t105 0).f2).length : Int) == 1) = true := beq_iff_eq.mpr c11
          have c11b1 : ((((rd_T47 t105 0).f2).length : Int) != 1) = false := bne_eq_false_iff_eq.mpr c11
          clear c11
          by_cases c12 : 0 < (((rd_T47 t105 0).f1).length : Int)
          ·rw [if_pos c12] at H
           have c12b0 : decide (0 < (((rd_T47 t105 0).f1).length : Int)) = true := decide_eq_true c12
           have c12b1 : decide (0 < ((rd_T47 t105 0).f1).length) = true := decide_eq_true (by omega)
           clear c12
           clear hr_
           obtain rfl := Option.some.inj H
           go_enter Tryz.func5, Tryz.ntmps5
           go_wp2_with (first | ((with_reducible refine gate_callee (f := 19) rfl ?_); refine goesL_ (some 6) rfl rfl Tryz.func19 (by kernel_rfl) rfl #[] rfl (by (try simp only [List.map_toArray, List.map_cons, List.map_nil]); first | done | rfl | (simp only [List.length_drop, List.length_take]; rfl)) ?_; (with_reducible refine (law10_example.calls  t101 _ A1.out).mono ?_); rintro e w' ⟨rfl, ⟨nd, rfl⟩⟩; refine ⟨_, rfl, ?_⟩) | ((with_reducible refine gate_callee (f := 6) rfl ?_); refine goesL_ (some 7) rfl rfl Tryz.func6 (by kernel_rfl) rfl #[.string t101] rfl (by (try simp only [List.map_toArray, List.map_cons, List.map_nil]); first | done | rfl | (simp only [List.length_drop, List.length_take]; rfl)) ?_; (with_reducible refine (parse_Parse.calls t101 t102 t103 t104 t105 t108 t111 t112 _ (LaidW.below (m' := 47) hL rfl (by repeat (first | (with_reducible first | exact HB.out | apply below_alloc | apply pw_below_drewN | apply below_drew1) | exact HB.out))) A2.out).mono ?_); rintro e w13 ⟨v106, v109, rfl, ho0, ho1, hb⟩; refine ⟨_, rfl, ?_⟩; have n0_ := Aside0.mk (Kd.S_lower ho0 (below_size (by repeat (first | (with_reducible first | exact HB.out | apply below_alloc | apply pw_below_drewN | apply below_drew1) | exact HB.out)))); have n1_ := Aside0.mk (Kd.R_lower ho1 (below_size (by repeat (first | (with_reducible first | exact HB.out | apply below_alloc | apply pw_below_drewN | apply below_drew1) | exact HB.out)))); have n2_ := Aside0.mk (below_step (by repeat (first | (with_reducible first | exact HB.out | apply below_alloc | apply pw_below_drewN | apply below_drew1) | exact HB.out)) hb); clear HB; have HO107 := n0_; have HO110 := n1_; have HB := n2_; clear n0_ n1_ n2_; (try clear hb); (try clear hb2); (try clear hk); (try clear hi); (try clear ho0); (try clear ho1)) | ((with_reducible refine gate_dst (N := 1) rfl ?_); (try (refine gate_guard (by rfl) ?_; dsimp only)); refine box_event ?hg (N := 1) ?hd (cs := #[.int .i64 0, .int .i64 0, .int .i64 0, .slice none 0 0]) (t := 25) ?hr ?_; (case hd => rfl); (case hg => rfl); (case hr => first | (go_simp; done) | (go_simp; rfl)); intro gb113 hg w14 hbox hb; have n0_ := Aside0.mk (Kd.S_below (by (with_reducible repeat (first | apply Kd.S_alloc | apply Kd.S_drewN | apply Kd.S_drew)); exact HO107.out) hb); have n1_ := Aside0.mk (Kd.R_below (by (with_reducible repeat (first | apply Kd.R_alloc | apply Kd.R_drewN | apply Kd.R_drew)); exact HO110.out) hb); have n2_ := Aside0.mk (below_step (by repeat (first | (with_reducible first | exact HB.out | apply below_alloc | apply pw_below_drewN | apply below_drew1) | exact HB.out)) hb); have n3_ := Aside0.mk (hbox); have n4_ := Aside0.mk ((by rw [hg]; exact (below_size (by repeat (first | (with_reducible first | exact HB.out | apply below_alloc | apply pw_below_drewN | apply below_drew1) | exact HB.out))) : w.heap.size ≤ gb113)); have n5_ := Aside0.mk ((by rw [hg]; exact (below_size (by repeat (first | (with_reducible first | exact HB.out | apply below_alloc | apply pw_below_drewN | apply below_drew1) | exact HB.out))) : w.heap.size ≤ gb113)); clear HO107; clear HO110; clear HB; have HO107 := n0_; have HO110 := n1_; have HB := n2_; have BK113 := n3_; have GW113 := n4_; have GE113 := n5_; clear n0_ n1_ n2_ n3_ n4_ n5_; clear hb hbox hg; have hcz15_0 : w14.cell? ⟨gb113, 0, none⟩ = some (.int .i64 0) := (blk_cell BK113.out 0).trans rfl; have hcz15_1 : w14.cell? ⟨gb113, 1, none⟩ = some (.int .i64 0) := (blk_cell BK113.out 1).trans rfl; have hcz15_2 : w14.cell? ⟨gb113, 2, none⟩ = some (.int .i64 0) := (blk_cell BK113.out 2).trans rfl; have hcz15_3 : w14.cell? ⟨gb113, 3, none⟩ = some (.slice none 0 0) := (blk_cell BK113.out 3).trans rfl; have hfz15_0 := blk_frozen BK113.out 0; have hfz15_1 := blk_frozen BK113.out 1; have hfz15_2 := blk_frozen BK113.out 2; have hfz15_3 := blk_frozen BK113.out 3; obtain ⟨Ao16, co16, eo16⟩ := Kd.S_slice HO107.out; subst eo16) | ((with_reducible refine gate_store (t := 25) (p := 1) rfl ?_); refine store_event (t := 25) (p := 1) (v := ?vo_w17) (w1 := ((((w14.setCell ⟨gb113, 0, none⟩ (.int .i64 t102)).setCell ⟨gb113, 1, none⟩ (.int .i64 t103)).setCell ⟨gb113, 2, none⟩ (.int .i64 t104)).setCell ⟨gb113, 3, none⟩ (.slice Ao16 t105.length co16))) ?hg ?ho ?hn ?hr ?_; (case ho => rfl); (case hg => rfl); (case hn => rfl); (case hr => first | (go_simp; done) | (go_simp; rfl)); intro w17 hw; have n0_ : Aside0 (Kd.S k47 47 w17 w.heap.size (fun _ => True) (.slice Ao16 t105.length co16) t105) := ⟨(by rw [hw]; exact (by (with_reducible repeat (first | apply Kd.S_alloc | apply Kd.S_drewN | apply Kd.S_drew)); exact Kd.S_mono (Kd.S_far (p := ⟨gb113, 3, none⟩) (Kd.S_far (p := ⟨gb113, 2, none⟩) (Kd.S_far (p := ⟨gb113, 1, none⟩) (Kd.S_far (p := ⟨gb113, 0, none⟩) (Kd.S_types HO107.out BK113.out (by decide)) (fun _ hk => hk.2) (.int .i64 t102)) (fun _ hk => hk.2) (.int .i64 t103)) (fun _ hk => hk.2) (.int .i64 t104)) (fun _ hk => hk.2) (.slice Ao16 t105.length co16)) (fun _ hk => trivial)))⟩; have n1_ : Aside0 (Kd.R (Kd.int .i64) 3 w17 w.heap.size (fun _ => True) v109 t108) := ⟨(by rw [hw]; exact (by (with_reducible repeat (first | apply Kd.R_alloc | apply Kd.R_drewN | apply Kd.R_drew)); exact Kd.R_mono (Kd.R_far (p := ⟨gb113, 3, none⟩) (Kd.R_far (p := ⟨gb113, 2, none⟩) (Kd.R_far (p := ⟨gb113, 1, none⟩) (Kd.R_far (p := ⟨gb113, 0, none⟩) (Kd.R_types HO110.out BK113.out (by decide)) (fun _ hk => hk.2) (.int .i64 t102)) (fun _ hk => hk.2) (.int .i64 t103)) (fun _ hk => hk.2) (.int .i64 t104)) (fun _ hk => hk.2) (.slice Ao16 t105.length co16)) (fun _ hk => trivial)))⟩; have n2_ : Aside0 (w17.heap[gb113]? = some (.cells #[.int .i64 t102, .int .i64 t103, .int .i64 t104, .slice Ao16 t105.length co16] 25 (0, 0))) := ⟨(by rw [hw]; exact (by (with_reducible repeat (first | refine blk_drewN ?_ _ | refine blk_drew ?_ | refine blk_alloc ?_ _)); refine blk_put (cs := #[.int .i64 t102, .int .i64 t103, .int .i64 t104, .slice none 0 0]) ?_ 3 _ rfl; (with_reducible repeat (first | refine blk_drewN ?_ _ | refine blk_drew ?_ | refine blk_alloc ?_ _)); refine blk_put (cs := #[.int .i64 t102, .int .i64 t103, .int .i64 0, .slice none 0 0]) ?_ 2 _ rfl; (with_reducible repeat (first | refine blk_drewN ?_ _ | refine blk_drew ?_ | refine blk_alloc ?_ _)); refine blk_put (cs := #[.int .i64 t102, .int .i64 0, .int .i64 0, .slice none 0 0]) ?_ 1 _ rfl; (with_reducible repeat (first | refine blk_drewN ?_ _ | refine blk_drew ?_ | refine blk_alloc ?_ _)); refine blk_put (cs := #[.int .i64 0, .int .i64 0, .int .i64 0, .slice none 0 0]) ?_ 0 _ rfl; (with_reducible repeat (first | refine blk_drewN ?_ _ | refine blk_drew ?_ | refine blk_alloc ?_ _)); exact BK113.out))⟩; have n3_ : Aside0 (Below w.heap.size w w17) := ⟨(by rw [hw]; exact (by repeat (first | (with_reducible first | exact HB.out | apply below_alloc | apply pw_below_drewN | apply below_drew1 | refine below_set ?_ GE113.out) | exact HB.out)))⟩; clear hw; clear HO107; clear HO110; clear BK113; clear HB; have HO107 := n0_; have HO110 := n1_; have BK113 := n2_; have HB := n3_; clear n0_ n1_ n2_ n3_; obtain ⟨Ao18, co18, eo18⟩ := Kd.R_slice HO110.out; subst eo18; have p114 : 0 ≤ (0 : Int) := (by omega); have q114 : 0 < (t108.length : Int) := of_decide_eq_true (by first | (with_reducible assumption) | assumption); obtain ⟨ad114, e114, hx114_0⟩ := Kd.at_int (Kd.R_reads' HO110.out).2.2 0 p114 q114; cases e114; have qi114 : (0 < t108.length) = True := eq_true (by omega); (try rw [show ((0 : Int)).toNat = 0 from rfl] at hx114_0); (try rw [Addr.add_zero'] at hx114_0); replace p114 := eq_true p114; replace q114 := eq_true q114; have hcz19_0 : w17.cell? ⟨gb113, 0, none⟩ = some (.int .i64 t102) := (blk_cell BK113.out 0).trans rfl; have hcz19_1 : w17.cell? ⟨gb113, 1, none⟩ = some (.int .i64 t103) := (blk_cell BK113.out 1).trans rfl; have hcz19_2 : w17.cell? ⟨gb113, 2, none⟩ = some (.int .i64 t104) := (blk_cell BK113.out 2).trans rfl; have hcz19_3 : w17.cell? ⟨gb113, 3, none⟩ = some (.slice Ao16 t105.length co16) := (blk_cell BK113.out 3).trans rfl; have hfz19_0 := blk_frozen BK113.out 0; have hfz19_1 := blk_frozen BK113.out 1; have hfz19_2 := blk_frozen BK113.out 2; have hfz19_3 := blk_frozen BK113.out 3; have p115 : 0 ≤ (0 : Int) := (by omega); have q115 : 0 < (t105.length : Int) := of_decide_eq_true (by first | (with_reducible assumption) | assumption); obtain ⟨ad115, A115_1, c115_1, A115_2, c115_2, e115, hx115_0, hx115_1, hx115_2, hx115_3, hl115_1, hi115_1, hl115_2, hi115_2⟩ := at_T47 (Kd.S_reads' HO107.out).2.2 0 p115 q115; cases e115; obtain ⟨ce115, hce115, hMe115, hcc115⟩ := Kd.S_get HO107.out z47 0 p115 (by first | exact q115 | exact of_decide_eq_true (by first | (with_reducible assumption) | assumption) | (have e_ := (Kd.S_reads' HO107.out).1; omega)); obtain ⟨ve115_1, ve115_2, rfl, ge115_1, ge115_2⟩ := k47_openM hMe115; have hv115_1 := hcc115 1 _ rfl; rw [add_field _ _ 1 (by omega)] at hv115_1; replace hv115_1 := Option.some.inj (hv115_1.symm.trans hx115_1); rw [hv115_1] at ge115_1; have HL115_1 := Aside0.mk (show Kd.R k51 51 _ _ _ _ ((rd_T47 t105 0).f1) from ge115_1); clear hv115_1 ge115_1; have hv115_2 := hcc115 2 _ rfl; rw [add_field _ _ 2 (by omega)] at hv115_2; replace hv115_2 := Option.some.inj (hv115_2.symm.trans hx115_2); rw [hv115_2] at ge115_2; have HL115_2 := Aside0.mk (show Kd.R k75 75 _ _ _ _ ((rd_T47 t105 0).f2) from ge115_2); clear hv115_2 ge115_2; clear hcc115 hce115; have qi115 : (0 < t105.length) = True := eq_true (by omega); (try rw [show ((0 : Int)).toNat = 0 from rfl] at hx115_0); (try rw [show 0 * 4 = 0 from rfl] at hx115_0); (try rw [Addr.add_zero'] at hx115_0); (try rw [show ((0 : Int)).toNat = 0 from rfl] at hx115_1); (try rw [show 0 * 4 = 0 from rfl] at hx115_1); (try rw [Addr.add_zero'] at hx115_1); (try rw [show ((0 : Int)).toNat = 0 from rfl] at hx115_2); (try rw [show 0 * 4 = 0 from rfl] at hx115_2); (try rw [Addr.add_zero'] at hx115_2); (try rw [show ((0 : Int)).toNat = 0 from rfl] at hx115_3); (try rw [show 0 * 4 = 0 from rfl] at hx115_3); (try rw [Addr.add_zero'] at hx115_3); have HR115_1 := Aside0.mk hi115_1; have HC115_1 := Aside0.mk hl115_1; clear hi115_1 hl115_1; have HR115_2 := Aside0.mk hi115_2; have HC115_2 := Aside0.mk hl115_2; clear hi115_2 hl115_2; replace p115 := eq_true p115; replace q115 := eq_true q115; have p116 : 0 ≤ (0 : Int) := (by omega); have q116 : 0 < (t105.length : Int) := of_decide_eq_true (by first | (with_reducible assumption) | assumption); obtain ⟨ad116, A116_1, c116_1, A116_2, c116_2, e116, hx116_0, hx116_1, hx116_2, hx116_3, hl116_1, hi116_1, hl116_2, hi116_2⟩ := at_T47 (Kd.S_reads' HO107.out).2.2 0 p116 q116; obtain rfl : ad115 = ad116 := (by injection e116); obtain ⟨ce116, hce116, hMe116, hcc116⟩ := Kd.S_get HO107.out z47 0 p116 (by first | exact q116 | exact of_decide_eq_true (by first | (with_reducible assumption) | assumption) | (have e_ := (Kd.S_reads' HO107.out).1; omega)); obtain ⟨ve116_1, ve116_2, rfl, ge116_1, ge116_2⟩ := k47_openM hMe116; have hv116_1 := hcc116 1 _ rfl; rw [add_field _ _ 1 (by omega)] at hv116_1; replace hv116_1 := Option.some.inj (hv116_1.symm.trans hx116_1); rw [hv116_1] at ge116_1; have HL116_1 := Aside0.mk (show Kd.R k51 51 _ _ _ _ ((rd_T47 t105 0).f1) from ge116_1); clear hv116_1 ge116_1; have hv116_2 := hcc116 2 _ rfl; rw [add_field _ _ 2 (by omega)] at hv116_2; replace hv116_2 := Option.some.inj (hv116_2.symm.trans hx116_2); rw [hv116_2] at ge116_2; have HL116_2 := Aside0.mk (show Kd.R k75 75 _ _ _ _ ((rd_T47 t105 0).f2) from ge116_2); clear hv116_2 ge116_2; clear hcc116 hce116; have qi116 : (0 < t105.length) = True := eq_true (by omega); (try rw [show ((0 : Int)).toNat = 0 from rfl] at hx116_0); (try rw [show 0 * 4 = 0 from rfl] at hx116_0); (try rw [Addr.add_zero'] at hx116_0); (try rw [show ((0 : Int)).toNat = 0 from rfl] at hx116_1); (try rw [show 0 * 4 = 0 from rfl] at hx116_1); (try rw [Addr.add_zero'] at hx116_1); (try rw [show ((0 : Int)).toNat = 0 from rfl] at hx116_2); (try rw [show 0 * 4 = 0 from rfl] at hx116_2); (try rw [Addr.add_zero'] at hx116_2); (try rw [show ((0 : Int)).toNat = 0 from rfl] at hx116_3); (try rw [show 0 * 4 = 0 from rfl] at hx116_3); (try rw [Addr.add_zero'] at hx116_3); have HR116_1 := Aside0.mk hi116_1; have HC116_1 := Aside0.mk hl116_1; clear hi116_1 hl116_1; have HR116_2 := Aside0.mk hi116_2; have HC116_2 := Aside0.mk hl116_2; clear hi116_2 hl116_2; replace p116 := eq_true p116; replace q116 := eq_true q116; have ea_ := Option.some.inj (hx115_1.symm.trans hx116_1); injection ea_ with ea_ en_ ec_; subst ea_; subst ec_; clear en_; have ea_ := Option.some.inj (hx115_2.symm.trans hx116_2); injection ea_ with ea_ en_ ec_; subst ea_; subst ec_; clear en_; have p117 : 0 ≤ (0 : Int) := (by omega); have q117 : 0 < (t105.length : Int) := of_decide_eq_true (by first | (with_reducible assumption) | assumption); obtain ⟨ad117, A117_1, c117_1, A117_2, c117_2, e117, hx117_0, hx117_1, hx117_2, hx117_3, hl117_1, hi117_1, hl117_2, hi117_2⟩ := at_T47 (Kd.S_reads' HO107.out).2.2 0 p117 q117; obtain rfl : ad115 = ad117 := (by injection e117); obtain ⟨ce117, hce117, hMe117, hcc117⟩ := Kd.S_get HO107.out z47 0 p117 (by first | exact q117 | exact of_decide_eq_true (by first | (with_reducible assumption) | assumption) | (have e_ := (Kd.S_reads' HO107.out).1; omega)); obtain ⟨ve117_1, ve117_2, rfl, ge117_1, ge117_2⟩ := k47_openM hMe117; have hv117_1 := hcc117 1 _ rfl; rw [add_field _ _ 1 (by omega)] at hv117_1; replace hv117_1 := Option.some.inj (hv117_1.symm.trans hx117_1); rw [hv117_1] at ge117_1; have HL117_1 := Aside0.mk (show Kd.R k51 51 _ _ _ _ ((rd_T47 t105 0).f1) from ge117_1); clear hv117_1 ge117_1; have hv117_2 := hcc117 2 _ rfl; rw [add_field _ _ 2 (by omega)] at hv117_2; replace hv117_2 := Option.some.inj (hv117_2.symm.trans hx117_2); rw [hv117_2] at ge117_2; have HL117_2 := Aside0.mk (show Kd.R k75 75 _ _ _ _ ((rd_T47 t105 0).f2) from ge117_2); clear hv117_2 ge117_2; clear hcc117 hce117; have qi117 : (0 < t105.length) = True := eq_true (by omega); (try rw [show ((0 : Int)).toNat = 0 from rfl] at hx117_0); (try rw [show 0 * 4 = 0 from rfl] at hx117_0); (try rw [Addr.add_zero'] at hx117_0); (try rw [show ((0 : Int)).toNat = 0 from rfl] at hx117_1); (try rw [show 0 * 4 = 0 from rfl] at hx117_1); (try rw [Addr.add_zero'] at hx117_1); (try rw [show ((0 : Int)).toNat = 0 from rfl] at hx117_2); (try rw [show 0 * 4 = 0 from rfl] at hx117_2); (try rw [Addr.add_zero'] at hx117_2); (try rw [show ((0 : Int)).toNat = 0 from rfl] at hx117_3); (try rw [show 0 * 4 = 0 from rfl] at hx117_3); (try rw [Addr.add_zero'] at hx117_3); have HR117_1 := Aside0.mk hi117_1; have HC117_1 := Aside0.mk hl117_1; clear hi117_1 hl117_1; have HR117_2 := Aside0.mk hi117_2; have HC117_2 := Aside0.mk hl117_2; clear hi117_2 hl117_2; replace p117 := eq_true p117; replace q117 := eq_true q117; have ea_ := Option.some.inj (hx115_1.symm.trans hx117_1); injection ea_ with ea_ en_ ec_; subst ea_; subst ec_; clear en_; have ea_ := Option.some.inj (hx115_2.symm.trans hx117_2); injection ea_ with ea_ en_ ec_; subst ea_; subst ec_; clear en_; have p118 : 0 ≤ (0 : Int) := (by omega); have q118 : 0 < (((rd_T47 t105 0).f1).length : Int) := of_decide_eq_true (by first | (with_reducible assumption) | assumption); obtain ⟨ad118, e118, hx118_0, hx118_1, hx118_2, hx118_3, hx118_4⟩ := at_T51 (by repeat (first | (with_reducible exact HR117_1.out) | (with_reducible refine Kd.C_alloc ?_ _) | (with_reducible refine Kd.C_drewN ?_ _) | (with_reducible refine Kd.C_drew ?_) | exact HR117_1.out)) 0 p118 q118; cases e118; have qi118 : (0 < ((rd_T47 t105 0).f1).length) = True := eq_true (by omega); (try rw [show ((0 : Int)).toNat = 0 from rfl] at hx118_0); (try rw [show 0 * 5 = 0 from rfl] at hx118_0); (try rw [Addr.add_zero'] at hx118_0); (try rw [show ((0 : Int)).toNat = 0 from rfl] at hx118_1); (try rw [show 0 * 5 = 0 from rfl] at hx118_1); (try rw [Addr.add_zero'] at hx118_1); (try rw [show ((0 : Int)).toNat = 0 from rfl] at hx118_2); (try rw [show 0 * 5 = 0 from rfl] at hx118_2); (try rw [Addr.add_zero'] at hx118_2); (try rw [show ((0 : Int)).toNat = 0 from rfl] at hx118_3); (try rw [show 0 * 5 = 0 from rfl] at hx118_3); (try rw [Addr.add_zero'] at hx118_3); (try rw [show ((0 : Int)).toNat = 0 from rfl] at hx118_4); (try rw [show 0 * 5 = 0 from rfl] at hx118_4); (try rw [Addr.add_zero'] at hx118_4); replace p118 := eq_true p118; replace q118 := eq_true q118))
           go_ret
           exact ⟨by first | rfl | (simp [errW_none, errW_some] <;> rfl) | (simp [*, errW_none, errW_some] <;> rfl), by repeat (first | (with_reducible first | exact HB.out | apply below_alloc | apply pw_below_drewN | apply below_drew1 | refine below_set ?_ GE113.out) | exact HB.out)⟩
          ·rw [if_neg c12] at H
           exact absurd H (by simp)
         ·rw [if_neg c11] at H
          have c11b0 : ((((rd_T47 t105 0).f2).length : Int) == 1) = false := beq_eq_false_iff_ne.mpr c11
          have c11b1 : ((((rd_T47 t105 0).f2).length : Int) != 1) = true := bne_iff_ne.mpr c11
          exact absurd ((Option.some.inj H).trans hr_) (by decide)
        ·rw [if_neg c10] at H
         have c10b0 : ((((rd_T47 t105 0).f1).length : Int) == 1) = false := beq_eq_false_iff_ne.mpr c10
         have c10b1 : ((((rd_T47 t105 0).f1).length : Int) != 1) = true := bne_iff_ne.mpr c10
         exact absurd ((Option.some.inj H).trans hr_) (by decide)
       ·rw [if_neg c9] at H
        exact absurd H (by simp)
      ·rw [if_neg c8] at H
       have c8b0 : ((t105.length : Int) == 1) = false := beq_eq_false_iff_ne.mpr c8
       have c8b1 : ((t105.length : Int) != 1) = true := bne_iff_ne.mpr c8
       exact absurd ((Option.some.inj H).trans hr_) (by decide)
     ·rw [if_neg c7] at H
      have c7b0 : ((rd t108 0) == 2) = false := beq_eq_false_iff_ne.mpr c7
      have c7b1 : ((rd t108 0) != 2) = true := bne_iff_ne.mpr c7
      exact absurd ((Option.some.inj H).trans hr_) (by decide)
    ·rw [if_neg c6] at H
     exact absurd H (by simp)
   ·rw [if_neg c5] at H
    have c5b0 : ((t108.length : Int) == 1) = false := beq_eq_false_iff_ne.mpr c5
    have c5b1 : ((t108.length : Int) != 1) = true := bne_iff_ne.mpr c5
    exact absurd ((Option.some.inj H).trans hr_) (by decide)
  ·rw [if_neg c4] at H
   have c4b0 : (t111 == 0) = false := beq_eq_false_iff_ne.mpr c4
   have c4b1 : (t111 != 0) = true := bne_iff_ne.mpr c4
   exact absurd ((Option.some.inj H).trans hr_) (by decide)
 ·rw [if_neg c3] at H
  have c3b0 : (t112 == 0) = false := beq_eq_false_iff_ne.mpr c3
  have c3b1 : (t112 != 0) = true := bne_iff_ne.mpr c3
  exact absurd ((Option.some.inj H).trans hr_) (by decide)

def law10_alive.f : Option Bool := some true
theorem law10_alive.calls (r : Bool) (w : World) (hL : Aside0 (LaidW 47 w)) (h : law10_alive.f = some r) :
  Calls Tryz.prog 5 #[] w fun e w' => e = .returned (.bool r) ∧ Below w.heap.size w w' := by
  obtain rfl := Option.some.inj h
  exact law10_aliveL.calls true w hL law10_alive_true
end Go.Proofs.YtdbjjbooalkkbaaGreatDoor.P

/- The references of packages addr and lex that the reference's parser calls, plainly: Number, Parse, IsName. -/
namespace Go.Proofs.YtdbjjbooalkkbaaGreatDoor.P
open Go.RowKit Go.Proofs.YtdbjjbooalkkbaaGreatDoorW.PrintWords

/-! Number -/
def fin (l : List UInt8) (most : Int) : Int × Int :=
  if 1 < l.length ∧ l.head? = some 48 then (0, 6) else if most < (decVal l : Int) then (0, 3) else ((decVal l : Int), 0)
def AccInv (most acc : Int) (p : List UInt8) : Prop := acc ≤ most ∧ acc = (decVal p : Int) ∨ most < acc ∧ most < (decVal p : Int)
theorem decVal_take (l : List UInt8) (i : Nat) (c : UInt8) (h : l[i]? = some c) : decVal (l.take (i + 1)) = decVal (l.take i) * 10 + (c.toNat - 48) := by
  rw [List.take_add_one, h]
  exact decVal_snoc _ _
theorem acc_wrap (acc c : Int) (h0 : 0 ≤ acc) (h1 : acc ≤ 1000000) (hc : 0 ≤ c) (hc2 : c ≤ 255) : wrap64 ((wrap64 ((wrap64 (10 * acc)) + (wrap64 c))) - 48) = 10 * acc + (c - 48) := by
  have e1 : wrap64 (10 * acc) = 10 * acc := wrap_id (by omega) (by omega)
  have e2 : wrap64 c = c := wrap_id (by omega) (by omega)
  have e3 : wrap64 (10 * acc + c) = 10 * acc + c := wrap_id (by omega) (by omega)
  have e4 : wrap64 (10 * acc + c - 48) = 10 * acc + c - 48 := wrap_id (by omega) (by omega)
  rw [e1, e2, e3, e4]
  omega
theorem acc_next (most acc : Int) (l : List UInt8) (i : Nat) (c : UInt8) (hinv : AccInv most acc (l.take i)) (hc : l[i]? = some c) (h1 : 48 ≤ c.toNat) (ha : acc ≤ most) :
    AccInv most (10 * acc + ((c.toNat : Int) - 48)) (l.take (i + 1)) := by
  have hv := decVal_take l i c hc
  unfold AccInv at hinv ⊢
  rw [hv]
  generalize decVal (l.take i) = v at hinv
  omega
theorem acc_same (most acc : Int) (l : List UInt8) (i : Nat) (c : UInt8) (hinv : AccInv most acc (l.take i)) (hc : l[i]? = some c) (ha : ¬ acc ≤ most) :
    AccInv most acc (l.take (i + 1)) := by
  have hv := decVal_take l i c hc
  unfold AccInv at hinv ⊢
  rw [hv]
  generalize decVal (l.take i) = v at hinv
  omega
set_option maxHeartbeats 2000000 in
theorem num_loop (x0 : ByteArray) (most : Int) (hm0 : 0 ≤ most) (hm1 : most ≤ 1000000) (hpos : 0 < x0.size) (hbig : x0.size ≤ 281474976710656) (d : Nat) :
    ∀ (k i : Nat) (acc : Int), i + d = x0.size → 2 * d + 2 ≤ k → AccInv most acc (x0.data.toList.take i) → 0 ≤ acc →
      ref01_Number.l0 k x0 most acc (i : Int) = some (if (x0.data.toList.drop i).all isDig = true then fin x0.data.toList most else (0, 6)) := by
  have hsz := size_list x0
  induction d with
  | zero =>
    intro k i acc hi hk hinv h0
    obtain ⟨k, rfl⟩ : ∃ m, k = m + 1 + 1 := ⟨k - 2, by omega⟩
    have hd : x0.data.toList.drop i = [] := List.drop_eq_nil_of_le (by omega)
    rw [hd]
    simp only [List.all_nil, if_true]
    have hnl : ¬ ((i : Int) < (x0.size : Int)) := by omega
    have hps : (0 : Int) < (x0.size : Int) := by omega
    rw [ref01_Number.l0, if_neg hnl, if_pos hps]
    obtain ⟨c, hc⟩ : ∃ c, x0.data.toList[0]? = some c := by
      cases h : x0.data.toList with
      | nil => exact absurd (show x0.size = 0 by rw [hsz, h]; rfl) (by omega)
      | cons c r => exact ⟨c, rfl⟩
    have hb : bt x0 0 = c.toNat := bt_list x0 0 c hc
    have hh : x0.data.toList.head? = some c := by rw [List.head?_eq_getElem?]; exact hc
    have ht : x0.data.toList.take i = x0.data.toList := List.take_of_length_le (by omega)
    rw [ht] at hinv
    have hj : ∀ b : Bool, ref01_Number.j2 (k + 1) most acc b = some (if b = true then (0, 6) else if most < (decVal x0.data.toList : Int) then (0, 3) else ((decVal x0.data.toList : Int), 0)) := by
      intro b
      rw [ref01_Number.j2]
      by_cases hb2 : b = true
      · rw [if_pos hb2, if_pos hb2]
      · rw [if_neg hb2, if_neg hb2]
        rcases hinv with ⟨h1, h2⟩ | ⟨h1, h2⟩
        · rw [if_neg (by omega), if_neg (by omega), h2]
        · rw [if_pos (by omega), if_pos (by omega)]
    by_cases h48 : bt x0 0 = 48
    · have hn48 : c.toNat = 48 := by omega
      have hc48 : c = 48 := UInt8.toNat_inj.mp hn48
      rw [if_pos h48, hj]
      by_cases hl : 1 < x0.data.toList.length
      · have hf : fin x0.data.toList most = (0, 6) := if_pos ⟨hl, by rw [hh, hc48]⟩
        rw [hf, if_pos (by simp; omega)]
      · have hf : fin x0.data.toList most = if most < (decVal x0.data.toList : Int) then (0, 3) else ((decVal x0.data.toList : Int), 0) := if_neg (fun h => hl h.1)
        rw [hf, if_neg (by simp; omega)]
    · have hf : fin x0.data.toList most = if most < (decVal x0.data.toList : Int) then (0, 3) else ((decVal x0.data.toList : Int), 0) := if_neg (fun h => h48 (by rw [hh] at h; rw [hb, Option.some.inj h.2]; rfl))
      rw [if_neg h48, hj, hf, if_neg (by simp)]
  | succ d ih =>
    intro k i acc hi hk hinv h0
    obtain ⟨k, rfl⟩ : ∃ m, k = m + 1 + 1 := ⟨k - 2, by omega⟩
    obtain ⟨c, hc⟩ : ∃ c, x0.data.toList[i]? = some c := ⟨_, List.getElem?_eq_getElem (by omega)⟩
    have hb : bt x0 (i : Int) = c.toNat := bt_list x0 i c (by simpa using hc)
    have hcl := c.toNat_lt
    have hdr : x0.data.toList.drop i = c :: x0.data.toList.drop (i + 1) := by
      rw [List.drop_eq_getElem_cons (by omega)]
      congr 1
      exact Option.some.inj ((List.getElem?_eq_getElem (by omega)).symm.trans hc)
    rw [ref01_Number.l0, if_pos (by omega), if_pos (by omega), hb, hdr, List.all_cons]
    by_cases h1 : (c.toNat : Int) < 48
    · rw [if_pos h1, ref01_Number.j1, if_pos rfl]
      have : isDig c = false := decide_eq_false (by omega)
      rw [this, Bool.false_and, if_neg (by simp)]
    · rw [if_neg h1, ref01_Number.j1]
      by_cases h2 : (c.toNat : Int) > 57
      · rw [if_pos (by simp; omega)]
        have : isDig c = false := decide_eq_false (by omega)
        rw [this, Bool.false_and, if_neg (by simp)]
      · rw [if_neg (by simp; omega)]
        have hdig : isDig c = true := decide_eq_true (by omega)
        rw [hdig, Bool.true_and]
        have hw : wrap64 ((i : Int) + 1) = ((i + 1 : Nat) : Int) := by rw [wrap_id (by omega) (by omega)]; omega
        have hi0 : (0 : Int) ≤ (i : Int) := by omega
        have hi1 : (i : Int) < (x0.size : Int) := by omega
        have hc48 : 48 ≤ c.toNat := by omega
        by_cases ha : acc ≤ most
        · have hac := acc_wrap acc (c.toNat : Int) h0 (by omega) (by omega) (by omega)
          rw [if_pos ha, if_pos hi0, if_pos hi1, hb, hac, hw]
          exact ih k (i + 1) _ (by omega) (by omega) (acc_next most acc _ i c hinv hc hc48 ha) (by omega)
        · rw [if_neg ha, hw]
          exact ih k (i + 1) _ (by omega) (by omega) (acc_same most acc _ i c hinv hc ha) h0
def num (l : List UInt8) (most : Int) : Int × Int := if isNum l = true then (if (decVal l : Int) ≤ most then ((decVal l : Int), 0) else (0, 3)) else (0, 6)
theorem fin_num (l : List UInt8) (most : Int) (hne : l ≠ []) : (if l.all isDig = true then fin l most else (0, 6)) = num l most := by
  unfold num fin isNum
  have e : l.isEmpty = false := by simpa using hne
  by_cases h : l.all isDig = true
  · rw [if_pos h]
    simp only [e, h, Bool.not_false, Bool.true_and, Bool.or_eq_true, decide_eq_true_eq]
    by_cases hb : 1 < l.length ∧ l.head? = some 48
    · rw [if_pos hb, if_neg]
      rintro (h1 | h1)
      · omega
      · exact absurd hb.2 h1
    · have hc : l.length ≤ 1 ∨ l.head? ≠ some 48 := by
        by_cases h1 : l.length ≤ 1
        · exact .inl h1
        · exact .inr (fun e => hb ⟨by omega, e⟩)
      rw [if_neg hb, if_pos hc]
      by_cases hm : most < (decVal l : Int)
      · rw [if_pos hm, if_neg (by omega)]
      · rw [if_neg hm, if_pos (by omega)]
  · rw [if_neg h]
    simp only [Bool.eq_false_iff.mpr h, Bool.and_false, Bool.false_and, Bool.false_eq_true, if_false]
theorem ref_number (x0 : ByteArray) (most : Int) (hm0 : 0 ≤ most) (hm1 : most ≤ 1000000) (hbig : x0.size ≤ 281474976710656) (k : Nat) (hk : 2 * x0.size + 2 ≤ k) :
    ref01_Number.f k x0 most = some (num x0.data.toList most) := by
  unfold ref01_Number.f
  rw [ByteArray.toList_eq]
  by_cases h : x0.data.toList = []
  · rw [if_pos h, h]; rfl
  · rw [if_neg h]
    have hp : 0 < x0.size := by rw [size_list]; exact List.length_pos_iff.mpr h
    have := num_loop x0 most hm0 hm1 hp hbig x0.size k 0 0 (by omega) (by omega) (.inl ⟨by omega, rfl⟩) (by omega)
    rw [← fin_num _ _ h]
    simpa using this

/-! Parse -/
theorem iqm : bt (⟨#[73, 81, 77]⟩ : ByteArray) 0 = 73 ∧ bt (⟨#[73, 81, 77]⟩ : ByteArray) 1 = 81 ∧ bt (⟨#[73, 81, 77]⟩ : ByteArray) 2 = 77 := ⟨rfl, rfl, rfl⟩
theorem ref_parse_cons (x0 : ByteArray) (c : UInt8) (ds : List UInt8) (hd : x0.data.toList = c :: ds) (hbig : x0.size ≤ 281474976710656) (k : Nat) (hk : 2 * x0.size + 10 ≤ k) :
    ref01_Parse.f k x0 = some (match spaceOf c with | none => (0, 0, 6) | some sp => if (num ds 255).2 = 0 then (sp, (num ds 255).1, 0) else (0, 0, (num ds 255).2)) := by
  have hs : x0.size = ds.length + 1 := by rw [size_list, hd]; rfl
  have hne : ¬ x0.toList = [] := by rw [ByteArray.toList_eq, hd]; simp
  have hb : bt x0 0 = c.toNat := bt_list x0 0 c (by rw [hd]; rfl)
  have hy : (x0.extract 1 x0.size).data.toList = ds := extract_rest x0 c ds hd
  have hys : (x0.extract 1 x0.size).size = ds.length := by rw [size_list, hy]
  have hn : ∀ j, 2 * x0.size + 2 ≤ j → ref01_Number.f j (x0.extract 1 x0.size) 255 = some (num ds 255) := by
    intro j hj
    rw [ref_number _ 255 (by omega) (by omega) (by omega) j (by omega), hy]
  obtain ⟨k, rfl⟩ : ∃ m, k = m + 7 := ⟨k - 7, by omega⟩
  have w1 : wrap64 (0 + 1) = 1 := wrap_id (by omega) (by omega)
  have w2 : wrap64 (1 + 1) = 2 := wrap_id (by omega) (by omega)
  have w3 : wrap64 (2 + 1) = 3 := wrap_id (by omega) (by omega)
  have hcl := c.toNat_lt
  have e : ∀ u : UInt8, ((c.toNat : Int) == (u.toNat : Int)) = decide (c = u) := by
    intro u
    rw [Bool.eq_iff_iff, beq_iff_eq, decide_eq_true_eq, ← UInt8.toNat_inj]
    omega
  have e0 : (bt x0 0 == bt (⟨#[73, 81, 77]⟩ : ByteArray) 0) = decide (c = 73) := by rw [hb]; exact e 73
  have e1 : (bt x0 0 == bt (⟨#[73, 81, 77]⟩ : ByteArray) 1) = decide (c = 81) := by rw [hb]; exact e 81
  have e2 : (bt x0 0 == bt (⟨#[73, 81, 77]⟩ : ByteArray) 2) = decide (c = 77) := by rw [hb]; exact e 77
  unfold ref01_Parse.f
  rw [show k + 7 = k + 6 + 1 from rfl, ref01_Parse.l0, if_pos (by decide), if_neg hne, if_pos (by omega), if_pos (by decide), e0, show k + 6 = k + 5 + 1 from rfl, ref01_Parse.j1]
  unfold spaceOf
  by_cases h0 : c = 73
  · rw [if_pos (decide_eq_true h0), if_pos (by omega), hn _ (by omega), if_pos h0]
    simp only [Option.bind_some]
    split <;> rfl
  · rw [if_neg (by simpa using h0), if_neg h0, w1, show k + 5 = k + 4 + 1 from rfl, ref01_Parse.l0, if_pos (by decide), if_neg hne, if_pos (by omega), if_pos (by decide), e1, show k + 4 = k + 3 + 1 from rfl, ref01_Parse.j1]
    by_cases h1 : c = 81
    · rw [if_pos (decide_eq_true h1), if_pos (by omega), hn _ (by omega), if_pos h1]
      simp only [Option.bind_some]
      split <;> rfl
    · rw [if_neg (by simpa using h1), if_neg h1, w2, show k + 3 = k + 2 + 1 from rfl, ref01_Parse.l0, if_pos (by decide), if_neg hne, if_pos (by omega), if_pos (by decide), e2, show k + 2 = k + 1 + 1 from rfl, ref01_Parse.j1]
      by_cases h2 : c = 77
      · rw [if_pos (decide_eq_true h2), if_pos (by omega), hn _ (by omega), if_pos h2]
        simp only [Option.bind_some]
        split <;> rfl
      · rw [if_neg (by simpa using h2), if_neg h2, w3, ref01_Parse.l0, if_neg (by decide)]
theorem parse_num (c : UInt8) (ds : List UInt8) : parseAddr (c :: ds) = match spaceOf c with | none => (0, 0, 6) | some sp => if (num ds 255).2 = 0 then (sp, (num ds 255).1, 0) else (0, 0, (num ds 255).2) := by
  unfold parseAddr num
  cases hsp : spaceOf c with
  | none => simp only [hsp]
  | some sp =>
    simp only [hsp]
    by_cases h : isNum ds = true
    · rw [if_pos h, if_pos h]
      by_cases hv : decVal ds < 256
      · have hv' : (decVal ds : Int) ≤ 255 := by omega
        rw [if_pos hv, if_pos hv']; rfl
      · have hv' : ¬ (decVal ds : Int) ≤ 255 := by omega
        rw [if_neg hv, if_neg hv']; rfl
    · rw [if_neg h, if_neg h]; rfl
theorem ref_parse (x0 : ByteArray) (hbig : x0.size ≤ 281474976710656) (k : Nat) (hk : 2 * x0.size + 10 ≤ k) : ref01_Parse.f k x0 = some (parseAddr x0.data.toList) := by
  cases hd : x0.data.toList with
  | nil =>
    have he : x0.toList = [] := by rw [ByteArray.toList_eq, hd]
    have w1 : wrap64 (0 + 1) = 1 := wrap_id (by omega) (by omega)
    have w2 : wrap64 (1 + 1) = 2 := wrap_id (by omega) (by omega)
    have w3 : wrap64 (2 + 1) = 3 := wrap_id (by omega) (by omega)
    obtain ⟨k, rfl⟩ : ∃ m, k = m + 7 := ⟨k - 7, by omega⟩
    unfold ref01_Parse.f
    rw [show k + 7 = k + 6 + 1 from rfl, ref01_Parse.l0, if_pos (by decide), if_pos he, show k + 6 = k + 5 + 1 from rfl, ref01_Parse.j1, if_neg (by simp), w1,
      show k + 5 = k + 4 + 1 from rfl, ref01_Parse.l0, if_pos (by decide), if_pos he, show k + 4 = k + 3 + 1 from rfl, ref01_Parse.j1, if_neg (by simp), w2,
      show k + 3 = k + 2 + 1 from rfl, ref01_Parse.l0, if_pos (by decide), if_pos he, show k + 2 = k + 1 + 1 from rfl, ref01_Parse.j1, if_neg (by simp), w3, ref01_Parse.l0, if_neg (by decide)]
    rfl
  | cons c ds => rw [ref_parse_cons x0 c ds hd hbig k hk, parse_num]

theorem ref_letter (b : UInt8) : ref09_letter.f (b.toNat : Int) = some (isLetter b) := by
  have e : ∀ x : Bool, x = isLetter b → some x = some (isLetter b) := fun x h => by rw [h]
  unfold ref09_letter.f
  repeat' split
  all_goals
    refine e _ ?_
    unfold isLetter
    first
      | (rw [eq_comm, decide_eq_true_iff]; omega)
      | (rw [eq_comm, decide_eq_false_iff_not]; omega)
      | (rw [decide_eq_decide]; omega)
theorem isname_loop (x0 : ByteArray) (hbig : x0.size ≤ 1000000) (d : Nat) : ∀ k i : Nat, i + d = x0.size → d + 1 ≤ k → ref09_IsName.l0 k x0 (i : Int) = some ((x0.data.toList.drop i).all nameTail) := by
  have hsz := size_list x0
  induction d with
  | zero =>
    intro k i hi hk
    obtain ⟨k, rfl⟩ : ∃ m, k = m + 1 := ⟨k - 1, by omega⟩
    rw [ref09_IsName.l0, if_neg (by omega), List.drop_eq_nil_of_le (by omega)]
    rfl
  | succ d ih =>
    intro k i hi hk
    obtain ⟨k, rfl⟩ : ∃ m, k = m + 1 := ⟨k - 1, by omega⟩
    obtain ⟨c, hc⟩ : ∃ c, x0.data.toList[i]? = some c := ⟨_, List.getElem?_eq_getElem (by omega)⟩
    have hb : bt x0 (i : Int) = c.toNat := bt_list x0 i c (by rw [Int.toNat_natCast]; exact hc)
    have hw : wrap64 ((i : Int) + 1) = ((i + 1 : Nat) : Int) := by rw [wrap_id (by omega) (by omega)]; omega
    have hd : x0.data.toList.drop i = c :: x0.data.toList.drop (i + 1) := by
      obtain ⟨h1, rfl⟩ := List.getElem?_eq_some_iff.mp hc
      exact List.drop_eq_getElem_cons h1
    rw [ref09_IsName.l0, if_pos (by omega), if_pos (by omega), hb, ref_letter, hw, ih k (i + 1) (by omega) (by omega), hd, List.all_cons]
    simp only [Option.bind_some]
    unfold nameTail
    cases hl : isLetter c with
    | true => simp
    | false =>
      simp only [Bool.false_or, Bool.false_eq_true, if_false]
      by_cases h95 : c.toNat = 95
      · rw [if_pos (by omega), decide_eq_true (by omega), Bool.true_and]
      · rw [if_neg (by omega)]
        by_cases h48 : c.toNat < 48
        · rw [if_pos (by omega), decide_eq_false (by omega), Bool.false_and]
        · rw [if_neg (by omega)]
          by_cases h57 : 57 < c.toNat
          · rw [if_pos (by omega), decide_eq_false (by omega), Bool.false_and]
          · rw [if_neg (by omega), decide_eq_true (by omega), Bool.true_and]
theorem ref_isname (x0 : ByteArray) (k : Nat) (hk : 20 ≤ k) : ref09_IsName.f k x0 = some (isName x0.data.toList) := by
  have hsz := size_list x0
  obtain ⟨k, rfl⟩ : ∃ m, k = m + 1 := ⟨k - 1, by omega⟩
  have hjt : ref09_IsName.j0 (k + 1) x0 true = some false := by rw [ref09_IsName.j0, if_pos rfl]
  unfold ref09_IsName.f
  cases hd : x0.data.toList with
  | nil => rw [if_pos (by rw [ByteArray.toList_eq, hd]), hjt]; rfl
  | cons c r =>
    have hlen : x0.size = r.length + 1 := by rw [hsz, hd]; rfl
    have hb : bt x0 0 = c.toNat := bt_list x0 0 c (by rw [hd]; rfl)
    rw [if_neg (by rw [ByteArray.toList_eq, hd]; simp), isName]
    by_cases h16 : (x0.size : Int) > 16
    · rw [if_pos h16, hjt, decide_eq_false (by omega)]
      rfl
    · rw [if_neg h16, if_pos (by omega), hb, ref_letter, Option.bind_some, decide_eq_true (by omega), Bool.true_and]
      cases hl : isLetter c with
      | false => exact hjt
      | true =>
        show ref09_IsName.j0 (k + 1) x0 false = _
        rw [ref09_IsName.j0, if_neg (by decide), show (0 : Int) = ((0 : Nat) : Int) from rfl, isname_loop x0 (by omega) x0.size k 0 (by omega) (by omega), List.drop_zero, hd, List.all_cons, Bool.true_and]
        have : nameTail c = true := by unfold nameTail; rw [hl]; rfl
        rw [this, Bool.true_and]
theorem ref_number9 (a0 : ByteArray) (a1 : Int) (hs : a0.size ≤ 65536) (k : Nat) (hk : 200000 ≤ k) : ref09_Number.f k a0 a1 = some (number a0.data.toList a1) := by
  unfold ref09_Number.f number
  by_cases n0 : a1 < 0
  · rw [if_pos n0, if_pos (.inl n0)]
  · rw [if_neg n0]
    by_cases n1 : a1 > 1000000
    · rw [if_pos n1, if_pos (.inr n1)]
    · rw [if_neg n1, if_neg (by omega), ref_number a0 a1 (by omega) (by omega) (by omega) k (by omega)]
      rfl
end Go.Proofs.YtdbjjbooalkkbaaGreatDoor.P

/- The reference of package lex, as plain functions: Cut, words, Lines. -/
namespace Go.Proofs.YtdbjjbooalkkbaaGreatDoor.P
open Go.RowKit Go.Proofs.YtdbjjbooalkkbaaGreatDoorW.PrintWords

theorem extract_mk (s : ByteArray) (a b : Nat) : s.extract a b = mkB ((s.data.toList.drop a).take (b - a)) := by
  apply ByteArray.ext
  apply Array.ext'
  show (s.extract a b).data.toList = _
  rw [Lib.extract_data]
  simp [mkB]
theorem drop_at {l : List UInt8} {i : Nat} {c : UInt8} (h : l[i]? = some c) : l.drop i = c :: l.drop (i + 1) := by
  obtain ⟨hi, rfl⟩ := List.getElem?_eq_some_iff.mp h
  exact List.drop_eq_getElem_cons hi
theorem cur_more {l : List UInt8} {f i : Nat} {c : UInt8} (h : l[i]? = some c) (hf : f ≤ i) : (l.drop f).take (i + 1 - f) = (l.drop f).take (i - f) ++ [c] := by
  rw [show i + 1 - f = (i - f) + 1 by omega, List.take_add_one, List.getElem?_drop, show f + (i - f) = i by omega, h]
  rfl
set_option maxHeartbeats 1000000 in
theorem cut_loop (x0 : ByteArray) (hbig : x0.size ≤ 1000000) (d : Nat) : ∀ (k i f : Nat) (out : List ByteArray), i + d = x0.size → f ≤ i → d + 2 ≤ k → out.length + d ≤ 2000000 →
    ref04_Cut.l0 k x0 10 out (f : Int) (i : Int) = some (out ++ (((x0.data.toList.drop f).take (i - f) ++ (cutAt 10 (x0.data.toList.drop i)).headD []) :: (cutAt 10 (x0.data.toList.drop i)).tail).map mkB) := by
  have hsz := size_list x0
  induction d with
  | zero =>
    intro k i f out hi hf hk ho
    obtain ⟨k, rfl⟩ : ∃ m, k = m + 1 := ⟨k - 1, by omega⟩
    rw [List.drop_eq_nil_of_le (show x0.data.toList.length ≤ i by omega)]
    rw [ref04_Cut.l0, if_neg (by omega), if_pos (by omega), if_pos (by omega), if_pos (by omega)]
    rw [Int.toNat_natCast, extract_mk, show x0.size = i by omega]
    simp [cutAt]
  | succ d ih =>
    intro k i f out hi hf hk ho
    obtain ⟨k, rfl⟩ : ∃ m, k = m + 1 := ⟨k - 1, by omega⟩
    obtain ⟨c, hc⟩ : ∃ c, x0.data.toList[i]? = some c := ⟨_, List.getElem?_eq_getElem (by omega)⟩
    have hb : bt x0 (i : Int) = c.toNat := bt_list x0 i c (by rw [Int.toNat_natCast]; exact hc)
    have hw : wrap64 ((i : Int) + 1) = ((i + 1 : Nat) : Int) := by rw [wrap_id (by omega) (by omega)]; omega
    rw [ref04_Cut.l0, if_pos (by omega), if_pos (by omega), hb, hw]
    by_cases h : c = 10
    · subst h
      rw [if_pos (by rfl), if_pos (by omega), if_pos (by omega), if_pos (by omega), if_pos (by omega), Int.toNat_natCast, Int.toNat_natCast]
      rw [ih k (i + 1) (i + 1) _ (by omega) (Nat.le_refl _) (by omega) (by rw [List.length_append, List.length_singleton]; omega)]
      rw [drop_at hc, cutAt, if_pos rfl, Nat.sub_self, List.take_zero, List.nil_append, cutAt_split, extract_mk]
      simp
    · rw [if_neg (by
        intro e
        exact h (UInt8.toNat_inj.mp (by have e2 : (10 : UInt8).toNat = 10 := rfl; omega)))]
      rw [ih k (i + 1) f out (by omega) (by omega) (by omega) (by omega), cur_more hc hf, drop_at hc, cutAt, if_neg h]
      simp
theorem ref_cut (x0 : ByteArray) (hbig : x0.size ≤ 1000000) (k : Nat) (hk : x0.size + 2 ≤ k) : ref04_Cut.f k x0 10 = some ((cutAt 10 x0.data.toList).map mkB) := by
  have h := cut_loop x0 hbig x0.size k 0 0 [] (by omega) (Nat.le_refl _) hk (by simp; omega)
  unfold ref04_Cut.f
  rw [show (0 : Int) = ((0 : Nat) : Int) from rfl, h]
  rw [List.drop_zero, Nat.sub_zero, List.take_zero, List.nil_append, List.nil_append, cutAt_split]
theorem ahead_cons {c : UInt8} (r : List UInt8) (h : c ≠ 59) : ahead (c :: r) = c :: ahead r := by
  unfold ahead
  rw [List.takeWhile_cons, if_pos (by simpa using h)]
theorem ahead_semi (r : List UInt8) : ahead (59 :: r) = [] := rfl
/-- What words hands back from a place on. -/
def wordsR (out : List ByteArray) (cur rest : List UInt8) : List ByteArray × Bool :=
  if (ahead rest).all isPlain = true then (out ++ (Lib.fieldsGo cur (ahead rest)).map mkB, true) else ([], false)
def FromOk (x0 : ByteArray) (i : Nat) (from_ : Int) (cur : List UInt8) : Prop := from_ = -1 ∧ cur = [] ∨ ∃ f : Nat, from_ = (f : Int) ∧ f < i ∧ cur = (x0.data.toList.drop f).take (i - f)
theorem words_push (x0 : ByteArray) (k i : Nat) (out : List ByteArray) (from_ : Int) (cur : List UInt8) (x7 : Bool) (hi : i ≤ x0.size) (ho : out.length ≤ 2000000) (hf : FromOk x0 i from_ cur) :
    ref09_words.j3 (k + 1) x0 out from_ (i : Int) x7 true = ref09_words.j4 k x0 (if cur.isEmpty = true then out else out ++ [mkB cur]) (i : Int) x7 := by
  rw [ref09_words.j3, if_pos rfl]
  rcases hf with ⟨rfl, rfl⟩ | ⟨f, rfl, h1, rfl⟩
  · rw [if_neg (by omega)]
    rfl
  · have hne : ((x0.data.toList.drop f).take (i - f)).isEmpty = false := by
      have hsz := size_list x0
      rw [List.isEmpty_eq_false_iff]
      intro e
      have := congrArg List.length e
      rw [List.length_take, List.length_drop, List.length_nil] at this
      omega
    rw [if_pos (by omega), if_pos (by omega), if_pos (by omega), if_pos (by omega), if_pos (by omega), Int.toNat_natCast, Int.toNat_natCast, extract_mk, hne]
    rfl
set_option maxHeartbeats 2000000 in
theorem words_loop (x0 : ByteArray) (hbig : x0.size ≤ 1000000) (d : Nat) : ∀ (k i : Nat) (out : List ByteArray) (from_ : Int) (cur : List UInt8), i + d = x0.size → 5 * d + 6 ≤ k → out.length + d ≤ 2000000 → FromOk x0 i from_ cur →
    ref09_words.l0 k x0 out from_ (i : Int) = some (wordsR out cur (x0.data.toList.drop i)) := by
  have hsz := size_list x0
  induction d with
  | zero =>
    intro k i out from_ cur hi hk ho hf
    obtain ⟨k, rfl⟩ : ∃ m, k = m + 1 + 1 + 1 + 1 + 1 := ⟨k - 5, by omega⟩
    rw [List.drop_eq_nil_of_le (show x0.data.toList.length ≤ i by omega)]
    rw [ref09_words.l0, if_pos (by omega), if_pos (by omega), ref09_words.j1, if_pos rfl, ref09_words.j2, if_neg (by decide), if_pos rfl, words_push x0 _ i out from_ cur true (by omega) (by omega) hf, ref09_words.j4, if_pos rfl]
    unfold wordsR
    rw [show ahead [] = [] from rfl, List.all_nil, if_pos rfl, Lib.fieldsGo]
    cases cur <;> simp
  | succ d ih =>
    intro k i out from_ cur hi hk ho hf
    obtain ⟨k, rfl⟩ : ∃ m, k = m + 1 + 1 + 1 + 1 + 1 := ⟨k - 5, by omega⟩
    obtain ⟨c, hc⟩ : ∃ c, x0.data.toList[i]? = some c := ⟨_, List.getElem?_eq_getElem (by omega)⟩
    have hb : bt x0 (i : Int) = c.toNat := bt_list x0 i c (by rw [Int.toNat_natCast]; exact hc)
    have hw : wrap64 ((i : Int) + 1) = ((i + 1 : Nat) : Int) := by rw [wrap_id (by omega) (by omega)]; omega
    have inj : ∀ n : Nat, n < 256 → (c.toNat : Int) = n → c = UInt8.ofNat n := fun n hn e => UInt8.toNat_inj.mp (by rw [UInt8.toNat_ofNat']; omega)
    rw [ref09_words.l0, if_pos (by omega), if_neg (by omega), if_pos (by omega), if_pos (by omega), hb, drop_at hc]
    by_cases h59 : c = 59
    · subst h59
      rw [show (((59 : UInt8).toNat : Int) == 59) = true from rfl, ref09_words.j1, if_pos rfl, ref09_words.j2, if_neg (by decide), if_pos rfl, words_push x0 _ i out from_ cur true (by omega) (by omega) hf, ref09_words.j4, if_pos rfl]
      unfold wordsR
      rw [ahead_semi, List.all_nil, if_pos rfl, Lib.fieldsGo]
      cases cur <;> simp
    · have n59 : ((c.toNat : Int) == 59) = false := by
        rw [beq_eq_false_iff_ne]
        intro e
        exact h59 (inj 59 (by decide) e)
      rw [n59, ref09_words.j1, if_neg (by decide), if_pos (by omega), if_pos (by omega), hb]
      unfold wordsR
      rw [ahead_cons _ h59, List.all_cons]
      by_cases hp : isPlain c = true
      · have hp2 : c.toNat = 9 ∨ 32 ≤ c.toNat ∧ c.toNat ≤ 126 := of_decide_eq_true hp
        have hj : ∀ b : Bool, b = false → ref09_words.j2 (k + 1 + 1 + 1) x0 out from_ (i : Int) false b = some (if (ahead (x0.data.toList.drop (i + 1))).all isPlain = true then (out ++ (Lib.fieldsGo cur (c :: ahead (x0.data.toList.drop (i + 1)))).map mkB, true) else ([], false)) := by
          rintro b rfl
          rw [ref09_words.j2, if_neg (by decide), if_neg (by decide), if_pos (by omega), if_pos (by omega), hb]
          have hsp := isSp_plain c hp
          by_cases hs : c.toNat = 32 ∨ c.toNat = 9
          · have hsp1 : Lib.isSp c = true := by rw [hsp]; rcases hs with hs | hs <;> simp [hs]
            have hj3 : ref09_words.j3 (k + 1 + 1) x0 out from_ (i : Int) false true = some (if (ahead (x0.data.toList.drop (i + 1))).all isPlain = true then (out ++ (Lib.fieldsGo cur (c :: ahead (x0.data.toList.drop (i + 1)))).map mkB, true) else ([], false)) := by
              rw [words_push x0 _ i out from_ cur false (by omega) (by omega) hf, ref09_words.j4, if_neg (by decide), hw]
              rw [ih k (i + 1) _ (-1) [] (by omega) (by omega) (by split <;> (try rw [List.length_append, List.length_singleton]) <;> omega) (.inl ⟨rfl, rfl⟩)]
              unfold wordsR
              congr 1
              congr 1
              cases cur with
              | nil => rw [Lib.fieldsGo_sp c _ hsp1]; rfl
              | cons a r => rw [Lib.fieldsGo_end (a :: r) c _ hsp1 (by simp)]; simp
            by_cases h32 : c.toNat = 32
            · rw [if_pos (by omega)]
              exact hj3
            · rw [if_neg (by omega), show ((c.toNat : Int) == 9) = true from by rw [beq_iff_eq]; omega]
              exact hj3
          · have hsp0 : Lib.isSp c = false := by rw [hsp]; simp; omega
            rw [if_neg (by omega), show ((c.toNat : Int) == 9) = false from by rw [beq_eq_false_iff_ne]; omega, ref09_words.j3, if_neg (by decide), hw]
            rw [Lib.fieldsGo_more cur c _ hsp0]
            rcases hf with ⟨rfl, rfl⟩ | ⟨f, rfl, h1, rfl⟩
            · rw [if_pos (by omega), ih (k + 1) (i + 1) out (i : Int) [c] (by omega) (by omega) (by omega) (.inr ⟨i, rfl, by omega, by rw [cur_more hc (Nat.le_refl _), Nat.sub_self, List.take_zero]; rfl⟩)]
              rfl
            · rw [if_neg (by omega), ih (k + 1) (i + 1) out (f : Int) _ (by omega) (by omega) (by omega) (.inr ⟨f, rfl, by omega, (cur_more (f := f) hc (by omega)).symm⟩)]
              rfl
        rw [hp, Bool.true_and]
        by_cases h9 : c.toNat = 9
        · rw [if_pos (by omega)]
          exact hj false rfl
        · rw [if_neg (by omega), if_neg (by omega)]
          exact hj _ (decide_eq_false (by omega))
      · have hp0 : isPlain c = false := by simpa using hp
        have hp2 : ¬ (c.toNat = 9 ∨ 32 ≤ c.toNat ∧ c.toNat ≤ 126) := of_decide_eq_false hp0
        rw [hp0, Bool.false_and, if_neg (show ¬ ((c.toNat : Int) = 9) by omega), if_neg (show ¬ (false = true) by decide)]
        by_cases h32 : c.toNat < 32
        · rw [if_pos (by omega), ref09_words.j2, if_pos rfl]
        · rw [if_neg (by omega), show decide ((c.toNat : Int) > 126) = true from decide_eq_true (by omega), ref09_words.j2, if_pos rfl]
theorem ref_words (l : List UInt8) (hbig : l.length ≤ 1000000) (k : Nat) (hk : 5 * l.length + 6 ≤ k) : ref09_words.f k (mkB l) = some (if segPlain l = true then (segWords l, true) else ([], false)) := by
  have hs := mkB_size l
  have h := words_loop (mkB l) (by omega) l.length k 0 [] (-1) [] (by omega) hk (by simp; omega) (.inl ⟨rfl, rfl⟩)
  rw [mkB_data, List.drop_zero] at h
  exact h
set_option maxHeartbeats 1000000 in
theorem lines_loop (segs : List (List UInt8)) (hlen : segs.length ≤ 1000000) (hbig : ∀ l ∈ segs, l.length ≤ 1000000) (d : Nat) : ∀ (k i : Nat) (out : List S72), i + d = segs.length → 5000006 + d + 1 ≤ k → out.length + d ≤ 2000000 →
    ref09_Lines.l0 k (segs.map mkB) out (i : Int) = some (match firstBad i (segs.drop i) with
      | some b => ([], (b : Int) + 1, 6)
      | none => (out ++ (collect i (segs.drop i)).map (fun p => ⟨p.1, p.2⟩), 0, 0)) := by
  induction d with
  | zero =>
    intro k i out hi hk ho
    obtain ⟨k, rfl⟩ : ∃ m, k = m + 1 := ⟨k - 1, by omega⟩
    rw [ref09_Lines.l0, if_neg (by rw [List.length_map]; omega), List.drop_eq_nil_of_le (by omega)]
    simp [firstBad, collect]
  | succ d ih =>
    intro k i out hi hk ho
    obtain ⟨k, rfl⟩ : ∃ m, k = m + 1 := ⟨k - 1, by omega⟩
    have hlt : i < segs.length := by omega
    have hd : segs.drop i = segs[i] :: segs.drop (i + 1) := List.drop_eq_getElem_cons hlt
    have hrd : rdOf ByteArray.empty (segs.map mkB) (i : Int) = mkB segs[i] := by
      unfold rdOf
      rw [Int.toNat_natCast, List.getD_eq_getElem?_getD, List.getElem?_map, List.getElem?_eq_getElem hlt]
      rfl
    have hl := hbig _ (List.getElem_mem hlt)
    have hw : wrap64 ((i : Int) + 1) = ((i + 1 : Nat) : Int) := by rw [wrap_id (by omega) (by omega)]; omega
    rw [ref09_Lines.l0, if_pos (by rw [List.length_map]; omega), if_pos (by omega), hrd, ref_words _ hl k (by omega), Option.bind_some, hd, firstBad, collect]
    by_cases hp : segPlain segs[i] = true
    · rw [if_pos hp, if_pos hp]
      dsimp only
      rw [if_pos rfl, hw]
      by_cases he : segWords segs[i] = []
      · rw [if_neg (by rw [he]; decide), if_pos he]
        exact ih k (i + 1) out (by omega) (by omega) (by omega)
      · have hpos := List.length_pos_iff.mpr he
        rw [if_neg he, if_pos (show ((segWords segs[i]).length : Int) > 0 by omega), if_pos (show out.length < 4398046511104 by omega), ih k (i + 1) _ (by omega) (by omega) (by rw [List.length_append, List.length_singleton]; omega)]
        rw [List.map_cons, List.append_assoc]
        rfl
    · rw [if_neg hp, if_neg hp, if_neg (by decide), hw]
      rfl
theorem ref_lines (x0 : ByteArray) (h : x0.size ≤ 65536) : ref09_Lines.f 6000000 x0 = some ((linesG (cutAt 10 x0.data.toList)).1.map (fun p => ⟨p.1, p.2⟩), (linesG (cutAt 10 x0.data.toList)).2) := by
  have hsz := size_list x0
  have hcl := count_cutAt 10 x0.data.toList
  have hcc : x0.data.toList.count 10 ≤ x0.data.toList.length := List.count_le_length
  have hseg : ∀ l ∈ cutAt 10 x0.data.toList, l.length ≤ x0.data.toList.length := by
    generalize x0.data.toList = t
    induction t with
    | nil => intro l hl; simp [cutAt] at hl; rw [hl]; exact Nat.le_refl _
    | cons b r ih =>
      intro l hl
      rw [cutAt] at hl
      rw [List.length_cons]
      split at hl
      · rcases List.mem_cons.mp hl with rfl | hl
        · exact Nat.zero_le _
        · have := ih l hl; omega
      · rw [← cutAt_split] at ih
        rcases List.mem_cons.mp hl with rfl | hl
        · have := ih _ List.mem_cons_self; rw [List.length_cons]; omega
        · have := ih l (List.mem_cons_of_mem _ hl); omega
  unfold ref09_Lines.f
  rw [if_neg (by omega), ref_cut x0 (by omega) 6000000 (by omega), Option.bind_some]
  have hl := lines_loop (cutAt 10 x0.data.toList) (by omega) (fun l hl => by have := hseg l hl; omega) (cutAt 10 x0.data.toList).length 6000000 0 [] (by omega) (by omega) (by simp; omega)
  rw [show (0 : Int) = ((0 : Nat) : Int) from rfl, hl, List.drop_zero]
  unfold linesG
  cases firstBad 0 (cutAt 10 x0.data.toList) <;> rfl
theorem ref_lines_big (x0 : ByteArray) (h : 65536 < x0.size) (k : Nat) : ref09_Lines.f k x0 = some ([], 0, 7) := by
  unfold ref09_Lines.f
  rw [if_pos (by omega)]
end Go.Proofs.YtdbjjbooalkkbaaGreatDoor.P

/- The reference's parser: its plain helpers (find, Behind, CheckAddr), what its methods leave. -/
set_option linter.unusedVariables false
namespace Go.Proofs.YtdbjjbooalkkbaaGreatDoor.P
open Go.RowKit Go.Shelf Go.Proofs.YtdbjjbooalkkbaaGreatDoorW.PrintWords Go.Proofs.YtdbjjbooalkkbaaGreatDoorW.PrintLast Go.Proofs.YtdbjjbooalkkbaaGreatDoorW.PrintMore

theorem ref_checkaddr (I Q M s n : Int) : ref01_CheckAddr.f 5 I Q M 0 s n = some (addrP I Q M s n) := by
  unfold ref01_CheckAddr.f addrP
  by_cases h0 : s < 0
  · rw [if_pos h0, ref01_CheckAddr.j0, if_pos rfl, if_neg (by omega)]
  · rw [if_neg h0]
    by_cases h1 : s > 2
    · rw [decide_eq_true h1, ref01_CheckAddr.j0, if_pos rfl, if_neg (by omega)]
    · have h01 : 0 ≤ s ∧ s ≤ 2 := by omega
      rw [decide_eq_false h1, ref01_CheckAddr.j0, if_neg (by decide), if_pos h01]
      have hw : ref01_Width.f I Q M 0 s = some (widthP I Q M s) := by
        unfold ref01_Width.f widthP
        repeat' split
        all_goals rfl
      by_cases h2 : n < 0
      · have h4 : ¬ (0 ≤ n ∧ n < widthP I Q M s) := by omega
        rw [if_pos h2, if_neg h4]
      · rw [if_neg h2, hw, Option.bind_some]
        by_cases h3 : n ≥ widthP I Q M s
        · have h4 : ¬ (0 ≤ n ∧ n < widthP I Q M s) := by omega
          rw [if_pos h3, if_neg h4]
        · have h4 : 0 ≤ n ∧ n < widthP I Q M s := by omega
          rw [if_neg h3, if_pos h4]
theorem bytes_toList {a b : ByteArray} : a.toList = b.toList ↔ a = b := by
  rw [ByteArray.toList_eq, ByteArray.toList_eq]
  exact ⟨fun h => ByteArray.ext (Array.ext' h), fun h => by rw [h]⟩
theorem find_loop (ks : List ByteArray) (hn : ks.length ≤ 1000) (x : ByteArray) (d : Nat) : ∀ k i : Nat, i + d = ks.length → d + 1 ≤ k → ref10_find.l0 k ks x (i : Int) = some (Lib.idxFromS (ks.drop i) x i) := by
  induction d with
  | zero =>
    intro k i hi hk
    obtain ⟨k, rfl⟩ : ∃ m, k = m + 1 := ⟨k - 1, by omega⟩
    rw [ref10_find.l0, if_neg (by omega), List.drop_eq_nil_of_le (by omega), Lib.idxFromS]
  | succ d ih =>
    intro k i hi hk
    obtain ⟨k, rfl⟩ : ∃ m, k = m + 1 := ⟨k - 1, by omega⟩
    have hlt : i < ks.length := by omega
    have hr : rdOf ByteArray.empty ks (i : Int) = ks[i] := by
      unfold rdOf
      rw [Int.toNat_natCast, List.getD_eq_getElem?_getD, List.getElem?_eq_getElem hlt]
      rfl
    rw [ref10_find.l0, if_pos (by omega), if_pos (by omega), hr, List.drop_eq_getElem_cons hlt, Lib.idxFromS]
    by_cases h : ks[i] = x
    · rw [if_pos (bytes_toList.2 h), if_pos h]
    · rw [if_neg (fun e => h (bytes_toList.1 e)), if_neg h, wrap_nat (by omega)]
      exact ih k (i + 1) (by omega) (by omega)
theorem ref_find (ks : List ByteArray) (hn : ks.length ≤ 1000) (x : ByteArray) : ref10_find.f 1001 ks x = some (Lib.idxOfS ks x) := by
  have h := find_loop ks hn x ks.length 1001 0 (by omega) (by omega)
  rw [List.drop_zero] at h
  exact h
theorem rd_rung {l : List SR} {i : Nat} (h : i < l.length) : rd_T47 l (i : Int) = l[i] := by
  unfold rd_T47
  rw [Int.toNat_natCast, List.getD_eq_getElem?_getD, List.getElem?_eq_getElem h]
  rfl
theorem behind_loop (l : List SR) (hn : l.length ≤ 1000) (x : ByteArray) (I Q M : Int) (d : Nat) : ∀ k i : Nat, i + d = l.length → d + 1 ≤ k → ref10_Behind.l0 k x (i : Int) I Q M l = some (hasLabel (l.drop i) x) := by
  induction d with
  | zero =>
    intro k i hi hk
    obtain ⟨k, rfl⟩ : ∃ m, k = m + 1 := ⟨k - 1, by omega⟩
    rw [ref10_Behind.l0, if_neg (by omega), List.drop_eq_nil_of_le (by omega)]
    rfl
  | succ d ih =>
    intro k i hi hk
    obtain ⟨k, rfl⟩ : ∃ m, k = m + 1 := ⟨k - 1, by omega⟩
    have hlt : i < l.length := by omega
    have hs : hasLabel (l.drop i) x = (l[i].f0.toList == x.toList || hasLabel (l.drop (i + 1)) x) := by
      rw [List.drop_eq_getElem_cons hlt]
      rfl
    rw [ref10_Behind.l0, if_pos (by omega), if_pos (by omega), rd_rung hlt, hs]
    by_cases h : l[i].f0.toList = x.toList
    · rw [if_pos h, beq_iff_eq.2 h, Bool.true_or]
    · rw [if_neg h, beq_eq_false_iff_ne.2 h, Bool.false_or, wrap_nat (by omega)]
      exact ih k (i + 1) (by omega) (by omega)
theorem ref_behind (l : List SR) (hn : l.length ≤ 1000) (x : ByteArray) (I Q M : Int) (i : Nat) (hi : i < l.length) : ref10_Behind.f 1001 I Q M l (i : Int) x = some (hasLabel (l.drop (i + 1)) x) := by
  unfold ref10_Behind.f
  rw [wrap_nat (by omega)]
  exact behind_loop l hn x I Q M (l.length - (i + 1)) 1001 (i + 1) (by omega) (by omega)

/-! ### the block of the reference's parser -/
def rc (s : PSt) (vR vL vJ : Value) : Array Value := #[.int .i64 s.I, .int .i64 s.Q, .int .i64 s.M, vR, vL, vJ, .bool s.sized]
abbrev RSt (B b : Nat) (s : PSt) (vR vL vJ : Value) (w0 w : World) : Prop := Stage B b 70 (rc s vR vL vJ) w0 vR s.rungs vL s.lines vJ s.jumps [] w
def RAt (B b : Nat) (s : PSt) (w0 w : World) : Prop := ∃ vR vL vJ, RSt B b s vR vL vJ w0 w
def RPost (B b : Nat) (w0 : World) (r : Int × PSt) (e : Ending) (w' : World) : Prop := e = .returned (.int .i64 r.1) ∧ Did B b w0 w' ∧ (r.1 = 0 → RAt B b r.2 w0 w')
theorem RPost.bad {B b : Nat} {w0 w' : World} {x : Int} {s : PSt} (hx : x ≠ 0) (hB : B ≤ w0.heap.size) (hb : Below w0.heap.size w0 w') : RPost B b w0 (x, s) (.returned (.int .i64 x)) w' := ⟨rfl, .of_below hb hB, fun h => absurd h hx⟩
theorem RPost.from {B b : Nat} {w0 w w' : World} {r : Int × PSt} {e : Ending} (h : RPost B b w r e w') (hd : Did B b w0 w) : RPost B b w0 r e w' :=
  ⟨h.1, hd.trans h.2.1, fun h0 => by obtain ⟨vR, vL, vJ, S⟩ := h.2.2 h0; exact ⟨vR, vL, vJ, S.from hd⟩⟩

theorem ref_isname_calls (x : ByteArray) (w : World) : Calls Tryz.prog 61 #[.string x] w fun e w' => e = .returned (.bool (isName x.data.toList)) ∧ Below w.heap.size w w' :=
  (ref09_IsName.calls 20 x _ w (ref_isname x 20 (by decide))).mono fun e w' h => ⟨h.1, h.2.below⟩
theorem ref_number_calls (x : ByteArray) (hx : x.size ≤ 65536) (w : World) : Calls Tryz.prog 80 #[.string x, .int .i64 256] w fun e w' => e = .returned (.tuple #[.int .i64 (number x.data.toList 256).1, .int .i64 (number x.data.toList 256).2]) ∧ Below w.heap.size w w' :=
  (ref09_Number.calls 200000 x 256 _ _ w (ref_number9 x 256 hx 200000 (by decide))).mono fun e w' h => ⟨h.1, h.2.below⟩
theorem ref_find_calls (A : Option Addr) (c : Nat) (ks : List ByteArray) (hn : ks.length ≤ 1000) (x : ByteArray) (w : World) (hC : Kd.C Kd.string w A ks.length ks) (hc : ks.length ≤ c) :
    Calls Tryz.prog 56 #[.slice A ks.length c, .string x] w fun e w' => e = .returned (.int .i64 (Lib.idxOfS ks x)) ∧ Below w.heap.size w w' :=
  (ref10_find.calls 1001 A c ks x _ w hC hc (ref_find ks hn x)).mono fun e w' h => ⟨h.1, h.2.below⟩
set_option maxRecDepth 100000 in
set_option maxHeartbeats 4000000 in
theorem raddress_walk (s : PSt) (x : ByteArray) (hx : x.size ≤ 65536) (b : Nat) (w : World) (c0 : w.cell? ⟨b, 0, none⟩ = some (.int .i64 s.I)) (c1 : w.cell? ⟨b, 1, none⟩ = some (.int .i64 s.Q)) (c2 : w.cell? ⟨b, 2, none⟩ = some (.int .i64 s.M)) :
    Calls Tryz.prog 81 #[.pointer (some ⟨b, 0, none⟩), .string x] w fun e w' => e = .returned (.tuple #[.agg #[.int .i64 (addressP s x).1, .int .i64 (addressP s x).2.1], .int .i64 (addressP s x).2.2]) ∧ Below w.heap.size w w' := by
  have HP := Lib.hid (fun W => ref01_Parse.calls 200000 x (parseAddr x.data.toList).1 (parseAddr x.data.toList).2.1 (parseAddr x.data.toList).2.2 W (ref_parse x (by omega) 200000 (by omega)))
  unfold addressP
  obtain ⟨⟨sp, n, er⟩, ep⟩ : ∃ p, p = parseAddr x.data.toList := ⟨_, rfl⟩
  rw [← ep] at HP ⊢
  clear ep
  simp only at HP ⊢
  have HC := Lib.hid (fun W => ref01_CheckAddr.calls 5 s.I s.Q s.M 0 sp n (addrP s.I s.Q s.M sp n) W (ref_checkaddr s.I s.Q s.M sp n))
  have B0 := Lib.hid (Below.refl w.heap.size w)
  by_cases he : er = 0
  · subst he
    rw [if_pos rfl]
    go_enter Tryz.func81, Tryz.ntmps81
    go_wp2_with (go_at_call 96; (with_reducible refine (HP.out _).mono ?_); rintro e w1 ⟨rfl, hb⟩; have B1 := Lib.hid (below_step (below_alloc B0.out _) hb); have Z := Lib.hid (((Bx.new w 49 #[.int .i64 0, .int .i64 0]).on hb).alloc (Obj.cells #[.int .i64 sp, .int .i64 n] 49)); have Y := Lib.hid (Bx.new w1 49 #[.int .i64 sp, .int .i64 n]); clear hb)
    have BE := Lib.hid (below_drew (below_alloc B1.out (Obj.cells #[.int .i64 sp, .int .i64 n] 49)))
    have ZE := Lib.hid Z.out.drew
    have c0 := pw_cell_below BE.out c0
    have c1 := pw_cell_below BE.out c1
    have c2 := pw_cell_below BE.out c2
    have d0 := Y.out.drew.cell 0 (.int .i64 sp) rfl
    have d1 := Y.out.drew.cell 1 (.int .i64 n) rfl
    refine start_ (n := 21) (S := fun w' => w'.cell? ⟨b, 0, none⟩ = some (.int .i64 s.I) ∧ w'.cell? ⟨b, 1, none⟩ = some (.int .i64 s.Q) ∧ w'.cell? ⟨b, 2, none⟩ = some (.int .i64 s.M) ∧ w'.cell? ⟨w1.heap.size, 0, none⟩ = some (.int .i64 sp) ∧ w'.cell? ⟨w1.heap.size, 1, none⟩ = some (.int .i64 n)) (ds := [19]) (bs 21 0) (by kernel_rfl) rfl (by kernel_rfl) (⟨c0, c1, c2, d0, d1⟩) (fun hHeld => ?_)
    clear c0 c1 c2 d0 d1; generalize (w1.alloc (Obj.cells #[.int .i64 sp, .int .i64 n] 49)).drew = Ws at hHeld BE ZE ⊢
    refine take_ (i := 0) (N := some 17) (v := ?_) (a' := ?_) (bs 21 1) rfl rfl (by kernel_rfl) (fun _ _ _ h => h) (Or.inl ⟨by rfl, ?_⟩) hHeld ?_ ?_
    rotate_left
    · rintro w' ⟨s0, s1, s2, s3, s4⟩; go_simp; try with_reducible rfl
    rotate_left
    · simp only [Act.put, List.setIfInBounds_toArray, List.set_cons_zero, List.set_cons_succ]; rfl
    refine pure_ (i := 1) (N := some 18) (v := ?_) (a' := ?_) (bs 21 3) rfl rfl (by kernel_rfl) (fun _ _ _ h => h) (Or.inl ⟨by rfl, ?_⟩) ?_ ?_
    rotate_left
    · intro w'; go_simp; try with_reducible rfl
    rotate_left
    · simp only [Act.put, List.setIfInBounds_toArray, List.set_cons_zero, List.set_cons_succ]; rfl
    refine pure_ (i := 2) (N := some 19) (v := ?_) (a' := ?_) (bs 21 7) rfl rfl (by kernel_rfl) (fun _ _ _ h => h) (Or.inl ⟨by rfl, ?_⟩) ?_ ?_
    rotate_left
    · intro w'; go_simp; try with_reducible rfl
    rotate_left
    · simp only [Act.put, List.setIfInBounds_toArray, List.set_cons_zero, List.set_cons_succ]; rfl
    refine pure_ (i := 3) (N := some 20) (v := ?_) (a' := ?_) (bs 21 15) rfl rfl (by kernel_rfl) (fun _ _ _ h => h) (Or.inl ⟨by rfl, ?_⟩) ?_ ?_
    rotate_left
    · intro w'; go_simp; try with_reducible rfl
    rotate_left
    · simp only [Act.put, List.setIfInBounds_toArray, List.set_cons_zero, List.set_cons_succ]; rfl
    refine pure_ (i := 4) (N := some 21) (v := ?_) (a' := ?_) (bs 21 31) rfl rfl (by kernel_rfl) (fun _ _ _ h => h) (Or.inl ⟨by rfl, ?_⟩) ?_ ?_
    rotate_left
    · intro w'; go_simp; try with_reducible rfl
    rotate_left
    · simp only [Act.put, List.setIfInBounds_toArray, List.set_cons_zero, List.set_cons_succ]; rfl
    refine take_ (i := 5) (N := some 22) (v := ?_) (a' := ?_) (bs 21 63) rfl rfl (by kernel_rfl) (fun _ _ _ h => h) (Or.inl ⟨by rfl, ?_⟩) hHeld ?_ ?_
    rotate_left
    · rintro w' ⟨s0, s1, s2, s3, s4⟩; go_simp; try with_reducible rfl
    rotate_left
    · simp only [Act.put, List.setIfInBounds_toArray, List.set_cons_zero, List.set_cons_succ]; rfl
    refine pure_ (i := 6) (N := some 23) (v := ?_) (a' := ?_) (bs 21 127) rfl rfl (by kernel_rfl) (fun _ _ _ h => h) (Or.inl ⟨by rfl, ?_⟩) ?_ ?_
    rotate_left
    · intro w'; go_simp; try with_reducible rfl
    rotate_left
    · simp only [Act.put, List.setIfInBounds_toArray, List.set_cons_zero, List.set_cons_succ]; rfl
    refine pure_ (i := 7) (N := some 24) (v := ?_) (a' := ?_) (bs 21 255) rfl rfl (by kernel_rfl) (fun _ _ _ h => h) (Or.inl ⟨by rfl, ?_⟩) ?_ ?_
    rotate_left
    · intro w'; go_simp; try with_reducible rfl
    rotate_left
    · simp only [Act.put, List.setIfInBounds_toArray, List.set_cons_zero, List.set_cons_succ]; rfl
    refine pure_ (i := 8) (N := some 25) (v := ?_) (a' := ?_) (bs 21 511) rfl rfl (by kernel_rfl) (fun _ _ _ h => h) (Or.inl ⟨by rfl, ?_⟩) ?_ ?_
    rotate_left
    · intro w'; go_simp; try with_reducible rfl
    rotate_left
    · simp only [Act.put, List.setIfInBounds_toArray, List.set_cons_zero, List.set_cons_succ]; rfl
    refine pure_ (i := 9) (N := some 26) (v := ?_) (a' := ?_) (bs 21 1023) rfl rfl (by kernel_rfl) (fun _ _ _ h => h) (Or.inl ⟨by rfl, ?_⟩) ?_ ?_
    rotate_left
    · intro w'; go_simp; try with_reducible rfl
    rotate_left
    · simp only [Act.put, List.setIfInBounds_toArray, List.set_cons_zero, List.set_cons_succ]; rfl
    refine take_ (i := 10) (N := some 27) (v := ?_) (a' := ?_) (bs 21 2047) rfl rfl (by kernel_rfl) (fun _ _ _ h => h) (Or.inl ⟨by rfl, ?_⟩) hHeld ?_ ?_
    rotate_left
    · rintro w' ⟨s0, s1, s2, s3, s4⟩; go_simp; try with_reducible rfl
    rotate_left
    · simp only [Act.put, List.setIfInBounds_toArray, List.set_cons_zero, List.set_cons_succ]; rfl
    refine pure_ (i := 11) (N := some 28) (v := ?_) (a' := ?_) (bs 21 4095) rfl rfl (by kernel_rfl) (fun _ _ _ h => h) (Or.inl ⟨by rfl, ?_⟩) ?_ ?_
    rotate_left
    · intro w'; go_simp; try with_reducible rfl
    rotate_left
    · simp only [Act.put, List.setIfInBounds_toArray, List.set_cons_zero, List.set_cons_succ]; rfl
    refine pure_ (i := 12) (N := some 29) (v := ?_) (a' := ?_) (bs 21 8191) rfl rfl (by kernel_rfl) (fun _ _ _ h => h) (Or.inl ⟨by rfl, ?_⟩) ?_ ?_
    rotate_left
    · intro w'; go_simp; try with_reducible rfl
    rotate_left
    · simp only [Act.put, List.setIfInBounds_toArray, List.set_cons_zero, List.set_cons_succ]; rfl
    refine pure_ (i := 13) (N := some 30) (v := ?_) (a' := ?_) (bs 21 16383) rfl rfl (by kernel_rfl) (fun _ _ _ h => h) (Or.inl ⟨by rfl, ?_⟩) ?_ ?_
    rotate_left
    · intro w'; go_simp; try with_reducible rfl
    rotate_left
    · simp only [Act.put, List.setIfInBounds_toArray, List.set_cons_zero, List.set_cons_succ]; rfl
    refine pure_ (i := 14) (N := some 31) (v := ?_) (a' := ?_) (bs 21 32767) rfl rfl (by kernel_rfl) (fun _ _ _ h => h) (Or.inl ⟨by rfl, ?_⟩) ?_ ?_
    rotate_left
    · intro w'; go_simp; try with_reducible rfl
    rotate_left
    · simp only [Act.put, List.setIfInBounds_toArray, List.set_cons_zero, List.set_cons_succ]; rfl
    refine take_ (i := 15) (N := some 32) (v := ?_) (a' := ?_) (bs 21 65535) rfl rfl (by kernel_rfl) (fun _ _ _ h => h) (Or.inl ⟨by rfl, ?_⟩) hHeld ?_ ?_
    rotate_left
    · rintro w' ⟨s0, s1, s2, s3, s4⟩; go_simp; try with_reducible rfl
    rotate_left
    · simp only [Act.put, List.setIfInBounds_toArray, List.set_cons_zero, List.set_cons_succ]; rfl
    refine pure_ (i := 16) (N := some 33) (v := ?_) (a' := ?_) (bs 21 131071) rfl rfl (by kernel_rfl) (fun _ _ _ h => h) (Or.inl ⟨by rfl, ?_⟩) ?_ ?_
    rotate_left
    · intro w'; go_simp; try with_reducible rfl
    rotate_left
    · simp only [Act.put, List.setIfInBounds_toArray, List.set_cons_zero, List.set_cons_succ]; rfl
    refine take_ (i := 17) (N := some 34) (v := ?_) (a' := ?_) (bs 21 262143) rfl rfl (by kernel_rfl) (fun _ _ _ h => h) (Or.inl ⟨by rfl, ?_⟩) hHeld ?_ ?_
    rotate_left
    · rintro w' ⟨s0, s1, s2, s3, s4⟩; go_simp; try with_reducible rfl
    rotate_left
    · simp only [Act.put, List.setIfInBounds_toArray, List.set_cons_zero, List.set_cons_succ]; rfl
    refine one_ (i := 18) (N := some 35) (bs 21 524287) rfl rfl (by kernel_rfl) (by decide) (fun K hK => ?_)
    refine goes_ Tryz.func97 (by kernel_rfl) rfl #[.agg #[.int .i64 s.I, .int .i64 s.Q, .int .i64 s.M, .int .i64 0], .agg #[.int .i64 sp, .int .i64 n]] (by rfl) rfl rfl (by (try simp only [List.map_toArray, List.map_cons, List.map_nil]); first | done | rfl) ?_
    with_reducible refine (HC.out _).mono ?_
    rintro e w2 ⟨rfl, hb⟩
    refine ⟨_, rfl, ?_⟩
    refine hK.out _ _ (keepS5 hHeld hb) (fun hHeld => ?_)
    clear hK K
    refine norm_ (a' := ?_) ?_ ?_
    rotate_left
    · show Act.put _ (some 35) _ = _; simp only [Act.put, List.setIfInBounds_toArray, List.set_cons_zero, List.set_cons_succ]; rfl
    replace BE := Lib.hid (below_step BE.out hb)
    replace ZE := Lib.hid (ZE.out.on hb)
    clear hb hHeld
    have z0 := ZE.out.cell 0 (.int .i64 0) rfl
    have z1 := ZE.out.cell 1 (.int .i64 0) rfl
    have f0 := ZE.out.frozen 0
    have f1 := ZE.out.frozen 1
    refine oneD_ (i := 19) (N := none) (bs 21 1048575) rfl rfl (by kernel_rfl) (by decide) (fun K hK => ?_)
    go_simp
    refine hK.out _ _ ?_
    clear hK K
    refine norm_ (a' := ?_) ?_ ?_
    rotate_left
    · rfl
    refine pure_ (i := 20) (N := some 5) (v := ?_) (a' := ?_) (bs 21 2097151) rfl rfl (by kernel_rfl) (fun _ _ _ h => h) (Or.inl ⟨by rfl, ?_⟩) ?_ ?_
    rotate_left
    · intro w'; go_simp; try with_reducible rfl
    rotate_left
    · simp only [Act.put, List.setIfInBounds_toArray, List.set_cons_zero, List.set_cons_succ]; rfl
    refine done_ (by kernel_rfl) ?_
    go_wp2
    refine bodyPost_ret (v := .tuple #[.agg #[.int .i64 sp, .int .i64 n], .int .i64 (addrP s.I s.Q s.M sp n)]) (by simp [results, Tryz.results81, go_sem, z0, z1]) rfl ?_
    exact ⟨rfl, below_set (below_set BE.out (Nat.le_refl _)) (Nat.le_refl _)⟩
  · have he1 : (er != 0) = true := by rw [bne_iff_ne]; exact he
    rw [if_neg he]
    clear HC
    go_enter Tryz.func81, Tryz.ntmps81
    go_wp2_with (go_at_call 96; (with_reducible refine (HP.out _).mono ?_); rintro e w1 ⟨rfl, hb⟩; have B1 := Lib.hid (below_step (below_alloc B0.out _) hb); have Z := ((Bx.new w 49 #[.int .i64 0, .int .i64 0]).on hb).alloc (Obj.cells #[.int .i64 sp, .int .i64 n] 49); have z0 := Z.cell 0 (.int .i64 0) rfl; have z1 := Z.cell 1 (.int .i64 0) rfl; have f0 := Z.frozen 0; have f1 := Z.frozen 1; have Y := Bx.new w1 49 #[.int .i64 sp, .int .i64 n]; have y0 := Y.cell 0 (.int .i64 sp) rfl; have y1 := Y.cell 1 (.int .i64 n) rfl; clear hb Z Y)
    refine bodyPost_ret (v := .tuple #[.agg #[.int .i64 sp, .int .i64 n], .int .i64 er]) (by simp [results, Tryz.results81, go_sem, z0, z1]) rfl ?_
    exact ⟨rfl, below_set (below_set (below_alloc B1.out _) (Nat.le_refl _)) (Nat.le_refl _)⟩
end Go.Proofs.YtdbjjbooalkkbaaGreatDoor.P

/- The reference's parser: the methods coil and contact. -/
set_option linter.unusedVariables false
set_option linter.unusedSimpArgs false
namespace Go.Proofs.YtdbjjbooalkkbaaGreatDoor.P
open Go.RowKit Go.Shelf Go.Proofs.YtdbjjbooalkkbaaGreatDoorW.PrintWords Go.Proofs.YtdbjjbooalkkbaaGreatDoorW.PrintLast Go.Proofs.YtdbjjbooalkkbaaGreatDoorW.PrintMore

theorem keepS3 {W W' : World} {p0 p1 p2 : Addr} {v0 v1 v2 : Value} (h : W.cell? p0 = some v0 ∧ W.cell? p1 = some v1 ∧ W.cell? p2 = some v2) (hb : Below W.heap.size W W') : W'.cell? p0 = some v0 ∧ W'.cell? p1 = some v1 ∧ W'.cell? p2 = some v2 :=
  ⟨pw_cell_below hb h.1, pw_cell_below hb h.2.1, pw_cell_below hb h.2.2⟩
set_option maxRecDepth 100000 in
set_option maxHeartbeats 8000000 in
theorem rcoil_walk {B b : Nat} (s : PSt) (l : LN) (k : Int) (m g wb wo c : Nat) (v1 v2 vR vL vJ : Value) (w : World) (St : RSt B b s vR vL vJ w w) (hok : POk s) (hm : s.rungs.length = m + 1) (L0 : Lies B vR s.rungs g v1 v2 w)
    (hw : ∀ i, i < l.f1.length → w.cell? ⟨wb, wo + i, none⟩ = some (.string (wd l i))) (hn : l.f1.length = 2) (hz : ∀ x ∈ l.f1, x.size ≤ 65536) :
    Calls Tryz.prog 60 #[.pointer (some ⟨b, 0, none⟩), .pointer (some ⟨g, m * 4, none⟩), .int .i64 k, .slice (some ⟨wb, wo, none⟩) l.f1.length c] w (RPost B b w (coilP s l k)) := by
  have hp : 0 < s.rungs.length := by omega
  have hm1 : s.rungs.length - 1 = m := by omega
  obtain ⟨A2, c2, e2⟩ := L0.l2
  subst e2
  have k2 := L0.c2
  have k3 := L0.c3
  rw [hm1] at k2 k3
  have hz1 : (wd l 1).size ≤ 65536 := hz _ (by unfold wd; rw [List.getD_eq_getElem?_getD, List.getElem?_eq_getElem (by omega)]; exact List.getElem_mem _)
  have HA := Lib.hid (fun W (hb : Below w.heap.size w W) => raddress_walk s (wd l 1) hz1 b W (pw_cell_below hb (St.bx.cell 0 _ rfl)) (pw_cell_below hb (St.bx.cell 1 _ rfl)) (pw_cell_below hb (St.bx.cell 2 _ rfl)))
  have HF := Lib.hid (fun W (hb : Below w.heap.size w W) => pw_cell_below hb k2)
  have x1 := hw 1 (by omega)
  have HST := Lib.hid St
  have HL0 := Lib.hid L0
  have HB := Lib.hid St.base
  have hcl : (lastR s.rungs).f2.length ≤ 16 := hok.coil _ (lastR_mem hp)
  unfold coilP
  generalize hr : lastR s.rungs = r at *
  have B0 := Lib.hid (Below.refl w.heap.size w)
  rw [hn]
  clear hz hz1 hw L0 St hok
  by_cases t1 : 0 < r.f3.size
  case pos =>
    rw [if_pos t1]
    have q1 := size_pos (Nat.ne_of_gt t1)
    have q2 := list_pos (Nat.ne_of_gt t1)
    clear t1
    go_enter Tryz.func60, Tryz.ntmps60
    go_wp2
    go_ret
    exact RPost.bad (by decide) HB.out B0.out
  case neg =>
  rw [if_neg t1]
  have q0 : r.f3.size = 0 := by omega
  have q1 := eq_true (size_nil q0)
  have q2 := list_nil q0
  clear t1
  by_cases t2 : r.f2.length = 16
  case pos =>
    rw [if_pos t2]
    have t2' : decide ((16 : Int) ≤ ((r.f2.length : Nat) : Int)) = true := decide_eq_true (by omega)
    go_enter Tryz.func60, Tryz.ntmps60
    go_wp2
    go_ret
    exact RPost.bad (by decide) HB.out B0.out
  case neg =>
  rw [if_neg t2]
  have t2' : decide ((16 : Int) ≤ ((r.f2.length : Nat) : Int)) = false := decide_eq_false (by omega)
  unfold coilAdd
  rw [hr]
  obtain ⟨⟨sp, n, er⟩, ep⟩ : ∃ p, p = addressP s (wd l 1) := ⟨_, rfl⟩
  rw [← ep] at HA ⊢
  clear ep
  simp only at HA ⊢
  by_cases t3 : er = 0
  case neg =>
    rw [if_pos t3]
    have t3' : (er != 0) = true := by rw [bne_iff_ne]; exact t3
    go_enter Tryz.func60, Tryz.ntmps60
    go_wp2_with (go_at_call 81; (with_reducible refine (HA.out _ B0.out).mono ?_); rintro e w2 ⟨rfl, hb⟩; have B2 := Lib.hid (below_step B0.out hb))
    go_ret
    exact RPost.bad t3 HB.out (below_alloc B2.out _)
  case pos =>
  subst t3
  rw [if_neg (by decide)]
  by_cases t4 : sp = 0
  case pos =>
    subst t4
    rw [if_pos rfl]
    go_enter Tryz.func60, Tryz.ntmps60
    go_wp2_with (go_at_call 81; (with_reducible refine (HA.out _ B0.out).mono ?_); rintro e w2 ⟨rfl, hb⟩; have B2 := Lib.hid (below_step B0.out hb))
    go_ret
    exact RPost.bad (by decide) HB.out (below_alloc B2.out _)
  case neg =>
  rw [if_neg t4]
  have t4' : (sp == 0) = false := by rw [beq_eq_false_iff_ne]; exact t4
  go_enter Tryz.func60, Tryz.ntmps60
  go_wp2_with (go_at_call 81; (with_reducible refine (HA.out _ B0.out).mono ?_); rintro e w2 ⟨rfl, hb⟩; have B2 := Lib.hid (below_step B0.out hb))
  have BE := Lib.hid (below_drew (below_alloc B2.out (Obj.cells #[.int .i64 sp, .int .i64 n] 49)))
  have YB := (Bx.new w2 49 #[.int .i64 sp, .int .i64 n]).drew
  refine start_ (n := 13) (S := fun w' => w'.cell? ⟨g, m * 4 + 2, none⟩ = some (.slice A2 r.f2.length c2) ∧ w'.cell? ⟨w2.heap.size, 0, none⟩ = some (.int .i64 sp) ∧ w'.cell? ⟨w2.heap.size, 1, none⟩ = some (.int .i64 n)) (ds := [9, 12]) (bs 13 0) (by kernel_rfl) rfl (by kernel_rfl) (⟨HF.out _ BE.out, YB.cell 0 _ rfl, YB.cell 1 _ rfl⟩) (fun hHeld => ?_)
  clear YB; generalize (w2.alloc (Obj.cells #[.int .i64 sp, .int .i64 n] 49)).drew = Ws at hHeld BE ⊢
  refine pure_ (i := 0) (N := some 36) (v := ?_) (a' := ?_) (bs 13 1) rfl rfl (by kernel_rfl) (fun _ _ _ h => h) (Or.inl ⟨by rfl, ?_⟩) ?_ ?_
  rotate_left
  · intro w'; go_simp; try with_reducible rfl
  rotate_left
  · simp only [Act.put, List.setIfInBounds_toArray, List.set_cons_zero, List.set_cons_succ]; rfl
  refine pure_ (i := 1) (N := some 37) (v := ?_) (a' := ?_) (bs 13 3) rfl rfl (by kernel_rfl) (fun _ _ _ h => h) (Or.inl ⟨by rfl, ?_⟩) ?_ ?_
  rotate_left
  · intro w'; go_simp; try with_reducible rfl
  rotate_left
  · simp only [Act.put, List.setIfInBounds_toArray, List.set_cons_zero, List.set_cons_succ]; rfl
  refine pure_ (i := 2) (N := some 38) (v := ?_) (a' := ?_) (bs 13 7) rfl rfl (by kernel_rfl) (fun _ _ _ h => h) (Or.inl ⟨by rfl, ?_⟩) ?_ ?_
  rotate_left
  · intro w'; go_simp; try with_reducible rfl
  rotate_left
  · simp only [Act.put, List.setIfInBounds_toArray, List.set_cons_zero, List.set_cons_succ]; rfl
  refine pure_ (i := 3) (N := some 39) (v := ?_) (a' := ?_) (bs 13 15) rfl rfl (by kernel_rfl) (fun _ _ _ h => h) (Or.inl ⟨by rfl, ?_⟩) ?_ ?_
  rotate_left
  · intro w'; go_simp; try with_reducible rfl
  rotate_left
  · simp only [Act.put, List.setIfInBounds_toArray, List.set_cons_zero, List.set_cons_succ]; rfl
  refine take_ (i := 4) (N := some 40) (v := ?_) (a' := ?_) (bs 13 31) rfl rfl (by kernel_rfl) (fun _ _ _ h => h) (Or.inl ⟨by rfl, ?_⟩) hHeld ?_ ?_
  rotate_left
  · rintro w' ⟨s0, s1, s2⟩; go_simp; try with_reducible rfl
  rotate_left
  · simp only [Act.put, List.setIfInBounds_toArray, List.set_cons_zero, List.set_cons_succ]; rfl
  refine pure_ (i := 5) (N := some 41) (v := ?_) (a' := ?_) (bs 13 63) rfl rfl (by kernel_rfl) (fun _ _ _ h => h) (Or.inl ⟨by rfl, ?_⟩) ?_ ?_
  rotate_left
  · intro w'; go_simp; try with_reducible rfl
  rotate_left
  · simp only [Act.put, List.setIfInBounds_toArray, List.set_cons_zero, List.set_cons_succ]; rfl
  refine take_ (i := 6) (N := some 42) (v := ?_) (a' := ?_) (bs 13 127) rfl rfl (by kernel_rfl) (fun _ _ _ h => h) (Or.inl ⟨by rfl, ?_⟩) hHeld ?_ ?_
  rotate_left
  · rintro w' ⟨s0, s1, s2⟩; go_simp; try with_reducible rfl
  rotate_left
  · simp only [Act.put, List.setIfInBounds_toArray, List.set_cons_zero, List.set_cons_succ]; rfl
  refine pure_ (i := 7) (N := some 43) (v := ?_) (a' := ?_) (bs 13 255) rfl rfl (by kernel_rfl) (fun _ _ _ h => h) (Or.inl ⟨by rfl, ?_⟩) ?_ ?_
  rotate_left
  · intro w'; go_simp; try with_reducible rfl
  rotate_left
  · simp only [Act.put, List.setIfInBounds_toArray, List.set_cons_zero, List.set_cons_succ]; rfl
  refine one_ (i := 8) (N := some 44) (bs 13 511) rfl rfl (by kernel_rfl) (by decide) (fun K hK => ?_)
  go_simp
  refine hK.out _ _ (keepS3 hHeld (below_alloc (Below.refl _ _) _)) (fun _ => ?_)
  clear hK K
  refine norm_ (a' := ?_) ?_ ?_
  rotate_left
  · rfl
  refine oneD_ (i := 9) (N := some 45) (bs 13 1023) rfl rfl (by kernel_rfl) (by decide) (fun K hK => ?_)
  have BL := Lib.hid (below_alloc BE.out (Obj.cells #[.int .i64 k, .int .i64 sp, .int .i64 n] 75))
  obtain ⟨u, w3, hrun, hcell, hfz, ⟨Au, cu, rfl⟩, hSt⟩ := (HST.out.on BL.out).coil hp (HL0.out.on BL.out) (g1 := Ws.heap.size) (p := ⟨k, ⟨sp, n⟩⟩) (Bx.new Ws _ _) (by rw [hr]; omega) 45
  rw [hm1] at hcell hfz hSt
  refine step_app (by rfl) rfl rfl rfl hrun ?_
  refine hK.out _ _ ?_
  clear hK K
  refine norm_ (a' := ?_) ?_ ?_
  rotate_left
  · show Act.put _ (some 45) _ = _; simp only [Act.put, List.setIfInBounds_toArray, List.set_cons_zero, List.set_cons_succ]; rfl
  refine pure_ (i := 10) (N := some 46) (v := ?_) (a' := ?_) (bs 13 2047) rfl rfl (by kernel_rfl) (fun _ _ _ h => h) (Or.inl ⟨by rfl, ?_⟩) ?_ ?_
  rotate_left
  · intro w'; go_simp; try with_reducible rfl
  rotate_left
  · simp only [Act.put, List.setIfInBounds_toArray, List.set_cons_zero, List.set_cons_succ]; rfl
  refine pure_ (i := 11) (N := some 47) (v := ?_) (a' := ?_) (bs 13 4095) rfl rfl (by kernel_rfl) (fun _ _ _ h => h) (Or.inl ⟨by rfl, ?_⟩) ?_ ?_
  rotate_left
  · intro w'; go_simp; try with_reducible rfl
  rotate_left
  · simp only [Act.put, List.setIfInBounds_toArray, List.set_cons_zero, List.set_cons_succ]; rfl
  refine oneD_ (i := 12) (N := none) (bs 13 8191) rfl rfl (by kernel_rfl) (by decide) (fun K hK => ?_)
  go_simp
  refine hK.out _ _ ?_
  clear hK K
  refine norm_ (a' := ?_) ?_ ?_
  rotate_left
  · rfl
  refine done_ (by kernel_rfl) ?_
  go_wp2
  go_ret
  rw [hr, List.length_append, List.length_singleton] at hSt
  exact ⟨rfl, hSt.did, fun _ => ⟨_, _, _, hSt⟩⟩
set_option maxRecDepth 100000 in
set_option maxHeartbeats 8000000 in
theorem rcontact_walk {B b : Nat} (s : PSt) (l : LN) (k : Int) (m g wb wo c : Nat) (v1 v2 vR vL vJ : Value) (w : World) (St : RSt B b s vR vL vJ w w) (hok : POk s) (hm : s.rungs.length = m + 1) (L0 : Lies B vR s.rungs g v1 v2 w)
    (hw : ∀ i, i < l.f1.length → w.cell? ⟨wb, wo + i, none⟩ = some (.string (wd l i))) (hn : l.f1.length = 4) (hz : ∀ x ∈ l.f1, x.size ≤ 65536) :
    Calls Tryz.prog 59 #[.pointer (some ⟨b, 0, none⟩), .pointer (some ⟨g, m * 4, none⟩), .int .i64 k, .slice (some ⟨wb, wo, none⟩) l.f1.length c] w (RPost B b w (contactP s l k)) := by
  have hp : 0 < s.rungs.length := by omega
  have hm1 : s.rungs.length - 1 = m := by omega
  obtain ⟨A1, c1, e1⟩ := L0.l1
  obtain ⟨A2, c2, e2⟩ := L0.l2
  subst e1 e2
  have k1 := L0.c1
  have k2 := L0.c2
  have k3 := L0.c3
  rw [hm1] at k1 k2 k3
  have hz1 : (wd l 1).size ≤ 65536 := hz _ (by unfold wd; rw [List.getD_eq_getElem?_getD, List.getElem?_eq_getElem (by omega)]; exact List.getElem_mem _)
  have HA := Lib.hid (fun W (hb : Below w.heap.size w W) => raddress_walk s (wd l 1) hz1 b W (pw_cell_below hb (St.bx.cell 0 _ rfl)) (pw_cell_below hb (St.bx.cell 1 _ rfl)) (pw_cell_below hb (St.bx.cell 2 _ rfl)))
  have x1 := hw 1 (by omega)
  have HF := Lib.hid (fun W (hb : Below w.heap.size w W) => And.intro (pw_cell_below hb k1) (And.intro (pw_cell_below hb (hw 2 (by omega))) (pw_cell_below hb (hw 3 (by omega)))))
  have HN2 := Lib.hid (fun W => ref_isname_calls (wd l 2) W)
  have HN3 := Lib.hid (fun W => ref_isname_calls (wd l 3) W)
  have HST := Lib.hid St
  have HL0 := Lib.hid L0
  have HB := Lib.hid St.base
  have hcl : (lastR s.rungs).f1.length ≤ 256 := hok.con _ (lastR_mem hp)
  unfold contactP
  generalize hr : lastR s.rungs = r at *
  have B0 := Lib.hid (Below.refl w.heap.size w)
  rw [hn]
  clear hz hz1 hw L0 St hok
  by_cases t0 : 0 < r.f2.length
  case pos =>
    rw [if_pos t0]
    have t0' : ¬ r.f2 = [] := fun e => by rw [e] at t0; exact absurd t0 (by decide)
    go_enter Tryz.func59, Tryz.ntmps59
    go_wp2
    go_ret
    exact RPost.bad (by decide) HB.out B0.out
  case neg =>
  rw [if_neg t0]
  have hnil : r.f2 = [] := List.eq_nil_of_length_eq_zero (by omega)
  by_cases t1 : 0 < r.f3.size
  case pos =>
    rw [if_pos t1]
    have q1 := size_pos (Nat.ne_of_gt t1)
    have q2 := list_pos (Nat.ne_of_gt t1)
    clear t1 t0
    go_enter Tryz.func59, Tryz.ntmps59
    go_wp2
    go_ret
    exact RPost.bad (by decide) HB.out B0.out
  case neg =>
  rw [if_neg t1]
  have q0 : r.f3.size = 0 := by omega
  have q1 := eq_true (size_nil q0)
  have q2 := list_nil q0
  clear t1 t0
  by_cases t2 : r.f1.length = 256
  case pos =>
    rw [if_pos t2]
    have t2' : decide ((256 : Int) ≤ ((r.f1.length : Nat) : Int)) = true := decide_eq_true (by omega)
    go_enter Tryz.func59, Tryz.ntmps59
    go_wp2
    go_ret
    exact RPost.bad (by decide) HB.out B0.out
  case neg =>
  rw [if_neg t2]
  have t2' : decide ((256 : Int) ≤ ((r.f1.length : Nat) : Int)) = false := decide_eq_false (by omega)
  unfold conAdd
  rw [hr]
  obtain ⟨⟨sp, n, er⟩, ep⟩ : ∃ p, p = addressP s (wd l 1) := ⟨_, rfl⟩
  rw [← ep] at HA ⊢
  clear ep
  simp only at HA ⊢
  by_cases t3 : er = 0
  case neg =>
    rw [if_pos t3]
    have t3' : (er != 0) = true := by rw [bne_iff_ne]; exact t3
    go_enter Tryz.func59, Tryz.ntmps59
    go_wp2_with (go_at_call 81; (with_reducible refine (HA.out _ B0.out).mono ?_); rintro e w2 ⟨rfl, hb⟩; have B2 := Lib.hid (below_step B0.out hb))
    go_ret
    exact RPost.bad t3 HB.out (below_alloc B2.out _)
  case pos =>
  subst t3
  rw [if_neg (by decide)]
  generalize hn2 : isName (wd l 2).data.toList = b2 at HN2 ⊢
  generalize hn3 : isName (wd l 3).data.toList = b3 at HN3 ⊢
  have HFA := Lib.hid (fun w2 (hb : Below w.heap.size w w2) => HF.out _ (below_alloc hb (Obj.cells #[.int .i64 sp, .int .i64 n] 49)))
  cases b2
  case false =>
    rw [if_pos rfl]
    go_enter Tryz.func59, Tryz.ntmps59
    go_wp2_with (first
      | (go_at_call 81; (with_reducible refine (HA.out _ B0.out).mono ?_); rintro e w2 ⟨rfl, hb⟩; have B2 := Lib.hid (below_alloc (below_step B0.out hb) (Obj.cells #[.int .i64 sp, .int .i64 n] 49)); obtain ⟨f1, x2, x3⟩ := HFA.out _ (below_step B0.out hb); clear hb)
      | (go_at_call 61; (with_reducible refine (HN2.out _).mono ?_); rintro e w3 ⟨rfl, hb⟩; have B3 := Lib.hid (below_step B2.out hb); clear hb))
    go_ret
    exact RPost.bad (by decide) HB.out B3.out
  case true =>
  rw [if_neg (by decide)]
  cases b3
  case false =>
    rw [if_pos rfl]
    go_enter Tryz.func59, Tryz.ntmps59
    go_wp2_with (first
      | (go_at_call 81; (with_reducible refine (HA.out _ B0.out).mono ?_); rintro e w2 ⟨rfl, hb⟩; have B2 := Lib.hid (below_alloc (below_step B0.out hb) (Obj.cells #[.int .i64 sp, .int .i64 n] 49)); obtain ⟨f1, x2, x3⟩ := HFA.out _ (below_step B0.out hb); clear hb)
      | (go_at_call 61; (with_reducible refine (HN2.out _).mono ?_); rintro e w3 ⟨rfl, hb⟩; have B3 := Lib.hid (below_step B2.out hb); obtain ⟨f1, x2, x3⟩ := HF.out _ B3.out; clear hb)
      | (go_at_call 61; (with_reducible refine (HN3.out _).mono ?_); rintro e w4 ⟨rfl, hb⟩; have B4 := Lib.hid (below_step B3.out hb); clear hb))
    go_ret
    exact RPost.bad (by decide) HB.out B4.out
  case true =>
  rw [if_neg (by decide)]
  go_enter Tryz.func59, Tryz.ntmps59
  go_wp2_with (first
    | (go_at_call 81; (with_reducible refine (HA.out _ B0.out).mono ?_); rintro e w2 ⟨rfl, hb⟩; have B2 := Lib.hid (below_alloc (below_step B0.out hb) (Obj.cells #[.int .i64 sp, .int .i64 n] 49)); have YB := Lib.hid (Bx.new w2 49 #[.int .i64 sp, .int .i64 n]); obtain ⟨f1, x2, x3⟩ := HFA.out _ (below_step B0.out hb); clear hb)
    | (go_at_call 61; (with_reducible refine (HN2.out _).mono ?_); rintro e w3 ⟨rfl, hb⟩; have B3 := Lib.hid (below_step B2.out hb); have YB3 := Lib.hid (YB.out.on hb); obtain ⟨f1, x2, x3⟩ := HF.out _ B3.out; clear hb)
    | (go_at_call 61; (with_reducible refine (HN3.out _).mono ?_); rintro e w4 ⟨rfl, hb⟩; have B4 := Lib.hid (below_step B3.out hb); have YB4 := Lib.hid (YB3.out.on hb); clear hb))
  have BE := Lib.hid (below_drew B4.out)
  have YE := YB4.out.drew
  refine start_ (n := 19) (S := fun w' => w'.cell? ⟨g, m * 4 + 1, none⟩ = some (.slice A1 r.f1.length c1) ∧ w'.cell? ⟨w2.heap.size, 0, none⟩ = some (.int .i64 sp) ∧ w'.cell? ⟨w2.heap.size, 1, none⟩ = some (.int .i64 n) ∧ w'.cell? ⟨wb, wo + 2, none⟩ = some (.string (wd l 2)) ∧ w'.cell? ⟨wb, wo + 3, none⟩ = some (.string (wd l 3))) (ds := [15, 18]) (bs 19 0) (by kernel_rfl) rfl (by kernel_rfl) (⟨(HF.out _ BE.out).1, YE.cell 0 _ rfl, YE.cell 1 _ rfl, (HF.out _ BE.out).2.1, (HF.out _ BE.out).2.2⟩) (fun hHeld => ?_)
  clear YE YB YB3 YB4; generalize w4.drew = Ws at hHeld BE ⊢
  refine pure_ (i := 0) (N := some 53) (v := ?_) (a' := ?_) (bs 19 1) rfl rfl (by kernel_rfl) (fun _ _ _ h => h) (Or.inl ⟨by rfl, ?_⟩) ?_ ?_
  rotate_left
  · intro w'; go_simp; try with_reducible rfl
  rotate_left
  · simp only [Act.put, List.setIfInBounds_toArray, List.set_cons_zero, List.set_cons_succ]; rfl
  refine pure_ (i := 1) (N := some 54) (v := ?_) (a' := ?_) (bs 19 3) rfl rfl (by kernel_rfl) (fun _ _ _ h => h) (Or.inl ⟨by rfl, ?_⟩) ?_ ?_
  rotate_left
  · intro w'; go_simp; try with_reducible rfl
  rotate_left
  · simp only [Act.put, List.setIfInBounds_toArray, List.set_cons_zero, List.set_cons_succ]; rfl
  refine pure_ (i := 2) (N := some 55) (v := ?_) (a' := ?_) (bs 19 7) rfl rfl (by kernel_rfl) (fun _ _ _ h => h) (Or.inl ⟨by rfl, ?_⟩) ?_ ?_
  rotate_left
  · intro w'; go_simp; try with_reducible rfl
  rotate_left
  · simp only [Act.put, List.setIfInBounds_toArray, List.set_cons_zero, List.set_cons_succ]; rfl
  refine pure_ (i := 3) (N := some 56) (v := ?_) (a' := ?_) (bs 19 15) rfl rfl (by kernel_rfl) (fun _ _ _ h => h) (Or.inl ⟨by rfl, ?_⟩) ?_ ?_
  rotate_left
  · intro w'; go_simp; try with_reducible rfl
  rotate_left
  · simp only [Act.put, List.setIfInBounds_toArray, List.set_cons_zero, List.set_cons_succ]; rfl
  refine take_ (i := 4) (N := some 57) (v := ?_) (a' := ?_) (bs 19 31) rfl rfl (by kernel_rfl) (fun _ _ _ h => h) (Or.inl ⟨by rfl, ?_⟩) hHeld ?_ ?_
  rotate_left
  · rintro w' ⟨s0, s1, s2, s3, s4⟩; go_simp; try with_reducible rfl
  rotate_left
  · simp only [Act.put, List.setIfInBounds_toArray, List.set_cons_zero, List.set_cons_succ]; rfl
  refine pure_ (i := 5) (N := some 58) (v := ?_) (a' := ?_) (bs 19 63) rfl rfl (by kernel_rfl) (fun _ _ _ h => h) (Or.inl ⟨by rfl, ?_⟩) ?_ ?_
  rotate_left
  · intro w'; go_simp; try with_reducible rfl
  rotate_left
  · simp only [Act.put, List.setIfInBounds_toArray, List.set_cons_zero, List.set_cons_succ]; rfl
  refine take_ (i := 6) (N := some 59) (v := ?_) (a' := ?_) (bs 19 127) rfl rfl (by kernel_rfl) (fun _ _ _ h => h) (Or.inl ⟨by rfl, ?_⟩) hHeld ?_ ?_
  rotate_left
  · rintro w' ⟨s0, s1, s2, s3, s4⟩; go_simp; try with_reducible rfl
  rotate_left
  · simp only [Act.put, List.setIfInBounds_toArray, List.set_cons_zero, List.set_cons_succ]; rfl
  refine pure_ (i := 7) (N := some 60) (v := ?_) (a' := ?_) (bs 19 255) rfl rfl (by kernel_rfl) (fun _ _ _ h => h) (Or.inl ⟨by rfl, ?_⟩) ?_ ?_
  rotate_left
  · intro w'; go_simp; try with_reducible rfl
  rotate_left
  · simp only [Act.put, List.setIfInBounds_toArray, List.set_cons_zero, List.set_cons_succ]; rfl
  refine pure_ (i := 8) (N := some 61) (v := ?_) (a' := ?_) (bs 19 511) rfl rfl (by kernel_rfl) (fun _ _ _ h => h) (Or.inl ⟨by rfl, ?_⟩) ?_ ?_
  rotate_left
  · intro w'; go_simp; try with_reducible rfl
  rotate_left
  · simp only [Act.put, List.setIfInBounds_toArray, List.set_cons_zero, List.set_cons_succ]; rfl
  refine take_ (i := 9) (N := some 62) (v := ?_) (a' := ?_) (bs 19 1023) rfl rfl (by kernel_rfl) (fun _ _ _ h => h) (Or.inl ⟨by rfl, ?_⟩) hHeld ?_ ?_
  rotate_left
  · rintro w' ⟨s0, s1, s2, s3, s4⟩; go_simp; try with_reducible rfl
  rotate_left
  · simp only [Act.put, List.setIfInBounds_toArray, List.set_cons_zero, List.set_cons_succ]; rfl
  refine pure_ (i := 10) (N := some 63) (v := ?_) (a' := ?_) (bs 19 2047) rfl rfl (by kernel_rfl) (fun _ _ _ h => h) (Or.inl ⟨by rfl, ?_⟩) ?_ ?_
  rotate_left
  · intro w'; go_simp; try with_reducible rfl
  rotate_left
  · simp only [Act.put, List.setIfInBounds_toArray, List.set_cons_zero, List.set_cons_succ]; rfl
  refine pure_ (i := 11) (N := some 64) (v := ?_) (a' := ?_) (bs 19 4095) rfl rfl (by kernel_rfl) (fun _ _ _ h => h) (Or.inl ⟨by rfl, ?_⟩) ?_ ?_
  rotate_left
  · intro w'; go_simp; try with_reducible rfl
  rotate_left
  · simp only [Act.put, List.setIfInBounds_toArray, List.set_cons_zero, List.set_cons_succ]; rfl
  refine take_ (i := 12) (N := some 65) (v := ?_) (a' := ?_) (bs 19 8191) rfl rfl (by kernel_rfl) (fun _ _ _ h => h) (Or.inl ⟨by rfl, ?_⟩) hHeld ?_ ?_
  rotate_left
  · rintro w' ⟨s0, s1, s2, s3, s4⟩; go_simp; try with_reducible rfl
  rotate_left
  · simp only [Act.put, List.setIfInBounds_toArray, List.set_cons_zero, List.set_cons_succ]; rfl
  refine pure_ (i := 13) (N := some 66) (v := ?_) (a' := ?_) (bs 19 16383) rfl rfl (by kernel_rfl) (fun _ _ _ h => h) (Or.inl ⟨by rfl, ?_⟩) ?_ ?_
  rotate_left
  · intro w'; go_simp; try with_reducible rfl
  rotate_left
  · simp only [Act.put, List.setIfInBounds_toArray, List.set_cons_zero, List.set_cons_succ]; rfl
  refine one_ (i := 14) (N := some 67) (bs 19 32767) rfl rfl (by kernel_rfl) (by decide) (fun K hK => ?_)
  go_simp
  refine hK.out _ _ (keepS5 hHeld (below_alloc (Below.refl _ _) _)) (fun _ => ?_)
  clear hK K
  refine norm_ (a' := ?_) ?_ ?_
  rotate_left
  · rfl
  refine oneD_ (i := 15) (N := some 68) (bs 19 65535) rfl rfl (by kernel_rfl) (by decide) (fun K hK => ?_)
  have BL := Lib.hid (below_alloc BE.out (Obj.cells #[.int .i64 k, .int .i64 sp, .int .i64 n, .string (wd l 2), .string (wd l 3)] 51))
  obtain ⟨u, w5, hrun, hcell, hfz, ⟨Au, cu, rfl⟩, hSt⟩ := (HST.out.on BL.out).contact hp (HL0.out.on BL.out) (g1 := Ws.heap.size) (p := ⟨k, ⟨sp, n⟩, wd l 2, wd l 3⟩) (Bx.new Ws _ _) (by rw [hr]; omega) 44
  rw [hm1] at hcell hfz hSt
  refine step_app (by rfl) rfl rfl rfl hrun ?_
  refine hK.out _ _ ?_
  clear hK K
  refine norm_ (a' := ?_) ?_ ?_
  rotate_left
  · show Act.put _ (some 68) _ = _; simp only [Act.put, List.setIfInBounds_toArray, List.set_cons_zero, List.set_cons_succ]; rfl
  refine pure_ (i := 16) (N := some 69) (v := ?_) (a' := ?_) (bs 19 131071) rfl rfl (by kernel_rfl) (fun _ _ _ h => h) (Or.inl ⟨by rfl, ?_⟩) ?_ ?_
  rotate_left
  · intro w'; go_simp; try with_reducible rfl
  rotate_left
  · simp only [Act.put, List.setIfInBounds_toArray, List.set_cons_zero, List.set_cons_succ]; rfl
  refine pure_ (i := 17) (N := some 70) (v := ?_) (a' := ?_) (bs 19 262143) rfl rfl (by kernel_rfl) (fun _ _ _ h => h) (Or.inl ⟨by rfl, ?_⟩) ?_ ?_
  rotate_left
  · intro w'; go_simp; try with_reducible rfl
  rotate_left
  · simp only [Act.put, List.setIfInBounds_toArray, List.set_cons_zero, List.set_cons_succ]; rfl
  refine oneD_ (i := 18) (N := none) (bs 19 524287) rfl rfl (by kernel_rfl) (by decide) (fun K hK => ?_)
  go_simp
  refine hK.out _ _ ?_
  clear hK K
  refine norm_ (a' := ?_) ?_ ?_
  rotate_left
  · rfl
  refine done_ (by kernel_rfl) ?_
  go_wp2
  go_ret
  rw [hr, List.length_append, List.length_singleton, hnil] at hSt
  exact ⟨rfl, hSt.did, fun _ => ⟨_, _, _, hSt⟩⟩
end Go.Proofs.YtdbjjbooalkkbaaGreatDoor.P

/- The reference's parser: the method size. -/
set_option linter.unusedVariables false
set_option linter.unusedSimpArgs false
namespace Go.Proofs.YtdbjjbooalkkbaaGreatDoor.P
open Go.RowKit Go.Shelf Go.Proofs.YtdbjjbooalkkbaaGreatDoorW.PrintWords Go.Proofs.YtdbjjbooalkkbaaGreatDoorW.PrintLast Go.Proofs.YtdbjjbooalkkbaaGreatDoorW.PrintMore

def arN (l : LN) : Nat → Array Value
  | 0 => #[.int .i64 0, .int .i64 0, .int .i64 0]
  | 1 => #[.int .i64 (numW l 1).1, .int .i64 0, .int .i64 0]
  | 2 => #[.int .i64 (numW l 1).1, .int .i64 (numW l 2).1, .int .i64 0]
  | _ => #[.int .i64 (numW l 1).1, .int .i64 (numW l 2).1, .int .i64 (numW l 3).1]
theorem RPost.bad' {B b : Nat} {w0 w' : World} {x : Int} {s : PSt} (hx : x ≠ 0) (hd : Did B b w0 w') : RPost B b w0 (x, s) (.returned (.int .i64 x)) w' := ⟨rfl, hd, fun h => absurd h hx⟩
/-- A cell of a block that came up since is written. -/
theorem Stage.other {B b t : Nat} {cs : Array Value} {w0 w : World} {vR vL vJ : Value} {xs : List SR} {ls js : List Int} {lits : List (Nat × Nat × Array Value)} (h : Stage B b t cs w0 vR xs vL ls vJ js lits w) {g t' : Nat} {cs' : Array Value} (hb : Bx g t' cs' w)
    (hg : w0.heap.size ≤ g) (hB : B ≤ w0.heap.size) (hgb : b ≠ g) (ht : rowT t' = false) (j : Nat) (v : Value) : Stage B b t cs w0 vR xs vL ls vJ js [] (w.setCell ⟨g, j, none⟩ v) :=
  ⟨h.bx.far (p := ⟨g, j, none⟩) hgb v, h.le, h.ty, ⟨h.did.below.setCell (Nat.le_trans hB hg) v, fun k o hk hkb hr => by
    have hlt : k < w0.heap.size := (Array.getElem?_eq_some_iff.1 hk).1
    exact (Below.heap_setCell w ⟨g, j, none⟩ v k (by show k ≠ g; omega)).trans (h.did.kept k o hk hkb hr)⟩,
   Kd.S_set h.R hb.out (neR ht) j v, Kd.R_set h.L hb.out (neI' ht) j v, Kd.R_set h.J hb.out (neI' ht) j v, h.ne, fun _ hp => by cases hp⟩
set_option maxRecDepth 100000 in
set_option maxHeartbeats 8000000 in
theorem rsize_walk {B b : Nat} (s : PSt) (l : LN) (wb wo c : Nat) (vR vL vJ : Value) (w : World) (St : RSt B b s vR vL vJ w w)
    (hw : ∀ i, i < l.f1.length → w.cell? ⟨wb, wo + i, none⟩ = some (.string (wd l i))) (hn : l.f1.length = 4) (hz : ∀ x ∈ l.f1, x.size ≤ 65536) (hwb : wb < B) :
    Calls Tryz.prog 57 #[.pointer (some ⟨b, 0, none⟩), .slice (some ⟨wb, wo, none⟩) l.f1.length c] w (RPost B b w (sizeP s l)) := by
  have hbx : b ≠ w.heap.size := Nat.ne_of_lt St.bx.lt
  have hbx' : w.heap.size ≠ b := Ne.symm hbx
  have hbl := Lib.hid St.bx.lt
  have kb6 : w.cell? ⟨b, 6, none⟩ = some (.bool s.sized) := St.bx.cell 6 _ rfl
  have HF := Lib.hid (fun W (hb : Below B w W) => And.intro ((hb.cell (p := ⟨wb, wo + 1, none⟩) hwb).trans (hw 1 (by omega))) (And.intro ((hb.cell (p := ⟨wb, wo + 2, none⟩) hwb).trans (hw 2 (by omega))) ((hb.cell (p := ⟨wb, wo + 3, none⟩) hwb).trans (hw 3 (by omega)))))
  have hzi : ∀ i, i < 4 → (wd l i).size ≤ 65536 := fun i hi => hz (wd l i) (by unfold wd; rw [List.getD_eq_getElem?_getD, List.getElem?_eq_getElem (by omega)]; exact List.getElem_mem _)
  have HN := Lib.hid (fun i (hi : i < 4) W => show Calls Tryz.prog 80 #[.string (wd l i), .int .i64 256] W fun e w' => e = .returned (.tuple #[.int .i64 (numW l i).1, .int .i64 (numW l i).2]) ∧ Below W.heap.size W w' from ref_number_calls (wd l i) (hzi i hi) W)
  have HST := Lib.hid St
  have HB := Lib.hid St.base
  have B0 := Lib.hid (Below.refl w.heap.size w)
  rw [hn]
  clear hw hwb hz hzi
  by_cases hs : s.sized = true
  case pos =>
    unfold sizeP
    rw [if_pos hs]
    rw [hs] at kb6
    clear St
    go_enter Tryz.func57, Tryz.ntmps57
    go_wp2
    go_ret
    exact RPost.bad (by decide) HB.out B0.out
  case neg =>
  have hs : s.sized = false := by simpa using hs
  have hR := sizeP_num s l hs
  obtain ⟨R, eR⟩ : ∃ R, R = sizeP s l := ⟨_, rfl⟩
  rw [← eR] at hR ⊢
  have HR := Lib.hid hR
  rw [hs] at kb6
  have HS0 := Lib.hid (St.alloc (Obj.cells #[.int .i64 0, .int .i64 0, .int .i64 0] 135))
  have AR0 := Lib.hid (Bx.new w 135 #[.int .i64 0, .int .i64 0, .int .i64 0])
  clear St hR eR
  go_enter Tryz.func57, Tryz.ntmps57
  go_wp2
  go_loopw [6] (fun i wr => ∃ k : Nat, k ≤ 3 ∧ i = .int .i64 k ∧ Hid (∀ j, 1 ≤ j → j ≤ k → (numW l j).2 = 0) ∧ Hid (RSt B b s vR vL vJ w wr) ∧ Hid (Bx w.heap.size 135 (arN l k) wr)) (fun i _ => 3 - (intOf i).toNat)
  case atStart => exact ⟨0, by omega, rfl, Lib.hid (fun j h1 h2 => by omega), HS0, AR0⟩
  case round =>
    clear kb6
    obtain ⟨k, hk, rfl, HK, HSt, HAr⟩ := hrel
    by_cases h3 : k = 3
    · subst h3
      have hR : R = (0, { skP s l 3 with sized := true }) := by
        rw [HR.out, if_neg (by have := HK.out 1 (by omega) (by omega); omega), if_neg (by have := HK.out 2 (by omega) (by omega); omega), if_neg (by have := HK.out 3 (by omega) (by omega); omega)]
      subst hR
      have c0 := HSt.out.bx.cell 0 (.int .i64 s.I) rfl
      have c1 := HSt.out.bx.cell 1 (.int .i64 s.Q) rfl
      have c2 := HSt.out.bx.cell 2 (.int .i64 s.M) rfl
      have c6 := HSt.out.bx.cell 6 (.bool s.sized) rfl
      have z0 := HSt.out.bx.frozen 0
      have z1 := HSt.out.bx.frozen 1
      have z2 := HSt.out.bx.frozen 2
      have z6 := HSt.out.bx.frozen 6
      have a0 := HAr.out.cell 0 (.int .i64 (numW l 1).1) rfl
      have a1 := HAr.out.cell 1 (.int .i64 (numW l 2).1) rfl
      have a2 := HAr.out.cell 2 (.int .i64 (numW l 3).1) rfl
      have HE := Lib.hid ((((HSt.out.put 6 (.bool true)).put 0 (.int .i64 (numW l 1).1)).put 1 (.int .i64 (numW l 2).1)).put 2 (.int .i64 (numW l 3).1))
      clear HR HK
      go_wp2
      go_ret
      exact ⟨rfl, HE.out.did, fun _ => ⟨_, _, _, HE.out⟩⟩
    · obtain ⟨x1, x2, x3⟩ := HF.out _ HSt.out.did.below
      have hk3 : k = 0 ∨ k = 1 ∨ k = 2 := by omega
      rcases hk3 with rfl | rfl | rfl
      all_goals
        go_upto_if 27 with (go_at_call 80; first
          | ((with_reducible refine (HN.out 1 (by omega) _).mono ?_); rintro e w4 ⟨rfl, hb⟩; have HSt4 := Lib.hid (HSt.out.on hb); have HAr4 := Lib.hid (HAr.out.on hb); clear hb)
          | ((with_reducible refine (HN.out 2 (by omega) _).mono ?_); rintro e w4 ⟨rfl, hb⟩; have HSt4 := Lib.hid (HSt.out.on hb); have HAr4 := Lib.hid (HAr.out.on hb); clear hb)
          | ((with_reducible refine (HN.out 3 (by omega) _).mono ?_); rintro e w4 ⟨rfl, hb⟩; have HSt4 := Lib.hid (HSt.out.on hb); have HAr4 := Lib.hid (HAr.out.on hb); clear hb))
      · by_cases ht : (numW l 1).2 = 0
        · have ht' : ((numW l 1).2 != 0) = false := by rw [ht]; rfl
          have d0 := HAr4.out.cell 0 (.int .i64 0) rfl
          have f0 := HAr4.out.frozen 0
          have HSt5 := Lib.hid (HSt4.out.other HAr4.out (Nat.le_refl _) HB.out hbx (by decide) 0 (.int .i64 (numW l 1).1))
          have HAr5 := Lib.hid (HAr4.out.put 0 (.int .i64 (numW l 1).1))
          go_wp2
          go_roundw
          case rel => exact ⟨1, by omega, rfl, Lib.hid (fun j h1 h2 => if hj : j = 1 then hj ▸ ht else HK.out j h1 (by omega)), HSt5, HAr5⟩
          case measure => simp [intOf]
        · have ht' : ((numW l 1).2 != 0) = true := by rw [bne_iff_ne]; exact ht
          have hR : R = ((numW l 1).2, s) := by
            rw [HR.out]
            exact if_pos ht
          subst hR
          go_wp2
          go_ret
          exact RPost.bad' ht HSt4.out.did
      · by_cases ht : (numW l 2).2 = 0
        · have ht' : ((numW l 2).2 != 0) = false := by rw [ht]; rfl
          have d0 := HAr4.out.cell 1 (.int .i64 0) rfl
          have f0 := HAr4.out.frozen 1
          have HSt5 := Lib.hid (HSt4.out.other HAr4.out (Nat.le_refl _) HB.out hbx (by decide) 1 (.int .i64 (numW l 2).1))
          have HAr5 := Lib.hid (HAr4.out.put 1 (.int .i64 (numW l 2).1))
          go_wp2
          go_roundw
          case rel => exact ⟨2, by omega, rfl, Lib.hid (fun j h1 h2 => if hj : j = 2 then hj ▸ ht else HK.out j h1 (by omega)), HSt5, HAr5⟩
          case measure => simp [intOf]
        · have ht' : ((numW l 2).2 != 0) = true := by rw [bne_iff_ne]; exact ht
          have hR : R = ((numW l 2).2, s) := by
            rw [HR.out]
            rw [if_neg (by have := HK.out 1 (by omega) (by omega); omega)]
            exact if_pos ht
          subst hR
          go_wp2
          go_ret
          exact RPost.bad' ht HSt4.out.did
      · by_cases ht : (numW l 3).2 = 0
        · have ht' : ((numW l 3).2 != 0) = false := by rw [ht]; rfl
          have d0 := HAr4.out.cell 2 (.int .i64 0) rfl
          have f0 := HAr4.out.frozen 2
          have HSt5 := Lib.hid (HSt4.out.other HAr4.out (Nat.le_refl _) HB.out hbx (by decide) 2 (.int .i64 (numW l 3).1))
          have HAr5 := Lib.hid (HAr4.out.put 2 (.int .i64 (numW l 3).1))
          go_wp2
          go_roundw
          case rel => exact ⟨3, by omega, rfl, Lib.hid (fun j h1 h2 => if hj : j = 3 then hj ▸ ht else HK.out j h1 (by omega)), HSt5, HAr5⟩
          case measure => simp [intOf]
        · have ht' : ((numW l 3).2 != 0) = true := by rw [bne_iff_ne]; exact ht
          have hR : R = ((numW l 3).2, s) := by
            rw [HR.out]
            rw [if_neg (by have := HK.out 1 (by omega) (by omega); omega), if_neg (by have := HK.out 2 (by omega) (by omega); omega)]
            exact if_pos ht
          subst hR
          go_wp2
          go_ret
          exact RPost.bad' ht HSt4.out.did
end Go.Proofs.YtdbjjbooalkkbaaGreatDoor.P

/- The reference's parser: the method rung. -/
set_option linter.unusedVariables false
set_option linter.unusedSimpArgs false
namespace Go.Proofs.YtdbjjbooalkkbaaGreatDoor.P
open Go.RowKit Go.Shelf Go.Proofs.YtdbjjbooalkkbaaGreatDoorW.PrintWords Go.Proofs.YtdbjjbooalkkbaaGreatDoorW.PrintLast Go.Proofs.YtdbjjbooalkkbaaGreatDoorW.PrintMore

theorem seq_app {P : Program} {ops : Array Oper} {o : Oper} {rest : List Oper} {a : Act} {Q : Exit → Act → World → Prop} {W : World} {s x : Operand} {t : TypeId} {v u : Value} (hg : o.guard = none) (ho : o.op = .call { callee := .builtin .append, args := #[s, x], argTypes := #[t, t] }) (hs : a.eval s = v) (hx : a.eval x = u)
    {v1 : Value} {w1 : World} (hr : (Builtin.append_ #[t, t] o.type #[v, u]).run P W = .ok v1 w1) (h : wpList P ops Q rest (a.put o.dst v1) w1) : wpList P ops Q (o :: rest) a W := by
  refine Kd.event_run hg ?_ h
  unfold execOp
  simp only [ho, resolve, invoke, builtin, Sem.run_bind, Sem.run_pure, Result.andThen_ok, List.map_toArray, List.map_cons, List.map_nil, hs, hx, hr]
set_option maxRecDepth 100000 in
set_option maxHeartbeats 16000000 in
theorem rrung_walk {B b : Nat} (s : PSt) (l : LN) (wb wo c : Nat) (vR vL vJ : Value) (w : World) (St : RSt B b s vR vL vJ w w) (hok : POk s)
    (hw : ∀ i, i < l.f1.length → w.cell? ⟨wb, wo + i, none⟩ = some (.string (wd l i))) (hn : l.f1.length = 1 ∨ l.f1.length = 2) :
    Calls Tryz.prog 58 #[.pointer (some ⟨b, 0, none⟩), .slice (some ⟨wb, wo, none⟩) l.f1.length c, .int .i64 l.f0] w (RPost B b w (beginP s l)) := by
  obtain ⟨AR, cR, rfl, hlR, hCR⟩ := Kd.S_reads St.R
  obtain ⟨nL, AL, cL, rfl⟩ := sl_R St.L
  obtain ⟨nJ, AJ, cJ, rfl⟩ := sl_R St.J
  have kb3 : w.cell? ⟨b, 3, none⟩ = some (.slice AR s.rungs.length cR) := St.bx.cell 3 _ rfl
  have hbx := St.bx.lt
  have HST := Lib.hid St
  have HB := Lib.hid St.base
  have HCR := Lib.hid hCR
  have B0 := Lib.hid (Below.refl w.heap.size w)
  obtain ⟨R, hR⟩ : ∃ R, R = beginP s l := ⟨_, rfl⟩
  rw [← hR]
  have HR := Lib.hid hR
  have hr64 := hok.rungs
  clear hR St hCR
  obtain ⟨nw, hq⟩ : ∃ nw, l.f1.length = nw := ⟨_, rfl⟩
  have HQ := Lib.hid hq
  rw [hq] at hn hw ⊢
  clear hq
  go_enter Tryz.func58, Tryz.ntmps58
  go_upto_if 12 with fail
  go_cut [] (fun wc => ∃ lab, Hid (R = if s.rungs.length = 64 then (10, s) else (0, addP s l.f0 lab)) ∧ Hid (Below w.heap.size w wc) ∧ Hid (Bx w.heap.size 47 (litR lab).toArray wc))
  case first =>
    have RN := fun lab => Lib.hid (show Bx w.heap.size 47 (litR lab).toArray (w.alloc (Obj.cells (litR lab).toArray 47)) from Bx.new _ _ _)
    rcases hn with rfl | rfl
    · have ht : decide ((1 : Int) < ((1 : Nat) : Int)) = false := decide_eq_false (by omega)
      have HR' := Lib.hid (show R = if s.rungs.length = 64 then (10, s) else (0, addP s l.f0 ⟨#[]⟩) from by rw [HR.out]; unfold beginP; rw [if_neg (by have := HQ.out; omega)])
      rw [ht]
      go_wp2
      go_meet
      case rel => exact ⟨⟨#[]⟩, HR', Lib.hid (below_alloc B0.out _), RN _⟩
    · have ht : decide ((1 : Int) < ((2 : Nat) : Int)) = true := decide_eq_true (by omega)
      have HR' := Lib.hid (show R = (if isName (wd l 1).data.toList = false then (6, s) else if hasLabel s.rungs (wd l 1) = true then (9, s) else if s.rungs.length = 64 then (10, s) else (0, addP s l.f0 (wd l 1))) from by rw [HR.out]; unfold beginP; rw [if_pos (by have := HQ.out; omega)])
      rw [ht]
      have BA := Lib.hid (below_alloc B0.out (Obj.cells #[.string ⟨#[]⟩, .slice none 0 0, .slice none 0 0, .string ⟨#[]⟩] 47))
      have hw1 := hw 1 (by omega)
      have x1 := pw_cell_below BA.out hw1
      have HN1 := Lib.hid (fun W => ref_isname_calls (wd l 1) W)
      generalize hn2 : isName (wd l 1).data.toList = b2 at HN1 HR'
      cases b2
      · have hR : R = (6, s) := HR'.out
        subst hR
        clear HR' HR
        go_wp2_with (go_at_call 61; (with_reducible refine (HN1.out _).mono ?_); rintro e w3 ⟨rfl, hb⟩; have B3 := Lib.hid (below_step BA.out hb); clear hb)
        go_ret
        exact RPost.bad (by decide) HB.out B3.out
      · have HR2 := Lib.hid (show R = (if hasLabel s.rungs (wd l 1) = true then (9, s) else if s.rungs.length = 64 then (10, s) else (0, addP s l.f0 (wd l 1))) from HR'.out)
        clear HR' HR
        go_wp2_with (go_at_call 61; (with_reducible refine (HN1.out _).mono ?_); rintro e w3 ⟨rfl, hb⟩; have B3 := Lib.hid (below_step BA.out hb); have R3 := Lib.hid ((RN ⟨#[]⟩).out.on hb); have k3 := pw_cell_below B3.out kb3; have y1 := pw_cell_below B3.out hw1; clear hb)
        go_loopw [8] (fun i wr => ∃ k : Nat, k ≤ s.rungs.length ∧ i = .int .i64 k ∧ Hid (hasLabel s.rungs (wd l 1) = hasLabel (s.rungs.drop k) (wd l 1)) ∧ Hid (Below w3.heap.size w3 wr)) (fun i _ => s.rungs.length - (intOf i).toNat)
        case atStart => exact ⟨0, Nat.zero_le _, rfl, Lib.hid rfl, Lib.hid (Below.refl _ _)⟩
        case round =>
          obtain ⟨k, hk, rfl, HK, HBq⟩ := hrel
          have BW := Lib.hid (below_step B3.out HBq.out)
          have RW := Lib.hid (R3.out.on HBq.out)
          replace k3 := pw_cell_below HBq.out k3
          replace y1 := pw_cell_below HBq.out y1
          by_cases hlt : k < s.rungs.length
          · obtain ⟨ad, A1, cp, A2, cp2, rfl, h0, h1, h2, h3, _⟩ := at_T47 HCR.out (k : Int) (by omega) (by omega)
            rw [rd_rung hlt] at h0 h1 h2 h3
            rw [Int.toNat_natCast] at h0 h1 h2 h3
            replace h0 := pw_cell_below BW.out h0
            have hs : hasLabel (s.rungs.drop k) (wd l 1) = (s.rungs[k].f0.toList == (wd l 1).toList || hasLabel (s.rungs.drop (k + 1)) (wd l 1)) := by
              rw [List.drop_eq_getElem_cons hlt]
              rfl
            generalize s.rungs[k] = r at h0 h1 h2 h3 hs
            clear h1 h2 h3
            have hqk : decide ((k : Int) < (s.rungs.length : Int)) = true := decide_eq_true (by omega)
            have hql : (k : Int) < (s.rungs.length : Int) := by omega
            have hq0 : (0 : Int) ≤ (k : Int) := by omega
            have hwr : wrap64 ((k : Int) + 1) = ((k + 1 : Nat) : Int) := by unfold wrap64; omega
            have HV := Lib.hid (And.intro hwr hlt)
            by_cases he : r.f0.toList = (wd l 1).toList
            · have he' : (r.f0.toList == (wd l 1).toList) = true := beq_iff_eq.2 he
              have hR : R = (9, s) := by rw [HR2.out, HK.out, hs, he', Bool.true_or, if_pos rfl]
              subst hR
              clear HR2 HK hs hwr he
              go_wp2
              go_region_held3 (fun w' => w'.cell? ⟨b, 3, none⟩ = some (.slice (some ad) s.rungs.length cR) ∧ w'.cell? (ad.add (k * 4)) = some (.string r.f0) ∧ w'.cell? ⟨wb, wo + 1, none⟩ = some (.string (wd l 1))) (go_keep) (fail)
              go_wp2
              go_ret
              exact RPost.bad (by decide) HB.out (pw_below_drewN BW.out _)
            · have he' : (r.f0.toList == (wd l 1).toList) = false := beq_eq_false_iff_ne.2 he
              have HK2 := Lib.hid (show hasLabel s.rungs (wd l 1) = hasLabel (s.rungs.drop (k + 1)) (wd l 1) by rw [HK.out, hs, he', Bool.false_or])
              clear HR2 HK hs hwr he
              go_wp2
              go_region_held3 (fun w' => w'.cell? ⟨b, 3, none⟩ = some (.slice (some ad) s.rungs.length cR) ∧ w'.cell? (ad.add (k * 4)) = some (.string r.f0) ∧ w'.cell? ⟨wb, wo + 1, none⟩ = some (.string (wd l 1))) (go_keep) (fail)
              go_wp2
              go_roundw
              case rel => exact ⟨k + 1, by omega, by rw [Int.natCast_add]; rfl, HK2, Lib.hid (pw_below_drewN HBq.out _)⟩
              case measure => simp [intOf]; omega
          · have hqk : decide ((k : Int) < (s.rungs.length : Int)) = false := decide_eq_false (by omega)
            have HR3 := Lib.hid (show R = if s.rungs.length = 64 then (10, s) else (0, addP s l.f0 (wd l 1)) by rw [HR2.out, HK.out, List.drop_of_length_le (by omega)]; exact if_neg (by show ¬ (false = true); decide))
            have r0 := RW.out.cell 0 (.string ⟨#[]⟩) rfl
            have f0 := RW.out.frozen 0
            have RE := Lib.hid (RW.out.put 0 (.string (wd l 1)))
            clear HR2 HK
            go_wp2
            go_meet
            case rel => exact ⟨wd l 1, HR3, Lib.hid (below_set BW.out (Nat.le_refl _)), RE⟩
  case rest =>
    clear hw hn HR
    obtain ⟨lab, HRL, BC, RC⟩ := hcut
    have k3 := pw_cell_below BC.out kb3
    by_cases t64 : s.rungs.length = 64
    · have hR : R = (10, s) := by rw [HRL.out, if_pos t64]
      subst hR
      have t64' : decide ((64 : Int) ≤ ((s.rungs.length : Nat) : Int)) = true := decide_eq_true (by omega)
      go_wp2
      go_ret
      exact RPost.bad (by decide) HB.out BC.out
    · have t64' : decide ((64 : Int) ≤ ((s.rungs.length : Nat) : Int)) = false := decide_eq_false (by omega)
      have hR : R = (0, addP s l.f0 lab) := by rw [HRL.out, if_neg t64]
      subst hR
      clear HRL
      go_wp2
      have hR64 : s.rungs.length ≤ 1000000 := by omega
      have hL64 : s.lines.length ≤ 1000000 := by have := hok.lines; omega
      have hJ64 : s.jumps.length ≤ 1000000 := by have := hok.jumps; omega
      have BE := Lib.hid (below_drew BC.out)
      have RD := RC.out.drew
      refine start_ (n := 13) (S := fun w' => w'.cell? ⟨b, 3, none⟩ = some (.slice AR s.rungs.length cR) ∧ w'.cell? ⟨w.heap.size, 0, none⟩ = some (.string lab) ∧ w'.cell? ⟨w.heap.size, 1, none⟩ = some (.slice none 0 0) ∧ w'.cell? ⟨w.heap.size, 2, none⟩ = some (.slice none 0 0) ∧ w'.cell? ⟨w.heap.size, 3, none⟩ = some (.string ⟨#[]⟩)) (ds := [8, 12]) (bs 13 0) (by kernel_rfl) rfl (by kernel_rfl) (⟨pw_cell_below BE.out kb3, RD.cell 0 _ rfl, RD.cell 1 _ rfl, RD.cell 2 _ rfl, RD.cell 3 _ rfl⟩) (fun hHeld => ?_)
      clear RD k3; generalize wc.drew = Ws at hHeld BE ⊢
      refine pure_ (i := 0) (N := some 52) (v := ?_) (a' := ?_) (bs 13 1) rfl rfl (by kernel_rfl) (fun _ _ _ h => h) (Or.inl ⟨by rfl, ?_⟩) ?_ ?_
      rotate_left
      · intro w'; go_simp; try with_reducible rfl
      rotate_left
      · simp only [Act.put, List.setIfInBounds_toArray, List.set_cons_zero, List.set_cons_succ]; rfl
      refine pure_ (i := 1) (N := some 53) (v := ?_) (a' := ?_) (bs 13 3) rfl rfl (by kernel_rfl) (fun _ _ _ h => h) (Or.inl ⟨by rfl, ?_⟩) ?_ ?_
      rotate_left
      · intro w'; go_simp; try with_reducible rfl
      rotate_left
      · simp only [Act.put, List.setIfInBounds_toArray, List.set_cons_zero, List.set_cons_succ]; rfl
      refine pure_ (i := 2) (N := some 54) (v := ?_) (a' := ?_) (bs 13 7) rfl rfl (by kernel_rfl) (fun _ _ _ h => h) (Or.inl ⟨by rfl, ?_⟩) ?_ ?_
      rotate_left
      · intro w'; go_simp; try with_reducible rfl
      rotate_left
      · simp only [Act.put, List.setIfInBounds_toArray, List.set_cons_zero, List.set_cons_succ]; rfl
      refine pure_ (i := 3) (N := some 55) (v := ?_) (a' := ?_) (bs 13 15) rfl rfl (by kernel_rfl) (fun _ _ _ h => h) (Or.inl ⟨by rfl, ?_⟩) ?_ ?_
      rotate_left
      · intro w'; go_simp; try with_reducible rfl
      rotate_left
      · simp only [Act.put, List.setIfInBounds_toArray, List.set_cons_zero, List.set_cons_succ]; rfl
      refine pure_ (i := 4) (N := some 56) (v := ?_) (a' := ?_) (bs 13 31) rfl rfl (by kernel_rfl) (fun _ _ _ h => h) (Or.inl ⟨by rfl, ?_⟩) ?_ ?_
      rotate_left
      · intro w'; go_simp; try with_reducible rfl
      rotate_left
      · simp only [Act.put, List.setIfInBounds_toArray, List.set_cons_zero, List.set_cons_succ]; rfl
      refine take_ (i := 5) (N := some 57) (v := ?_) (a' := ?_) (bs 13 63) rfl rfl (by kernel_rfl) (fun _ _ _ h => h) (Or.inl ⟨by rfl, ?_⟩) hHeld ?_ ?_
      rotate_left
      · rintro w' ⟨s0, s1, s2, s3, s4⟩; go_simp; try with_reducible rfl
      rotate_left
      · simp only [Act.put, List.setIfInBounds_toArray, List.set_cons_zero, List.set_cons_succ]; rfl
      refine take_ (i := 6) (N := some 58) (v := ?_) (a' := ?_) (bs 13 127) rfl rfl (by kernel_rfl) (fun _ _ _ h => h) (Or.inl ⟨by rfl, ?_⟩) hHeld ?_ ?_
      rotate_left
      · rintro w' ⟨s0, s1, s2, s3, s4⟩; go_simp; try with_reducible rfl
      rotate_left
      · simp only [Act.put, List.setIfInBounds_toArray, List.set_cons_zero, List.set_cons_succ]; rfl
      refine one_ (i := 7) (N := some 59) (bs 13 255) rfl rfl (by kernel_rfl) (by decide) (fun K hK => ?_)
      go_simp
      refine hK.out _ _ (keepS5 hHeld (below_alloc (Below.refl _ _) _)) (fun _ => ?_)
      clear hK K
      refine norm_ (a' := ?_) ?_ ?_
      rotate_left
      · rfl
      refine oneD_ (i := 8) (N := some 60) (bs 13 511) rfl rfl (by kernel_rfl) (by decide) (fun K hK => ?_)
      have S1 := (HST.out.on BE.out).made 47 (litR lab).toArray
      obtain ⟨u, w3, hrun, S2⟩ := S1.appR (l := lab) List.mem_cons_self hR64 23
      refine step_app (by rfl) rfl rfl rfl hrun ?_
      refine hK.out _ _ ?_
      clear hK K
      refine norm_ (a' := ?_) ?_ ?_
      rotate_left
      · show Act.put _ (some 60) _ = _; simp only [Act.put, List.setIfInBounds_toArray, List.set_cons_zero, List.set_cons_succ]; rfl
      obtain ⟨n1, A1, c1, rfl⟩ := sl_S S2.R
      have z3 := S2.bx.cell 3 _ rfl
      have f3 := S2.bx.frozen 3
      refine pure_ (i := 9) (N := some 61) (v := ?_) (a' := ?_) (bs 13 1023) rfl rfl (by kernel_rfl) (fun _ _ _ h => h) (Or.inl ⟨by rfl, ?_⟩) ?_ ?_
      rotate_left
      · intro w'; go_simp; try with_reducible rfl
      rotate_left
      · simp only [Act.put, List.setIfInBounds_toArray, List.set_cons_zero, List.set_cons_succ]; rfl
      refine pure_ (i := 10) (N := some 62) (v := ?_) (a' := ?_) (bs 13 2047) rfl rfl (by kernel_rfl) (fun _ _ _ h => h) (Or.inl ⟨by rfl, ?_⟩) ?_ ?_
      rotate_left
      · intro w'; go_simp; try with_reducible rfl
      rotate_left
      · simp only [Act.put, List.setIfInBounds_toArray, List.set_cons_zero, List.set_cons_succ]; rfl
      refine pure_ (i := 11) (N := some 63) (v := ?_) (a' := ?_) (bs 13 4095) rfl rfl (by kernel_rfl) (fun _ _ _ h => h) (Or.inl ⟨by rfl, ?_⟩) ?_ ?_
      rotate_left
      · intro w'; go_simp; try with_reducible rfl
      rotate_left
      · simp only [Act.put, List.setIfInBounds_toArray, List.set_cons_zero, List.set_cons_succ]; rfl
      refine oneD_ (i := 12) (N := none) (bs 13 8191) rfl rfl (by kernel_rfl) (by decide) (fun K hK => ?_)
      go_simp
      refine hK.out _ _ ?_
      clear hK K
      refine norm_ (a' := ?_) ?_ ?_
      rotate_left
      · rfl
      refine done_ (by kernel_rfl) ?_
      have S3 := S2.put 3 (.slice A1 n1 c1)
      have k4 := S3.bx.cell 4 _ rfl
      clear hHeld z3 f3 hrun S1
      go_wp2_with (first
        | ((with_reducible refine gate_builtin (b := .append) (xs := #[.tmp 68, .tmp 70]) rfl ?_); at_builtin; obtain ⟨u2, w4, hrun2, S5⟩ := (S3.made 3 #[.int .i64 l.f0]).appL (x := l.f0) List.mem_cons_self hL64 26; obtain ⟨n2, A2, c2, rfl⟩ := sl_R S5.L; have y4 := S5.bx.cell 4 _ rfl; have f4 := S5.bx.frozen 4; have k5 := S5.bx.cell 5 _ rfl; have S6 := Lib.hid (S5.put 4 (.slice A2 n2 c2)); rw [World.size_setCell] at hrun2; refine seq_app rfl rfl rfl rfl hrun2 ?_; clear hrun2 S5 S3 k4)
        | ((with_reducible refine gate_builtin (b := .append) (xs := #[.tmp 78, .tmp 79]) rfl ?_); at_builtin; obtain ⟨u3, w5, hrun3, S8⟩ := (S6.out.made 3 #[.int .i64 0]).appJ (x := 0) List.mem_cons_self hJ64 26; obtain ⟨n3, A3, c3, rfl⟩ := sl_R S8.J; have y5 := S8.bx.cell 5 _ rfl; have f5 := S8.bx.frozen 5; have S9 := Lib.hid (S8.put 5 (.slice A3 n3 c3)); rw [World.size_setCell] at hrun3; refine seq_app rfl rfl rfl rfl hrun3 ?_; clear hrun3 S8))
      go_ret
      exact ⟨rfl, S9.out.did, fun _ => ⟨_, _, _, S9.out.bare⟩⟩
end Go.Proofs.YtdbjjbooalkkbaaGreatDoor.P

/- The reference's parser: the method do. -/
set_option linter.unusedVariables false
set_option linter.unusedSimpArgs false
namespace Go.Proofs.YtdbjjbooalkkbaaGreatDoor.P
open Go.RowKit Go.Shelf Go.Proofs.YtdbjjbooalkkbaaGreatDoorW.PrintWords Go.Proofs.YtdbjjbooalkkbaaGreatDoorW.PrintLast Go.Proofs.YtdbjjbooalkkbaaGreatDoorW.PrintMore

theorem kw_yes {x : ByteArray} (bs : List UInt8) (h : x = ⟨bs.toArray⟩) : (x.toList == bs) = true := by rw [h, ByteArray.toList_eq]; simp
theorem kw_no {x : ByteArray} (bs : List UInt8) (h : x ≠ ⟨bs.toArray⟩) : (x.toList == bs) = false := by
  rw [beq_eq_false_iff_ne]
  intro e
  exact h (bytes_toList.1 (e.trans (by rw [ByteArray.toList_eq])))
theorem guard_len {least most : Nat} {sized inn : Bool} {s : PSt} {l : LN} {r : Int × PSt} (h : l.f1.length < least ∨ most < l.f1.length) : guardP least most sized inn s l r = (6, s) := by
  unfold guardP
  by_cases h1 : l.f1.length < least
  · rw [if_pos h1]
  · rw [if_neg h1, if_pos (by omega)]
theorem guard_sized {least most : Nat} {inn : Bool} {s : PSt} {l : LN} {r : Int × PSt} (h1 : least ≤ l.f1.length) (h2 : l.f1.length ≤ most) (h : s.sized = false) : guardP least most true inn s l r = (11, s) := by
  unfold guardP
  rw [if_neg (by omega), if_neg (by omega), if_pos ⟨rfl, h⟩]
theorem guard_inn {least most : Nat} {s : PSt} {l : LN} {r : Int × PSt} (h1 : least ≤ l.f1.length) (h2 : l.f1.length ≤ most) (h : s.sized = true) (h0 : s.rungs.length = 0) : guardP least most true true s l r = (11, s) := by
  unfold guardP
  rw [if_neg (by omega), if_neg (by omega), if_neg (by rw [h]; simp), if_pos ⟨rfl, h0⟩]
theorem guard_pass {least most : Nat} {sized inn : Bool} {s : PSt} {l : LN} {r : Int × PSt} (h1 : least ≤ l.f1.length) (h2 : l.f1.length ≤ most) (h : sized = true → s.sized = true) (h0 : inn = true → 0 < s.rungs.length) : guardP least most sized inn s l r = r := by
  unfold guardP
  rw [if_neg (by omega), if_neg (by omega), if_neg (fun e => by have := h e.1; rw [e.2] at this; cases this), if_neg (fun e => by have := h0 e.1; omega)]
set_option maxRecDepth 100000 in
set_option maxHeartbeats 16000000 in
theorem do_walk {B b : Nat} (s : PSt) (l : LN) (wb wo c : Nat) (vR vL vJ : Value) (w : World) (St : RSt B b s vR vL vJ w w) (hok : POk s)
    (hw : ∀ i, i < l.f1.length → w.cell? ⟨wb, wo + i, none⟩ = some (.string (wd l i))) (hn : 0 < l.f1.length) (hz : ∀ x ∈ l.f1, x.size ≤ 65536) (hwb : wb < B) :
    Calls Tryz.prog 26 #[.pointer (some ⟨b, 0, none⟩), .agg #[.int .i64 l.f0, .slice (some ⟨wb, wo, none⟩) l.f1.length c]] w (RPost B b w (lineP s l)) := by
  have HB := Lib.hid St.base
  have hblt := St.bx.lt
  have B0 := Lib.hid (Below.refl w.heap.size w)
  have HW := Lib.hid (fun W (hb : Below w.heap.size w W) i (hi : i < l.f1.length) => pw_cell_below hb (hw i hi))
  have HST := Lib.hid (fun W (hb : Below w.heap.size w W) => (St.on hb).since)
  have HSZ := Lib.hid (fun W (hb : Below w.heap.size w W) (h4 : l.f1.length = 4) => rsize_walk s l wb wo c vR vL vJ W (HST.out W hb) (HW.out W hb) h4 hz hwb)
  have HRG := Lib.hid (fun W (hb : Below w.heap.size w W) (h4 : l.f1.length = 1 ∨ l.f1.length = 2) => rrung_walk s l wb wo c vR vL vJ W (HST.out W hb) hok (HW.out W hb) h4)
  have hw0 : w.cell? ⟨wb, wo, none⟩ = some (.string (wd l 0)) := hw 0 hn
  have HKC := Lib.hid (fun W => ref10_ContactKeywords.calls kwC0 W rfl)
  have HKQ := Lib.hid (fun W => ref10_CoilKeywords.calls kwQ0 W rfl)
  obtain ⟨nw, hnw⟩ : ∃ nw, nw = l.f1.length := ⟨_, rfl⟩
  rw [← hnw] at HSZ HRG hn HW ⊢
  obtain ⟨R, hR⟩ : ∃ R, R = lineP s l := ⟨_, rfl⟩
  rw [← hR]
  have HR := Lib.hid hR
  have HOK := Lib.hid hok
  have HNW := Lib.hid hnw
  clear hR St hok hw hnw
  go_enter Tryz.func26, Tryz.ntmps26
  go_wp2
  have BE := Lib.hid (below_drew (below_alloc B0.out (Obj.cells #[.int .i64 l.f0, .slice (some ⟨wb, wo, none⟩) nw c] 72)))
  have LB := Lib.hid (Bx.new w 72 #[.int .i64 l.f0, .slice (some ⟨wb, wo, none⟩) nw c]).drew
  refine start_ (n := 6) (S := fun w' => w'.cell? ⟨wb, wo, none⟩ = some (.string (wd l 0))) (ds := []) (bs 6 0) (by kernel_rfl) rfl (by kernel_rfl) (pw_cell_below BE.out hw0) (fun hHeld => ?_)
  generalize (w.alloc (Obj.cells #[.int .i64 l.f0, .slice (some ⟨wb, wo, none⟩) nw c] 72)).drew = Ws at hHeld BE LB ⊢
  refine pure_ (i := 1) (N := some 14) (v := ?_) (a' := ?_) (bs 6 2) rfl rfl (by kernel_rfl) (fun _ _ _ h => h) (Or.inl ⟨by rfl, ?_⟩) ?_ ?_
  rotate_left
  · intro w'; go_simp; try with_reducible rfl
  rotate_left
  · simp only [Act.put, List.setIfInBounds_toArray, List.set_cons_zero, List.set_cons_succ]; rfl
  refine pure_ (i := 2) (N := some 15) (v := ?_) (a' := ?_) (bs 6 6) rfl rfl (by kernel_rfl) (fun _ _ _ h => h) (Or.inl ⟨by rfl, ?_⟩) ?_ ?_
  rotate_left
  · intro w'; go_simp; try with_reducible rfl
  rotate_left
  · simp only [Act.put, List.setIfInBounds_toArray, List.set_cons_zero, List.set_cons_succ]; rfl
  refine take_ (i := 3) (N := some 16) (v := ?_) (a' := ?_) (bs 6 14) rfl rfl (by kernel_rfl) (fun _ _ _ h => h) (Or.inl ⟨by rfl, ?_⟩) hHeld ?_ ?_
  rotate_left
  · rintro w' s0; go_simp; try with_reducible rfl
  rotate_left
  · simp only [Act.put, List.setIfInBounds_toArray, List.set_cons_zero, List.set_cons_succ]; rfl
  refine one_ (i := 0) (N := some 13) (bs 6 15) rfl rfl (by kernel_rfl) (by decide) (fun K hK => ?_)
  refine goes_ Tryz.func11 (by kernel_rfl) rfl #[] (by rfl) rfl rfl (by (try simp only [List.map_toArray, List.map_cons, List.map_nil]); first | done | rfl) ?_
  with_reducible refine (HKC.out _).mono ?_
  rintro e w1 ⟨v0, rfl, hRw, hb⟩
  obtain ⟨A0, c0, rfl, hl0, hC0⟩ := Kd.R_reads hRw
  refine ⟨_, rfl, ?_⟩
  refine hK.out _ _ (pw_cell_below hb hHeld) (fun hHeld => ?_)
  clear hK K
  refine norm_ (a' := ?_) ?_ ?_
  rotate_left
  · show Act.put _ (some 13) _ = _; simp only [Act.put, List.setIfInBounds_toArray, List.set_cons_zero, List.set_cons_succ]; rfl
  have B1 := Lib.hid (below_step BE.out hb)
  have L1 := Lib.hid (LB.out.on hb)
  have C0 := Lib.hid hC0
  clear hb hC0 hRw
  refine one_ (i := 4) (N := some 17) (bs 6 31) rfl rfl (by kernel_rfl) (by decide) (fun K hK => ?_)
  refine goes_ Tryz.func56 (by kernel_rfl) rfl #[.slice A0 kwC0.length c0, .string (wd l 0)] (by rfl) rfl rfl (by (try simp only [List.map_toArray, List.map_cons, List.map_nil]); first | done | rfl) ?_
  with_reducible refine (ref_find_calls A0 c0 kwC0 (by decide) (wd l 0) _ C0.out hl0).mono ?_
  rintro e w2 ⟨rfl, hb⟩
  refine ⟨_, rfl, ?_⟩
  refine hK.out _ _ (pw_cell_below hb hHeld) (fun hHeld => ?_)
  clear hK K
  refine norm_ (a' := ?_) ?_ ?_
  rotate_left
  · show Act.put _ (some 17) _ = _; simp only [Act.put, List.setIfInBounds_toArray, List.set_cons_zero, List.set_cons_succ]; rfl
  have B2 := Lib.hid (below_step B1.out hb)
  have L2 := Lib.hid (L1.out.on hb)
  clear hb C0 hHeld hl0
  refine pure_ (i := 5) (N := some 6) (v := ?_) (a' := ?_) (bs 6 63) rfl rfl (by kernel_rfl) (fun _ _ _ h => h) (Or.inl ⟨by rfl, ?_⟩) ?_ ?_
  rotate_left
  · intro w'; go_simp; try with_reducible rfl
  rotate_left
  · simp only [Act.put, List.setIfInBounds_toArray, List.set_cons_zero, List.set_cons_succ]; rfl
  refine done_ (by kernel_rfl) ?_
  go_wp2
  have BE2 := Lib.hid (below_drew B2.out)
  have L2d := Lib.hid L2.out.drew
  refine start_ (n := 6) (S := fun w' => w'.cell? ⟨wb, wo, none⟩ = some (.string (wd l 0))) (ds := []) (bs 6 0) (by kernel_rfl) rfl (by kernel_rfl) (pw_cell_below BE2.out hw0) (fun hHeld => ?_)
  clear B1 B2 L1 L2 LB BE; generalize w2.drew = Wt at hHeld BE2 L2d ⊢
  refine pure_ (i := 1) (N := some 19) (v := ?_) (a' := ?_) (bs 6 2) rfl rfl (by kernel_rfl) (fun _ _ _ h => h) (Or.inl ⟨by rfl, ?_⟩) ?_ ?_
  rotate_left
  · intro w'; go_simp; try with_reducible rfl
  rotate_left
  · simp only [Act.put, List.setIfInBounds_toArray, List.set_cons_zero, List.set_cons_succ]; rfl
  refine pure_ (i := 2) (N := some 20) (v := ?_) (a' := ?_) (bs 6 6) rfl rfl (by kernel_rfl) (fun _ _ _ h => h) (Or.inl ⟨by rfl, ?_⟩) ?_ ?_
  rotate_left
  · intro w'; go_simp; try with_reducible rfl
  rotate_left
  · simp only [Act.put, List.setIfInBounds_toArray, List.set_cons_zero, List.set_cons_succ]; rfl
  refine take_ (i := 3) (N := some 21) (v := ?_) (a' := ?_) (bs 6 14) rfl rfl (by kernel_rfl) (fun _ _ _ h => h) (Or.inl ⟨by rfl, ?_⟩) hHeld ?_ ?_
  rotate_left
  · rintro w' s0; go_simp; try with_reducible rfl
  rotate_left
  · simp only [Act.put, List.setIfInBounds_toArray, List.set_cons_zero, List.set_cons_succ]; rfl
  refine one_ (i := 0) (N := some 18) (bs 6 15) rfl rfl (by kernel_rfl) (by decide) (fun K hK => ?_)
  refine goes_ Tryz.func13 (by kernel_rfl) rfl #[] (by rfl) rfl rfl (by (try simp only [List.map_toArray, List.map_cons, List.map_nil]); first | done | rfl) ?_
  with_reducible refine (HKQ.out _).mono ?_
  rintro e w3 ⟨v1, rfl, hRw, hb⟩
  obtain ⟨A1, c1, rfl, hl1, hC1⟩ := Kd.R_reads hRw
  refine ⟨_, rfl, ?_⟩
  refine hK.out _ _ (pw_cell_below hb hHeld) (fun hHeld => ?_)
  clear hK K
  refine norm_ (a' := ?_) ?_ ?_
  rotate_left
  · show Act.put _ (some 18) _ = _; simp only [Act.put, List.setIfInBounds_toArray, List.set_cons_zero, List.set_cons_succ]; rfl
  have B3 := Lib.hid (below_step BE2.out hb)
  have L3 := Lib.hid (L2d.out.on hb)
  have C1 := Lib.hid hC1
  clear hb hC1 hRw
  refine one_ (i := 4) (N := some 22) (bs 6 31) rfl rfl (by kernel_rfl) (by decide) (fun K hK => ?_)
  refine goes_ Tryz.func56 (by kernel_rfl) rfl #[.slice A1 kwQ0.length c1, .string (wd l 0)] (by rfl) rfl rfl (by (try simp only [List.map_toArray, List.map_cons, List.map_nil]); first | done | rfl) ?_
  with_reducible refine (ref_find_calls A1 c1 kwQ0 (by decide) (wd l 0) _ C1.out hl1).mono ?_
  rintro e w4 ⟨rfl, hb⟩
  refine ⟨_, rfl, ?_⟩
  refine hK.out _ _ (pw_cell_below hb hHeld) (fun hHeld => ?_)
  clear hK K
  refine norm_ (a' := ?_) ?_ ?_
  rotate_left
  · show Act.put _ (some 22) _ = _; simp only [Act.put, List.setIfInBounds_toArray, List.set_cons_zero, List.set_cons_succ]; rfl
  have BW := Lib.hid (below_step B3.out hb)
  have LW := Lib.hid (L3.out.on hb)
  clear hb C1 hl1
  refine pure_ (i := 5) (N := some 7) (v := ?_) (a' := ?_) (bs 6 63) rfl rfl (by kernel_rfl) (fun _ _ _ h => h) (Or.inl ⟨by rfl, ?_⟩) ?_ ?_
  rotate_left
  · intro w'; go_simp; try with_reducible rfl
  rotate_left
  · simp only [Act.put, List.setIfInBounds_toArray, List.set_cons_zero, List.set_cons_succ]; rfl
  refine done_ (by kernel_rfl) ?_
  clear B3 L3 BE2 L2d HKC HKQ
  have x0 := hHeld; clear hHeld
  obtain ⟨ic, hic⟩ : ∃ ic, ic = Lib.idxOfS kwC0 (wd l 0) := ⟨_, rfl⟩
  obtain ⟨iq, hiq⟩ : ∃ iq, iq = Lib.idxOfS kwQ0 (wd l 0) := ⟨_, rfl⟩
  rw [← hic, ← hiq]
  have HI := Lib.hid (And.intro hic hiq)
  clear hic hiq
  have k6 : w4.cell? ⟨b, 6, none⟩ = some (.bool s.sized) := (HST.out _ BW.out).bx.cell 6 _ rfl
  by_cases k1 : wd l 0 = kwSize
  case pos =>
    have e1 := kw_yes [115, 105, 122, 101] k1
    by_cases h4 : nw = 4
    case pos =>
      have hR : R = sizeP s l := by rw [HR.out, lineP, if_pos k1, guard_pass (by have := HNW.out; omega) (by have := HNW.out; omega) (fun h => by cases h) (fun h => by cases h)]
      subst hR
      clear HR k1
      have HC := Lib.hid (HSZ.out w4 BW.out h4)
      subst h4
      go_wp2_with (go_at_call 57; (with_reducible refine HC.out.mono ?_); rintro e w9 ⟨rfl, hd, hp⟩; have HP := Lib.hid (And.intro hd hp); clear hd hp)
      go_ret
      exact RPost.from ⟨rfl, HP.out.1, HP.out.2⟩ (Did.of_below BW.out HB.out)
    case neg =>
      have hR : R = (6, s) := by rw [HR.out, lineP, if_pos k1, guard_len (by have := HNW.out; omega)]
      subst hR
      clear HR k1
      have q4 : ((nw : Int) != 4) = true := by rw [bne_iff_ne]; omega
      go_wp2
      go_ret
      exact RPost.bad (by decide) HB.out BW.out
  case neg =>
  have e1 := kw_no [115, 105, 122, 101] k1
  by_cases k2 : wd l 0 = kwRung
  case pos =>
    have e2 := kw_yes [114, 117, 110, 103] k2
    have hi : ic = -1 := by rw [HI.out.1, k2]; rfl
    subst hi
    have K2 := Lib.hid k2
    clear k2
    by_cases h1 : nw = 1 ∨ nw = 2
    case neg =>
      have hR : R = (6, s) := by rw [HR.out, lineP, if_neg k1, if_pos K2.out, guard_len (by have := HNW.out; omega)]
      subst hR
      clear HR
      have q1 : ((nw : Int) == 1) = false := by rw [beq_eq_false_iff_ne]; omega
      have q4 : ((nw : Int) != 2) = true := by rw [bne_iff_ne]; omega
      go_wp2
      go_ret
      exact RPost.bad (by decide) HB.out BW.out
    case pos =>
    by_cases hs : s.sized = true
    case neg =>
      have hs : s.sized = false := by simpa using hs
      rw [hs] at k6
      have hR : R = (11, s) := by rw [HR.out, lineP, if_neg k1, if_pos K2.out, guard_sized (by have := HNW.out; omega) (by have := HNW.out; omega) hs]
      subst hR
      clear HR
      rcases h1 with rfl | rfl
      · go_wp2
        go_ret
        exact RPost.bad (by decide) HB.out BW.out
      · go_wp2
        go_ret
        exact RPost.bad (by decide) HB.out BW.out
    case pos =>
    rw [hs] at k6
    have hR : R = beginP s l := by rw [HR.out, lineP, if_neg k1, if_pos K2.out, guard_pass (by have := HNW.out; omega) (by have := HNW.out; omega) (fun _ => hs) (fun h => by cases h)]
    subst hR
    clear HR
    have HC := Lib.hid (HRG.out w4 BW.out h1)
    have y0 := LW.out.cell 0 _ rfl
    rcases h1 with rfl | rfl
    · go_wp2_with (go_at_call 58; (with_reducible refine HC.out.mono ?_); rintro e w9 ⟨rfl, hd, hp⟩; have HP := Lib.hid (And.intro hd hp); clear hd hp)
      go_ret
      exact RPost.from ⟨rfl, HP.out.1, HP.out.2⟩ (Did.of_below BW.out HB.out)
    · go_wp2_with (go_at_call 58; (with_reducible refine HC.out.mono ?_); rintro e w9 ⟨rfl, hd, hp⟩; have HP := Lib.hid (And.intro hd hp); clear hd hp)
      go_ret
      exact RPost.from ⟨rfl, HP.out.1, HP.out.2⟩ (Did.of_below BW.out HB.out)
  case neg =>
  have e2 := kw_no [114, 117, 110, 103] k2
  by_cases k3 : wd l 0 = kwJump
  case pos =>
    have e3 := kw_yes [106, 117, 109, 112] k3
    have hi : ic = -1 := by rw [HI.out.1, k3]; rfl
    have hj : iq = -1 := by rw [HI.out.2, k3]; rfl
    subst hi
    subst hj
    have K3 := Lib.hid k3
    clear k3
    by_cases h4 : nw = 2
    case neg =>
      have hR : R = (6, s) := by rw [HR.out, lineP, if_neg k1, if_neg k2, if_pos K3.out, guard_len (by have := HNW.out; omega)]
      subst hR
      clear HR
      have q4 : ((nw : Int) != 2) = true := by rw [bne_iff_ne]; omega
      go_wp2
      go_ret
      exact RPost.bad (by decide) HB.out BW.out
    case pos =>
    subst h4
    by_cases hs : s.sized = true
    case neg =>
      have hs : s.sized = false := by simpa using hs
      rw [hs] at k6
      have hR : R = (11, s) := by rw [HR.out, lineP, if_neg k1, if_neg k2, if_pos K3.out, guard_sized (by have := HNW.out; omega) (by have := HNW.out; omega) hs]
      subst hR
      clear HR
      go_wp2
      go_ret
      exact RPost.bad (by decide) HB.out BW.out
    case pos =>
    rw [hs] at k6
    have S4 := HST.out w4 BW.out
    by_cases hr0 : s.rungs.length = 0
    case pos =>
      have hR : R = (11, s) := by rw [HR.out, lineP, if_neg k1, if_neg k2, if_pos K3.out, guard_inn (by have := HNW.out; omega) (by have := HNW.out; omega) hs hr0]
      subst hR
      clear HR
      obtain ⟨A5, c5, e5⟩ := Kd.S_slice S4.R
      have kb3 := S4.bx.cell 3 vR rfl
      rw [e5, hr0] at kb3
      clear e5 S4
      go_wp2
      go_ret
      exact RPost.bad (by decide) HB.out BW.out
    case neg =>
    have HJ := Lib.hid (show R = jumpP s l by rw [HR.out, lineP, if_neg k1, if_neg k2, if_pos K3.out, guard_pass (by have := HNW.out; omega) (by have := HNW.out; omega) (fun _ => hs) (fun _ => by omega)])
    clear HR
    obtain ⟨m, hm⟩ : ∃ m, s.rungs.length = m + 1 := ⟨s.rungs.length - 1, by omega⟩
    obtain ⟨g, v1, v2, L0⟩ := S4.last (by omega)
    obtain ⟨cap, eR⟩ := L0.val
    have kb3 : w4.cell? ⟨b, 3, none⟩ = some (.slice (some ⟨g, 0, none⟩) (m + 1) cap) := by rw [S4.bx.cell 3 vR rfl, eR, hm]
    have i1 : IntKind.i64.wrap (((m + 1 : Nat) : Int) - 1) = (m : Int) := by rw [IntKind.wrap_i64]; have := HOK.out.rungs; omega
    have i2 : (m : Int) < ((m + 1 : Nat) : Int) := by omega
    have i3 : (0 : Int) ≤ (m : Int) := by omega
    have i4 : IntKind.i64.wrap (m : Int) = (m : Int) := by rw [IntKind.wrap_i64]; have := HOK.out.rungs; omega
    have i5 : (m : Int) < (m : Int) + 1 := by omega
    have i6 : (((m + 1 : Nat) : Int) == 0) = false := by rw [beq_eq_false_iff_ne]; omega
    have i7 : ((m : Int) + 1 == 0) = false := by rw [beq_eq_false_iff_ne]; omega
    have hjp : 0 < s.jumps.length := by have := HOK.out.jumps; omega
    have hjm : s.jumps.length - 1 = m := by have := HOK.out.jumps; omega
    have hjl : s.jumps.length = m + 1 := by omega
    obtain ⟨gj, capj, eJ, hgj1, hgj2, _⟩ := Kd.R_form S4.J hjp
    have hm1 : s.rungs.length - 1 = m := by omega
    have hp0 : 0 < s.rungs.length := by omega
    have kr := L0.c3
    rw [hm1] at kr
    have kb5 : w4.cell? ⟨b, 5, none⟩ = some (.slice (some ⟨gj, 0, none⟩) (m + 1) capj) := by rw [S4.bx.cell 5 vJ rfl, eJ, hjl]
    have hgb : g ≠ b := by obtain ⟨rc', hrc⟩ := L0.bx; exact blk_ne hrc.out S4.bx.out (by decide)
    have hgx : g ≠ w.heap.size := by obtain ⟨rc', hrc⟩ := L0.bx; exact blk_ne hrc.out LW.out.out (by decide)
    have x1 := HW.out _ BW.out 1 (by omega)
    have HN1 := Lib.hid (fun W => ref_isname_calls (wd l 1) W)
    have HS4 := Lib.hid S4
    have HL0 := Lib.hid L0
    obtain ⟨r, hr⟩ : ∃ r, lastR s.rungs = r := ⟨_, rfl⟩
    rw [hr] at kr
    have hJ := HJ.out
    unfold jumpP jumpAdd at hJ
    rw [hjm, hr] at hJ
    clear HJ S4 L0 eR
    by_cases t1 : 0 < r.f3.size
    case pos =>
      rw [if_pos t1] at hJ
      subst hJ
      have q1 := size_pos (Nat.ne_of_gt t1)
      have q2 := list_pos (Nat.ne_of_gt t1)
      clear t1
      go_wp2
      go_ret
      exact RPost.bad (by decide) HB.out BW.out
    case neg =>
    rw [if_neg t1] at hJ
    have q0 : r.f3.size = 0 := by omega
    have q1 := eq_true (size_nil q0)
    have q2 := list_nil q0
    clear t1
    generalize hn2 : isName (wd l 1).data.toList = b2 at HN1 hJ
    cases b2
    case false =>
      rw [if_pos rfl] at hJ
      subst hJ
      go_wp2_with (go_at_call 61; (with_reducible refine (HN1.out _).mono ?_); rintro e w5 ⟨rfl, hb⟩; have B5 := Lib.hid (below_step BW.out hb); clear hb)
      go_ret
      exact RPost.bad (by decide) HB.out B5.out
    case true =>
    rw [if_neg (by decide)] at hJ
    subst hJ
    go_wp2_with (go_at_call 61; (with_reducible refine (HN1.out _).mono ?_); rintro e w5 ⟨rfl, hb⟩; have B5 := Lib.hid (below_step BW.out hb); have L5 := Lib.hid (LW.out.on hb); have S5 := Lib.hid (HS4.out.on hb); have Q5 := Lib.hid (HL0.out.on hb); replace x1 := pw_cell_below hb x1; have c5 := Q5.out.c3; rw [hm1] at c5; have f5 := Q5.out.frozen (m * 4 + 3); have z5 := S5.out.bx.cell 5 vJ rfl; rw [eJ, hjl] at z5; clear hb kr kb5 kb3)
    have S6 := S5.out.jump hp0 Q5.out (wd l 1)
    rw [hm1] at S6
    have L6 := Lib.hid (L5.out.far (p := ⟨g, m * 4 + 3, none⟩) (Ne.symm hgx) (.string (wd l 1)))
    refine start_ (n := 10) (S := fun w' => w'.cell? ⟨b, 5, none⟩ = some (.slice (some ⟨gj, 0, none⟩) (m + 1) capj) ∧ w'.cell? ⟨w.heap.size, 0, none⟩ = some (.int .i64 l.f0)) (ds := [9]) (bs 10 0) (by kernel_rfl) rfl (by kernel_rfl) (⟨by have := S6.drew.bx.cell 5 vJ rfl; rw [eJ, hjl] at this; exact this, L6.out.drew.cell 0 _ rfl⟩) (fun hHeld => ?_)
    replace S6 := S6.drew; generalize (w5.setCell ⟨g, m * 4 + 3, none⟩ (.string (wd l 1))).drew = Ws2 at hHeld S6 ⊢
    refine pure_ (i := 0) (N := some 128) (v := ?_) (a' := ?_) (bs 10 1) rfl rfl (by kernel_rfl) (fun _ _ _ h => h) (Or.inl ⟨by rfl, ?_⟩) ?_ ?_
    rotate_left
    · intro w'; go_simp; try with_reducible rfl
    rotate_left
    · simp only [Act.put, List.setIfInBounds_toArray, List.set_cons_zero, List.set_cons_succ]; rfl
    refine pure_ (i := 1) (N := some 129) (v := ?_) (a' := ?_) (bs 10 3) rfl rfl (by kernel_rfl) (fun _ _ _ h => h) (Or.inl ⟨by rfl, ?_⟩) ?_ ?_
    rotate_left
    · intro w'; go_simp; try with_reducible rfl
    rotate_left
    · simp only [Act.put, List.setIfInBounds_toArray, List.set_cons_zero, List.set_cons_succ]; rfl
    refine pure_ (i := 2) (N := some 130) (v := ?_) (a' := ?_) (bs 10 7) rfl rfl (by kernel_rfl) (fun _ _ _ h => h) (Or.inl ⟨by rfl, ?_⟩) ?_ ?_
    rotate_left
    · intro w'; go_simp; try with_reducible rfl
    rotate_left
    · simp only [Act.put, List.setIfInBounds_toArray, List.set_cons_zero, List.set_cons_succ]; rfl
    refine take_ (i := 3) (N := some 131) (v := ?_) (a' := ?_) (bs 10 15) rfl rfl (by kernel_rfl) (fun _ _ _ h => h) (Or.inl ⟨by rfl, ?_⟩) hHeld ?_ ?_
    rotate_left
    · rintro w' ⟨s0, s1⟩; go_simp; try with_reducible rfl
    rotate_left
    · simp only [Act.put, List.setIfInBounds_toArray, List.set_cons_zero, List.set_cons_succ]; rfl
    refine pure_ (i := 4) (N := some 132) (v := ?_) (a' := ?_) (bs 10 31) rfl rfl (by kernel_rfl) (fun _ _ _ h => h) (Or.inl ⟨by rfl, ?_⟩) ?_ ?_
    rotate_left
    · intro w'; go_simp; try with_reducible rfl
    rotate_left
    · simp only [Act.put, List.setIfInBounds_toArray, List.set_cons_zero, List.set_cons_succ]; rfl
    refine pure_ (i := 5) (N := some 133) (v := ?_) (a' := ?_) (bs 10 63) rfl rfl (by kernel_rfl) (fun _ _ _ h => h) (Or.inl ⟨by rfl, ?_⟩) ?_ ?_
    rotate_left
    · intro w'; go_simp; try with_reducible rfl
    rotate_left
    · simp only [Act.put, List.setIfInBounds_toArray, List.set_cons_zero, List.set_cons_succ]; rfl
    refine pure_ (i := 6) (N := some 134) (v := ?_) (a' := ?_) (bs 10 127) rfl rfl (by kernel_rfl) (fun _ _ _ h => h) (Or.inl ⟨by rfl, ?_⟩) ?_ ?_
    rotate_left
    · intro w'; go_simp; try with_reducible rfl
    rotate_left
    · simp only [Act.put, List.setIfInBounds_toArray, List.set_cons_zero, List.set_cons_succ]; rfl
    refine take_ (i := 7) (N := some 135) (v := ?_) (a' := ?_) (bs 10 255) rfl rfl (by kernel_rfl) (fun _ _ _ h => h) (Or.inl ⟨by rfl, ?_⟩) hHeld ?_ ?_
    rotate_left
    · rintro w' ⟨s0, s1⟩; go_simp; try with_reducible rfl
    rotate_left
    · simp only [Act.put, List.setIfInBounds_toArray, List.set_cons_zero, List.set_cons_succ]; rfl
    obtain ⟨g', cap', e', ⟨u, hu⟩, hfz2, S7⟩ := S6.jumpN hjp l.f0
    rw [eJ] at e'
    injection e' with e' _ _
    injection e' with e'
    injection e' with e' _ _
    subst e'
    rw [hjm] at hu hfz2 S7
    refine pure_ (i := 8) (N := some 136) (v := ?_) (a' := ?_) (bs 10 511) rfl rfl (by kernel_rfl) (fun _ _ _ h => h) (Or.inl ⟨by rfl, ?_⟩) ?_ ?_
    rotate_left
    · intro w'; go_simp; try with_reducible rfl
    rotate_left
    · simp only [Act.put, List.setIfInBounds_toArray, List.set_cons_zero, List.set_cons_succ]; rfl
    refine oneD_ (i := 9) (N := none) (bs 10 1023) rfl rfl (by kernel_rfl) (by decide) (fun K hK => ?_)
    go_simp
    refine hK.out _ _ ?_
    clear hK K
    refine norm_ (a' := ?_) ?_ ?_
    rotate_left
    · rfl
    refine done_ (by kernel_rfl) ?_
    go_wp2
    go_ret
    rw [hr, show rc s vR vL vJ = #[.int .i64 s.I, .int .i64 s.Q, .int .i64 s.M, vR, vL, vJ, .bool true] by unfold rc; rw [hs]] at S7
    exact RPost.from ⟨rfl, S7.did, fun _ => ⟨vR, vL, vJ, S7⟩⟩ (Did.of_below BW.out HB.out)
  case neg =>
  have e3 := kw_no [106, 117, 109, 112] k3
  by_cases k4 : 0 ≤ ic
  case pos =>
    have q0 : decide (0 ≤ ic) = true := decide_eq_true k4
    by_cases h4 : nw = 4
    case neg =>
      have hR : R = (6, s) := by rw [HR.out, lineP, if_neg k1, if_neg k2, if_neg k3, if_pos (by rw [← HI.out.1]; exact k4), guard_len (by have := HNW.out; omega)]
      subst hR
      clear HR
      have q4 : ((nw : Int) != 4) = true := by rw [bne_iff_ne]; omega
      go_wp2
      go_ret
      exact RPost.bad (by decide) HB.out BW.out
    case pos =>
    subst h4
    by_cases hs : s.sized = true
    case neg =>
      have hs : s.sized = false := by simpa using hs
      rw [hs] at k6
      have hR : R = (11, s) := by rw [HR.out, lineP, if_neg k1, if_neg k2, if_neg k3, if_pos (by rw [← HI.out.1]; exact k4), guard_sized (by have := HNW.out; omega) (by have := HNW.out; omega) hs]
      subst hR
      clear HR
      go_wp2
      go_ret
      exact RPost.bad (by decide) HB.out BW.out
    case pos =>
    rw [hs] at k6
    have S4 := HST.out w4 BW.out
    by_cases hr0 : s.rungs.length = 0
    case pos =>
      have hR : R = (11, s) := by rw [HR.out, lineP, if_neg k1, if_neg k2, if_neg k3, if_pos (by rw [← HI.out.1]; exact k4), guard_inn (by have := HNW.out; omega) (by have := HNW.out; omega) hs hr0]
      subst hR
      clear HR
      obtain ⟨A5, c5, e5⟩ := Kd.S_slice S4.R
      have kb3 := S4.bx.cell 3 vR rfl
      rw [e5, hr0] at kb3
      clear e5 S4
      go_wp2
      go_ret
      exact RPost.bad (by decide) HB.out BW.out
    case neg =>
    have hR : R = contactP s l ic := by rw [HR.out, lineP, if_neg k1, if_neg k2, if_neg k3, if_pos (by rw [← HI.out.1]; exact k4), guard_pass (by have := HNW.out; omega) (by have := HNW.out; omega) (fun _ => hs) (fun _ => by omega), ← HI.out.1]
    subst hR
    clear HR
    obtain ⟨m, hm⟩ : ∃ m, s.rungs.length = m + 1 := ⟨s.rungs.length - 1, by omega⟩
    obtain ⟨g, v1, v2, L0⟩ := S4.last (by omega)
    obtain ⟨cap, eR⟩ := L0.val
    have kb3 : w4.cell? ⟨b, 3, none⟩ = some (.slice (some ⟨g, 0, none⟩) (m + 1) cap) := by rw [S4.bx.cell 3 vR rfl, eR, hm]
    have i1 : IntKind.i64.wrap (((m + 1 : Nat) : Int) - 1) = (m : Int) := by rw [IntKind.wrap_i64]; have := HOK.out.rungs; omega
    have i2 : (m : Int) < ((m + 1 : Nat) : Int) := by omega
    have i3 : (0 : Int) ≤ (m : Int) := by omega
    have i4 : IntKind.i64.wrap (m : Int) = (m : Int) := by rw [IntKind.wrap_i64]; have := HOK.out.rungs; omega
    have i5 : (m : Int) < (m : Int) + 1 := by omega
    have i6 : (((m + 1 : Nat) : Int) == 0) = false := by rw [beq_eq_false_iff_ne]; omega
    have i7 : ((m : Int) + 1 == 0) = false := by rw [beq_eq_false_iff_ne]; omega
    have HC := rcontact_walk s l ic m g wb wo c v1 v2 vR vL vJ w4 S4 HOK.out hm L0 (fun i hi => HW.out _ BW.out i (by rw [HNW.out]; exact hi)) HNW.out.symm hz
    rw [← HNW.out] at HC
    replace HC := Lib.hid HC
    clear S4 L0 eR hm
    go_wp2_with (go_at_call 59; (with_reducible refine HC.out.mono ?_); rintro e w9 ⟨rfl, hd, hp⟩; have HP := Lib.hid (And.intro hd hp); clear hd hp)
    go_ret
    exact RPost.from ⟨rfl, HP.out.1, HP.out.2⟩ (Did.of_below BW.out HB.out)
  case neg =>
  have q0 : decide (0 ≤ ic) = false := decide_eq_false k4
  by_cases k5 : 0 ≤ iq
  case pos =>
    have q5 : decide (0 ≤ iq) = true := decide_eq_true k5
    by_cases h4 : nw = 2
    case neg =>
      have hR : R = (6, s) := by rw [HR.out, lineP, if_neg k1, if_neg k2, if_neg k3, if_neg (by rw [← HI.out.1]; exact k4), if_pos (by rw [← HI.out.2]; exact k5), guard_len (by have := HNW.out; omega)]
      subst hR
      clear HR
      have q4 : ((nw : Int) != 2) = true := by rw [bne_iff_ne]; omega
      go_wp2
      go_ret
      exact RPost.bad (by decide) HB.out BW.out
    case pos =>
    subst h4
    by_cases hs : s.sized = true
    case neg =>
      have hs : s.sized = false := by simpa using hs
      rw [hs] at k6
      have hR : R = (11, s) := by rw [HR.out, lineP, if_neg k1, if_neg k2, if_neg k3, if_neg (by rw [← HI.out.1]; exact k4), if_pos (by rw [← HI.out.2]; exact k5), guard_sized (by have := HNW.out; omega) (by have := HNW.out; omega) hs]
      subst hR
      clear HR
      go_wp2
      go_ret
      exact RPost.bad (by decide) HB.out BW.out
    case pos =>
    rw [hs] at k6
    have S4 := HST.out w4 BW.out
    by_cases hr0 : s.rungs.length = 0
    case pos =>
      have hR : R = (11, s) := by rw [HR.out, lineP, if_neg k1, if_neg k2, if_neg k3, if_neg (by rw [← HI.out.1]; exact k4), if_pos (by rw [← HI.out.2]; exact k5), guard_inn (by have := HNW.out; omega) (by have := HNW.out; omega) hs hr0]
      subst hR
      clear HR
      obtain ⟨A5, c5, e5⟩ := Kd.S_slice S4.R
      have kb3 := S4.bx.cell 3 vR rfl
      rw [e5, hr0] at kb3
      clear e5 S4
      go_wp2
      go_ret
      exact RPost.bad (by decide) HB.out BW.out
    case neg =>
    have hR : R = coilP s l iq := by rw [HR.out, lineP, if_neg k1, if_neg k2, if_neg k3, if_neg (by rw [← HI.out.1]; exact k4), if_pos (by rw [← HI.out.2]; exact k5), guard_pass (by have := HNW.out; omega) (by have := HNW.out; omega) (fun _ => hs) (fun _ => by omega), ← HI.out.2]
    subst hR
    clear HR
    obtain ⟨m, hm⟩ : ∃ m, s.rungs.length = m + 1 := ⟨s.rungs.length - 1, by omega⟩
    obtain ⟨g, v1, v2, L0⟩ := S4.last (by omega)
    obtain ⟨cap, eR⟩ := L0.val
    have kb3 : w4.cell? ⟨b, 3, none⟩ = some (.slice (some ⟨g, 0, none⟩) (m + 1) cap) := by rw [S4.bx.cell 3 vR rfl, eR, hm]
    have i1 : IntKind.i64.wrap (((m + 1 : Nat) : Int) - 1) = (m : Int) := by rw [IntKind.wrap_i64]; have := HOK.out.rungs; omega
    have i2 : (m : Int) < ((m + 1 : Nat) : Int) := by omega
    have i3 : (0 : Int) ≤ (m : Int) := by omega
    have i4 : IntKind.i64.wrap (m : Int) = (m : Int) := by rw [IntKind.wrap_i64]; have := HOK.out.rungs; omega
    have i5 : (m : Int) < (m : Int) + 1 := by omega
    have i6 : (((m + 1 : Nat) : Int) == 0) = false := by rw [beq_eq_false_iff_ne]; omega
    have i7 : ((m : Int) + 1 == 0) = false := by rw [beq_eq_false_iff_ne]; omega
    have HC := rcoil_walk s l iq m g wb wo c v1 v2 vR vL vJ w4 S4 HOK.out hm L0 (fun i hi => HW.out _ BW.out i (by rw [HNW.out]; exact hi)) HNW.out.symm hz
    rw [← HNW.out] at HC
    replace HC := Lib.hid HC
    clear S4 L0 eR hm
    go_wp2_with (go_at_call 60; (with_reducible refine HC.out.mono ?_); rintro e w9 ⟨rfl, hd, hp⟩; have HP := Lib.hid (And.intro hd hp); clear hd hp)
    go_ret
    exact RPost.from ⟨rfl, HP.out.1, HP.out.2⟩ (Did.of_below BW.out HB.out)
  case neg =>
  have q5 : decide (0 ≤ iq) = false := decide_eq_false k5
  have hR : R = (8, s) := by rw [HR.out, lineP, if_neg k1, if_neg k2, if_neg k3, if_neg (by rw [← HI.out.1]; exact k4), if_neg (by rw [← HI.out.2]; exact k5)]
  subst hR
  clear HR
  go_wp2
  go_ret
  exact RPost.bad (by decide) HB.out BW.out
end Go.Proofs.YtdbjjbooalkkbaaGreatDoor.P

/- busbarref10.Parse: the walk. -/
set_option linter.unusedVariables false
set_option linter.unusedSimpArgs false
namespace Go.Proofs.YtdbjjbooalkkbaaGreatDoor.P
open Go.RowKit Go.Shelf Go.Proofs.YtdbjjbooalkkbaaGreatDoorW.PrintWords Go.Proofs.YtdbjjbooalkkbaaGreatDoorW.PrintLast Go.Proofs.YtdbjjbooalkkbaaGreatDoorW.PrintMore

abbrev RL := S72
def toL (x : RL) : LN := ⟨x.f0, x.f1⟩
theorem dropL_at {ls : List RL} {k : Nat} (h : k < ls.length) : (ls.map toL).drop k = toL (rd_T72 ls (k : Int)) :: (ls.map toL).drop (k + 1) := by
  unfold rd_T72
  rw [List.getD_eq_getElem?_getD, Int.toNat_natCast, List.getElem?_eq_getElem h, List.drop_eq_getElem_cons (by simpa using h), List.getElem_map]
  rfl
theorem rdL_mem {ls : List RL} {k : Nat} (h : k < ls.length) : rd_T72 ls (k : Int) ∈ ls := by
  unfold rd_T72
  rw [List.getD_eq_getElem?_getD, Int.toNat_natCast, List.getElem?_eq_getElem h]
  exact List.getElem_mem h
theorem RSt.start (w : World) : RSt w.heap.size w.heap.size P.s0 (.slice none 0 0) (.slice none 0 0) (.slice none 0 0) (w.alloc (.cells (rc P.s0 (.slice none 0 0) (.slice none 0 0) (.slice none 0 0)) 70)) (w.alloc (.cells (rc P.s0 (.slice none 0 0) (.slice none 0 0) (.slice none 0 0)) 70)) :=
  ⟨Bx.new w _ _, Nat.le_refl _, by decide, Did.refl _ _ _, S_nil _ _, Kd.R_nil _ _ _ _ _, Kd.R_nil _ _ _ _ _, fun k hk _ => (nomatch (own_nil.symm.trans hk)), fun p hp => absurd hp List.not_mem_nil⟩
set_option maxRecDepth 100000 in
set_option maxHeartbeats 4000000 in
theorem rparse_err (t : ByteArray) (n e : Int) (he : e ≠ 0) (ls : List RL) (w : World) (h : ref09_Lines.f 6000000 t = some (ls, n, e)) :
    Calls Tryz.prog 7 #[.string t] w (PRet w.heap.size (bad n e) w) := by
  have ht : (e != 0) = true := by rw [bne_iff_ne]; exact he
  have hC := Lib.hid (fun (W : World) => ref09_Lines.calls 6000000 t ls n e W h)
  go_enter Tryz.func7, Tryz.ntmps7
  go_wp2_with (go_at_call 25; (with_reducible refine (hC.out _).mono ?_); rintro e1 w1 ⟨v0, rfl, _, hb⟩; have hbx : Bx w.heap.size 25 #[.int .i64 0, .int .i64 0, .int .i64 0, .slice none 0 0] w1 := (Bx.new w _ _).on hb; have HB := Lib.hid (below_step (below_alloc (Below.refl w.heap.size w) (.cells #[.int .i64 0, .int .i64 0, .int .i64 0, .slice none 0 0] 25)) hb); have c0 := hbx.cell 0 (.int .i64 0) rfl; have c1 := hbx.cell 1 (.int .i64 0) rfl; have c2 := hbx.cell 2 (.int .i64 0) rfl; have c3 := hbx.cell 3 (.slice none 0 0) rfl; have fz := hbx.frozen; clear hb)
  have hb4 := four_put hbx rfl (.int .i64 0) (.int .i64 0) (.int .i64 0) (.slice none 0 0)
  have HB5 := Lib.hid (four_below HB.out (Nat.le_refl _) (.int .i64 0) (.int .i64 0) (.int .i64 0) (.slice none 0 0))
  clear c0 c1 c2 c3 fz HB
  generalize ((((w1.setCell ⟨w.heap.size, 0, none⟩ (.int .i64 0)).setCell ⟨w.heap.size, 1, none⟩ (.int .i64 0)).setCell ⟨w.heap.size, 2, none⟩ (.int .i64 0)).setCell ⟨w.heap.size, 3, none⟩ (.slice none 0 0)) = W4 at hb4 HB5 ⊢
  have c0 := hb4.cell 0 _ rfl
  have c1 := hb4.cell 1 _ rfl
  have c2 := hb4.cell 2 _ rfl
  have c3 := hb4.cell 3 _ rfl
  refine bodyPost_ret (v := .tuple #[.agg #[.int .i64 0, .int .i64 0, .int .i64 0, .slice none 0 0], .slice none 0 0, .int .i64 n, .int .i64 e]) (by simp [results, Tryz.results7, go_sem, c0, c1, c2, c3]) rfl ?_
  exact PRet.nil n e HB5.out
set_option maxRecDepth 100000 in
set_option maxHeartbeats 8000000 in
theorem rparse_main (t : ByteArray) (n : Int) (ls : List RL) (hws : ∀ l ∈ ls, 0 < l.f1.length ∧ ∀ x ∈ l.f1, x.size ≤ 65536) (w : World) (h : ref09_Lines.f 6000000 t = some (ls, n, 0)) :
    Calls Tryz.prog 7 #[.string t] w (PRet w.heap.size (parseL (ls.map toL)) w) := by
  have hC := Lib.hid (fun (W : World) => ref09_Lines.calls 6000000 t ls n 0 W h)
  have HW := Lib.hid hws
  clear h hws
  go_enter Tryz.func7, Tryz.ntmps7
  go_wp2_with (go_at_call 25; (with_reducible refine (hC.out _).mono ?_); rintro e1 w1 ⟨v0, rfl, hS, hb⟩; obtain ⟨A, c, rfl, hlc, hCC⟩ := Kd.S_reads hS; have HS0 := Lib.hid hS; have HC := Lib.hid hCC; have HX := Lib.hid ((Bx.new w 25 #[.int .i64 0, .int .i64 0, .int .i64 0, .slice none 0 0]).on hb); have HB := Lib.hid (below_step (below_alloc (Below.refl w.heap.size w) (.cells #[.int .i64 0, .int .i64 0, .int .i64 0, .slice none 0 0] 25)) hb); clear hb hCC hS)
  have HSt := Lib.hid (RSt.start w1)
  have HB3 := Lib.hid (below_alloc (Below.refl w1.heap.size w1) (.cells (rc P.s0 (.slice none 0 0) (.slice none 0 0) (.slice none 0 0)) 70))
  obtain ⟨w3, hw3⟩ : ∃ w3, w3 = w1.alloc (.cells (rc P.s0 (.slice none 0 0) (.slice none 0 0) (.slice none 0 0)) 70) := ⟨_, rfl⟩
  rw [← hw3] at HSt HB3
  have HW3 := Lib.hid hw3
  clear hw3
  go_loopw [10] (fun i wr => ∃ (k : Nat) (s : PSt) (vR vL vJ : Value), k ≤ ls.length ∧ i = .int .i64 k ∧ Hid (runP P.s0 (ls.map toL) = runP s ((ls.map toL).drop k)) ∧ Hid (POk s) ∧ Hid (RSt w1.heap.size w1.heap.size s vR vL vJ w3 wr)) (fun i _ => ls.length - (intOf i).toNat)
  case atStart =>
    refine ⟨0, P.s0, .slice none 0 0, .slice none 0 0, .slice none 0 0, Nat.zero_le _, rfl, Lib.hid rfl, Lib.hid POk.s0, ?_⟩
    rw [HW3.out] at HSt ⊢
    exact HSt
  case round =>
    obtain ⟨k, s, vR, vL, vJ, hk, rfl, HRun, HOk, HS⟩ := hrel
    clear HSt
    have hmax := HC.out.2.1
    have HBr := Lib.hid (HB3.out.trans HS.out.did.below)
    by_cases hlt : k < ls.length
    · have HV := Lib.hid (And.intro hlt (wrap_nat (i := k) (by omega)))
      have hql : (k : Int) < (ls.length : Int) := by clear hmax; omega
      have hqk : decide ((k : Int) < (ls.length : Int)) = true := decide_eq_true hql
      have hq0 : (0 : Int) ≤ (k : Int) := Int.natCast_nonneg k
      obtain ⟨ad, A1, cp, rfl, h0, h1, hl1, hCw⟩ := at_T72 HC.out (k : Int) hq0 hql
      obtain ⟨g0, cap0, e0, hg0, hg1, _⟩ := Kd.S_form HS0.out (by omega)
      injection e0 with e0 e01 e02
      injection e0 with e0
      subst e0
      subst e02
      clear e01
      have hdrop := dropL_at hlt
      have hmem := rdL_mem hlt
      rw [Int.toNat_natCast] at h0 h1
      simp only [Addr.add_lit, Nat.zero_add] at h0 h1
      replace h0 := pw_cell_below HBr.out h0
      replace h1 := pw_cell_below HBr.out h1
      generalize rd_T72 ls (k : Int) = l at h0 h1 hl1 hCw hdrop hmem
      obtain ⟨hn0, hz⟩ := HW.out l hmem
      obtain ⟨wb, wo, rfl, hw⟩ := words_at hCw hn0
      have hlow : wb < w1.heap.size := World.block_lt_of_cell? _ _ (hw 0 hn0)
      have HLn := Lib.hid (show Calls Tryz.prog 26 #[.pointer (some ⟨w1.heap.size, 0, none⟩), .agg #[.int .i64 l.f0, .slice (some ⟨wb, wo, none⟩) l.f1.length cp]] wr (RPost w1.heap.size w1.heap.size wr (lineP s (toL l))) from
        do_walk (B := w1.heap.size) (b := w1.heap.size) s (toL l) wb wo cp vR vL vJ wr HS.out.since HOk.out (fun i hi => pw_cell_below HBr.out (hw i hi)) hn0 hz hlow)
      have hrun : runP P.s0 (ls.map toL) = if (lineP s (toL l)).1 = 0 then runP (lineP s (toL l)).2 ((ls.map toL).drop (k + 1)) else (l.f0, (lineP s (toL l)).1, s) := by
        rw [HRun.out, hdrop, runP]
        rfl
      have hok : (lineP s (toL l)).1 = 0 → POk (lineP s (toL l)).2 := HOk.out.lineP
      generalize lineP s (toL l) = q at HLn hrun hok
      have HQ := Lib.hid (And.intro hrun hok)
      have HD := Lib.hid HS.out.did
      have HGL := Lib.hid (show g0 < w1.heap.size from hg1)
      have hgx : w.heap.size ≠ g0 := by have h5 : (w.alloc (.cells #[.int .i64 0, .int .i64 0, .int .i64 0, .slice none 0 0] 25)).heap.size ≤ g0 := hg0; rw [size_alloc] at h5; omega
      clear hrun hok hdrop hmem hz hlow hCw HOk HS HRun hw hg0 hg1 hmax
      by_cases hq : q.1 = 0
      · have hq' : (q.1 != 0) = false := by rw [hq]; rfl
        go_wp2_with (go_at_call 26; (with_reducible refine HLn.out.mono ?_); rintro e4 w4 ⟨rfl, hd, hp⟩; have HP := Lib.hid (And.intro hd hp); clear hd hp)
        go_roundw
        case rel =>
          obtain ⟨vR', vL', vJ', S4⟩ := HP.out.2 hq
          exact ⟨k + 1, q.2, vR', vL', vJ', HV.out.1, by rw [HV.out.2], Lib.hid (HQ.out.1.trans (if_pos hq)), Lib.hid (HQ.out.2 hq), Lib.hid (S4.from HD.out)⟩
        case measure => rw [HV.out.2]; exact meas_succ HV.out.1
      · have hq' : (q.1 != 0) = true := by rw [bne_iff_ne]; exact hq
        go_wp2_with (go_at_call 26; (with_reducible refine HLn.out.mono ?_); rintro e4 w4 ⟨rfl, hd, hp⟩; have HP := Lib.hid (And.intro hd hp); clear hd hp)
        have HB4 := Lib.hid (HBr.out.trans HP.out.1.below)
        have hX4 := HX.out.low HB4.out HX.out.lt
        have hB4 := HB.out.trans (HB4.out.mono HB.out.size)
        have HPar := Lib.hid (show parseL (ls.map toL) = bad l.f0 q.1 by unfold parseL; rw [HQ.out.1, if_neg hq, if_neg hq]; rfl)
        have h0' := (HP.out.1.below.cell (p := ⟨g0, k * 2, none⟩) HGL.out).trans h0
        clear h0 h1
        refine start_ (n := 11) (S := fun w' => w'.cell? ⟨g0, k * 2, none⟩ = some (.int .i64 l.f0)) (ds := []) (bs 11 0) (by kernel_rfl) rfl (by kernel_rfl) (pw_cell_below (below_drew1 (Below.refl _ _)) h0') (fun hHeld => ?_)
        have hX := hX4.drew; have hBE := below_drew1 hB4; clear h0' hX4 hB4; generalize w4.drew = Ws at hHeld hX hBE ⊢
        refine pure_ (i := 0) (N := some 40) (v := ?_) (a' := ?_) (bs 11 1) rfl rfl (by kernel_rfl) (fun _ _ _ h => h) (Or.inl ⟨by rfl, ?_⟩) ?_ ?_
        rotate_left
        · intro w'; go_simp; try with_reducible rfl
        rotate_left
        · simp only [Act.put, List.setIfInBounds_toArray, List.set_cons_zero, List.set_cons_succ]; rfl
        refine pure_ (i := 1) (N := some 41) (v := ?_) (a' := ?_) (bs 11 3) rfl rfl (by kernel_rfl) (fun _ _ _ h => h) (Or.inl ⟨by rfl, ?_⟩) ?_ ?_
        rotate_left
        · intro w'; go_simp; try with_reducible rfl
        rotate_left
        · simp only [Act.put, List.setIfInBounds_toArray, List.set_cons_zero, List.set_cons_succ]; rfl
        refine pure_ (i := 2) (N := some 42) (v := ?_) (a' := ?_) (bs 11 7) rfl rfl (by kernel_rfl) (fun _ _ _ h => h) (Or.inl ⟨by rfl, ?_⟩) ?_ ?_
        rotate_left
        · intro w'; go_simp; try with_reducible rfl
        rotate_left
        · simp only [Act.put, List.setIfInBounds_toArray, List.set_cons_zero, List.set_cons_succ]; rfl
        refine pure_ (i := 3) (N := some 43) (v := ?_) (a' := ?_) (bs 11 15) rfl rfl (by kernel_rfl) (fun _ _ _ h => h) (Or.inl ⟨by rfl, ?_⟩) ?_ ?_
        rotate_left
        · intro w'; go_simp; try with_reducible rfl
        rotate_left
        · simp only [Act.put, List.setIfInBounds_toArray, List.set_cons_zero, List.set_cons_succ]; rfl
        refine pure_ (i := 4) (N := some 44) (v := ?_) (a' := ?_) (bs 11 31) rfl rfl (by kernel_rfl) (fun _ _ _ h => h) (Or.inl ⟨by rfl, ?_⟩) ?_ ?_
        rotate_left
        · intro w'; go_simp; try with_reducible rfl
        rotate_left
        · simp only [Act.put, List.setIfInBounds_toArray, List.set_cons_zero, List.set_cons_succ]; rfl
        refine take_ (i := 5) (N := some 45) (v := ?_) (a' := ?_) (bs 11 63) rfl rfl (by kernel_rfl) (fun _ _ _ h => h) (Or.inl ⟨by rfl, ?_⟩) hHeld ?_ ?_
        rotate_left
        · rintro w' s0; go_simp; try with_reducible rfl
        rotate_left
        · simp only [Act.put, List.setIfInBounds_toArray, List.set_cons_zero, List.set_cons_succ]; rfl
        refine pure_ (i := 6) (N := some 46) (v := ?_) (a' := ?_) (bs 11 127) rfl rfl (by kernel_rfl) (fun _ _ _ h => h) (Or.inl ⟨by rfl, ?_⟩) ?_ ?_
        rotate_left
        · intro w'; go_simp; try with_reducible rfl
        rotate_left
        · simp only [Act.put, List.setIfInBounds_toArray, List.set_cons_zero, List.set_cons_succ]; rfl
        refine one_ (i := 7) (N := none) (bs 11 255) rfl rfl (by kernel_rfl) (by decide) (fun K hK => ?_)
        have c0 := hX.cell 0 _ rfl
        have c1 := hX.cell 1 _ rfl
        have c2 := hX.cell 2 _ rfl
        have c3 := hX.cell 3 _ rfl
        have fz := hX.frozen
        go_simp
        refine hK.out _ _ (far4 hgx hHeld _ _ _ _) (fun hHeld => ?_)
        clear hK K
        refine norm_ (a' := ?_) ?_ ?_
        rotate_left
        · rfl
        refine pure_ (i := 8) (N := some 3) (v := ?_) (a' := ?_) (bs 11 511) rfl rfl (by kernel_rfl) (fun _ _ _ h => h) (Or.inl ⟨by rfl, ?_⟩) ?_ ?_
        rotate_left
        · intro w'; go_simp; try with_reducible rfl
        rotate_left
        · simp only [Act.put, List.setIfInBounds_toArray, List.set_cons_zero, List.set_cons_succ]; rfl
        refine pure_ (i := 9) (N := some 4) (v := ?_) (a' := ?_) (bs 11 1023) rfl rfl (by kernel_rfl) (fun _ _ _ h => h) (Or.inl ⟨by rfl, ?_⟩) ?_ ?_
        rotate_left
        · intro w'; go_simp; try with_reducible rfl
        rotate_left
        · simp only [Act.put, List.setIfInBounds_toArray, List.set_cons_zero, List.set_cons_succ]; rfl
        refine pure_ (i := 10) (N := some 5) (v := ?_) (a' := ?_) (bs 11 2047) rfl rfl (by kernel_rfl) (fun _ _ _ h => h) (Or.inl ⟨by rfl, ?_⟩) ?_ ?_
        rotate_left
        · intro w'; go_simp; try with_reducible rfl
        rotate_left
        · simp only [Act.put, List.setIfInBounds_toArray, List.set_cons_zero, List.set_cons_succ]; rfl
        refine done_ (by kernel_rfl) ?_
        go_wp2
        have hb4 := four_put hX rfl (.int .i64 0) (.int .i64 0) (.int .i64 0) (.slice none 0 0)
        have HB5 := Lib.hid (four_below hBE (Nat.le_refl _) (.int .i64 0) (.int .i64 0) (.int .i64 0) (.slice none 0 0))
        clear hX hHeld c0 c1 c2 c3 fz
        generalize ((((Ws.setCell ⟨w.heap.size, 0, none⟩ (.int .i64 0)).setCell ⟨w.heap.size, 1, none⟩ (.int .i64 0)).setCell ⟨w.heap.size, 2, none⟩ (.int .i64 0)).setCell ⟨w.heap.size, 3, none⟩ (.slice none 0 0)) = W4 at hb4 HB5 ⊢
        have c0 := hb4.cell 0 _ rfl
        have c1 := hb4.cell 1 _ rfl
        have c2 := hb4.cell 2 _ rfl
        have c3 := hb4.cell 3 _ rfl
        refine bodyPost_ret (v := .tuple #[.agg #[.int .i64 0, .int .i64 0, .int .i64 0, .slice none 0 0], .slice none 0 0, .int .i64 l.f0, .int .i64 q.1]) (by simp [results, Tryz.results7, go_sem, c0, c1, c2, c3]) rfl ?_
        rw [HPar.out]
        exact PRet.nil l.f0 q.1 HB5.out
    · have hqk : decide ((k : Int) < (ls.length : Int)) = false := decide_eq_false (by clear hmax; omega)
      have hR0 : runP P.s0 (ls.map toL) = (0, 0, s) := by rw [HRun.out, List.drop_of_length_le (by rw [List.length_map]; omega)]; rfl
      have HPar : parseL (ls.map toL) = endP s := by unfold parseL; rw [hR0]; rfl
      have hX4 := HX.out.low HBr.out HX.out.lt
      have hB4 := HB.out.trans (HBr.out.mono HB.out.size)
      have HJl : s.jumps.length = s.rungs.length := HOk.out.jumps
      have hr64 := HOk.out.rungs
      obtain ⟨AR, cR, rfl, hlR, hCR⟩ := Kd.S_reads HS.out.R
      obtain ⟨AL, cL, rfl, hlL, hCL⟩ := Kd.R_reads HS.out.L
      obtain ⟨AJ, cJ, rfl, hlJ, hCJ⟩ := Kd.R_reads HS.out.J
      have p3 : wr.cell? ⟨w1.heap.size, 3, none⟩ = some (.slice AR s.rungs.length cR) := HS.out.bx.cell 3 _ rfl
      have p6 : wr.cell? ⟨w1.heap.size, 6, none⟩ = some (.bool s.sized) := HS.out.bx.cell 6 _ rfl
      have HCR := Lib.hid hCR
      clear hCR hCL hCJ hR0 HRun hlJ hlL hmax
      cases hsz : s.sized with
      | false =>
        rw [hsz] at p6
        have HPar := Lib.hid (show parseL (ls.map toL) = bad 0 5 by rw [HPar]; unfold endP; rw [if_pos hsz]; rfl)
        have c0 := hX4.cell 0 _ rfl
        have c1 := hX4.cell 1 _ rfl
        have c2 := hX4.cell 2 _ rfl
        have c3 := hX4.cell 3 _ rfl
        have fz := hX4.frozen
        go_wp2
        have hb4 := four_put hX4 rfl (.int .i64 0) (.int .i64 0) (.int .i64 0) (.slice none 0 0)
        have HB5 := Lib.hid (four_below hB4 (Nat.le_refl _) (.int .i64 0) (.int .i64 0) (.int .i64 0) (.slice none 0 0))
        clear hX4 c0 c1 c2 c3 fz
        generalize ((((wr.setCell ⟨w.heap.size, 0, none⟩ (.int .i64 0)).setCell ⟨w.heap.size, 1, none⟩ (.int .i64 0)).setCell ⟨w.heap.size, 2, none⟩ (.int .i64 0)).setCell ⟨w.heap.size, 3, none⟩ (.slice none 0 0)) = W4 at hb4 HB5 ⊢
        have c0 := hb4.cell 0 _ rfl
        have c1 := hb4.cell 1 _ rfl
        have c2 := hb4.cell 2 _ rfl
        have c3 := hb4.cell 3 _ rfl
        refine bodyPost_ret (v := .tuple #[.agg #[.int .i64 0, .int .i64 0, .int .i64 0, .slice none 0 0], .slice none 0 0, .int .i64 0, .int .i64 5]) (by simp [results, Tryz.results7, go_sem, c0, c1, c2, c3]) rfl ?_
        rw [HPar.out]
        exact PRet.nil 0 5 HB5.out
      | true =>
        rw [hsz] at p6
        have HX4 := Lib.hid hX4
        have HB4 := Lib.hid hB4
        have HPar := Lib.hid HPar
        have hblt := HS.out.bx.lt
        have p0 : wr.cell? ⟨w1.heap.size, 0, none⟩ = some (.int .i64 s.I) := HS.out.bx.cell 0 _ rfl
        have p1 : wr.cell? ⟨w1.heap.size, 1, none⟩ = some (.int .i64 s.Q) := HS.out.bx.cell 1 _ rfl
        have p2 : wr.cell? ⟨w1.heap.size, 2, none⟩ = some (.int .i64 s.M) := HS.out.bx.cell 2 _ rfl
        have p4 : wr.cell? ⟨w1.heap.size, 4, none⟩ = some (.slice AL s.lines.length cL) := HS.out.bx.cell 4 _ rfl
        clear hX4 hB4
        rename World => wq
        go_wp2
        go_loopw [11] (fun i W => ∃ k2 : Nat, k2 ≤ s.rungs.length ∧ i = .int .i64 k2 ∧ Hid (badJ s.rungs = (badJ (s.rungs.drop k2)).map (· + k2)) ∧ Hid (Below wq.heap.size wq W)) (fun i _ => s.rungs.length - (intOf i).toNat)
        case atStart => exact ⟨0, Nat.zero_le _, rfl, Lib.hid (by rw [List.drop_zero]; cases badJ s.rungs <;> rfl), Lib.hid (Below.refl _ _)⟩
        case round =>
          obtain ⟨k2, hk2, rfl, HBad, HBq⟩ := hrel
          replace p0 := pw_cell_below HBq.out p0
          replace p1 := pw_cell_below HBq.out p1
          replace p2 := pw_cell_below HBq.out p2
          replace p3 := pw_cell_below HBq.out p3
          replace p4 := pw_cell_below HBq.out p4
          by_cases hlt2 : k2 < s.rungs.length
          · have HV := Lib.hid (And.intro hlt2 (wrap_nat (i := k2) (by omega)))
            have hql2 : (k2 : Int) < (s.rungs.length : Int) := by omega
            have hqk2 : decide ((k2 : Int) < (s.rungs.length : Int)) = true := decide_eq_true hql2
            have hq02 : (0 : Int) ≤ (k2 : Int) := Int.natCast_nonneg k2
            obtain ⟨ad, A1, cp, A2, cp2, rfl, h0, h1, h2, h3, _⟩ := at_T47 HCR.out (k2 : Int) hq02 hql2
            obtain ⟨gR, capR, e0, hgR, _⟩ := Kd.S_form HS.out.R (by omega)
            injection e0 with e0 e01 e02
            injection e0 with e0
            subst e0
            subst e02
            clear e01
            have hdrop := dropR_at hlt2
            rw [Int.toNat_natCast] at h0 h1 h2 h3
            simp only [Addr.add_lit, Nat.zero_add] at h3
            replace h3 := pw_cell_below HBq.out h3
            clear h0 h1 h2
            generalize rd_T47 s.rungs (k2 : Int) = r at h3 hdrop
            have HDr := Lib.hid hdrop
            have HBe := Lib.hid (ref10_Behind.calls 1001 s.I s.Q s.M (some ⟨gR, 0, none⟩) cR s.rungs (k2 : Int) r.f3 _ wr (Kd.C_below HCR.out HBq.out) hlR (ref_behind s.rungs (by omega) r.f3 s.I s.Q s.M k2 hlt2))
            clear hdrop
            by_cases t1 : 0 < r.f3.size
            · have q1 := size_pos (Nat.ne_of_gt t1)
              have q2 := list_pos (Nat.ne_of_gt t1)
              have HT := Lib.hid t1
              clear t1
              generalize hh : hasLabel (s.rungs.drop (k2 + 1)) r.f3 = hb at HBe
              cases hb with
              | true =>
                have HN := Lib.hid (show badJ s.rungs = (badJ (s.rungs.drop (k2 + 1))).map (· + (k2 + 1)) by rw [HBad.out, HDr.out, badJ, if_neg (fun h => by rw [hh] at h; exact absurd h.2 (by decide))]; exact map_succ _ _)
                go_wp2_with (go_at_call 27; (with_reducible refine HBe.out.mono ?_); rintro e5 w5 ⟨rfl, hb5⟩; have HB5 := Lib.hid (below_step HBq.out hb5); clear hb5)
                go_roundw
                case rel => exact ⟨k2 + 1, HV.out.1, by first | rw [HV.out.2] | (rw [Int.natCast_add]; rfl), HN, HB5⟩
                case measure => first | (rw [HV.out.2]; exact meas_succ HV.out.1) | (simp [intOf]; omega)
              | false =>
                have HPar2 := Lib.hid (show parseL (ls.map toL) = bad (s.jumps.getD k2 0) 15 by rw [HPar.out]; unfold endP; rw [if_neg (by rw [hsz]; decide), HBad.out, HDr.out, badJ, if_pos ⟨HT.out, hh⟩]; simp only [Option.map_some]; rw [Nat.zero_add]; rfl)
                obtain ⟨gj, capj, eJ, hgj1, hjc⟩ := HS.out.jump_at (i := k2) (by rw [HJl]; exact hlt2)
                injection eJ with eJ eJ1 eJ2
                subst eJ
                subst eJ2
                clear eJ1
                have p5 : wq.cell? ⟨w1.heap.size, 5, none⟩ = some (.slice (some ⟨gj, 0, none⟩) s.jumps.length cJ) := HS.out.bx.cell 5 _ rfl
                have HJC := Lib.hid (And.intro hjc p5)
                clear hjc p5
                go_wp2_with (go_at_call 27; (with_reducible refine HBe.out.mono ?_); rintro e5 w4 ⟨rfl, hb5⟩; have HBw := Lib.hid (below_step HBq.out hb5); clear hb5)
                have hB4 := HB4.out.trans (HBw.out.mono HB4.out.size)
                have hX4 := HX4.out.on HBw.out
                have hj1 := pw_cell_below (below_drew1 HBw.out) HJC.out.2
                have hj2 := pw_cell_below (below_drew1 HBw.out) HJC.out.1
                have hgx : w.heap.size ≠ w1.heap.size := by have := HX.out.lt; omega
                have hgj : w.heap.size ≠ gj := by have := HX.out.lt; omega
                have hjl2 : (k2 : Int) < (s.jumps.length : Int) := by rw [HJl]; exact hql2
                generalize s.jumps.getD k2 0 = jn at hj2 HPar2
                clear h3 p0 p1 p2 p3 p4
                refine start_ (n := 12) (S := fun w' => w'.cell? ⟨w1.heap.size, 5, none⟩ = some (.slice (some ⟨gj, 0, none⟩) s.jumps.length cJ) ∧ w'.cell? ⟨gj, k2, none⟩ = some (.int .i64 jn)) (ds := []) (bs 12 0) (by kernel_rfl) rfl (by kernel_rfl) (⟨hj1, hj2⟩) (fun hHeld => ?_)
                have hX := hX4.drew; have hBE := below_drew1 hB4; clear hj1 hj2 hX4 hB4; generalize w4.drew = Ws at hHeld hX hBE ⊢
                refine pure_ (i := 0) (N := some 84) (v := ?_) (a' := ?_) (bs 12 1) rfl rfl (by kernel_rfl) (fun _ _ _ h => h) (Or.inl ⟨by rfl, ?_⟩) ?_ ?_
                rotate_left
                · intro w'; go_simp; try with_reducible rfl
                rotate_left
                · simp only [Act.put, List.setIfInBounds_toArray, List.set_cons_zero, List.set_cons_succ]; rfl
                refine pure_ (i := 1) (N := some 85) (v := ?_) (a' := ?_) (bs 12 3) rfl rfl (by kernel_rfl) (fun _ _ _ h => h) (Or.inl ⟨by rfl, ?_⟩) ?_ ?_
                rotate_left
                · intro w'; go_simp; try with_reducible rfl
                rotate_left
                · simp only [Act.put, List.setIfInBounds_toArray, List.set_cons_zero, List.set_cons_succ]; rfl
                refine pure_ (i := 2) (N := some 86) (v := ?_) (a' := ?_) (bs 12 7) rfl rfl (by kernel_rfl) (fun _ _ _ h => h) (Or.inl ⟨by rfl, ?_⟩) ?_ ?_
                rotate_left
                · intro w'; go_simp; try with_reducible rfl
                rotate_left
                · simp only [Act.put, List.setIfInBounds_toArray, List.set_cons_zero, List.set_cons_succ]; rfl
                refine pure_ (i := 3) (N := some 87) (v := ?_) (a' := ?_) (bs 12 15) rfl rfl (by kernel_rfl) (fun _ _ _ h => h) (Or.inl ⟨by rfl, ?_⟩) ?_ ?_
                rotate_left
                · intro w'; go_simp; try with_reducible rfl
                rotate_left
                · simp only [Act.put, List.setIfInBounds_toArray, List.set_cons_zero, List.set_cons_succ]; rfl
                refine take_ (i := 4) (N := some 88) (v := ?_) (a' := ?_) (bs 12 31) rfl rfl (by kernel_rfl) (fun _ _ _ h => h) (Or.inl ⟨by rfl, ?_⟩) hHeld ?_ ?_
                rotate_left
                · rintro w' ⟨s0, s1⟩; go_simp; try with_reducible rfl
                rotate_left
                · simp only [Act.put, List.setIfInBounds_toArray, List.set_cons_zero, List.set_cons_succ]; rfl
                refine pure_ (i := 5) (N := some 89) (v := ?_) (a' := ?_) (bs 12 63) rfl rfl (by kernel_rfl) (fun _ _ _ h => h) (Or.inl ⟨by rfl, ?_⟩) ?_ ?_
                rotate_left
                · intro w'; go_simp; try with_reducible rfl
                rotate_left
                · simp only [Act.put, List.setIfInBounds_toArray, List.set_cons_zero, List.set_cons_succ]; rfl
                refine pure_ (i := 6) (N := some 90) (v := ?_) (a' := ?_) (bs 12 127) rfl rfl (by kernel_rfl) (fun _ _ _ h => h) (Or.inl ⟨by rfl, ?_⟩) ?_ ?_
                rotate_left
                · intro w'; go_simp; try with_reducible rfl
                rotate_left
                · simp only [Act.put, List.setIfInBounds_toArray, List.set_cons_zero, List.set_cons_succ]; rfl
                refine take_ (i := 7) (N := some 91) (v := ?_) (a' := ?_) (bs 12 255) rfl rfl (by kernel_rfl) (fun _ _ _ h => h) (Or.inl ⟨by rfl, ?_⟩) hHeld ?_ ?_
                rotate_left
                · rintro w' ⟨s0, s1⟩; go_simp; try with_reducible rfl
                rotate_left
                · simp only [Act.put, List.setIfInBounds_toArray, List.set_cons_zero, List.set_cons_succ]; rfl
                refine one_ (i := 8) (N := none) (bs 12 511) rfl rfl (by kernel_rfl) (by decide) (fun K hK => ?_)
                have c0 := hX.cell 0 _ rfl
                have c1 := hX.cell 1 _ rfl
                have c2 := hX.cell 2 _ rfl
                have c3 := hX.cell 3 _ rfl
                have fz := hX.frozen
                go_simp
                refine hK.out _ _ ⟨far4 hgx hHeld.1 _ _ _ _, far4 hgj hHeld.2 _ _ _ _⟩ (fun hHeld => ?_)
                clear hK K
                refine norm_ (a' := ?_) ?_ ?_
                rotate_left
                · rfl
                refine pure_ (i := 9) (N := some 3) (v := ?_) (a' := ?_) (bs 12 1023) rfl rfl (by kernel_rfl) (fun _ _ _ h => h) (Or.inl ⟨by rfl, ?_⟩) ?_ ?_
                rotate_left
                · intro w'; go_simp; try with_reducible rfl
                rotate_left
                · simp only [Act.put, List.setIfInBounds_toArray, List.set_cons_zero, List.set_cons_succ]; rfl
                refine pure_ (i := 10) (N := some 4) (v := ?_) (a' := ?_) (bs 12 2047) rfl rfl (by kernel_rfl) (fun _ _ _ h => h) (Or.inl ⟨by rfl, ?_⟩) ?_ ?_
                rotate_left
                · intro w'; go_simp; try with_reducible rfl
                rotate_left
                · simp only [Act.put, List.setIfInBounds_toArray, List.set_cons_zero, List.set_cons_succ]; rfl
                refine pure_ (i := 11) (N := some 5) (v := ?_) (a' := ?_) (bs 12 4095) rfl rfl (by kernel_rfl) (fun _ _ _ h => h) (Or.inl ⟨by rfl, ?_⟩) ?_ ?_
                rotate_left
                · intro w'; go_simp; try with_reducible rfl
                rotate_left
                · simp only [Act.put, List.setIfInBounds_toArray, List.set_cons_zero, List.set_cons_succ]; rfl
                refine done_ (by kernel_rfl) ?_
                go_wp2
                have hb4 := four_put hX rfl (.int .i64 0) (.int .i64 0) (.int .i64 0) (.slice none 0 0)
                have HB5 := Lib.hid (four_below hBE (Nat.le_refl _) (.int .i64 0) (.int .i64 0) (.int .i64 0) (.slice none 0 0))
                clear hX hHeld c0 c1 c2 c3 fz
                generalize ((((Ws.setCell ⟨w.heap.size, 0, none⟩ (.int .i64 0)).setCell ⟨w.heap.size, 1, none⟩ (.int .i64 0)).setCell ⟨w.heap.size, 2, none⟩ (.int .i64 0)).setCell ⟨w.heap.size, 3, none⟩ (.slice none 0 0)) = W4 at hb4 HB5 ⊢
                have c0 := hb4.cell 0 _ rfl
                have c1 := hb4.cell 1 _ rfl
                have c2 := hb4.cell 2 _ rfl
                have c3 := hb4.cell 3 _ rfl
                refine bodyPost_ret (v := .tuple #[.agg #[.int .i64 0, .int .i64 0, .int .i64 0, .slice none 0 0], .slice none 0 0, .int .i64 jn, .int .i64 15]) (by simp [results, Tryz.results7, go_sem, c0, c1, c2, c3]) rfl ?_
                rw [HPar2.out]
                exact PRet.nil jn 15 HB5.out
            · have q0 : r.f3.size = 0 := by omega
              have q1 := eq_true (size_nil q0)
              have q2 := list_nil q0
              have HN := Lib.hid (show badJ s.rungs = (badJ (s.rungs.drop (k2 + 1))).map (· + (k2 + 1)) by rw [HBad.out, HDr.out, badJ, if_neg (fun h => absurd h.1 t1)]; exact map_succ _ _)
              clear t1 q0
              go_wp2
              go_roundw
              case rel => exact ⟨k2 + 1, HV.out.1, by first | rw [HV.out.2] | (rw [Int.natCast_add]; rfl), HN, HBq⟩
              case measure => first | (rw [HV.out.2]; exact meas_succ HV.out.1) | (simp [intOf]; omega)
          · have hqk2 : decide ((k2 : Int) < (s.rungs.length : Int)) = false := decide_eq_false (by omega)
            have hNone := Lib.hid (show parseL (ls.map toL) = (s.I, s.Q, s.M, s.rungs, s.lines, 0, 0) by rw [HPar.out]; unfold endP; rw [if_neg (by rw [hsz]; decide), HBad.out, List.drop_of_length_le (by omega)]; rfl)
            have HSd := Lib.hid (Kd.S_below HS.out.R (below_drew1 HBq.out))
            have HLd := Lib.hid (Kd.R_below HS.out.L (below_drew1 HBq.out))
            have hX4 := HX4.out.on HBq.out
            have hB4 := HB4.out.trans (HBq.out.mono HB4.out.size)
            have hgx : w.heap.size ≠ w1.heap.size := by have := HX.out.lt; omega
            go_wp2
            have d0 := pw_cell_below (below_drew1 (Below.refl _ _)) p0
            have d1 := pw_cell_below (below_drew1 (Below.refl _ _)) p1
            have d2 := pw_cell_below (below_drew1 (Below.refl _ _)) p2
            have d3 := pw_cell_below (below_drew1 (Below.refl _ _)) p3
            have d4 := pw_cell_below (below_drew1 (Below.refl _ _)) p4
            refine start_ (n := 12) (S := fun w' => w'.cell? ⟨w1.heap.size, 0, none⟩ = some (.int .i64 s.I) ∧ w'.cell? ⟨w1.heap.size, 1, none⟩ = some (.int .i64 s.Q) ∧ w'.cell? ⟨w1.heap.size, 2, none⟩ = some (.int .i64 s.M) ∧ w'.cell? ⟨w1.heap.size, 3, none⟩ = some (.slice AR s.rungs.length cR) ∧ w'.cell? ⟨w1.heap.size, 4, none⟩ = some (.slice AL s.lines.length cL)) (ds := []) (bs 12 0) (by kernel_rfl) rfl (by kernel_rfl) (⟨d0, d1, d2, d3, d4⟩) (fun hHeld => ?_)
            have hX := hX4.drew; have hBE := below_drew1 hB4; clear d0 d1 d2 d3 d4 p0 p1 p2 p3 p4 hX4 hB4; generalize wr.drew = Ws at hHeld hX hBE HSd HLd ⊢
            refine pure_ (i := 0) (N := some 92) (v := ?_) (a' := ?_) (bs 12 1) rfl rfl (by kernel_rfl) (fun _ _ _ h => h) (Or.inl ⟨by rfl, ?_⟩) ?_ ?_
            rotate_left
            · intro w'; go_simp; try with_reducible rfl
            rotate_left
            · simp only [Act.put, List.setIfInBounds_toArray, List.set_cons_zero, List.set_cons_succ]; rfl
            refine pure_ (i := 1) (N := some 93) (v := ?_) (a' := ?_) (bs 12 3) rfl rfl (by kernel_rfl) (fun _ _ _ h => h) (Or.inl ⟨by rfl, ?_⟩) ?_ ?_
            rotate_left
            · intro w'; go_simp; try with_reducible rfl
            rotate_left
            · simp only [Act.put, List.setIfInBounds_toArray, List.set_cons_zero, List.set_cons_succ]; rfl
            refine pure_ (i := 2) (N := some 94) (v := ?_) (a' := ?_) (bs 12 7) rfl rfl (by kernel_rfl) (fun _ _ _ h => h) (Or.inl ⟨by rfl, ?_⟩) ?_ ?_
            rotate_left
            · intro w'; go_simp; try with_reducible rfl
            rotate_left
            · simp only [Act.put, List.setIfInBounds_toArray, List.set_cons_zero, List.set_cons_succ]; rfl
            refine take_ (i := 3) (N := some 95) (v := ?_) (a' := ?_) (bs 12 15) rfl rfl (by kernel_rfl) (fun _ _ _ h => h) (Or.inl ⟨by rfl, ?_⟩) hHeld ?_ ?_
            rotate_left
            · rintro w' ⟨s0, s1, s2, s3, s4⟩; go_simp; try with_reducible rfl
            rotate_left
            · simp only [Act.put, List.setIfInBounds_toArray, List.set_cons_zero, List.set_cons_succ]; rfl
            refine pure_ (i := 4) (N := some 96) (v := ?_) (a' := ?_) (bs 12 31) rfl rfl (by kernel_rfl) (fun _ _ _ h => h) (Or.inl ⟨by rfl, ?_⟩) ?_ ?_
            rotate_left
            · intro w'; go_simp; try with_reducible rfl
            rotate_left
            · simp only [Act.put, List.setIfInBounds_toArray, List.set_cons_zero, List.set_cons_succ]; rfl
            refine pure_ (i := 5) (N := some 97) (v := ?_) (a' := ?_) (bs 12 63) rfl rfl (by kernel_rfl) (fun _ _ _ h => h) (Or.inl ⟨by rfl, ?_⟩) ?_ ?_
            rotate_left
            · intro w'; go_simp; try with_reducible rfl
            rotate_left
            · simp only [Act.put, List.setIfInBounds_toArray, List.set_cons_zero, List.set_cons_succ]; rfl
            refine pure_ (i := 6) (N := some 98) (v := ?_) (a' := ?_) (bs 12 127) rfl rfl (by kernel_rfl) (fun _ _ _ h => h) (Or.inl ⟨by rfl, ?_⟩) ?_ ?_
            rotate_left
            · intro w'; go_simp; try with_reducible rfl
            rotate_left
            · simp only [Act.put, List.setIfInBounds_toArray, List.set_cons_zero, List.set_cons_succ]; rfl
            refine take_ (i := 7) (N := some 99) (v := ?_) (a' := ?_) (bs 12 255) rfl rfl (by kernel_rfl) (fun _ _ _ h => h) (Or.inl ⟨by rfl, ?_⟩) hHeld ?_ ?_
            rotate_left
            · rintro w' ⟨s0, s1, s2, s3, s4⟩; go_simp; try with_reducible rfl
            rotate_left
            · simp only [Act.put, List.setIfInBounds_toArray, List.set_cons_zero, List.set_cons_succ]; rfl
            refine one_ (i := 8) (N := none) (bs 12 511) rfl rfl (by kernel_rfl) (by decide) (fun K hK => ?_)
            have c0 := hX.cell 0 _ rfl
            have c1 := hX.cell 1 _ rfl
            have c2 := hX.cell 2 _ rfl
            have c3 := hX.cell 3 _ rfl
            have fz := hX.frozen
            go_simp
            refine hK.out _ _ ⟨far4 hgx hHeld.1 _ _ _ _, far4 hgx hHeld.2.1 _ _ _ _, far4 hgx hHeld.2.2.1 _ _ _ _, far4 hgx hHeld.2.2.2.1 _ _ _ _, far4 hgx hHeld.2.2.2.2 _ _ _ _⟩ (fun hHeld => ?_)
            clear hK K
            refine norm_ (a' := ?_) ?_ ?_
            rotate_left
            · rfl
            refine pure_ (i := 9) (N := some 3) (v := ?_) (a' := ?_) (bs 12 1023) rfl rfl (by kernel_rfl) (fun _ _ _ h => h) (Or.inl ⟨by rfl, ?_⟩) ?_ ?_
            rotate_left
            · intro w'; go_simp; try with_reducible rfl
            rotate_left
            · simp only [Act.put, List.setIfInBounds_toArray, List.set_cons_zero, List.set_cons_succ]; rfl
            refine pure_ (i := 10) (N := some 4) (v := ?_) (a' := ?_) (bs 12 2047) rfl rfl (by kernel_rfl) (fun _ _ _ h => h) (Or.inl ⟨by rfl, ?_⟩) ?_ ?_
            rotate_left
            · intro w'; go_simp; try with_reducible rfl
            rotate_left
            · simp only [Act.put, List.setIfInBounds_toArray, List.set_cons_zero, List.set_cons_succ]; rfl
            refine pure_ (i := 11) (N := some 5) (v := ?_) (a' := ?_) (bs 12 4095) rfl rfl (by kernel_rfl) (fun _ _ _ h => h) (Or.inl ⟨by rfl, ?_⟩) ?_ ?_
            rotate_left
            · intro w'; go_simp; try with_reducible rfl
            rotate_left
            · simp only [Act.put, List.setIfInBounds_toArray, List.set_cons_zero, List.set_cons_succ]; rfl
            refine done_ (by kernel_rfl) ?_
            go_wp2
            have hb4 := four_put hX rfl (.int .i64 s.I) (.int .i64 s.Q) (.int .i64 s.M) (.slice AR s.rungs.length cR)
            have HB5 := Lib.hid (four_below hBE (Nat.le_refl _) (.int .i64 s.I) (.int .i64 s.Q) (.int .i64 s.M) (.slice AR s.rungs.length cR))
            have HS5 := Lib.hid (S_four HSd.out hX (.int .i64 s.I) (.int .i64 s.Q) (.int .i64 s.M) (.slice AR s.rungs.length cR))
            have HL5 := Lib.hid (R_four HLd.out hX (.int .i64 s.I) (.int .i64 s.Q) (.int .i64 s.M) (.slice AR s.rungs.length cR))
            clear hX hHeld c0 c1 c2 c3 fz HSd HLd
            generalize ((((Ws.setCell ⟨w.heap.size, 0, none⟩ (.int .i64 s.I)).setCell ⟨w.heap.size, 1, none⟩ (.int .i64 s.Q)).setCell ⟨w.heap.size, 2, none⟩ (.int .i64 s.M)).setCell ⟨w.heap.size, 3, none⟩ (.slice AR s.rungs.length cR)) = W4 at hb4 HB5 HS5 HL5 ⊢
            have c0 := hb4.cell 0 _ rfl
            have c1 := hb4.cell 1 _ rfl
            have c2 := hb4.cell 2 _ rfl
            have c3 := hb4.cell 3 _ rfl
            refine bodyPost_ret (v := .tuple #[.agg #[.int .i64 s.I, .int .i64 s.Q, .int .i64 s.M, .slice AR s.rungs.length cR], .slice AL s.lines.length cL, .int .i64 0, .int .i64 0]) (by simp [results, Tryz.results7, go_sem, c0, c1, c2, c3]) rfl ?_
            rw [hNone.out]
            exact ⟨_, _, rfl, Kd.S_lower HS5.out HB.out.size, Kd.R_lower HL5.out HB.out.size, HB5.out⟩
end Go.Proofs.YtdbjjbooalkkbaaGreatDoor.P

/- ParseMatchesReference: the reference's parser gives what the program's gives; the law, walked. -/
set_option linter.unusedVariables false
set_option linter.unusedSimpArgs false
namespace Go.Proofs.YtdbjjbooalkkbaaGreatDoor.P
open Go.RowKit Go.Shelf Go.Proofs.YtdbjjbooalkkbaaGreatDoorW.PrintWords Go.Proofs.YtdbjjbooalkkbaaGreatDoorW.PrintLast Go.Proofs.YtdbjjbooalkkbaaGreatDoorW.PrintMore

theorem refparse_calls (t : ByteArray) (w : World) : Calls Tryz.prog 7 #[.string t] w (PRet w.heap.size (parseT t.data.toList) w) := by
  unfold parseT
  by_cases hs : 65536 < t.data.toList.length
  · rw [if_pos hs]
    exact rparse_err t 0 7 (by decide) [] w (ref_lines_big t (by rw [size_len]; exact hs) 6000000)
  · rw [if_neg hs]
    have h := ref_lines t (by rw [size_len]; omega)
    unfold linesG at h
    cases hf : firstBad 0 (cutAt 10 t.data.toList) with
    | some k =>
      rw [hf] at h
      exact rparse_err t ((k : Int) + 1) 6 (by decide) [] w h
    | none =>
      rw [hf] at h
      have hm := rparse_main t 0 _ ?_ w h
      · rw [List.map_map] at hm
        exact hm
      · intro l hl
        obtain ⟨p, hp, rfl⟩ := List.mem_map.1 hl
        obtain ⟨m, hm, h1, h2⟩ := col_mem hp
        refine ⟨?_, fun x hx => ?_⟩
        · show 0 < p.2.length
          rw [h1]
          exact List.length_pos_iff.2 h2
        · have hx : x ∈ p.2 := hx
          rw [h1] at hx
          have h3 := segA_len m x hx
          have h4 := cut_len 10 t.data.toList m hm
          omega
theorem parsed_ok (t : List UInt8) : (parseT t).2.2.2.1.length ≤ 64 ∧ (parseT t).2.2.2.2.1.length ≤ 64 ∧ ∀ r ∈ (parseT t).2.2.2.1, r.f1.length ≤ 256 ∧ r.f2.length ≤ 16 := by
  have hn : ∀ n e, (bad n e).2.2.2.1.length ≤ 64 ∧ (bad n e).2.2.2.2.1.length ≤ 64 ∧ ∀ r ∈ (bad n e).2.2.2.1, r.f1.length ≤ 256 ∧ r.f2.length ≤ 16 := fun n e => ⟨by simp [bad], by simp [bad], fun r hr => (by cases hr)⟩
  unfold parseT
  split
  · exact hn _ _
  · split
    · exact hn _ _
    · unfold parseL
      split
      · rename_i hz
        have hok := runP_ok (linesN t) POk.s0 hz
        unfold endP
        split
        · exact hn _ _
        · split
          · exact hn _ _
          · exact ⟨hok.rungs, by show (runP P.s0 (linesN t)).2.2.lines.length ≤ 64; rw [hok.lines]; exact hok.rungs, fun r hr => ⟨hok.con r hr, hok.coil r hr⟩⟩
      · exact hn _ _

def jC : ByteArray := ⟨(Lib.join (kwC0.map (·.data.toList)) [32]).toArray⟩
def jQ : ByteArray := ⟨(Lib.join (kwQ0.map (·.data.toList)) [32]).toArray⟩
theorem join_C : strings_Join.f kwC0 ⟨#[32]⟩ = some jC := by
  unfold strings_Join.f
  rw [if_pos (by decide)]
  rfl
theorem join_Q : strings_Join.f kwQ0 ⟨#[32]⟩ = some jQ := by
  unfold strings_Join.f
  rw [if_pos (by decide)]
  rfl
theorem row_int {W : World} {A : Option Addr} {xs : List Int} (h : Kd.C kI W A xs.length xs) {i : Nat} (hi : i < xs.length) : ∃ ad, A = some ad ∧ W.cell? (ad.add i) = some (.int .i64 xs[i]) := by
  obtain ⟨_, _, hc⟩ := h
  obtain ⟨ad, rfl, hget⟩ := hc (by omega)
  obtain ⟨c, _, hK, hcell⟩ := hget i _ (List.getElem?_eq_getElem hi)
  have hK : c = [Value.int .i64 xs[i]] := hK
  subst hK
  have h1 : W.cell? (ad.add (i * 1 + 0)) = some (Value.int .i64 xs[i]) := hcell 0 _ rfl
  rw [Nat.mul_one, Nat.add_zero] at h1
  exact ⟨ad, rfl, h1⟩
set_option maxRecDepth 100000 in
set_option maxHeartbeats 8000000 in
theorem ParseMatchesReference_walk (a0 : ByteArray) (w : World) (w0 : a0.size ≤ 140737488351232) (hL : Aside0 (LaidW 47 w)) :
    Calls Tryz.prog 3 #[.string a0] w fun e w' => e = .returned (.bool true) ∧ Below w.heap.size w w' := by
  have B0 := Lib.hid (Below.refl w.heap.size w)
  have HAl := Lib.hid (fun W (hb : Below w.heap.size w W) => law10_alive.calls true W (LaidW.below hL rfl hb) rfl)
  by_cases hs : 5000 < (a0.size : Int)
  case pos =>
    have hq : decide ((5000 : Int) < (a0.size : Int)) = true := decide_eq_true hs
    clear hs
    go_enter Tryz.func3, Tryz.ntmps3
    go_wp2_with (go_at_call 5; (with_reducible refine (HAl.out _ B0.out).mono ?_); rintro e w1 ⟨rfl, hb⟩; have B1 := Lib.hid hb; clear hb)
    go_ret
    exact ⟨rfl, B1.out⟩
  case neg =>
  have hq : decide ((5000 : Int) < (a0.size : Int)) = false := decide_eq_false hs
  have hpo := parsed_ok a0.data.toList
  have HP := Lib.hid (fun W (hb : Below w.heap.size w W) => parse_Parse.calls a0 (parseT a0.data.toList).1 (parseT a0.data.toList).2.1 (parseT a0.data.toList).2.2.1 (parseT a0.data.toList).2.2.2.1 (parseT a0.data.toList).2.2.2.2.1 (parseT a0.data.toList).2.2.2.2.2.1 (parseT a0.data.toList).2.2.2.2.2.2 W (LaidW.below hL rfl hb) (parse_eq a0))
  have HR := Lib.hid (fun W => refparse_calls a0 W)
  obtain ⟨⟨I, Q, M, rs, ls, n, er⟩, hp⟩ : ∃ p, p = parseT a0.data.toList := ⟨_, rfl⟩
  rw [← hp] at HP HR hpo
  unfold PRet at HR
  simp only at HP HR hpo
  have HPO := Lib.hid hpo
  have HKC := Lib.hid (fun W (hb : Below w.heap.size w W) => parse_ContactKeywords.calls kwC0 W (LaidW.below hL rfl hb) rfl)
  have HKQ := Lib.hid (fun W (hb : Below w.heap.size w W) => parse_CoilKeywords.calls kwQ0 W (LaidW.below hL rfl hb) rfl)
  have HRC := Lib.hid (fun W => ref10_ContactKeywords.calls kwC0 W rfl)
  have HRQ := Lib.hid (fun W => ref10_CoilKeywords.calls kwQ0 W rfl)
  have hsame := same_eq I Q M rs I Q M rs (by have := hpo.1; show rs.length ≤ _; have : rs.length ≤ 64 := hpo.1; omega) (fun r hr => by have h1 : r.f1.length ≤ 256 ∧ r.f2.length ≤ 16 := hpo.2.2 r hr; omega)
  rw [sameP_refl] at hsame
  obtain ⟨k, hk⟩ := hsame.one
  have HK := Lib.hid hk
  clear hp hs hsame hk hpo hL
  go_enter Tryz.func3, Tryz.ntmps3
  go_wp2_with (first
    | (go_at_call 6; (with_reducible refine (HP.out _ B0.out).mono ?_); rintro e w1 ⟨v3, v4, rfl, hS, hT, hb⟩; obtain ⟨A1, c1, rfl, hl1, hC1⟩ := Kd.S_reads hS; obtain ⟨A2, c2, rfl, hl2, hC2⟩ := Kd.R_reads hT; have B1 := Lib.hid hb; have C1 := Lib.hid (And.intro hC1 hl1); have C2 := Lib.hid (And.intro hC2 hl2); clear hS hT hC1 hC2 hl1 hl2 hb)
    | (go_at_call 7; (with_reducible refine (HR.out _).mono ?_); rintro e w2 ⟨v5, v6, rfl, hS, hT, hb⟩; obtain ⟨A3, c3, rfl, hl1, hC1⟩ := Kd.S_reads hS; obtain ⟨A4, c4, rfl, hl2, hC2⟩ := Kd.R_reads hT; have D1 := Lib.hid (below_alloc (below_step (below_alloc (Below.refl w1.heap.size w1) (.cells #[.int .i64 I, .int .i64 Q, .int .i64 M, .slice A1 rs.length c1] 25)) hb) (.cells #[.int .i64 I, .int .i64 Q, .int .i64 M, .slice A3 rs.length c3] 25)); have D2 := Lib.hid (below_alloc (Below.refl w2.heap.size w2) (.cells #[.int .i64 I, .int .i64 Q, .int .i64 M, .slice A3 rs.length c3] 25)); have X1 := ((Bx.new w1 25 #[.int .i64 I, .int .i64 Q, .int .i64 M, .slice A1 rs.length c1]).on hb).alloc (.cells #[.int .i64 I, .int .i64 Q, .int .i64 M, .slice A3 rs.length c3] 25); have y0 := X1.cell 0 _ rfl; have y1 := X1.cell 1 _ rfl; have y2 := X1.cell 2 _ rfl; have y3 := X1.cell 3 _ rfl; have C3 := Lib.hid (And.intro hC1 hl1); have C4 := Lib.hid (And.intro hC2 hl2); clear hS hT hC1 hC2 hl1 hl2 hb X1)
    | (go_at_call 8; (with_reducible refine (ref10_Same.calls k I Q M A1 c1 rs I Q M A3 c3 rs true _ (Kd.C_below C1.out.1 D1.out) C1.out.2 (Kd.C_below C3.out.1 D2.out) C3.out.2 HK.out).mono ?_); rintro e w3 ⟨rfl, hb⟩; have F1 := Lib.hid (below_step D1.out hb); have F2 := Lib.hid (below_step D2.out hb); have E0 := Lib.hid (below_step B1.out F1.out); clear hb y0 y1 y2 y3))
  clear HP HR HK C1 C3 D1 D2
  have h64 : ls.length ≤ 64 := HPO.out.2.1
  go_loopw [53] (fun i wr => ∃ q : Nat, q ≤ ls.length ∧ i = .int .i64 q ∧ Hid (Below w3.heap.size w3 wr)) (fun i _ => ls.length - (intOf i).toNat)
  case atStart => exact ⟨0, Nat.zero_le _, rfl, Lib.hid (Below.refl _ _)⟩
  case round =>
    obtain ⟨q, hq1, rfl, HBq⟩ := hrel
    by_cases hlt : q < ls.length
    · have HV := Lib.hid (And.intro hlt (wrap_nat (i := q) (by omega)))
      obtain ⟨ad2, rfl, h2⟩ := row_int C2.out.1 hlt
      obtain ⟨ad4, rfl, h4⟩ := row_int C4.out.1 hlt
      replace h2 := pw_cell_below (below_step F1.out HBq.out) h2
      replace h4 := pw_cell_below (below_step F2.out HBq.out) h4
      have hql : (q : Int) < (ls.length : Int) := by omega
      have hqk : decide ((q : Int) < (ls.length : Int)) = true := decide_eq_true hql
      have hq0 : (0 : Int) ≤ (q : Int) := Int.natCast_nonneg q
      generalize ls[q] = x at h2 h4
      go_wp2
      go_region_held3 (fun w' => w'.cell? (ad2.add q) = some (.int .i64 x) ∧ w'.cell? (ad4.add q) = some (.int .i64 x)) (go_keep) (fail)
      go_wp2
      go_roundw
      case rel => exact ⟨q + 1, HV.out.1, by rw [Int.natCast_add]; rfl, Lib.hid (below_drew1 HBq.out)⟩
      case measure => simp [intOf]; omega
    · have hqk : decide ((q : Int) < (ls.length : Int)) = false := decide_eq_false (by omega)
      have E1 := Lib.hid (below_step E0.out HBq.out)
      clear hq1 h64 HPO
      go_wp2_with (first
        | (go_at_call 5; (with_reducible refine (HAl.out _ E1.out).mono ?_); rintro e u2 ⟨rfl, hb⟩; have E2 := Lib.hid (below_step E1.out hb); clear hb)
        | (go_at_call 10; (with_reducible refine (HKC.out _ E2.out).mono ?_); rintro e u3 ⟨z3, rfl, hz, hb⟩; obtain ⟨Q3, q3, rfl, hzl, hzc⟩ := Kd.R_reads hz; have G3 := Lib.hid (And.intro hzc hzl); have E3 := Lib.hid (below_step E2.out hb); clear hz hzl hzc hb)
        | (go_at_call 9; (with_reducible refine (strings_Join.calls Q3 q3 kwC0 _ jC _ G3.out.1 G3.out.2 join_C).mono ?_); rintro e u4 ⟨rfl, hb⟩; have E4 := Lib.hid (below_step E3.out hb); clear hb)
        | (go_at_call 11; (with_reducible refine (HRC.out _).mono ?_); rintro e u5 ⟨z5, rfl, hz, hb⟩; obtain ⟨Q5, q5, rfl, hzl, hzc⟩ := Kd.R_reads hz; have G5 := Lib.hid (And.intro hzc hzl); have E5 := Lib.hid (below_step E4.out hb); clear hz hzl hzc hb)
        | (go_at_call 9; (with_reducible refine (strings_Join.calls Q5 q5 kwC0 _ jC _ G5.out.1 G5.out.2 join_C).mono ?_); rintro e u6 ⟨rfl, hb⟩; have E6 := Lib.hid (below_step E5.out hb); clear hb)
        | (go_at_call 12; (with_reducible refine (HKQ.out _ E6.out).mono ?_); rintro e u7 ⟨z7, rfl, hz, hb⟩; obtain ⟨Q7, q7, rfl, hzl, hzc⟩ := Kd.R_reads hz; have G7 := Lib.hid (And.intro hzc hzl); have E7 := Lib.hid (below_step E6.out hb); clear hz hzl hzc hb)
        | (go_at_call 9; (with_reducible refine (strings_Join.calls Q7 q7 kwQ0 _ jQ _ G7.out.1 G7.out.2 join_Q).mono ?_); rintro e u8 ⟨rfl, hb⟩; have E8 := Lib.hid (below_step E7.out hb); clear hb)
        | (go_at_call 13; (with_reducible refine (HRQ.out _).mono ?_); rintro e u9 ⟨z9, rfl, hz, hb⟩; obtain ⟨Q9, q9, rfl, hzl, hzc⟩ := Kd.R_reads hz; have G9 := Lib.hid (And.intro hzc hzl); have E9 := Lib.hid (below_step E8.out hb); clear hz hzl hzc hb)
        | (go_at_call 9; (with_reducible refine (strings_Join.calls Q9 q9 kwQ0 _ jQ _ G9.out.1 G9.out.2 join_Q).mono ?_); rintro e u10 ⟨rfl, hb⟩; have E10 := Lib.hid (below_step E9.out hb); clear hb))
      go_ret
      exact ⟨rfl, E10.out⟩
end Go.Proofs.YtdbjjbooalkkbaaGreatDoor.P

/- strings.ReplaceAll, Contains, Repeat, Count: as the printed texts of package lex ask for them. -/
import Derived.Test.YtmcmpjkfdkogiaaGreatDoorXPlain
import Derived.Test.YtmcmpjkfdkogiaaGreatDoorXLaid
import Derived.Test.YtmcmpjkfdkogiaaGreatDoorShelf
namespace Go.Proofs.YtmcmpjkfdkogiaaGreatDoor.P
open Go.RowKit Go.Proofs.YtmcmpjkfdkogiaaGreatDoorW.PrintWords

def strings_ReplaceAll.f (a0 a1 a2 : ByteArray) : Option ByteArray :=
  if a0.size ≤ 1000000 ∧ 1 ≤ a1.size ∧ a2.size ≤ 1000 ∧ Lib.countB a0 a1 ≤ 1000000 then some ⟨(Lib.replaceAll a0.data.toList a1.data.toList a2.data.toList).toArray⟩ else none
theorem strings_ReplaceAll.calls (a0 a1 a2 r : ByteArray) (w : World) (hL : Aside0 (LaidW 8 w)) (h : strings_ReplaceAll.f a0 a1 a2 = some r) :
    Calls Tryz.prog 11 #[.string a0, .string a1, .string a2] w fun e w' => e = .returned (.string r) ∧ Below w.heap.size w w' := by
  unfold strings_ReplaceAll.f at h
  split at h
  case isFalse => cases h
  case isTrue hs =>
  obtain ⟨h1, h2, h3, h4⟩ := hs
  obtain ⟨m, hm⟩ := hL.out.max rfl
  obtain rfl := Option.some.inj h
  refine Tryz.strings_ReplaceAll a0 a1 a2 m w (by omega) hm h2 ?_
  have := Nat.mul_le_mul h4 h3
  omega
def strings_Count.f (a0 a1 : ByteArray) : Option Int :=
  match a1.data.toList with
  | [c] => some (Lib.countByte a0.data.toList c)
  | _ => none
theorem strings_Count.calls (a0 a1 : ByteArray) (r : Int) (w : World) (h : strings_Count.f a0 a1 = some r) :
    Calls Tryz.prog 10 #[.string a0, .string a1] w fun e w' => e = .returned (.int .i64 r) ∧ Below w.heap.size w w' := by
  unfold strings_Count.f at h
  split at h
  case h_2 => cases h
  case h_1 c hc =>
  obtain rfl := Option.some.inj h
  have e : a1 = ⟨#[c]⟩ := by
    apply ByteArray.ext
    apply Array.ext'
    exact hc
  rw [e]
  exact (Tryz.strings_Count_one a0 c w).mono fun e w' ⟨he, hw⟩ => ⟨he, by rw [hw]; exact Below.refl _ _⟩
def strings_Repeat.f (a0 : ByteArray) (a1 : Int) : Option ByteArray :=
  if 0 ≤ a1 ∧ a1 ≤ 1000000 ∧ a0.size ≤ 1000 then some ⟨(Lib.repeatL a0.data.toList a1.toNat).toArray⟩ else none
theorem strings_Repeat.calls (a0 : ByteArray) (a1 : Int) (r : ByteArray) (w : World) (h : strings_Repeat.f a0 a1 = some r) :
    Calls Tryz.prog 19 #[.string a0, .int .i64 a1] w fun e w' => e = .returned (.string r) ∧ Below w.heap.size w w' := by
  unfold strings_Repeat.f at h
  split at h
  case isFalse => cases h
  case isTrue hs =>
  obtain ⟨h1, h2, h3⟩ := hs
  obtain rfl := Option.some.inj h
  obtain ⟨n, rfl⟩ : ∃ n : Nat, a1 = n := ⟨a1.toNat, by omega⟩
  rw [Int.toNat_natCast]
  refine Tryz.strings_Repeat a0 n w (by omega) ?_
  have := Nat.mul_le_mul h3 (show n ≤ 1000000 by omega)
  omega
def strings_Join.f (l : List ByteArray) (sep : ByteArray) : Option ByteArray :=
  if l.length ≤ 140737488355328 ∧ (Lib.join (l.map (·.data.toList)) sep.data.toList).length ≤ 140737488355328 then some ⟨(Lib.join (l.map (·.data.toList)) sep.data.toList).toArray⟩ else none
theorem strings_Join.calls (A : Option Addr) (c : Nat) (l : List ByteArray) (sep r : ByteArray) (w : World) (hC : Kd.C Kd.string w A l.length l) (hc : l.length ≤ c) (h : strings_Join.f l sep = some r) :
    Calls Tryz.prog 14 #[.slice A l.length c, .string sep] w fun e w' => e = .returned (.string r) ∧ Below w.heap.size w w' := by
  unfold strings_Join.f at h
  split at h
  case isFalse => cases h
  case isTrue hs =>
  obtain ⟨h1, h2⟩ := hs
  obtain rfl := Option.some.inj h
  cases l with
  | nil => exact (Tryz.strings_Join_none A c sep w).mono fun e w' ⟨he, hw⟩ => ⟨he, by rw [hw]; exact Below.refl _ _⟩
  | cons x xs =>
    obtain ⟨ad, hA, hall⟩ := hC.2.2 (Nat.succ_pos _)
    have hat : ∀ (j : Nat) y, (x :: xs)[j]? = some y → w.cell? (ad.add j) = some (.string y) := by
      intro j y hj
      obtain ⟨cs, _, hk, hcell⟩ := hall j y hj
      have e : cs = [.string y] := hk
      subst e
      have := hcell 0 _ rfl
      rwa [show Kd.string.sz = 1 from rfl, Nat.mul_one, Nat.add_zero] at this
    obtain ⟨bk, o, sp⟩ := ad
    have h0 : w.cell? ⟨bk, o, sp⟩ = some (.string x) := by
      have := hat 0 x rfl
      rwa [Addr.add, if_pos rfl] at this
    have hsp : sp = none := by
      cases sp with
      | none => rfl
      | some k =>
        unfold World.cell? at h0
        split at h0
        · simp at h0
        · cases h0
    subst hsp
    subst hA
    refine Tryz.strings_Join bk o c (x :: xs) sep w (fun j y hj => ?_) (World.block_lt_of_cell? _ _ h0) h1 hc h2
    have := hat j y hj
    unfold Addr.add at this
    split at this
    case isTrue hj0 => rw [hj0]; exact this
    case isFalse => exact this
end Go.Proofs.YtmcmpjkfdkogiaaGreatDoor.P

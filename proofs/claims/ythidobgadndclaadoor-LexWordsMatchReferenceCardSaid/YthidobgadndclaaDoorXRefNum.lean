/- The reference of package addr's numbers, as a plain function: Number. -/
import Derived.Test.YthidobgadndclaaDoorXDec
import Derived.Test.YthidobgadndclaaDoorPL10
namespace Go.Proofs.YthidobgadndclaaDoor.P
open Go.RowKit Go.Proofs.YthidobgadndclaaDoorW.PrintWords

/-! Number -/
def fin (l : List UInt8) (most : Int) : Int × Int :=
  if 1 < l.length ∧ l.head? = some 48 then (0, 6) else if most < (decVal l : Int) then (0, 3) else ((decVal l : Int), 0)
def AccInv (most acc : Int) (p : List UInt8) : Prop := acc ≤ most ∧ acc = (decVal p : Int) ∨ most < acc ∧ most < (decVal p : Int)
theorem decVal_take (l : List UInt8) (i : Nat) (c : UInt8) (h : l[i]? = some c) : decVal (l.take (i + 1)) = decVal (l.take i) * 10 + (c.toNat - 48) := by
  rw [List.take_add_one, h]
  exact decVal_snoc _ _
theorem acc_wrap (acc c : Int) (h0 : 0 ≤ acc) (h1 : acc ≤ 1000000) (hc : 0 ≤ c) (hc2 : c ≤ 255) : wrap64 ((wrap64 ((wrap64 (10 * acc)) + (wrap64 c))) - 48) = 10 * acc + (c - 48) := by
  have e1 : wrap64 (10 * acc) = 10 * acc := wrap_id (by omega) (by omega)
  have e2 : wrap64 c = c := wrap_id (by omega) (by omega)
  have e3 : wrap64 (10 * acc + c) = 10 * acc + c := wrap_id (by omega) (by omega)
  have e4 : wrap64 (10 * acc + c - 48) = 10 * acc + c - 48 := wrap_id (by omega) (by omega)
  rw [e1, e2, e3, e4]
  omega
theorem acc_next (most acc : Int) (l : List UInt8) (i : Nat) (c : UInt8) (hinv : AccInv most acc (l.take i)) (hc : l[i]? = some c) (h1 : 48 ≤ c.toNat) (ha : acc ≤ most) :
    AccInv most (10 * acc + ((c.toNat : Int) - 48)) (l.take (i + 1)) := by
  have hv := decVal_take l i c hc
  unfold AccInv at hinv ⊢
  rw [hv]
  generalize decVal (l.take i) = v at hinv
  omega
theorem acc_same (most acc : Int) (l : List UInt8) (i : Nat) (c : UInt8) (hinv : AccInv most acc (l.take i)) (hc : l[i]? = some c) (ha : ¬ acc ≤ most) :
    AccInv most acc (l.take (i + 1)) := by
  have hv := decVal_take l i c hc
  unfold AccInv at hinv ⊢
  rw [hv]
  generalize decVal (l.take i) = v at hinv
  omega
set_option maxHeartbeats 2000000 in
theorem num_loop (x0 : ByteArray) (most : Int) (hm0 : 0 ≤ most) (hm1 : most ≤ 1000000) (hpos : 0 < x0.size) (hbig : x0.size ≤ 281474976710656) (d : Nat) :
    ∀ (k i : Nat) (acc : Int), i + d = x0.size → 2 * d + 2 ≤ k → AccInv most acc (x0.data.toList.take i) → 0 ≤ acc →
      ref01_Number.l0 k x0 most acc (i : Int) = some (if (x0.data.toList.drop i).all isDig = true then fin x0.data.toList most else (0, 6)) := by
  have hsz := size_list x0
  induction d with
  | zero =>
    intro k i acc hi hk hinv h0
    obtain ⟨k, rfl⟩ : ∃ m, k = m + 1 + 1 := ⟨k - 2, by omega⟩
    have hd : x0.data.toList.drop i = [] := List.drop_eq_nil_of_le (by omega)
    rw [hd]
    simp only [List.all_nil, if_true]
    have hnl : ¬ ((i : Int) < (x0.size : Int)) := by omega
    have hps : (0 : Int) < (x0.size : Int) := by omega
    rw [ref01_Number.l0, if_neg hnl, if_pos hps]
    obtain ⟨c, hc⟩ : ∃ c, x0.data.toList[0]? = some c := by
      cases h : x0.data.toList with
      | nil => exact absurd (show x0.size = 0 by rw [hsz, h]; rfl) (by omega)
      | cons c r => exact ⟨c, rfl⟩
    have hb : bt x0 0 = c.toNat := bt_list x0 0 c hc
    have hh : x0.data.toList.head? = some c := by rw [List.head?_eq_getElem?]; exact hc
    have ht : x0.data.toList.take i = x0.data.toList := List.take_of_length_le (by omega)
    rw [ht] at hinv
    have hj : ∀ b : Bool, ref01_Number.j2 (k + 1) most acc b = some (if b = true then (0, 6) else if most < (decVal x0.data.toList : Int) then (0, 3) else ((decVal x0.data.toList : Int), 0)) := by
      intro b
      rw [ref01_Number.j2]
      by_cases hb2 : b = true
      · rw [if_pos hb2, if_pos hb2]
      · rw [if_neg hb2, if_neg hb2]
        rcases hinv with ⟨h1, h2⟩ | ⟨h1, h2⟩
        · rw [if_neg (by omega), if_neg (by omega), h2]
        · rw [if_pos (by omega), if_pos (by omega)]
    by_cases h48 : bt x0 0 = 48
    · have hn48 : c.toNat = 48 := by omega
      have hc48 : c = 48 := UInt8.toNat_inj.mp hn48
      rw [if_pos h48, hj]
      by_cases hl : 1 < x0.data.toList.length
      · have hf : fin x0.data.toList most = (0, 6) := if_pos ⟨hl, by rw [hh, hc48]⟩
        rw [hf, if_pos (by simp; omega)]
      · have hf : fin x0.data.toList most = if most < (decVal x0.data.toList : Int) then (0, 3) else ((decVal x0.data.toList : Int), 0) := if_neg (fun h => hl h.1)
        rw [hf, if_neg (by simp; omega)]
    · have hf : fin x0.data.toList most = if most < (decVal x0.data.toList : Int) then (0, 3) else ((decVal x0.data.toList : Int), 0) := if_neg (fun h => h48 (by rw [hh] at h; rw [hb, Option.some.inj h.2]; rfl))
      rw [if_neg h48, hj, hf, if_neg (by simp)]
  | succ d ih =>
    intro k i acc hi hk hinv h0
    obtain ⟨k, rfl⟩ : ∃ m, k = m + 1 + 1 := ⟨k - 2, by omega⟩
    obtain ⟨c, hc⟩ : ∃ c, x0.data.toList[i]? = some c := ⟨_, List.getElem?_eq_getElem (by omega)⟩
    have hb : bt x0 (i : Int) = c.toNat := bt_list x0 i c (by simpa using hc)
    have hcl := c.toNat_lt
    have hdr : x0.data.toList.drop i = c :: x0.data.toList.drop (i + 1) := by
      rw [List.drop_eq_getElem_cons (by omega)]
      congr 1
      exact Option.some.inj ((List.getElem?_eq_getElem (by omega)).symm.trans hc)
    rw [ref01_Number.l0, if_pos (by omega), if_pos (by omega), hb, hdr, List.all_cons]
    by_cases h1 : (c.toNat : Int) < 48
    · rw [if_pos h1, ref01_Number.j1, if_pos rfl]
      have : isDig c = false := decide_eq_false (by omega)
      rw [this, Bool.false_and, if_neg (by simp)]
    · rw [if_neg h1, ref01_Number.j1]
      by_cases h2 : (c.toNat : Int) > 57
      · rw [if_pos (by simp; omega)]
        have : isDig c = false := decide_eq_false (by omega)
        rw [this, Bool.false_and, if_neg (by simp)]
      · rw [if_neg (by simp; omega)]
        have hdig : isDig c = true := decide_eq_true (by omega)
        rw [hdig, Bool.true_and]
        have hw : wrap64 ((i : Int) + 1) = ((i + 1 : Nat) : Int) := by rw [wrap_id (by omega) (by omega)]; omega
        have hi0 : (0 : Int) ≤ (i : Int) := by omega
        have hi1 : (i : Int) < (x0.size : Int) := by omega
        have hc48 : 48 ≤ c.toNat := by omega
        by_cases ha : acc ≤ most
        · have hac := acc_wrap acc (c.toNat : Int) h0 (by omega) (by omega) (by omega)
          rw [if_pos ha, if_pos hi0, if_pos hi1, hb, hac, hw]
          exact ih k (i + 1) _ (by omega) (by omega) (acc_next most acc _ i c hinv hc hc48 ha) (by omega)
        · rw [if_neg ha, hw]
          exact ih k (i + 1) _ (by omega) (by omega) (acc_same most acc _ i c hinv hc ha) h0
def num (l : List UInt8) (most : Int) : Int × Int := if isNum l = true then (if (decVal l : Int) ≤ most then ((decVal l : Int), 0) else (0, 3)) else (0, 6)
theorem fin_num (l : List UInt8) (most : Int) (hne : l ≠ []) : (if l.all isDig = true then fin l most else (0, 6)) = num l most := by
  unfold num fin isNum
  have e : l.isEmpty = false := by simpa using hne
  by_cases h : l.all isDig = true
  · rw [if_pos h]
    simp only [e, h, Bool.not_false, Bool.true_and, Bool.or_eq_true, decide_eq_true_eq]
    by_cases hb : 1 < l.length ∧ l.head? = some 48
    · rw [if_pos hb, if_neg]
      rintro (h1 | h1)
      · omega
      · exact absurd hb.2 h1
    · have hc : l.length ≤ 1 ∨ l.head? ≠ some 48 := by
        by_cases h1 : l.length ≤ 1
        · exact .inl h1
        · exact .inr (fun e => hb ⟨by omega, e⟩)
      rw [if_neg hb, if_pos hc]
      by_cases hm : most < (decVal l : Int)
      · rw [if_pos hm, if_neg (by omega)]
      · rw [if_neg hm, if_pos (by omega)]
  · rw [if_neg h]
    simp only [Bool.eq_false_iff.mpr h, Bool.and_false, Bool.false_and, Bool.false_eq_true, if_false]
theorem ref_number (x0 : ByteArray) (most : Int) (hm0 : 0 ≤ most) (hm1 : most ≤ 1000000) (hbig : x0.size ≤ 281474976710656) (k : Nat) (hk : 2 * x0.size + 2 ≤ k) :
    ref01_Number.f k x0 most = some (num x0.data.toList most) := by
  unfold ref01_Number.f
  rw [ByteArray.toList_eq]
  by_cases h : x0.data.toList = []
  · rw [if_pos h, h]; rfl
  · rw [if_neg h]
    have hp : 0 < x0.size := by rw [size_list]; exact List.length_pos_iff.mpr h
    have := num_loop x0 most hm0 hm1 hp hbig x0.size k 0 0 (by omega) (by omega) (.inl ⟨by omega, rfl⟩) (by omega)
    rw [← fin_num _ _ h]
    simpa using this
end Go.Proofs.YthidobgadndclaaDoor.P

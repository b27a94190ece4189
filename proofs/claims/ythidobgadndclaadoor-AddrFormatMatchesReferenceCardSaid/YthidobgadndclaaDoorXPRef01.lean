/- The reference of package addr, as plain functions: Decimal, Number, Format, Parse. -/
import Derived.Test.YthidobgadndclaaDoorXPA0
import Derived.Test.YthidobgadndclaaDoorPA2
import Derived.Test.YthidobgadndclaaDoorPA3
import Derived.Test.YthidobgadndclaaDoorPA4
namespace Go.Proofs.YthidobgadndclaaDoor.P
open Go.RowKit Go.Proofs.YthidobgadndclaaDoorW.PrintWords

/-! Number -/
def fin (l : List UInt8) (most : Int) : Int × Int :=
  if 1 < l.length ∧ l.head? = some 48 then (0, 6) else if most < (decVal l : Int) then (0, 3) else ((decVal l : Int), 0)
def AccInv (most acc : Int) (p : List UInt8) : Prop := acc ≤ most ∧ acc = (decVal p : Int) ∨ most < acc ∧ most < (decVal p : Int)
theorem decVal_take (l : List UInt8) (i : Nat) (c : UInt8) (h : l[i]? = some c) : decVal (l.take (i + 1)) = decVal (l.take i) * 10 + (c.toNat - 48) := by
  rw [List.take_add_one, h]
  exact decVal_snoc _ _
theorem acc_wrap (acc c : Int) (h0 : 0 ≤ acc) (h1 : acc ≤ 1000000) (hc : 0 ≤ c) (hc2 : c ≤ 255) : wrap64 ((wrap64 ((wrap64 (10 * acc)) + (wrap64 c))) - 48) = 10 * acc + (c - 48) := by
  have e1 : wrap64 (10 * acc) = 10 * acc := wrap_id (by omega) (by omega)
  have e2 : wrap64 c = c := wrap_id (by omega) (by omega)
  have e3 : wrap64 (10 * acc + c) = 10 * acc + c := wrap_id (by omega) (by omega)
  have e4 : wrap64 (10 * acc + c - 48) = 10 * acc + c - 48 := wrap_id (by omega) (by omega)
  rw [e1, e2, e3, e4]
  omega
theorem acc_next (most acc : Int) (l : List UInt8) (i : Nat) (c : UInt8) (hinv : AccInv most acc (l.take i)) (hc : l[i]? = some c) (h1 : 48 ≤ c.toNat) (ha : acc ≤ most) :
    AccInv most (10 * acc + ((c.toNat : Int) - 48)) (l.take (i + 1)) := by
  have hv := decVal_take l i c hc
  unfold AccInv at hinv ⊢
  rw [hv]
  generalize decVal (l.take i) = v at hinv
  omega
theorem acc_same (most acc : Int) (l : List UInt8) (i : Nat) (c : UInt8) (hinv : AccInv most acc (l.take i)) (hc : l[i]? = some c) (ha : ¬ acc ≤ most) :
    AccInv most acc (l.take (i + 1)) := by
  have hv := decVal_take l i c hc
  unfold AccInv at hinv ⊢
  rw [hv]
  generalize decVal (l.take i) = v at hinv
  omega
set_option maxHeartbeats 2000000 in
theorem num_loop (x0 : ByteArray) (most : Int) (hm0 : 0 ≤ most) (hm1 : most ≤ 1000000) (hpos : 0 < x0.size) (hbig : x0.size ≤ 281474976710656) (d : Nat) :
    ∀ (k i : Nat) (acc : Int), i + d = x0.size → 2 * d + 2 ≤ k → AccInv most acc (x0.data.toList.take i) → 0 ≤ acc →
      ref01_Number.l0 k x0 most acc (i : Int) = some (if (x0.data.toList.drop i).all isDig = true then fin x0.data.toList most else (0, 6)) := by
  have hsz := size_list x0
  induction d with
  | zero =>
    intro k i acc hi hk hinv h0
    obtain ⟨k, rfl⟩ : ∃ m, k = m + 1 + 1 := ⟨k - 2, by omega⟩
    have hd : x0.data.toList.drop i = [] := List.drop_eq_nil_of_le (by omega)
    rw [hd]
    simp only [List.all_nil, if_true]
    have hnl : ¬ ((i : Int) < (x0.size : Int)) := by omega
    have hps : (0 : Int) < (x0.size : Int) := by omega
    rw [ref01_Number.l0, if_neg hnl, if_pos hps]
    obtain ⟨c, hc⟩ : ∃ c, x0.data.toList[0]? = some c := by
      cases h : x0.data.toList with
      | nil => exact absurd (show x0.size = 0 by rw [hsz, h]; rfl) (by omega)
      | cons c r => exact ⟨c, rfl⟩
    have hb : bt x0 0 = c.toNat := bt_list x0 0 c hc
    have hh : x0.data.toList.head? = some c := by rw [List.head?_eq_getElem?]; exact hc
    have ht : x0.data.toList.take i = x0.data.toList := List.take_of_length_le (by omega)
    rw [ht] at hinv
    have hj : ∀ b : Bool, ref01_Number.j2 (k + 1) most acc b = some (if b = true then (0, 6) else if most < (decVal x0.data.toList : Int) then (0, 3) else ((decVal x0.data.toList : Int), 0)) := by
      intro b
      rw [ref01_Number.j2]
      by_cases hb2 : b = true
      · rw [if_pos hb2, if_pos hb2]
      · rw [if_neg hb2, if_neg hb2]
        rcases hinv with ⟨h1, h2⟩ | ⟨h1, h2⟩
        · rw [if_neg (by omega), if_neg (by omega), h2]
        · rw [if_pos (by omega), if_pos (by omega)]
    by_cases h48 : bt x0 0 = 48
    · have hn48 : c.toNat = 48 := by omega
      have hc48 : c = 48 := UInt8.toNat_inj.mp hn48
      rw [if_pos h48, hj]
      by_cases hl : 1 < x0.data.toList.length
      · have hf : fin x0.data.toList most = (0, 6) := if_pos ⟨hl, by rw [hh, hc48]⟩
        rw [hf, if_pos (by simp; omega)]
      · have hf : fin x0.data.toList most = if most < (decVal x0.data.toList : Int) then (0, 3) else ((decVal x0.data.toList : Int), 0) := if_neg (fun h => hl h.1)
        rw [hf, if_neg (by simp; omega)]
    · have hf : fin x0.data.toList most = if most < (decVal x0.data.toList : Int) then (0, 3) else ((decVal x0.data.toList : Int), 0) := if_neg (fun h => h48 (by rw [hh] at h; rw [hb, Option.some.inj h.2]; rfl))
      rw [if_neg h48, hj, hf, if_neg (by simp)]
  | succ d ih =>
    intro k i acc hi hk hinv h0
    obtain ⟨k, rfl⟩ : ∃ m, k = m + 1 + 1 := ⟨k - 2, by omega⟩
    obtain ⟨c, hc⟩ : ∃ c, x0.data.toList[i]? = some c := ⟨_, List.getElem?_eq_getElem (by omega)⟩
    have hb : bt x0 (i : Int) = c.toNat := bt_list x0 i c (by simpa using hc)
    have hcl := c.toNat_lt
    have hdr : x0.data.toList.drop i = c :: x0.data.toList.drop (i + 1) := by
      rw [List.drop_eq_getElem_cons (by omega)]
      congr 1
      exact Option.some.inj ((List.getElem?_eq_getElem (by omega)).symm.trans hc)
    rw [ref01_Number.l0, if_pos (by omega), if_pos (by omega), hb, hdr, List.all_cons]
    by_cases h1 : (c.toNat : Int) < 48
    · rw [if_pos h1, ref01_Number.j1, if_pos rfl]
      have : isDig c = false := decide_eq_false (by omega)
      rw [this, Bool.false_and, if_neg (by simp)]
    · rw [if_neg h1, ref01_Number.j1]
      by_cases h2 : (c.toNat : Int) > 57
      · rw [if_pos (by simp; omega)]
        have : isDig c = false := decide_eq_false (by omega)
        rw [this, Bool.false_and, if_neg (by simp)]
      · rw [if_neg (by simp; omega)]
        have hdig : isDig c = true := decide_eq_true (by omega)
        rw [hdig, Bool.true_and]
        have hw : wrap64 ((i : Int) + 1) = ((i + 1 : Nat) : Int) := by rw [wrap_id (by omega) (by omega)]; omega
        have hi0 : (0 : Int) ≤ (i : Int) := by omega
        have hi1 : (i : Int) < (x0.size : Int) := by omega
        have hc48 : 48 ≤ c.toNat := by omega
        by_cases ha : acc ≤ most
        · have hac := acc_wrap acc (c.toNat : Int) h0 (by omega) (by omega) (by omega)
          rw [if_pos ha, if_pos hi0, if_pos hi1, hb, hac, hw]
          exact ih k (i + 1) _ (by omega) (by omega) (acc_next most acc _ i c hinv hc hc48 ha) (by omega)
        · rw [if_neg ha, hw]
          exact ih k (i + 1) _ (by omega) (by omega) (acc_same most acc _ i c hinv hc ha) h0
def num (l : List UInt8) (most : Int) : Int × Int := if isNum l = true then (if (decVal l : Int) ≤ most then ((decVal l : Int), 0) else (0, 3)) else (0, 6)
theorem fin_num (l : List UInt8) (most : Int) (hne : l ≠ []) : (if l.all isDig = true then fin l most else (0, 6)) = num l most := by
  unfold num fin isNum
  have e : l.isEmpty = false := by simpa using hne
  by_cases h : l.all isDig = true
  · rw [if_pos h]
    simp only [e, h, Bool.not_false, Bool.true_and, Bool.or_eq_true, decide_eq_true_eq]
    by_cases hb : 1 < l.length ∧ l.head? = some 48
    · rw [if_pos hb, if_neg]
      rintro (h1 | h1)
      · omega
      · exact absurd hb.2 h1
    · have hc : l.length ≤ 1 ∨ l.head? ≠ some 48 := by
        by_cases h1 : l.length ≤ 1
        · exact .inl h1
        · exact .inr (fun e => hb ⟨by omega, e⟩)
      rw [if_neg hb, if_pos hc]
      by_cases hm : most < (decVal l : Int)
      · rw [if_pos hm, if_neg (by omega)]
      · rw [if_neg hm, if_pos (by omega)]
  · rw [if_neg h]
    simp only [Bool.eq_false_iff.mpr h, Bool.and_false, Bool.false_and, Bool.false_eq_true, if_false]
theorem ref_number (x0 : ByteArray) (most : Int) (hm0 : 0 ≤ most) (hm1 : most ≤ 1000000) (hbig : x0.size ≤ 281474976710656) (k : Nat) (hk : 2 * x0.size + 2 ≤ k) :
    ref01_Number.f k x0 most = some (num x0.data.toList most) := by
  unfold ref01_Number.f
  rw [ByteArray.toList_eq]
  by_cases h : x0.data.toList = []
  · rw [if_pos h, h]; rfl
  · rw [if_neg h]
    have hp : 0 < x0.size := by rw [size_list]; exact List.length_pos_iff.mpr h
    have := num_loop x0 most hm0 hm1 hp hbig x0.size k 0 0 (by omega) (by omega) (.inl ⟨by omega, rfl⟩) (by omega)
    rw [← fin_num _ _ h]
    simpa using this

/-! Parse -/
theorem iqm : bt (⟨#[73, 81, 77]⟩ : ByteArray) 0 = 73 ∧ bt (⟨#[73, 81, 77]⟩ : ByteArray) 1 = 81 ∧ bt (⟨#[73, 81, 77]⟩ : ByteArray) 2 = 77 := ⟨rfl, rfl, rfl⟩
theorem ref_parse_cons (x0 : ByteArray) (c : UInt8) (ds : List UInt8) (hd : x0.data.toList = c :: ds) (hbig : x0.size ≤ 281474976710656) (k : Nat) (hk : 2 * x0.size + 10 ≤ k) :
    ref01_Parse.f k x0 = some (match spaceOf c with | none => (0, 0, 6) | some sp => if (num ds 255).2 = 0 then (sp, (num ds 255).1, 0) else (0, 0, (num ds 255).2)) := by
  have hs : x0.size = ds.length + 1 := by rw [size_list, hd]; rfl
  have hne : ¬ x0.toList = [] := by rw [ByteArray.toList_eq, hd]; simp
  have hb : bt x0 0 = c.toNat := bt_list x0 0 c (by rw [hd]; rfl)
  have hy : (x0.extract 1 x0.size).data.toList = ds := extract_rest x0 c ds hd
  have hys : (x0.extract 1 x0.size).size = ds.length := by rw [size_list, hy]
  have hn : ∀ j, 2 * x0.size + 2 ≤ j → ref01_Number.f j (x0.extract 1 x0.size) 255 = some (num ds 255) := by
    intro j hj
    rw [ref_number _ 255 (by omega) (by omega) (by omega) j (by omega), hy]
  obtain ⟨k, rfl⟩ : ∃ m, k = m + 7 := ⟨k - 7, by omega⟩
  have w1 : wrap64 (0 + 1) = 1 := wrap_id (by omega) (by omega)
  have w2 : wrap64 (1 + 1) = 2 := wrap_id (by omega) (by omega)
  have w3 : wrap64 (2 + 1) = 3 := wrap_id (by omega) (by omega)
  have hcl := c.toNat_lt
  have e : ∀ u : UInt8, ((c.toNat : Int) == (u.toNat : Int)) = decide (c = u) := by
    intro u
    rw [Bool.eq_iff_iff, beq_iff_eq, decide_eq_true_eq, ← UInt8.toNat_inj]
    omega
  have e0 : (bt x0 0 == bt (⟨#[73, 81, 77]⟩ : ByteArray) 0) = decide (c = 73) := by rw [hb]; exact e 73
  have e1 : (bt x0 0 == bt (⟨#[73, 81, 77]⟩ : ByteArray) 1) = decide (c = 81) := by rw [hb]; exact e 81
  have e2 : (bt x0 0 == bt (⟨#[73, 81, 77]⟩ : ByteArray) 2) = decide (c = 77) := by rw [hb]; exact e 77
  unfold ref01_Parse.f
  rw [show k + 7 = k + 6 + 1 from rfl, ref01_Parse.l0, if_pos (by decide), if_neg hne, if_pos (by omega), if_pos (by decide), e0, show k + 6 = k + 5 + 1 from rfl, ref01_Parse.j1]
  unfold spaceOf
  by_cases h0 : c = 73
  · rw [if_pos (decide_eq_true h0), if_pos (by omega), hn _ (by omega), if_pos h0]
    simp only [Option.bind_some]
    split <;> rfl
  · rw [if_neg (by simpa using h0), if_neg h0, w1, show k + 5 = k + 4 + 1 from rfl, ref01_Parse.l0, if_pos (by decide), if_neg hne, if_pos (by omega), if_pos (by decide), e1, show k + 4 = k + 3 + 1 from rfl, ref01_Parse.j1]
    by_cases h1 : c = 81
    · rw [if_pos (decide_eq_true h1), if_pos (by omega), hn _ (by omega), if_pos h1]
      simp only [Option.bind_some]
      split <;> rfl
    · rw [if_neg (by simpa using h1), if_neg h1, w2, show k + 3 = k + 2 + 1 from rfl, ref01_Parse.l0, if_pos (by decide), if_neg hne, if_pos (by omega), if_pos (by decide), e2, show k + 2 = k + 1 + 1 from rfl, ref01_Parse.j1]
      by_cases h2 : c = 77
      · rw [if_pos (decide_eq_true h2), if_pos (by omega), hn _ (by omega), if_pos h2]
        simp only [Option.bind_some]
        split <;> rfl
      · rw [if_neg (by simpa using h2), if_neg h2, w3, ref01_Parse.l0, if_neg (by decide)]
theorem parse_num (c : UInt8) (ds : List UInt8) : parseAddr (c :: ds) = match spaceOf c with | none => (0, 0, 6) | some sp => if (num ds 255).2 = 0 then (sp, (num ds 255).1, 0) else (0, 0, (num ds 255).2) := by
  unfold parseAddr num
  cases hsp : spaceOf c with
  | none => simp only [hsp]
  | some sp =>
    simp only [hsp]
    by_cases h : isNum ds = true
    · rw [if_pos h, if_pos h]
      by_cases hv : decVal ds < 256
      · have hv' : (decVal ds : Int) ≤ 255 := by omega
        rw [if_pos hv, if_pos hv']; rfl
      · have hv' : ¬ (decVal ds : Int) ≤ 255 := by omega
        rw [if_neg hv, if_neg hv']; rfl
    · rw [if_neg h, if_neg h]; rfl
theorem ref_parse (x0 : ByteArray) (hbig : x0.size ≤ 281474976710656) (k : Nat) (hk : 2 * x0.size + 10 ≤ k) : ref01_Parse.f k x0 = some (parseAddr x0.data.toList) := by
  cases hd : x0.data.toList with
  | nil =>
    have he : x0.toList = [] := by rw [ByteArray.toList_eq, hd]
    have w1 : wrap64 (0 + 1) = 1 := wrap_id (by omega) (by omega)
    have w2 : wrap64 (1 + 1) = 2 := wrap_id (by omega) (by omega)
    have w3 : wrap64 (2 + 1) = 3 := wrap_id (by omega) (by omega)
    obtain ⟨k, rfl⟩ : ∃ m, k = m + 7 := ⟨k - 7, by omega⟩
    unfold ref01_Parse.f
    rw [show k + 7 = k + 6 + 1 from rfl, ref01_Parse.l0, if_pos (by decide), if_pos he, show k + 6 = k + 5 + 1 from rfl, ref01_Parse.j1, if_neg (by simp), w1,
      show k + 5 = k + 4 + 1 from rfl, ref01_Parse.l0, if_pos (by decide), if_pos he, show k + 4 = k + 3 + 1 from rfl, ref01_Parse.j1, if_neg (by simp), w2,
      show k + 3 = k + 2 + 1 from rfl, ref01_Parse.l0, if_pos (by decide), if_pos he, show k + 2 = k + 1 + 1 from rfl, ref01_Parse.j1, if_neg (by simp), w3, ref01_Parse.l0, if_neg (by decide)]
    rfl
  | cons c ds => rw [ref_parse_cons x0 c ds hd hbig k hk, parse_num]

/-! Decimal and Format -/
theorem push_digit (d : Int) (h0 : 0 ≤ d) (h1 : d < 10) (acc : ByteArray) : strOfNums [(wrap64 (48 + d)) % 256] ++ acc = ⟨([UInt8.ofNat (48 + d.toNat)] ++ acc.data.toList).toArray⟩ := by
  rw [wrap_id (by omega) (by omega)]
  apply ByteArray.ext
  rw [ByteArray.data_append]
  unfold strOfNums
  have : (48 + d) % 256 = 48 + d := by omega
  rw [this]
  apply Array.ext'
  have e : (48 + d).toNat = 48 + d.toNat := by omega
  simp [e]
theorem dec_loop (n : Nat) : ∀ (k : Nat) (acc : ByteArray), n < 1000 → acc.size + n ≤ 2000 → 0 < acc.size ∨ 0 < n → n + 1 ≤ k →
    ref01_Decimal.l0 k (n : Int) acc = some ⟨((if n = 0 then [] else Lib.decDigits n) ++ acc.data.toList).toArray⟩ := by
  induction n using Nat.strongRecOn with
  | _ n ih =>
    intro k acc hn hacc hor hk
    obtain ⟨k, rfl⟩ : ∃ m, k = m + 1 := ⟨k - 1, by omega⟩
    rw [ref01_Decimal.l0]
    by_cases h0 : n = 0
    · subst h0
      have hne : ¬ acc.toList = [] := by
        rw [ByteArray.toList_eq]
        intro e
        have h3 : acc.size = 0 := by rw [size_list, e]; rfl
        omega
      rw [if_neg (by omega), if_neg hne, if_pos rfl, List.nil_append, mk_list]
    · rw [if_pos (by omega)]
      simp only [Option.bind_some]
      rw [Int.tmod_eq_emod_of_nonneg (by omega), Int.tdiv_eq_ediv_of_nonneg (by omega)]
      have hpd := push_digit ((n : Int) % 10) (by omega) (by omega) acc
      have hsz : (strOfNums [(wrap64 (48 + (n : Int) % 10)) % 256]).size + acc.size ≤ 9223372036854775807 := by
        have : (strOfNums [(wrap64 (48 + (n : Int) % 10)) % 256]).size = 1 := by unfold strOfNums; rfl
        omega
      rw [if_pos hsz, hpd, wrap_id (x := (n : Int) / 10) (by omega) (by omega), show (n : Int) / 10 = ((n / 10 : Nat) : Int) by omega]
      rw [ih (n / 10) (by omega) k _ (by omega) (by rw [size_mk, List.length_append, ← size_list]; simp only [List.length_cons, List.length_nil]; omega) (.inl (by rw [size_mk]; simp)) (by omega)]
      rw [if_neg h0]
      congr 1
      congr 1
      congr 1
      have et : ((n : Int) % 10).toNat = n % 10 := by omega
      rw [et]
      by_cases h10 : n < 10
      · rw [if_pos (by omega), decDigits_one n h10, show n % 10 = n by omega]
        simp
      · rw [if_neg (by omega), decDigits_more n h10]
        simp
theorem ref_decimal (n : Nat) (h : n < 1000) (k : Nat) (hk : n + 3 ≤ k) : ref01_Decimal.f k (n : Int) = some ⟨(Lib.decDigits n).toArray⟩ := by
  unfold ref01_Decimal.f
  by_cases h0 : n = 0
  · subst h0
    obtain ⟨k, rfl⟩ : ∃ m, k = m + 1 := ⟨k - 1, by omega⟩
    have he : (⟨#[]⟩ : ByteArray).toList = [] := toList_mk []
    rw [ref01_Decimal.l0, if_neg (by omega), if_pos he]
    simp only [Option.bind_some]
    rw [show Int.tmod ((0 : Nat) : Int) 10 = 0 from rfl, show Int.tdiv ((0 : Nat) : Int) 10 = 0 from rfl]
    have hpd := push_digit 0 (by omega) (by omega) ⟨#[]⟩
    rw [if_pos (by unfold strOfNums; decide), hpd, wrap_id (x := 0) (by omega) (by omega)]
    have := dec_loop 0 k ⟨([UInt8.ofNat (48 + (0 : Int).toNat)] ++ (⟨#[]⟩ : ByteArray).data.toList).toArray⟩ (by omega) (by decide) (.inl (by decide)) (by omega)
    rw [show ((0 : Nat) : Int) = 0 from rfl] at this
    rw [this, decDigits_one 0 (by omega)]
    rfl
  · rw [dec_loop n k _ h (by rw [show (⟨#[]⟩ : ByteArray).size = 0 from rfl]; omega) (.inr (by omega)) (by omega), if_neg h0]
    simp
theorem ref_format (s n : Int) (k : Nat) (hk : 300 ≤ k) : ref01_Format.f k s n = addr_Format.f s n := by
  unfold ref01_Format.f addr_Format.f
  by_cases h1 : s < 0
  · rw [if_pos h1, if_neg (by omega)]
  · rw [if_neg h1]
    by_cases h2 : s > 2
    · rw [if_pos h2, if_neg (by omega)]
    · rw [if_neg h2]
      by_cases h3 : n < 0
      · rw [if_pos h3, if_neg (by omega)]
      · rw [if_neg h3]
        by_cases h4 : n > 255
        · rw [if_pos h4, if_neg (by omega)]
        · rw [if_neg h4, if_pos (by omega), wrap_id (by omega) (by omega), if_pos (by omega), if_pos (by omega), if_pos (by omega)]
          obtain ⟨m, rfl⟩ : ∃ m : Nat, n = m := ⟨n.toNat, by omega⟩
          rw [ref_decimal m (by omega) k (by omega), itoa_nat _ (by omega)]
          simp only [Option.bind_some]
          have hx : (⟨#[73, 81, 77]⟩ : ByteArray).extract s.toNat (s + 1).toNat = ⟨[letterB s].toArray⟩ := by
            have hs : s = 0 ∨ s = 1 ∨ s = 2 := by omega
            rcases hs with rfl | rfl | rfl <;> rfl
          have hlen := dec_len m (by omega)
          rw [hx, size_mk, size_mk, if_pos (by simp; omega)]
          congr 1
end Go.Proofs.YthidobgadndclaaDoor.P

/- The references of packages addr and lex that package printer's reference uses, plainly. -/
import Derived.Test.YtmcmpjkfdkogiaaDoorXDec
import Derived.Test.YtmcmpjkfdkogiaaDoorXAddr
import Derived.Test.YtmcmpjkfdkogiaaDoorPQ13
import Derived.Test.YtmcmpjkfdkogiaaDoorPQ7
namespace Go.Proofs.YtmcmpjkfdkogiaaDoor.P
open Go.RowKit Go.Proofs.YtmcmpjkfdkogiaaDoorW.PrintWords

theorem itoa_nat (n : Int) (h : 0 ≤ n) : Lib.itoa n = Lib.decDigits n.toNat := by unfold Lib.itoa; rw [if_neg (by omega)]
/-! Decimal and Format -/
theorem push_digit (d : Int) (h0 : 0 ≤ d) (h1 : d < 10) (acc : ByteArray) : strOfNums [(wrap64 (48 + d)) % 256] ++ acc = ⟨([UInt8.ofNat (48 + d.toNat)] ++ acc.data.toList).toArray⟩ := by
  rw [wrap_id (by omega) (by omega)]
  apply ByteArray.ext
  rw [ByteArray.data_append]
  unfold strOfNums
  have : (48 + d) % 256 = 48 + d := by omega
  rw [this]
  apply Array.ext'
  have e : (48 + d).toNat = 48 + d.toNat := by omega
  simp [e]
theorem dec_loop (n : Nat) : ∀ (k : Nat) (acc : ByteArray), n < 1000 → acc.size + n ≤ 2000 → 0 < acc.size ∨ 0 < n → n + 1 ≤ k →
    ref01_Decimal.l0 k (n : Int) acc = some ⟨((if n = 0 then [] else Lib.decDigits n) ++ acc.data.toList).toArray⟩ := by
  induction n using Nat.strongRecOn with
  | _ n ih =>
    intro k acc hn hacc hor hk
    obtain ⟨k, rfl⟩ : ∃ m, k = m + 1 := ⟨k - 1, by omega⟩
    rw [ref01_Decimal.l0]
    by_cases h0 : n = 0
    · subst h0
      have hne : ¬ acc.toList = [] := by
        rw [ByteArray.toList_eq]
        intro e
        have h3 : acc.size = 0 := by rw [size_list, e]; rfl
        omega
      rw [if_neg (by omega), if_neg hne, if_pos rfl, List.nil_append, mk_list]
    · rw [if_pos (by omega)]
      simp only [Option.bind_some]
      rw [Int.tmod_eq_emod_of_nonneg (by omega), Int.tdiv_eq_ediv_of_nonneg (by omega)]
      have hpd := push_digit ((n : Int) % 10) (by omega) (by omega) acc
      have hsz : (strOfNums [(wrap64 (48 + (n : Int) % 10)) % 256]).size + acc.size ≤ 9223372036854775807 := by
        have : (strOfNums [(wrap64 (48 + (n : Int) % 10)) % 256]).size = 1 := by unfold strOfNums; rfl
        omega
      rw [if_pos hsz, hpd, wrap_id (x := (n : Int) / 10) (by omega) (by omega), show (n : Int) / 10 = ((n / 10 : Nat) : Int) by omega]
      rw [ih (n / 10) (by omega) k _ (by omega) (by rw [size_mk, List.length_append, ← size_list]; simp only [List.length_cons, List.length_nil]; omega) (.inl (by rw [size_mk]; simp)) (by omega)]
      rw [if_neg h0]
      congr 1
      congr 1
      congr 1
      have et : ((n : Int) % 10).toNat = n % 10 := by omega
      rw [et]
      by_cases h10 : n < 10
      · rw [if_pos (by omega), decDigits_one n h10, show n % 10 = n by omega]
        simp
      · rw [if_neg (by omega), decDigits_more n h10]
        simp
theorem ref_decimal (n : Nat) (h : n < 1000) (k : Nat) (hk : n + 3 ≤ k) : ref01_Decimal.f k (n : Int) = some ⟨(Lib.decDigits n).toArray⟩ := by
  unfold ref01_Decimal.f
  by_cases h0 : n = 0
  · subst h0
    obtain ⟨k, rfl⟩ : ∃ m, k = m + 1 := ⟨k - 1, by omega⟩
    have he : (⟨#[]⟩ : ByteArray).toList = [] := toList_mk []
    rw [ref01_Decimal.l0, if_neg (by omega), if_pos he]
    simp only [Option.bind_some]
    rw [show Int.tmod ((0 : Nat) : Int) 10 = 0 from rfl, show Int.tdiv ((0 : Nat) : Int) 10 = 0 from rfl]
    have hpd := push_digit 0 (by omega) (by omega) ⟨#[]⟩
    rw [if_pos (by unfold strOfNums; decide), hpd, wrap_id (x := 0) (by omega) (by omega)]
    have := dec_loop 0 k ⟨([UInt8.ofNat (48 + (0 : Int).toNat)] ++ (⟨#[]⟩ : ByteArray).data.toList).toArray⟩ (by omega) (by decide) (.inl (by decide)) (by omega)
    rw [show ((0 : Nat) : Int) = 0 from rfl] at this
    rw [this, decDigits_one 0 (by omega)]
    rfl
  · rw [dec_loop n k _ h (by rw [show (⟨#[]⟩ : ByteArray).size = 0 from rfl]; omega) (.inr (by omega)) (by omega), if_neg h0]
    simp
theorem ref_format (s n : Int) (k : Nat) (hk : 300 ≤ k) : ref01_Format.f k s n = addr_Format.f s n := by
  unfold ref01_Format.f addr_Format.f
  by_cases h1 : s < 0
  · rw [if_pos h1, if_neg (by omega)]
  · rw [if_neg h1]
    by_cases h2 : s > 2
    · rw [if_pos h2, if_neg (by omega)]
    · rw [if_neg h2]
      by_cases h3 : n < 0
      · rw [if_pos h3, if_neg (by omega)]
      · rw [if_neg h3]
        by_cases h4 : n > 255
        · rw [if_pos h4, if_neg (by omega)]
        · rw [if_neg h4, if_pos (by omega), wrap_id (by omega) (by omega), if_pos (by omega), if_pos (by omega), if_pos (by omega)]
          obtain ⟨m, rfl⟩ : ∃ m : Nat, n = m := ⟨n.toNat, by omega⟩
          rw [ref_decimal m (by omega) k (by omega), itoa_nat _ (by omega)]
          simp only [Option.bind_some]
          have hx : (⟨#[73, 81, 77]⟩ : ByteArray).extract s.toNat (s + 1).toNat = ⟨[letterB s].toArray⟩ := by
            have hs : s = 0 ∨ s = 1 ∨ s = 2 := by omega
            rcases hs with rfl | rfl | rfl <;> rfl
          have hlen := dec_len m (by omega)
          rw [hx, size_mk, size_mk, if_pos (by simp; omega)]
          congr 1
theorem ref_letter (b : UInt8) : ref09_letter.f (b.toNat : Int) = some (isLetter b) := by
  have e : ∀ x : Bool, x = isLetter b → some x = some (isLetter b) := fun x h => by rw [h]
  unfold ref09_letter.f
  repeat' split
  all_goals
    refine e _ ?_
    unfold isLetter
    first
      | (rw [eq_comm, decide_eq_true_iff]; omega)
      | (rw [eq_comm, decide_eq_false_iff_not]; omega)
      | (rw [decide_eq_decide]; omega)
theorem isname_loop (x0 : ByteArray) (hbig : x0.size ≤ 1000000) (d : Nat) : ∀ k i : Nat, i + d = x0.size → d + 1 ≤ k → ref09_IsName.l0 k x0 (i : Int) = some ((x0.data.toList.drop i).all nameTail) := by
  have hsz := size_list x0
  induction d with
  | zero =>
    intro k i hi hk
    obtain ⟨k, rfl⟩ : ∃ m, k = m + 1 := ⟨k - 1, by omega⟩
    rw [ref09_IsName.l0, if_neg (by omega), List.drop_eq_nil_of_le (by omega)]
    rfl
  | succ d ih =>
    intro k i hi hk
    obtain ⟨k, rfl⟩ : ∃ m, k = m + 1 := ⟨k - 1, by omega⟩
    obtain ⟨c, hc⟩ : ∃ c, x0.data.toList[i]? = some c := ⟨_, List.getElem?_eq_getElem (by omega)⟩
    have hb : bt x0 (i : Int) = c.toNat := bt_list x0 i c (by rw [Int.toNat_natCast]; exact hc)
    have hw : wrap64 ((i : Int) + 1) = ((i + 1 : Nat) : Int) := by rw [wrap_id (by omega) (by omega)]; omega
    have hd : x0.data.toList.drop i = c :: x0.data.toList.drop (i + 1) := by
      obtain ⟨h1, rfl⟩ := List.getElem?_eq_some_iff.mp hc
      exact List.drop_eq_getElem_cons h1
    rw [ref09_IsName.l0, if_pos (by omega), if_pos (by omega), hb, ref_letter, hw, ih k (i + 1) (by omega) (by omega), hd, List.all_cons]
    simp only [Option.bind_some]
    unfold nameTail
    cases hl : isLetter c with
    | true => simp
    | false =>
      simp only [Bool.false_or, Bool.false_eq_true, if_false]
      by_cases h95 : c.toNat = 95
      · rw [if_pos (by omega), decide_eq_true (by omega), Bool.true_and]
      · rw [if_neg (by omega)]
        by_cases h48 : c.toNat < 48
        · rw [if_pos (by omega), decide_eq_false (by omega), Bool.false_and]
        · rw [if_neg (by omega)]
          by_cases h57 : 57 < c.toNat
          · rw [if_pos (by omega), decide_eq_false (by omega), Bool.false_and]
          · rw [if_neg (by omega), decide_eq_true (by omega), Bool.true_and]
theorem ref_isname (x0 : ByteArray) (k : Nat) (hk : 20 ≤ k) : ref09_IsName.f k x0 = some (isName x0.data.toList) := by
  have hsz := size_list x0
  obtain ⟨k, rfl⟩ : ∃ m, k = m + 1 := ⟨k - 1, by omega⟩
  have hjt : ref09_IsName.j0 (k + 1) x0 true = some false := by rw [ref09_IsName.j0, if_pos rfl]
  unfold ref09_IsName.f
  cases hd : x0.data.toList with
  | nil => rw [if_pos (by rw [ByteArray.toList_eq, hd]), hjt]; rfl
  | cons c r =>
    have hlen : x0.size = r.length + 1 := by rw [hsz, hd]; rfl
    have hb : bt x0 0 = c.toNat := bt_list x0 0 c (by rw [hd]; rfl)
    rw [if_neg (by rw [ByteArray.toList_eq, hd]; simp), isName]
    by_cases h16 : (x0.size : Int) > 16
    · rw [if_pos h16, hjt, decide_eq_false (by omega)]
      rfl
    · rw [if_neg h16, if_pos (by omega), hb, ref_letter, Option.bind_some, decide_eq_true (by omega), Bool.true_and]
      cases hl : isLetter c with
      | false => exact hjt
      | true =>
        show ref09_IsName.j0 (k + 1) x0 false = _
        rw [ref09_IsName.j0, if_neg (by decide), show (0 : Int) = ((0 : Nat) : Int) from rfl, isname_loop x0 (by omega) x0.size k 0 (by omega) (by omega), List.drop_zero, hd, List.all_cons, Bool.true_and]
        have : nameTail c = true := by unfold nameTail; rw [hl]; rfl
        rw [this, Bool.true_and]
end Go.Proofs.YtmcmpjkfdkogiaaDoor.P

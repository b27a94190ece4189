/- LexWordsMatchReference, the plain law: for every word, IsName and Number return the same results as the reference. -/
import Derived.Test.YthidobgadndclaaDoorXPLex0
import Derived.Test.YthidobgadndclaaDoorXRefNum
import Derived.Test.YthidobgadndclaaDoorXNumber
import Derived.Test.YthidobgadndclaaDoorPL12
import Derived.Test.YthidobgadndclaaDoorPL11
namespace Go.Proofs.YthidobgadndclaaDoor.P
open Go.RowKit Go.Proofs.YthidobgadndclaaDoorW.PrintWords

theorem ref_letter (b : UInt8) : ref09_letter.f (b.toNat : Int) = some (isLetter b) := by
  have e : ∀ x : Bool, x = isLetter b → some x = some (isLetter b) := fun x h => by rw [h]
  unfold ref09_letter.f
  repeat' split
  all_goals
    refine e _ ?_
    unfold isLetter
    first
      | (rw [eq_comm, decide_eq_true_iff]; omega)
      | (rw [eq_comm, decide_eq_false_iff_not]; omega)
      | (rw [decide_eq_decide]; omega)
theorem isname_loop (x0 : ByteArray) (hbig : x0.size ≤ 1000000) (d : Nat) : ∀ k i : Nat, i + d = x0.size → d + 1 ≤ k → ref09_IsName.l0 k x0 (i : Int) = some ((x0.data.toList.drop i).all nameTail) := by
  have hsz := size_list x0
  induction d with
  | zero =>
    intro k i hi hk
    obtain ⟨k, rfl⟩ : ∃ m, k = m + 1 := ⟨k - 1, by omega⟩
    rw [ref09_IsName.l0, if_neg (by omega), List.drop_eq_nil_of_le (by omega)]
    rfl
  | succ d ih =>
    intro k i hi hk
    obtain ⟨k, rfl⟩ : ∃ m, k = m + 1 := ⟨k - 1, by omega⟩
    obtain ⟨c, hc⟩ : ∃ c, x0.data.toList[i]? = some c := ⟨_, List.getElem?_eq_getElem (by omega)⟩
    have hb : bt x0 (i : Int) = c.toNat := bt_list x0 i c (by rw [Int.toNat_natCast]; exact hc)
    have hw : wrap64 ((i : Int) + 1) = ((i + 1 : Nat) : Int) := by rw [wrap_id (by omega) (by omega)]; omega
    have hd : x0.data.toList.drop i = c :: x0.data.toList.drop (i + 1) := by
      obtain ⟨h1, rfl⟩ := List.getElem?_eq_some_iff.mp hc
      exact List.drop_eq_getElem_cons h1
    rw [ref09_IsName.l0, if_pos (by omega), if_pos (by omega), hb, ref_letter, hw, ih k (i + 1) (by omega) (by omega), hd, List.all_cons]
    simp only [Option.bind_some]
    unfold nameTail
    cases hl : isLetter c with
    | true => simp
    | false =>
      simp only [Bool.false_or, Bool.false_eq_true, if_false]
      by_cases h95 : c.toNat = 95
      · rw [if_pos (by omega), decide_eq_true (by omega), Bool.true_and]
      · rw [if_neg (by omega)]
        by_cases h48 : c.toNat < 48
        · rw [if_pos (by omega), decide_eq_false (by omega), Bool.false_and]
        · rw [if_neg (by omega)]
          by_cases h57 : 57 < c.toNat
          · rw [if_pos (by omega), decide_eq_false (by omega), Bool.false_and]
          · rw [if_neg (by omega), decide_eq_true (by omega), Bool.true_and]
theorem ref_isname (x0 : ByteArray) (hbig : x0.size ≤ 1000000) (k : Nat) (hk : x0.size + 3 ≤ k) : ref09_IsName.f k x0 = some (isName x0.data.toList) := by
  have hsz := size_list x0
  obtain ⟨k, rfl⟩ : ∃ m, k = m + 1 := ⟨k - 1, by omega⟩
  have hjt : ref09_IsName.j0 (k + 1) x0 true = some false := by rw [ref09_IsName.j0, if_pos rfl]
  unfold ref09_IsName.f
  cases hd : x0.data.toList with
  | nil => rw [if_pos (by rw [ByteArray.toList_eq, hd]), hjt]; rfl
  | cons c r =>
    have hlen : x0.size = r.length + 1 := by rw [hsz, hd]; rfl
    have hb : bt x0 0 = c.toNat := bt_list x0 0 c (by rw [hd]; rfl)
    rw [if_neg (by rw [ByteArray.toList_eq, hd]; simp), isName]
    by_cases h16 : (x0.size : Int) > 16
    · rw [if_pos h16, hjt, decide_eq_false (by omega)]
      rfl
    · rw [if_neg h16, if_pos (by omega), hb, ref_letter, Option.bind_some, decide_eq_true (by omega), Bool.true_and]
      cases hl : isLetter c with
      | false => exact hjt
      | true =>
        show ref09_IsName.j0 (k + 1) x0 false = _
        rw [ref09_IsName.j0, if_neg (by decide), show (0 : Int) = ((0 : Nat) : Int) from rfl, isname_loop x0 hbig x0.size k 0 (by omega) (by omega), List.drop_zero, hd, List.all_cons, Bool.true_and]
        have : nameTail c = true := by unfold nameTail; rw [hl]; rfl
        rw [this, Bool.true_and]
theorem pure_LexWordsMatchReference : law09_LexWordsMatchReference.Pure := by
  intro a0 a1 _ w1
  refine ⟨10000, ?_⟩
  unfold law09_LexWordsMatchReference.f
  by_cases hs : (a0.size : Int) > 1000
  · rw [if_pos hs, alive09]
    rfl
  · rw [if_neg hs, alive09]
    have h1 : lex_IsName.f a0 = some (isName a0.data.toList) := by
      unfold lex_IsName.f
      rw [if_pos (by omega)]
    have h2 : lex_Number.f a0 a1 = some (number a0.data.toList a1) := by
      unfold lex_Number.f
      rw [if_pos (by omega)]
    have h3 : ref09_Number.f 10000 a0 a1 = some (number a0.data.toList a1) := by
      unfold ref09_Number.f number
      by_cases n0 : a1 < 0
      · rw [if_pos n0, if_pos (.inl n0)]
      · rw [if_neg n0]
        by_cases n1 : a1 > 1000000
        · rw [if_pos n1, if_pos (.inr n1)]
        · rw [if_neg n1, if_neg (by omega), ref_number a0 a1 (by omega) (by omega) (by omega) 10000 (by omega)]
          rfl
    rw [h1, h2, h3, ref_isname a0 (by omega) 10000 (by omega)]
    simp
theorem LexWordsMatchReference_walk (a0 : ByteArray) (a1 : Int) (w : World) (w0 : a0.size ≤ 140737488351232) (w1 : (Lit.int .i64 a1).wf = true) (hL : Aside0 (LaidW 13 w)) :
    Calls Tryd.prog 14 #[.string a0, .int .i64 a1] w fun e w' => e = .returned (.bool true) ∧ Below w.heap.size w w' := law09_LexWordsMatchReference.walk pure_LexWordsMatchReference a0 a1 w w0 w1 hL
end Go.Proofs.YthidobgadndclaaDoor.P

/- LexNamesExtend, the plain law: a name extended by one byte is a name exactly if the byte is permitted and the name is not too long, and every prefix of a name is a name. -/
import Derived.Test.YthidobgadndclaaDoorXPLex0
import Derived.Test.YthidobgadndclaaDoorPL6
namespace Go.Proofs.YthidobgadndclaaDoor.P
open Go.RowKit Go.Proofs.YthidobgadndclaaDoorW.PrintWords

def mayI (x : Int) : Bool := decide (x = 95 ∨ 48 ≤ x ∧ x ≤ 57 ∨ 97 ≤ x ∧ x ≤ 122 ∨ 65 ≤ x ∧ x ≤ 90)
theorem may_tail (b : UInt8) : mayI (b.toNat : Int) = nameTail b := by
  unfold mayI nameTail isLetter
  rw [← Bool.decide_or, decide_eq_decide]
  omega
theorem j0_false (k : Nat) (x0 : ByteArray) (x1 : Int) : law09_LexNamesExtend.j0 (k + 1) x0 x1 false = law09_LexNamesExtend.j1 k x0 x1 (mayI x1) := by
  have e : ∀ b : Bool, b = mayI x1 → law09_LexNamesExtend.j1 k x0 x1 b = law09_LexNamesExtend.j1 k x0 x1 (mayI x1) := fun b h => by rw [h]
  rw [law09_LexNamesExtend.j0, if_neg (by decide)]
  repeat' split
  all_goals
    refine e _ ?_
    unfold mayI
    first
      | (rw [eq_comm, decide_eq_true_iff]; omega)
      | (rw [eq_comm, decide_eq_false_iff_not]; omega)
      | (rw [decide_eq_decide]; omega)
theorem name_take {l : List UInt8} (h : isName l = true) (i : Nat) (h0 : 0 < i) : isName (l.take i) = true := by
  cases l with
  | nil => exact absurd h (by decide)
  | cons c r =>
    obtain ⟨i, rfl⟩ : ∃ j, i = j + 1 := ⟨i - 1, by omega⟩
    rw [List.take_succ_cons]
    unfold isName at h ⊢
    simp only [Bool.and_eq_true, decide_eq_true_eq] at h ⊢
    refine ⟨⟨by rw [List.length_take]; omega, h.1.2⟩, ?_⟩
    rw [List.all_eq_true] at h ⊢
    exact fun x hx => h.2 x (List.mem_of_mem_take hx)
theorem name_more {l : List UInt8} (h : isName l = true) (c : UInt8) : isName (l ++ [c]) = (nameTail c && decide (l.length < 16)) := by
  cases l with
  | nil => exact absurd h (by decide)
  | cons a r =>
    unfold isName at h
    simp only [Bool.and_eq_true, decide_eq_true_eq] at h
    rw [List.cons_append, isName, List.all_append, h.2, h.1.2, List.length_append, List.length_cons]
    simp only [List.all_cons, List.all_nil, Bool.and_true, Bool.true_and, List.length_cons, List.length_nil]
    rw [Bool.and_comm]
theorem name_len {l : List UInt8} (h : isName l = true) : 1 ≤ l.length ∧ l.length ≤ 16 := by
  cases l with
  | nil => exact absurd h (by decide)
  | cons a r =>
    unfold isName at h
    simp only [Bool.and_eq_true, decide_eq_true_eq] at h
    rw [List.length_cons]
    omega
theorem name_zero (l : List UInt8) : isName (48 :: l) = false := by
  rw [isName, show isLetter 48 = false by decide]
  simp
theorem str_one (x : Int) : strOfNums [x] = ⟨#[UInt8.ofNat x.toNat]⟩ := by
  unfold strOfNums
  simp
set_option maxHeartbeats 1000000 in
theorem ne_loop (x0 : ByteArray) (c : UInt8) (hn : isName x0.data.toList = true) (hbig : x0.size ≤ 100) (d : Nat) : ∀ k i : Nat, i + d = x0.size → d + 1 ≤ k →
    law09_LexNamesExtend.l0 k x0 (c.toNat : Int) (nameTail c) (x0.size : Int) (i : Int) = some true := by
  have hsz := size_list x0
  have hlen := name_len hn
  induction d with
  | zero =>
    intro k i hi hk
    obtain ⟨k, rfl⟩ : ∃ m, k = m + 1 := ⟨k - 1, by omega⟩
    have hs : strOfNums [(c.toNat : Int)] = ⟨#[c]⟩ := by
      rw [str_one _, Int.toNat_natCast, UInt8.ofNat_toNat]
    have h1 : lex_IsName.f (x0 ++ (⟨#[c]⟩ : ByteArray)) = some (nameTail c && decide (x0.data.toList.length < 16)) := by
      unfold lex_IsName.f
      rw [if_pos (by rw [ByteArray.size_append]; have : (⟨#[c]⟩ : ByteArray).size = 1 := rfl; omega), append_list]
      exact congrArg some (name_more hn c)
    have h2 : lex_IsName.f ((⟨#[48]⟩ : ByteArray) ++ x0) = some false := by
      unfold lex_IsName.f
      rw [if_pos (by rw [ByteArray.size_append]; have : (⟨#[48]⟩ : ByteArray).size = 1 := rfl; omega), append_list]
      exact congrArg some (name_zero _)
    have hc1 : (⟨#[c]⟩ : ByteArray).size = 1 := rfl
    rw [law09_LexNamesExtend.l0, if_neg (by omega), alive09]
    simp only [Option.bind_some, if_true]
    rw [if_pos (show (x0.size : Int) ≥ 1 by omega), if_pos (show (x0.size : Int) ≤ 16 by omega), hs, if_pos (by omega), h1]
    simp only [Option.bind_some]
    have hd : decide ((x0.size : Int) < 16) = decide (x0.data.toList.length < 16) := by rw [decide_eq_decide]; omega
    cases ht : nameTail c
    · simp only [Bool.false_and, Bool.false_eq_true, if_false]
      rw [if_pos (show (false == false) = true from rfl), if_pos (by omega), h2]
      rfl
    · simp only [Bool.true_and, if_true]
      rw [hd, if_pos (by simp), if_pos (by omega), h2]
      rfl
  | succ d ih =>
    intro k i hi hk
    obtain ⟨k, rfl⟩ : ∃ m, k = m + 1 := ⟨k - 1, by omega⟩
    have hw : wrap64 ((i : Int) + 1) = ((i + 1 : Nat) : Int) := by rw [wrap_id (by omega) (by omega)]; omega
    rw [law09_LexNamesExtend.l0, if_pos (by omega), hw]
    by_cases h0 : 0 < i
    · have h1 : lex_IsName.f (x0.extract 0 i) = some true := by
        unfold lex_IsName.f
        rw [if_pos (by rw [ByteArray.size_extract]; omega), show (x0.extract 0 i).data.toList = x0.data.toList.take i from Lib.extract_from_zero x0 i, name_take hn i h0]
      rw [if_pos (by omega), if_pos (by omega), if_pos (by omega), Int.toNat_natCast, h1]
      simp only [Option.bind_some, if_true]
      exact ih k (i + 1) (by omega) (by omega)
    · rw [if_neg (by omega)]
      exact ih k (i + 1) (by omega) (by omega)
theorem pure_LexNamesExtend : law09_LexNamesExtend.Pure := by
  intro a0 a1 _ w1
  have g : 0 ≤ a1 ∧ a1 ≤ 255 := by
    have h' : (decide ((0 : Int) ≤ a1) && decide (a1 ≤ 255)) = true := w1
    simpa using h'
  refine ⟨200, ?_⟩
  have hj : law09_LexNamesExtend.j0 200 a0 a1 true = some true := by
    show law09_LexNamesExtend.j0 (199 + 1) a0 a1 true = _
    rw [law09_LexNamesExtend.j0, if_pos rfl, alive09]
    rfl
  unfold law09_LexNamesExtend.f
  by_cases hs : (a0.size : Int) > 100
  · rw [if_pos hs]
    exact hj
  · rw [if_neg hs]
    have h1 : lex_IsName.f a0 = some (isName a0.data.toList) := by
      unfold lex_IsName.f
      rw [if_pos (by omega)]
    rw [h1, Option.bind_some]
    cases hn : isName a0.data.toList with
    | false => exact hj
    | true =>
      obtain ⟨c, hc⟩ : ∃ c : UInt8, a1 = (c.toNat : Int) := ⟨UInt8.ofNat a1.toNat, by rw [UInt8.toNat_ofNat']; omega⟩
      subst hc
      show law09_LexNamesExtend.j0 (199 + 1) a0 _ false = _
      rw [j0_false, may_tail]
      show law09_LexNamesExtend.j1 (198 + 1) a0 _ _ = _
      rw [law09_LexNamesExtend.j1]
      exact ne_loop a0 c hn (by omega) a0.size 198 0 (by omega) (by omega)
theorem LexNamesExtend_walk (a0 : ByteArray) (a1 : Int) (w : World) (w0 : a0.size ≤ 140737488351232) (w1 : (Lit.int .u8 a1).wf = true) (hL : Aside0 (LaidW 9 w)) :
    Calls Tryd.prog 4 #[.string a0, .int .u8 a1] w fun e w' => e = .returned (.bool true) ∧ Below w.heap.size w w' := law09_LexNamesExtend.walk pure_LexNamesExtend a0 a1 w w0 w1 hL
end Go.Proofs.YthidobgadndclaaDoor.P

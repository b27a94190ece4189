/- The reference of package lex, as plain functions: Cut, words, Lines. -/
import Derived.Test.YthidobgadndclaaDoorXLexG
import Derived.Test.YthidobgadndclaaDoorXDec
import Derived.Test.YthidobgadndclaaDoorPL1
import Derived.Test.YthidobgadndclaaDoorPL2
import Derived.Test.YthidobgadndclaaDoorPL3
namespace Go.Proofs.YthidobgadndclaaDoor.P
open Go.RowKit Go.Proofs.YthidobgadndclaaDoorW.PrintWords

theorem extract_mk (s : ByteArray) (a b : Nat) : s.extract a b = mkB ((s.data.toList.drop a).take (b - a)) := by
  apply ByteArray.ext
  apply Array.ext'
  show (s.extract a b).data.toList = _
  rw [Lib.extract_data]
  simp [mkB]
theorem drop_at {l : List UInt8} {i : Nat} {c : UInt8} (h : l[i]? = some c) : l.drop i = c :: l.drop (i + 1) := by
  obtain ⟨hi, rfl⟩ := List.getElem?_eq_some_iff.mp h
  exact List.drop_eq_getElem_cons hi
theorem cur_more {l : List UInt8} {f i : Nat} {c : UInt8} (h : l[i]? = some c) (hf : f ≤ i) : (l.drop f).take (i + 1 - f) = (l.drop f).take (i - f) ++ [c] := by
  rw [show i + 1 - f = (i - f) + 1 by omega, List.take_add_one, List.getElem?_drop, show f + (i - f) = i by omega, h]
  rfl
set_option maxHeartbeats 1000000 in
theorem cut_loop (x0 : ByteArray) (hbig : x0.size ≤ 1000000) (d : Nat) : ∀ (k i f : Nat) (out : List ByteArray), i + d = x0.size → f ≤ i → d + 2 ≤ k → out.length + d ≤ 2000000 →
    ref04_Cut.l0 k x0 10 out (f : Int) (i : Int) = some (out ++ (((x0.data.toList.drop f).take (i - f) ++ (cutAt 10 (x0.data.toList.drop i)).headD []) :: (cutAt 10 (x0.data.toList.drop i)).tail).map mkB) := by
  have hsz := size_list x0
  induction d with
  | zero =>
    intro k i f out hi hf hk ho
    obtain ⟨k, rfl⟩ : ∃ m, k = m + 1 := ⟨k - 1, by omega⟩
    rw [List.drop_eq_nil_of_le (show x0.data.toList.length ≤ i by omega)]
    rw [ref04_Cut.l0, if_neg (by omega), if_pos (by omega), if_pos (by omega), if_pos (by omega)]
    rw [Int.toNat_natCast, extract_mk, show x0.size = i by omega]
    simp [cutAt]
  | succ d ih =>
    intro k i f out hi hf hk ho
    obtain ⟨k, rfl⟩ : ∃ m, k = m + 1 := ⟨k - 1, by omega⟩
    obtain ⟨c, hc⟩ : ∃ c, x0.data.toList[i]? = some c := ⟨_, List.getElem?_eq_getElem (by omega)⟩
    have hb : bt x0 (i : Int) = c.toNat := bt_list x0 i c (by rw [Int.toNat_natCast]; exact hc)
    have hw : wrap64 ((i : Int) + 1) = ((i + 1 : Nat) : Int) := by rw [wrap_id (by omega) (by omega)]; omega
    rw [ref04_Cut.l0, if_pos (by omega), if_pos (by omega), hb, hw]
    by_cases h : c = 10
    · subst h
      rw [if_pos (by rfl), if_pos (by omega), if_pos (by omega), if_pos (by omega), if_pos (by omega), Int.toNat_natCast, Int.toNat_natCast]
      rw [ih k (i + 1) (i + 1) _ (by omega) (Nat.le_refl _) (by omega) (by rw [List.length_append, List.length_singleton]; omega)]
      rw [drop_at hc, cutAt, if_pos rfl, Nat.sub_self, List.take_zero, List.nil_append, cutAt_split, extract_mk]
      simp
    · rw [if_neg (by
        intro e
        exact h (UInt8.toNat_inj.mp (by have e2 : (10 : UInt8).toNat = 10 := rfl; omega)))]
      rw [ih k (i + 1) f out (by omega) (by omega) (by omega) (by omega), cur_more hc hf, drop_at hc, cutAt, if_neg h]
      simp
theorem ref_cut (x0 : ByteArray) (hbig : x0.size ≤ 1000000) (k : Nat) (hk : x0.size + 2 ≤ k) : ref04_Cut.f k x0 10 = some ((cutAt 10 x0.data.toList).map mkB) := by
  have h := cut_loop x0 hbig x0.size k 0 0 [] (by omega) (Nat.le_refl _) hk (by simp; omega)
  unfold ref04_Cut.f
  rw [show (0 : Int) = ((0 : Nat) : Int) from rfl, h]
  rw [List.drop_zero, Nat.sub_zero, List.take_zero, List.nil_append, List.nil_append, cutAt_split]
theorem ahead_cons {c : UInt8} (r : List UInt8) (h : c ≠ 59) : ahead (c :: r) = c :: ahead r := by
  unfold ahead
  rw [List.takeWhile_cons, if_pos (by simpa using h)]
theorem ahead_semi (r : List UInt8) : ahead (59 :: r) = [] := rfl
/-- What words hands back from a place on. -/
def wordsR (out : List ByteArray) (cur rest : List UInt8) : List ByteArray × Bool :=
  if (ahead rest).all isPlain = true then (out ++ (Lib.fieldsGo cur (ahead rest)).map mkB, true) else ([], false)
def FromOk (x0 : ByteArray) (i : Nat) (from_ : Int) (cur : List UInt8) : Prop := from_ = -1 ∧ cur = [] ∨ ∃ f : Nat, from_ = (f : Int) ∧ f < i ∧ cur = (x0.data.toList.drop f).take (i - f)
theorem words_push (x0 : ByteArray) (k i : Nat) (out : List ByteArray) (from_ : Int) (cur : List UInt8) (x7 : Bool) (hi : i ≤ x0.size) (ho : out.length ≤ 2000000) (hf : FromOk x0 i from_ cur) :
    ref09_words.j3 (k + 1) x0 out from_ (i : Int) x7 true = ref09_words.j4 k x0 (if cur.isEmpty = true then out else out ++ [mkB cur]) (i : Int) x7 := by
  rw [ref09_words.j3, if_pos rfl]
  rcases hf with ⟨rfl, rfl⟩ | ⟨f, rfl, h1, rfl⟩
  · rw [if_neg (by omega)]
    rfl
  · have hne : ((x0.data.toList.drop f).take (i - f)).isEmpty = false := by
      have hsz := size_list x0
      rw [List.isEmpty_eq_false_iff]
      intro e
      have := congrArg List.length e
      rw [List.length_take, List.length_drop, List.length_nil] at this
      omega
    rw [if_pos (by omega), if_pos (by omega), if_pos (by omega), if_pos (by omega), if_pos (by omega), Int.toNat_natCast, Int.toNat_natCast, extract_mk, hne]
    rfl
set_option maxHeartbeats 2000000 in
theorem words_loop (x0 : ByteArray) (hbig : x0.size ≤ 1000000) (d : Nat) : ∀ (k i : Nat) (out : List ByteArray) (from_ : Int) (cur : List UInt8), i + d = x0.size → 5 * d + 6 ≤ k → out.length + d ≤ 2000000 → FromOk x0 i from_ cur →
    ref09_words.l0 k x0 out from_ (i : Int) = some (wordsR out cur (x0.data.toList.drop i)) := by
  have hsz := size_list x0
  induction d with
  | zero =>
    intro k i out from_ cur hi hk ho hf
    obtain ⟨k, rfl⟩ : ∃ m, k = m + 1 + 1 + 1 + 1 + 1 := ⟨k - 5, by omega⟩
    rw [List.drop_eq_nil_of_le (show x0.data.toList.length ≤ i by omega)]
    rw [ref09_words.l0, if_pos (by omega), if_pos (by omega), ref09_words.j1, if_pos rfl, ref09_words.j2, if_neg (by decide), if_pos rfl, words_push x0 _ i out from_ cur true (by omega) (by omega) hf, ref09_words.j4, if_pos rfl]
    unfold wordsR
    rw [show ahead [] = [] from rfl, List.all_nil, if_pos rfl, Lib.fieldsGo]
    cases cur <;> simp
  | succ d ih =>
    intro k i out from_ cur hi hk ho hf
    obtain ⟨k, rfl⟩ : ∃ m, k = m + 1 + 1 + 1 + 1 + 1 := ⟨k - 5, by omega⟩
    obtain ⟨c, hc⟩ : ∃ c, x0.data.toList[i]? = some c := ⟨_, List.getElem?_eq_getElem (by omega)⟩
    have hb : bt x0 (i : Int) = c.toNat := bt_list x0 i c (by rw [Int.toNat_natCast]; exact hc)
    have hw : wrap64 ((i : Int) + 1) = ((i + 1 : Nat) : Int) := by rw [wrap_id (by omega) (by omega)]; omega
    have inj : ∀ n : Nat, n < 256 → (c.toNat : Int) = n → c = UInt8.ofNat n := fun n hn e => UInt8.toNat_inj.mp (by rw [UInt8.toNat_ofNat']; omega)
    rw [ref09_words.l0, if_pos (by omega), if_neg (by omega), if_pos (by omega), if_pos (by omega), hb, drop_at hc]
    by_cases h59 : c = 59
    · subst h59
      rw [show (((59 : UInt8).toNat : Int) == 59) = true from rfl, ref09_words.j1, if_pos rfl, ref09_words.j2, if_neg (by decide), if_pos rfl, words_push x0 _ i out from_ cur true (by omega) (by omega) hf, ref09_words.j4, if_pos rfl]
      unfold wordsR
      rw [ahead_semi, List.all_nil, if_pos rfl, Lib.fieldsGo]
      cases cur <;> simp
    · have n59 : ((c.toNat : Int) == 59) = false := by
        rw [beq_eq_false_iff_ne]
        intro e
        exact h59 (inj 59 (by decide) e)
      rw [n59, ref09_words.j1, if_neg (by decide), if_pos (by omega), if_pos (by omega), hb]
      unfold wordsR
      rw [ahead_cons _ h59, List.all_cons]
      by_cases hp : isPlain c = true
      · have hp2 : c.toNat = 9 ∨ 32 ≤ c.toNat ∧ c.toNat ≤ 126 := of_decide_eq_true hp
        have hj : ∀ b : Bool, b = false → ref09_words.j2 (k + 1 + 1 + 1) x0 out from_ (i : Int) false b = some (if (ahead (x0.data.toList.drop (i + 1))).all isPlain = true then (out ++ (Lib.fieldsGo cur (c :: ahead (x0.data.toList.drop (i + 1)))).map mkB, true) else ([], false)) := by
          rintro b rfl
          rw [ref09_words.j2, if_neg (by decide), if_neg (by decide), if_pos (by omega), if_pos (by omega), hb]
          have hsp := isSp_plain c hp
          by_cases hs : c.toNat = 32 ∨ c.toNat = 9
          · have hsp1 : Lib.isSp c = true := by rw [hsp]; rcases hs with hs | hs <;> simp [hs]
            have hj3 : ref09_words.j3 (k + 1 + 1) x0 out from_ (i : Int) false true = some (if (ahead (x0.data.toList.drop (i + 1))).all isPlain = true then (out ++ (Lib.fieldsGo cur (c :: ahead (x0.data.toList.drop (i + 1)))).map mkB, true) else ([], false)) := by
              rw [words_push x0 _ i out from_ cur false (by omega) (by omega) hf, ref09_words.j4, if_neg (by decide), hw]
              rw [ih k (i + 1) _ (-1) [] (by omega) (by omega) (by split <;> (try rw [List.length_append, List.length_singleton]) <;> omega) (.inl ⟨rfl, rfl⟩)]
              unfold wordsR
              congr 1
              congr 1
              cases cur with
              | nil => rw [Lib.fieldsGo_sp c _ hsp1]; rfl
              | cons a r => rw [Lib.fieldsGo_end (a :: r) c _ hsp1 (by simp)]; simp
            by_cases h32 : c.toNat = 32
            · rw [if_pos (by omega)]
              exact hj3
            · rw [if_neg (by omega), show ((c.toNat : Int) == 9) = true from by rw [beq_iff_eq]; omega]
              exact hj3
          · have hsp0 : Lib.isSp c = false := by rw [hsp]; simp; omega
            rw [if_neg (by omega), show ((c.toNat : Int) == 9) = false from by rw [beq_eq_false_iff_ne]; omega, ref09_words.j3, if_neg (by decide), hw]
            rw [Lib.fieldsGo_more cur c _ hsp0]
            rcases hf with ⟨rfl, rfl⟩ | ⟨f, rfl, h1, rfl⟩
            · rw [if_pos (by omega), ih (k + 1) (i + 1) out (i : Int) [c] (by omega) (by omega) (by omega) (.inr ⟨i, rfl, by omega, by rw [cur_more hc (Nat.le_refl _), Nat.sub_self, List.take_zero]; rfl⟩)]
              rfl
            · rw [if_neg (by omega), ih (k + 1) (i + 1) out (f : Int) _ (by omega) (by omega) (by omega) (.inr ⟨f, rfl, by omega, (cur_more (f := f) hc (by omega)).symm⟩)]
              rfl
        rw [hp, Bool.true_and]
        by_cases h9 : c.toNat = 9
        · rw [if_pos (by omega)]
          exact hj false rfl
        · rw [if_neg (by omega), if_neg (by omega)]
          exact hj _ (decide_eq_false (by omega))
      · have hp0 : isPlain c = false := by simpa using hp
        have hp2 : ¬ (c.toNat = 9 ∨ 32 ≤ c.toNat ∧ c.toNat ≤ 126) := of_decide_eq_false hp0
        rw [hp0, Bool.false_and, if_neg (show ¬ ((c.toNat : Int) = 9) by omega), if_neg (show ¬ (false = true) by decide)]
        by_cases h32 : c.toNat < 32
        · rw [if_pos (by omega), ref09_words.j2, if_pos rfl]
        · rw [if_neg (by omega), show decide ((c.toNat : Int) > 126) = true from decide_eq_true (by omega), ref09_words.j2, if_pos rfl]
theorem ref_words (l : List UInt8) (hbig : l.length ≤ 1000000) (k : Nat) (hk : 5 * l.length + 6 ≤ k) : ref09_words.f k (mkB l) = some (if segPlain l = true then (segWords l, true) else ([], false)) := by
  have hs := mkB_size l
  have h := words_loop (mkB l) (by omega) l.length k 0 [] (-1) [] (by omega) hk (by simp; omega) (.inl ⟨rfl, rfl⟩)
  rw [mkB_data, List.drop_zero] at h
  exact h
set_option maxHeartbeats 1000000 in
theorem lines_loop (segs : List (List UInt8)) (hlen : segs.length ≤ 1000000) (hbig : ∀ l ∈ segs, l.length ≤ 1000000) (d : Nat) : ∀ (k i : Nat) (out : List S33), i + d = segs.length → 5000006 + d + 1 ≤ k → out.length + d ≤ 2000000 →
    ref09_Lines.l0 k (segs.map mkB) out (i : Int) = some (match firstBad i (segs.drop i) with
      | some b => ([], (b : Int) + 1, 6)
      | none => (out ++ (collect i (segs.drop i)).map (fun p => ⟨p.1, p.2⟩), 0, 0)) := by
  induction d with
  | zero =>
    intro k i out hi hk ho
    obtain ⟨k, rfl⟩ : ∃ m, k = m + 1 := ⟨k - 1, by omega⟩
    rw [ref09_Lines.l0, if_neg (by rw [List.length_map]; omega), List.drop_eq_nil_of_le (by omega)]
    simp [firstBad, collect]
  | succ d ih =>
    intro k i out hi hk ho
    obtain ⟨k, rfl⟩ : ∃ m, k = m + 1 := ⟨k - 1, by omega⟩
    have hlt : i < segs.length := by omega
    have hd : segs.drop i = segs[i] :: segs.drop (i + 1) := List.drop_eq_getElem_cons hlt
    have hrd : rdOf ByteArray.empty (segs.map mkB) (i : Int) = mkB segs[i] := by
      unfold rdOf
      rw [Int.toNat_natCast, List.getD_eq_getElem?_getD, List.getElem?_map, List.getElem?_eq_getElem hlt]
      rfl
    have hl := hbig _ (List.getElem_mem hlt)
    have hw : wrap64 ((i : Int) + 1) = ((i + 1 : Nat) : Int) := by rw [wrap_id (by omega) (by omega)]; omega
    rw [ref09_Lines.l0, if_pos (by rw [List.length_map]; omega), if_pos (by omega), hrd, ref_words _ hl k (by omega), Option.bind_some, hd, firstBad, collect]
    by_cases hp : segPlain segs[i] = true
    · rw [if_pos hp, if_pos hp]
      dsimp only
      rw [if_pos rfl, hw]
      by_cases he : segWords segs[i] = []
      · rw [if_neg (by rw [he]; decide), if_pos he]
        exact ih k (i + 1) out (by omega) (by omega) (by omega)
      · have hpos := List.length_pos_iff.mpr he
        rw [if_neg he, if_pos (show ((segWords segs[i]).length : Int) > 0 by omega), if_pos (show out.length < 4398046511104 by omega), ih k (i + 1) _ (by omega) (by omega) (by rw [List.length_append, List.length_singleton]; omega)]
        rw [List.map_cons, List.append_assoc]
        rfl
    · rw [if_neg hp, if_neg hp, if_neg (by decide), hw]
      rfl
theorem ref_lines (x0 : ByteArray) (h : x0.size ≤ 65536) : ref09_Lines.f 6000000 x0 = some ((linesG (cutAt 10 x0.data.toList)).1.map (fun p => ⟨p.1, p.2⟩), (linesG (cutAt 10 x0.data.toList)).2) := by
  have hsz := size_list x0
  have hcl := count_cutAt 10 x0.data.toList
  have hcc : x0.data.toList.count 10 ≤ x0.data.toList.length := List.count_le_length
  have hseg : ∀ l ∈ cutAt 10 x0.data.toList, l.length ≤ x0.data.toList.length := by
    generalize x0.data.toList = t
    induction t with
    | nil => intro l hl; simp [cutAt] at hl; rw [hl]; exact Nat.le_refl _
    | cons b r ih =>
      intro l hl
      rw [cutAt] at hl
      rw [List.length_cons]
      split at hl
      · rcases List.mem_cons.mp hl with rfl | hl
        · exact Nat.zero_le _
        · have := ih l hl; omega
      · rw [← cutAt_split] at ih
        rcases List.mem_cons.mp hl with rfl | hl
        · have := ih _ List.mem_cons_self; rw [List.length_cons]; omega
        · have := ih l (List.mem_cons_of_mem _ hl); omega
  unfold ref09_Lines.f
  rw [if_neg (by omega), ref_cut x0 (by omega) 6000000 (by omega), Option.bind_some]
  have hl := lines_loop (cutAt 10 x0.data.toList) (by omega) (fun l hl => by have := hseg l hl; omega) (cutAt 10 x0.data.toList).length 6000000 0 [] (by omega) (by omega) (by simp; omega)
  rw [show (0 : Int) = ((0 : Nat) : Int) from rfl, hl, List.drop_zero]
  unfold linesG
  cases firstBad 0 (cutAt 10 x0.data.toList) <;> rfl
theorem ref_lines_big (x0 : ByteArray) (h : 65536 < x0.size) (k : Nat) : ref09_Lines.f k x0 = some ([], 0, 7) := by
  unfold ref09_Lines.f
  rw [if_pos (by omega)]
end Go.Proofs.YthidobgadndclaaDoor.P

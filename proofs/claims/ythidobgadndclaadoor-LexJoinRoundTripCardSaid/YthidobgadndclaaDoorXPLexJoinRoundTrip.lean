/- LexJoinRoundTrip, the plain law: Lines of a joined text returns the same words, also if comments are added to every line. -/
import Derived.Test.YthidobgadndclaaDoorXPLex0
import Derived.Lib.ReplaceLaws
import Derived.Test.YthidobgadndclaaDoorPL8
namespace Go.Proofs.YthidobgadndclaaDoor.P
open Go.RowKit Go.Proofs.YthidobgadndclaaDoorW.PrintWords

/-- Good words: not empty; no white space, no semicolon; plain. -/
def WordOk (x : List UInt8) : Prop := x ≠ [] ∧ ∀ b ∈ x, Lib.isSp b = false ∧ b ≠ 59 ∧ isPlain b = true
def dataL (ws : List ByteArray) : List (List UInt8) := ws.map (·.data.toList)
def LineOk (ws : List ByteArray) : Prop := ws ≠ [] ∧ ∀ x ∈ dataL ws, WordOk x
theorem seg_ok (l : List UInt8) (hp : segPlain l = true) (hne : segWords l ≠ []) : LineOk (segWords l) := by
  refine ⟨hne, fun x hx => ?_⟩
  have e : dataL (segWords l) = Lib.fields (ahead l) := by
    unfold dataL segWords
    rw [List.map_map]
    conv => rhs; rw [← List.map_id (Lib.fields (ahead l))]
    apply List.map_congr_left
    intro y _
    exact mkB_data y
  rw [e] at hx
  obtain ⟨h1, h2⟩ := fields_free _ x hx
  have h3 := fields_mem _ x hx
  refine ⟨h1, fun b hb => ⟨h2 b hb, ?_, ?_⟩⟩
  · have hm := h3 b hb
    unfold ahead at hm
    have h4 : (l.takeWhile (fun b => !(b == 59))).all (fun b => !(b == 59)) = true := List.all_takeWhile
    have := List.all_eq_true.mp h4 b hm
    simpa using this
  · exact List.all_eq_true.mp hp b (h3 b hb)
/-- The text of a line (as lineText). -/
def wordsText (ws : List ByteArray) : List UInt8 := Lib.join (dataL ws) [32]
theorem text_bytes (ws : List ByteArray) (h : LineOk ws) : ∀ b ∈ wordsText ws, b ≠ 59 ∧ isPlain b = true ∧ b ≠ 10 := by
  intro b hb
  rcases join_mem _ _ b hb with hb | ⟨x, hx, hb⟩
  · rw [List.mem_singleton] at hb
    rw [hb]
    decide
  · obtain ⟨h1, h2, h3⟩ := (h.2 x hx).2 b hb
    refine ⟨h2, h3, fun e => ?_⟩
    rw [e] at h1
    exact absurd h1 (by decide)
theorem seg_text (ws : List ByteArray) (h : LineOk ws) (tail cm : List UInt8) (ht : ∀ b ∈ tail, Lib.isSp b = true ∧ b ≠ 59 ∧ isPlain b = true) (hc : cm = [] ∨ ∃ r, cm = 59 :: r) :
    segWords (wordsText ws ++ tail ++ cm) = ws ∧ segPlain (wordsText ws ++ tail ++ cm) = true := by
  have hb := text_bytes ws h
  have hn : ∀ b ∈ wordsText ws ++ tail, b ≠ 59 := by
    intro b hb2
    rcases List.mem_append.mp hb2 with hb2 | hb2
    · exact (hb b hb2).1
    · exact (ht b hb2).2.1
  have ha : ahead (wordsText ws ++ tail ++ cm) = wordsText ws ++ tail := by
    rcases hc with rfl | ⟨r, rfl⟩
    · rw [List.append_nil]; exact ahead_none _ hn
    · exact ahead_at _ _ hn
  constructor
  · unfold segWords
    rw [ha]
    unfold wordsText
    rw [fields_join (dataL ws) tail (fun x hx => ⟨(h.2 x hx).1, fun b hb => ((h.2 x hx).2 b hb).1⟩) (fun b hb => (ht b hb).1)]
    unfold dataL
    rw [List.map_map]
    conv => rhs; rw [← List.map_id ws]
    apply List.map_congr_left
    intro y _
    exact mkB_list y
  · unfold segPlain
    rw [ha, List.all_append, Bool.and_eq_true]
    exact ⟨List.all_eq_true.mpr (fun b hb2 => (hb b hb2).2.1), List.all_eq_true.mpr (fun b hb2 => (ht b hb2).2.2)⟩
/-- Lines, numbered from i. -/
def enumG : Nat → List (List ByteArray) → List (Int × List ByteArray)
  | _, [] => []
  | i, ws :: r => ((i : Int) + 1, ws) :: enumG (i + 1) r
theorem enumG_length (W : List (List ByteArray)) : ∀ i, (enumG i W).length = W.length := by
  induction W with
  | nil => intro i; rfl
  | cons ws r ih => intro i; rw [enumG, List.length_cons, ih, List.length_cons]
theorem enumG_get (W : List (List ByteArray)) : ∀ (i k : Nat) (h : k < W.length), (enumG i W)[k]'(by rw [enumG_length]; exact h) = (((i + k : Nat) : Int) + 1, W[k]) := by
  induction W with
  | nil => intro i k h; exact absurd h (by simp)
  | cons ws r ih =>
    intro i k h
    cases k with
    | zero => rfl
    | succ k =>
      simp only [enumG, List.getElem_cons_succ]
      rw [ih (i + 1) k (by simpa using h), show i + 1 + k = i + (k + 1) by omega]
/-- A text made of good lines, each with the same tail and comment. -/
def madeText (tail cm : List UInt8) (W : List (List ByteArray)) : List UInt8 := (W.map fun ws => wordsText ws ++ tail ++ cm ++ [10]).flatten
theorem made_lines (tail cm : List UInt8) (ht : ∀ b ∈ tail, Lib.isSp b = true ∧ b ≠ 59 ∧ isPlain b = true) (ht10 : ∀ b ∈ tail, b ≠ 10) (hc : cm = [] ∨ ∃ r, cm = 59 :: r) (hc10 : ∀ b ∈ cm, b ≠ 10) (W : List (List ByteArray)) (hW : ∀ ws ∈ W, LineOk ws) :
    ∀ i, firstBad i (cutAt 10 (madeText tail cm W)) = none ∧ collect i (cutAt 10 (madeText tail cm W)) = enumG i W := by
  induction W with
  | nil => intro i; exact ⟨rfl, rfl⟩
  | cons ws r ih =>
    intro i
    have hw := hW ws List.mem_cons_self
    obtain ⟨h1, h2⟩ := seg_text ws hw tail cm ht hc
    have hfree : ∀ b ∈ wordsText ws ++ tail ++ cm, b ≠ 10 := by
      intro b hb
      rcases List.mem_append.mp hb with hb | hb
      · rcases List.mem_append.mp hb with hb | hb
        · exact (text_bytes ws hw b hb).2.2
        · exact ht10 b hb
      · exact hc10 b hb
    have e : cutAt 10 (madeText tail cm (ws :: r)) = (wordsText ws ++ tail ++ cm) :: cutAt 10 (madeText tail cm r) := by
      unfold madeText
      rw [List.map_cons, List.flatten_cons, List.append_assoc (wordsText ws ++ tail ++ cm), List.singleton_append]
      exact cutAt_at 10 _ _ hfree
    obtain ⟨i1, i2⟩ := ih (fun x hx => hW x (List.mem_cons_of_mem _ hx)) (i + 1)
    rw [e, firstBad, if_pos h2, collect, h1, if_neg hw.1, i2]
    exact ⟨i1, rfl⟩
theorem linesG_made (tail cm : List UInt8) (ht : ∀ b ∈ tail, Lib.isSp b = true ∧ b ≠ 59 ∧ isPlain b = true) (ht10 : ∀ b ∈ tail, b ≠ 10) (hc : cm = [] ∨ ∃ r, cm = 59 :: r) (hc10 : ∀ b ∈ cm, b ≠ 10) (W : List (List ByteArray)) (hW : ∀ ws ∈ W, LineOk ws) :
    linesG (cutAt 10 (madeText tail cm W)) = (enumG 0 W, 0, 0) := by
  obtain ⟨h1, h2⟩ := made_lines tail cm ht ht10 hc hc10 W hW 0
  unfold linesG
  rw [h1, h2]
/-! ### replacing a byte -/
def putFor (c : UInt8) (new : List UInt8) (b : UInt8) : List UInt8 := if b = c then new else [b]
theorem replaceK_one (c : UInt8) (new l : List UInt8) : Lib.replaceK [c] new (Lib.count l [c]) l = l.flatMap (putFor c new) := by
  induction l with
  | nil => rw [Lib.count_miss (by simp [Lib.index])]; rfl
  | cons b l ih =>
    rw [List.flatMap_cons]
    by_cases h : b = c
    · subst h
      rw [Lib.count_cons_eq, Nat.add_comm 1, Lib.replaceK, index_one_eq, if_neg (by decide), ← ih, show putFor b new b = new from if_pos rfl]
      rfl
    · rw [Lib.count_cons_ne b c l h, show putFor c new b = [b] from if_neg h]
      by_cases hm : Lib.index l [c] = -1
      · rw [Lib.count_miss hm] at ih ⊢
        rw [← ih]
        rfl
      · have hge := Lib.index_ge l [c]
        obtain ⟨j, hj⟩ : ∃ j : Nat, Lib.index l [c] = j := ⟨(Lib.index l [c]).toNat, by omega⟩
        have hix : Lib.index (b :: l) [c] = ((j + 1 : Nat) : Int) := by rw [index_one_ne l h, if_neg (fun e => hm (beq_iff_eq.1 e)), hj]; omega
        rw [Lib.count_hit (by simp) hj, Nat.add_comm 1] at ih ⊢
        rw [Lib.replaceK_hit [c] new _ l j hj] at ih
        rw [Lib.replaceK_hit [c] new _ (b :: l) (j + 1) hix, ← ih]
        simp
theorem replaceAll_one (c : UInt8) (new : List UInt8) (hne : ([c] == new) = false) (s : List UInt8) : Lib.replaceAll s [c] new = Lib.replaceK [c] new (Lib.count s [c]) s := by
  unfold Lib.replaceAll Lib.replace Lib.replaceNum
  rw [if_neg (by rw [hne]; decide), if_pos (.inl (by decide))]
theorem putFor_free (c : UInt8) (new : List UInt8) (l : List UInt8) (h : ∀ b ∈ l, b ≠ c) : l.flatMap (putFor c new) = l := by
  induction l with
  | nil => rfl
  | cons b r ih => rw [List.flatMap_cons, show putFor c new b = [b] from if_neg (h b List.mem_cons_self), ih (fun d hd => h d (List.mem_cons_of_mem _ hd))]; rfl
theorem made_replaced (tail cm : List UInt8) (W : List (List ByteArray)) (hW : ∀ ws ∈ W, LineOk ws) : (madeText [] [] W).flatMap (putFor 10 (tail ++ cm ++ [10])) = madeText tail cm W := by
  induction W with
  | nil => rfl
  | cons ws r ih =>
    have e1 : ∀ a b : List UInt8, madeText a b (ws :: r) = wordsText ws ++ a ++ b ++ [10] ++ madeText a b r := fun a b => by unfold madeText; rw [List.map_cons, List.flatten_cons]
    rw [e1, e1, List.flatMap_append, ih (fun x hx => hW x (List.mem_cons_of_mem _ hx)), List.append_nil, List.append_nil, List.flatMap_append, putFor_free 10 _ _ (fun b hb => (text_bytes ws (hW ws List.mem_cons_self) b hb).2.2)]
    simp [putFor]
/-! ### lengths -/
theorem join_fields_le (l : List UInt8) : ∀ cur : List UInt8, (Lib.join (Lib.fieldsGo cur l) [32]).length ≤ cur.length + l.length := by
  have cons_le : ∀ (x : List UInt8) (r : List (List UInt8)), (Lib.join (x :: r) [32]).length ≤ x.length + 1 + (Lib.join r [32]).length := by
    intro x r
    cases r with
    | nil => rw [Lib.join_one]; omega
    | cons y r =>
      rw [Lib.join_cons, Lib.join_cons]
      simp [Lib.joinTail]
      omega
  induction l with
  | nil =>
    intro cur
    rw [Lib.fieldsGo]
    split
    · exact Nat.zero_le _
    · rw [Lib.join_one]; exact Nat.le_refl _
  | cons b r ih =>
    intro cur
    rw [Lib.fieldsGo, List.length_cons]
    split
    · split
      · have := ih []; simp at this; omega
      · have h1 := cons_le cur (Lib.fieldsGo [] r)
        have h2 := ih []
        simp at h2
        omega
    · have := ih (cur ++ [b]); simp at this; omega
theorem data_segWords (l : List UInt8) : dataL (segWords l) = Lib.fields (ahead l) := by
  unfold dataL segWords
  rw [List.map_map]
  conv => rhs; rw [← List.map_id (Lib.fields (ahead l))]
  apply List.map_congr_left
  intro y _
  exact mkB_data y
theorem text_le (l : List UInt8) : (wordsText (segWords l)).length ≤ l.length := by
  unfold wordsText
  rw [data_segWords]
  have h1 := join_fields_le (ahead l) []
  have h2 := (ahead_prefix l).length_le
  unfold Lib.fields
  simp at h1
  omega
def segSum : List (List UInt8) → Nat
  | [] => 0
  | l :: r => l.length + 1 + segSum r
theorem segSum_cut (c : UInt8) (t : List UInt8) : segSum (cutAt c t) = t.length + 1 := by
  induction t with
  | nil => rfl
  | cons b r ih =>
    rw [cutAt]
    split
    · rw [segSum, ih]; simp; omega
    · rw [← cutAt_split c r] at ih
      rw [segSum] at ih ⊢
      simp at ih ⊢
      omega
theorem made_le (segs : List (List UInt8)) : ∀ i, (madeText [] [] ((collect i segs).map (·.2))).length ≤ segSum segs := by
  induction segs with
  | nil => intro i; exact Nat.le_refl _
  | cons l r ih =>
    intro i
    rw [collect, segSum]
    have h1 := ih (i + 1)
    have h2 := text_le l
    split
    · omega
    · rw [List.map_cons]
      have e : madeText [] [] (segWords l :: (collect (i + 1) r).map (·.2)) = wordsText (segWords l) ++ [] ++ [] ++ [10] ++ madeText [] [] ((collect (i + 1) r).map (·.2)) := by unfold madeText; rw [List.map_cons, List.flatten_cons]
      rw [e]
      simp
      omega
theorem made_len (tail cm : List UInt8) (W : List (List ByteArray)) : (madeText tail cm W).length = (madeText [] [] W).length + W.length * (tail.length + cm.length) := by
  induction W with
  | nil => simp [madeText]
  | cons ws r ih =>
    have e1 : ∀ a b : List UInt8, madeText a b (ws :: r) = wordsText ws ++ a ++ b ++ [10] ++ madeText a b r := fun a b => by unfold madeText; rw [List.map_cons, List.flatten_cons]
    rw [e1, e1]
    simp only [List.length_append, ih, List.length_cons, List.length_nil, Nat.succ_mul]
    omega
/-! ### the law -/
theorem join_made (G : List (Int × List ByteArray)) : joinText (G.map toS) = madeText [] [] (G.map (·.2)) := by
  unfold joinText madeText
  rw [List.map_map, List.map_map]
  congr 1
  apply List.map_congr_left
  intro p _
  show lineText (toS p) ++ [10] = wordsText p.2 ++ [] ++ [] ++ [10]
  rw [List.append_nil, List.append_nil]
  rfl
theorem join_ok (G : List (Int × List ByteArray)) (h1 : (madeText [] [] (G.map (·.2))).length ≤ 100000) (h2 : G.length ≤ 100000) (h3 : ∀ p ∈ G, p.2.length ≤ 100000) : lex_Join.f (G.map toS) = some (mkB (madeText [] [] (G.map (·.2)))) := by
  unfold lex_Join.f
  have ha : (G.map toS).all (fun x => decide (x.f1.length ≤ 140737488355328)) = true := by
    rw [List.all_eq_true]
    intro x hx
    obtain ⟨p, hp, rfl⟩ := List.mem_map.mp hx
    have := h3 p hp
    exact decide_eq_true (by show p.2.length ≤ _; omega)
  rw [join_made, if_pos ⟨by omega, by rw [List.length_map]; omega, ha⟩]
  rfl
theorem enum_words (W : List (List ByteArray)) : ∀ i, (enumG i W).map (·.2) = W := by
  induction W with
  | nil => intro i; rfl
  | cons ws r ih => intro i; rw [enumG, List.map_cons, ih]
theorem indexByte_none (c : UInt8) (l : List UInt8) (h : ∀ b ∈ l, b ≠ c) : ¬ 0 ≤ Lib.indexByte l c := by
  have e : Lib.indexByte l c = -1 := by
    induction l with
    | nil => rfl
    | cons b r ih =>
      have h1 := ih (fun d hd => h d (List.mem_cons_of_mem _ hd))
      rw [Lib.indexByte, h1]
      have hb := h b List.mem_cons_self
      simp [hb]
  intro h0
  rw [e] at h0
  exact absurd h0 (by decide)
theorem rt_loop (G : List (Int × List ByteArray)) (hG : G.length ≤ 100000) (hW : ∀ p ∈ G, LineOk p.2) (hj : ∀ p ∈ G, ∃ l : List UInt8, l.length ≤ 100000 ∧ p.2 = segWords l) (d : Nat) : ∀ k i : Nat, i + d = G.length → d + 1 ≤ k →
    law09_LexJoinRoundTrip.l0 k (G.map toS) ((enumG 0 (G.map (·.2))).map toS) (G.length : Int) (i : Int) = some true := by
  have hE : (enumG 0 (G.map (·.2))).length = G.length := by rw [enumG_length, List.length_map]
  induction d with
  | zero =>
    intro k i hi hk
    obtain ⟨k, rfl⟩ : ∃ m, k = m + 1 := ⟨k - 1, by omega⟩
    rw [law09_LexJoinRoundTrip.l0, if_neg (by omega), alive09]
    rfl
  | succ d ih =>
    intro k i hi hk
    obtain ⟨k, rfl⟩ : ∃ m, k = m + 1 := ⟨k - 1, by omega⟩
    have hlt : i < G.length := by omega
    have hw : wrap64 ((i : Int) + 1) = ((i + 1 : Nat) : Int) := by rw [wrap_id (by omega) (by omega)]; omega
    have hm := List.getElem_mem hlt
    obtain ⟨l, hl, e⟩ := hj _ hm
    have hr : rd_T32 ((enumG 0 (G.map (·.2))).map toS) (i : Int) = ⟨(i : Int) + 1, G[i].2⟩ := by
      rw [rd_toS _ i (by omega), enumG_get _ 0 i (by rw [List.length_map]; exact hlt)]
      simp [toS]
    have j1 := join_words l (by omega) (⟨#[32]⟩ : ByteArray) (by decide)
    have j2 := join_words l (by omega) (⟨#[]⟩ : ByteArray) (by decide)
    rw [← e] at j1 j2
    rw [law09_LexJoinRoundTrip.l0, if_pos (by omega), if_pos (by omega), if_pos (by rw [List.length_map]; omega), hr, rd_toS G i hlt, hw, if_pos (by show (i : Int) + 1 = _; omega)]
    rw [show (toS G[i]).f1 = G[i].2 from rfl, show (⟨(i : Int) + 1, G[i].2⟩ : S32).f1 = G[i].2 from rfl, j1, j2]
    simp only [Option.bind_some]
    rw [if_pos (show (i : Int) < ((G.map toS).length : Int) by rw [List.length_map]; omega)]
    simp only [if_true]
    have hcont : strings_Contains.f (⟨(Lib.join (G[i].2.map (·.data.toList)) []).toArray⟩ : ByteArray) (⟨#[32]⟩ : ByteArray) = some false := by
      unfold strings_Contains.f
      show some (decide (0 ≤ Lib.indexByte _ 32)) = _
      congr 1
      refine decide_eq_false (indexByte_none 32 _ (fun b hb => ?_))
      have hb' : b ∈ Lib.join (dataL G[i].2) [] := hb
      rcases join_mem _ _ b hb' with hb' | ⟨x, hx, hb'⟩
      · cases hb'
      · intro e2
        have := ((hW _ hm).2 x hx).2 b hb'
        rw [e2] at this
        exact absurd this.1 (by decide)
    rw [hcont]
    simp only [Option.bind_some, Bool.false_eq_true, if_false]
    exact ih k (i + 1) (by omega) (by omega)
theorem rt_eval (k : Nat) (a0 t t2 : ByteArray) (L m kk : List S32) (n : Int) (h3 : ¬ (a0.size : Int) > 3000) (hl : lex_Lines.f a0 = some (L, n, 0)) (h1 : lex_Join.f L = some t) (h2 : lex_Lines.f t = some (m, 0, 0))
    (hr : strings_ReplaceAll.f t (⟨#[10]⟩ : ByteArray) (⟨#[32, 9, 59, 32, 120, 59, 1, 10]⟩ : ByteArray) = some t2) (h4 : lex_Lines.f t2 = some (kk, 0, 0)) (e1 : m.length = L.length) (e2 : kk.length = L.length) (h5 : lex_Join.f m = some t) (h6 : lex_Join.f kk = some t) :
    law09_LexJoinRoundTrip.f (k + 1) a0 = law09_LexJoinRoundTrip.l0 k L m (m.length : Int) 0 := by
  have hb : (t.toList != t.toList) = false := by simp
  unfold law09_LexJoinRoundTrip.f
  rw [if_neg h3, hl]
  simp only [Option.bind_some, if_true]
  rw [h1]
  simp only [Option.bind_some]
  rw [h2, hr]
  simp only [Option.bind_some]
  rw [h4]
  simp only [Option.bind_some, if_true, e1, e2]
  rw [h5]
  simp only [Option.bind_some, if_true]
  rw [h6]
  simp only [Option.bind_some]
  rw [hb, law09_LexJoinRoundTrip.j0, if_neg (by decide), e1]
theorem pure_LexJoinRoundTrip : law09_LexJoinRoundTrip.Pure := by
  intro a0 _
  have hsz := size_list a0
  by_cases h3 : (a0.size : Int) > 3000
  · refine ⟨0, ?_⟩
    unfold law09_LexJoinRoundTrip.f
    rw [if_pos h3, alive09]
    rfl
  · refine ⟨200000, ?_⟩
    cases hf : firstBad 0 (cutAt 10 a0.data.toList) with
    | some k =>
      have hg : linesG (cutAt 10 a0.data.toList) = ([], (k : Int) + 1, 6) := by unfold linesG; rw [hf]
      unfold law09_LexJoinRoundTrip.f
      rw [if_neg h3, lex_Lines_eq a0 (by omega), hg, alive09]
      simp only [Option.bind_some]
      rw [if_neg (by decide)]
    | none =>
      have hg : linesG (cutAt 10 a0.data.toList) = (collect 0 (cutAt 10 a0.data.toList), 0, 0) := by unfold linesG; rw [hf]
      have hplain := firstBad_none.mp hf
      obtain ⟨G, hG⟩ : ∃ G, G = collect 0 (cutAt 10 a0.data.toList) := ⟨_, rfl⟩
      have hmem : ∀ p ∈ G, ∃ l ∈ cutAt 10 a0.data.toList, p.2 = segWords l ∧ segWords l ≠ [] := fun p hp => by rw [hG] at hp; exact collect_mem hp
      have hW : ∀ p ∈ G, LineOk p.2 := fun p hp => by
        obtain ⟨l, hl, e, hne⟩ := hmem p hp
        rw [e]
        exact seg_ok l (hplain l hl) hne
      have hj : ∀ p ∈ G, ∃ l : List UInt8, l.length ≤ 100000 ∧ p.2 = segWords l := fun p hp => by
        obtain ⟨l, hl, e, _⟩ := hmem p hp
        have := cutAt_len 10 _ l hl
        exact ⟨l, by omega, e⟩
      have hsum : (madeText [] [] (G.map (·.2))).length ≤ 3001 := by
        have h1 := made_le (cutAt 10 a0.data.toList) 0
        rw [segSum_cut, ← hG] at h1
        omega
      have hlen : G.length ≤ 3001 := by
        have h1 : ∀ (segs : List (List UInt8)) (i : Nat), (collect i segs).length ≤ segs.length := by
          intro segs
          induction segs with
          | nil => intro i; exact Nat.le_refl _
          | cons l r ih =>
            intro i
            rw [collect]
            have := ih (i + 1)
            split
            · rw [List.length_cons]; omega
            · rw [List.length_cons, List.length_cons]; omega
        have h2 := h1 (cutAt 10 a0.data.toList) 0
        have h4 := count_cutAt 10 a0.data.toList
        have h5 : a0.data.toList.count 10 ≤ a0.data.toList.length := List.count_le_length
        rw [← hG] at h2
        omega
      have h2l : ∀ p ∈ G, p.2.length ≤ 100000 := fun p hp => by
        obtain ⟨l, hl, e, _⟩ := hmem p hp
        have h1 := cutAt_len 10 _ l hl
        have h2 := (segWords_bound l).1
        rw [e]
        omega
      have hW2 : ∀ ws ∈ G.map (·.2), LineOk ws := fun ws hws => by
        obtain ⟨p, hp, rfl⟩ := List.mem_map.mp hws
        exact hW p hp
      have hE2 : ∀ p ∈ enumG 0 (G.map (·.2)), p.2.length ≤ 100000 := fun p hp => by
        have : p.2 ∈ (enumG 0 (G.map (·.2))).map (·.2) := List.mem_map_of_mem hp
        rw [enum_words] at this
        obtain ⟨q, hq, e⟩ := List.mem_map.mp this
        rw [← e]
        exact h2l q hq
      have hEl : (enumG 0 (G.map (·.2))).length = G.length := by rw [enumG_length, List.length_map]
      have k1 : lex_Join.f (G.map toS) = some (mkB (madeText [] [] (G.map (·.2)))) := join_ok G (by omega) (by omega) h2l
      have k2 : lex_Join.f ((enumG 0 (G.map (·.2))).map toS) = some (mkB (madeText [] [] (G.map (·.2)))) := by
        have := join_ok (enumG 0 (G.map (·.2))) (by rw [enum_words]; omega) (by omega) hE2
        rw [enum_words] at this
        exact this
      have hts : (mkB (madeText [] [] (G.map (·.2)))).size ≤ 3001 := by rw [mkB_size]; exact hsum
      have k3 : lex_Lines.f (mkB (madeText [] [] (G.map (·.2)))) = some ((enumG 0 (G.map (·.2))).map toS, 0, 0) := by
        rw [lex_Lines_eq _ (by omega), mkB_data, linesG_made [] [] (by simp) (by simp) (.inl rfl) (by simp) _ hW2]
      have k4 : strings_ReplaceAll.f (mkB (madeText [] [] (G.map (·.2)))) (⟨#[10]⟩ : ByteArray) (⟨#[32, 9, 59, 32, 120, 59, 1, 10]⟩ : ByteArray) = some (mkB (madeText [32, 9] [59, 32, 120, 59, 1] (G.map (·.2)))) := by
        unfold strings_ReplaceAll.f
        have hcb := Lib.countB_le (⟨#[10]⟩ : ByteArray) (by decide) _ (mkB (madeText [] [] (G.map (·.2)))) (Nat.le_refl _)
        rw [if_pos ⟨by omega, by decide, by decide, by omega⟩, mkB_data]
        have hr := replaceK_one 10 ([32, 9] ++ [59, 32, 120, 59, 1] ++ [10]) (madeText [] [] (G.map (·.2)))
        rw [made_replaced [32, 9] [59, 32, 120, 59, 1] _ hW2] at hr
        rw [← hr]
        have hra := replaceAll_one 10 [32, 9, 59, 32, 120, 59, 1, 10] (by decide) (madeText [] [] (G.map (·.2)))
        exact congrArg (fun l => some (mkB l)) hra
      have k5 : lex_Lines.f (mkB (madeText [32, 9] [59, 32, 120, 59, 1] (G.map (·.2)))) = some ((enumG 0 (G.map (·.2))).map toS, 0, 0) := by
        have hml := made_len [32, 9] [59, 32, 120, 59, 1] (G.map (·.2))
        rw [List.length_map] at hml
        simp only [List.length_cons, List.length_nil] at hml
        rw [lex_Lines_eq _ (by rw [mkB_size]; omega), mkB_data, linesG_made [32, 9] [59, 32, 120, 59, 1] (by decide) (by decide) (.inr ⟨_, rfl⟩) (by decide) _ hW2]
      have k0 : lex_Lines.f a0 = some (G.map toS, 0, 0) := by rw [lex_Lines_eq a0 (by omega), hg, ← hG]
      rw [rt_eval 199999 a0 _ _ _ _ _ 0 (by omega) k0 k1 k3 k4 k5 (by rw [List.length_map, List.length_map, hEl]) (by rw [List.length_map, List.length_map, hEl]) k2 k2, List.length_map, hEl]
      exact rt_loop G (by omega) hW hj G.length 199999 0 (by omega) (by omega)
theorem LexJoinRoundTrip_walk (a0 : ByteArray) (w : World) (w0 : a0.size ≤ 140737488351232) (hL : Aside0 (LaidW 9 w)) :
    Calls Tryd.prog 6 #[.string a0] w fun e w' => e = .returned (.bool true) ∧ Below w.heap.size w w' := law09_LexJoinRoundTrip.walk pure_LexJoinRoundTrip a0 w w0 hL
end Go.Proofs.YthidobgadndclaaDoor.P

/- PrinterRoundTrip, plainly: what a parsed ladder is: Check accepts it, and its printed text is no longer than what was parsed (and a newline). -/
import Derived.Test.YtdbjjbooalkkbaaGreatDoorXRound
set_option linter.unusedVariables false
set_option linter.unusedSimpArgs false
namespace Go.Proofs.YtdbjjbooalkkbaaGreatDoor.P
open Go.RowKit Go.Proofs.YtdbjjbooalkkbaaGreatDoorW.PrintWords

/-! ### lengths -/
def sumL (ls : List (List UInt8)) : Nat := (ls.map fun w => w.length + 1).sum
theorem sumL_cons (a : List UInt8) (r : List (List UInt8)) : sumL (a :: r) = a.length + 1 + sumL r := by unfold sumL; rw [List.map_cons, List.sum_cons]
theorem fieldsGo_sum : ∀ (l cur : List UInt8), sumL (Lib.fieldsGo cur l) ≤ cur.length + l.length + 1
  | [], cur => by
    rw [Lib.fieldsGo]
    split
    · exact Nat.zero_le _
    · rw [sumL_cons]; show cur.length + 1 + 0 ≤ _; omega
  | b :: l, cur => by
    rw [Lib.fieldsGo, List.length_cons]
    split
    · split
      · have := fieldsGo_sum l []
        rw [List.length_nil] at this
        omega
      · have := fieldsGo_sum l []
        rw [List.length_nil] at this
        rw [sumL_cons]
        omega
    · have := fieldsGo_sum l (cur ++ [b])
      rw [List.length_append, List.length_singleton] at this
      omega
theorem flat_sum (ws : List (List UInt8)) : ((ws.map (fun y => 32 :: y)).flatten).length = sumL ws := by
  induction ws with
  | nil => rfl
  | cons x r ih => rw [List.map_cons, List.flatten_cons, List.length_append, ih, sumL_cons, List.length_cons]
theorem lineTx_len (ws : List ByteArray) (h : ws ≠ []) : (lineTx ws).length = sumL (ws.map (·.data.toList)) := by
  cases ws with
  | nil => exact absurd rfl h
  | cons x r =>
    unfold lineTx joinW
    rw [List.map_cons, join_cons, sumL_cons, List.length_append, List.length_append, flat_sum, List.length_singleton]
    omega
theorem segW_len (l : List UInt8) (h : segWords l ≠ []) : (lineTx (segWords l)).length ≤ l.length + 1 := by
  rw [lineTx_len _ h]
  unfold segWords
  rw [List.map_map, show ((fun x : ByteArray => x.data.toList) ∘ mkB) = id from funext mkB_data, List.map_id]
  have h1 := fieldsGo_sum (ahead l) []
  have h2 := (ahead_prefix l).length_le
  rw [List.length_nil] at h1
  unfold Lib.fields
  omega
theorem cut_sum : ∀ t : List UInt8, sumL (cutAt 10 t) = t.length + 1
  | [] => rfl
  | b :: r => by
    have ih := cut_sum r
    rw [cutAt, List.length_cons]
    split
    · rw [sumL_cons, ih, List.length_nil]; omega
    · rw [← cutAt_split 10 r, sumL_cons] at ih
      rw [sumL_cons, List.length_cons]
      omega
theorem collect_sum : ∀ (segs : List (List UInt8)) (i : Nat), (linesTx ((collect i segs).map (·.2))).length ≤ sumL segs
  | [], _ => Nat.zero_le _
  | l :: r, i => by
    have ih := collect_sum r (i + 1)
    rw [collect, sumL_cons]
    split
    · omega
    · rename_i h
      rw [List.map_cons, linesTx_cons, List.length_append]
      show (lineTx (segWords l)).length + _ ≤ _
      have := segW_len l h
      omega
theorem text_len (t : List UInt8) : (linesTx ((linesN t).map (·.f1))).length ≤ t.length + 1 := by
  have h := collect_sum (cutAt 10 t) 0
  rw [cut_sum] at h
  unfold linesN
  rw [List.map_map]
  exact h

/-! ### what Check asks -/
theorem empty_list {s : ByteArray} (h : s.size = 0) : s.toList = ([] : List UInt8) := by rw [bsize_nil h, ByteArray.toList_eq]
theorem partP_of {I Q M k s n : Int} (h0 : 0 ≤ k) (h4 : k < 4) (h : addrP I Q M s n = 0) : partP I Q M k s n = 0 := by unfold partP; rw [if_neg (by omega), h]
theorem consP_of {I Q M : Int} : ∀ l : List S51, (∀ c ∈ l, ConOk I Q M c) → consP I Q M l = 0
  | [], _ => rfl
  | c :: r, h => by
    have hc := h c (by simp)
    rw [consP, partP_of hc.k0 hc.k4 hc.addr, if_pos rfl, if_pos hc.src, if_pos hc.dst]
    exact consP_of r (fun x hx => h x (by simp [hx]))
theorem coilsP_of {I Q M : Int} : ∀ l : List S75, (∀ c ∈ l, CoilOk I Q M c) → coilsP I Q M l = 0
  | [], _ => rfl
  | c :: r, h => by
    have hc := h c (by simp)
    rw [coilsP, partP_of hc.k0 hc.k4 hc.addr, if_pos rfl, if_neg hc.out]
    exact coilsP_of r (fun x hx => h x (by simp [hx]))
theorem bodyP_of {I Q M : Int} {r : SR} (h : RungOk I Q M r) : bodyP I Q M r = 0 := by
  have hj : jumpPr r.f3 = 0 := by
    unfold jumpPr
    rcases h.jump with h1 | h1
    · rw [if_pos h1]
    · rw [h1]; split <;> rfl
  unfold bodyP restP tailP
  rw [if_neg (by have := h.cons; omega), consP_of _ h.con, if_pos rfl, if_neg (by have := h.coils; omega), coilsP_of _ h.coil, if_pos rfl, hj]
theorem rungP_of {I Q M : Int} {a : List SR} {r : SR} (h : RungOk I Q M r) (hl : r.f0.size = 0 ∨ nameB r.f0 = true ∧ hasLabel a r.f0 = false) : rungP I Q M a r = 0 := by
  unfold rungP
  rcases hl with h0 | ⟨h1, h2⟩
  · rw [if_pos (empty_list h0)]; exact bodyP_of h
  · rw [h1, h2, bodyP_of h]; split <;> rfl
theorem scanR_snoc {I Q M : Int} {r : SR} : ∀ (l a : List SR) (i : Nat), scanR I Q M a (l ++ [r]) i = none ↔ scanR I Q M a l i = none ∧ rungP I Q M (a ++ l) r = 0
  | [], a, i => by
    rw [List.nil_append, List.append_nil, scanR, scanR]
    by_cases h : rungP I Q M a r = 0
    · rw [if_pos h]; exact ⟨fun _ => ⟨rfl, h⟩, fun _ => rfl⟩
    · rw [if_neg h]; exact ⟨fun e => (by cases e), fun e => absurd e.2 h⟩
  | x :: l, a, i => by
    rw [List.cons_append, scanR, scanR]
    by_cases h : rungP I Q M a x = 0
    · rw [if_pos h, if_pos h, scanR_snoc l (a ++ [x]) (i + 1), List.append_assoc]
      rfl
    · rw [if_neg h, if_neg h]
      exact ⟨fun e => (by cases e), fun e => (by cases e.1)⟩

/-! ### what the parser keeps -/
structure GoodS (s : PSt) : Prop where
  unsz : s.sized = false → s.rungs = []
  size : OkSize s.I s.Q s.M
  scan : scanR s.I s.Q s.M [] s.rungs 0 = none
def wordsOf (s : PSt) : List (List ByteArray) := if s.sized = true then ladderLn s.I s.Q s.M s.rungs else []
def Back (s : PSt) (l : LN) (r : Int × PSt) : Prop := r.1 = 0 → GoodS r.2 ∧ wordsOf r.2 = wordsOf s ++ [l.f1]
theorem Back.bad {s s' : PSt} {l : LN} {e : Int} (h : e ≠ 0) : Back s l (e, s') := fun h0 => absurd h0 h
theorem ladderLn_snoc (I Q M : Int) (a : List SR) (x : SR) : ladderLn I Q M (a ++ [x]) = ladderLn I Q M a ++ rungLn x := by
  unfold ladderLn
  simp
theorem four_words {l : LN} (h : l.f1.length = 4) : l.f1 = [wd l 0, wd l 1, wd l 2, wd l 3] := by
  unfold wd
  match hf : l.f1, h with
  | [a, b, c, d], _ => rfl
theorem two_words {l : LN} (h : l.f1.length = 2) : l.f1 = [wd l 0, wd l 1] := by
  unfold wd
  match hf : l.f1, h with
  | [a, b], _ => rfl
theorem one_word {l : LN} (h : l.f1.length = 1) : l.f1 = [wd l 0] := by
  unfold wd
  match hf : l.f1, h with
  | [a], _ => rfl
theorem number_inv {s : ByteArray} (h : (number s.data.toList 256).2 = 0) : itoaB (number s.data.toList 256).1 = s ∧ 0 ≤ (number s.data.toList 256).1 ∧ (number s.data.toList 256).1 ≤ 256 := by
  unfold number at h ⊢
  rw [if_neg (by decide)] at h ⊢
  by_cases h1 : isNum s.data.toList = true
  · rw [if_pos h1] at h ⊢
    by_cases h2 : (decVal s.data.toList : Int) ≤ 256
    · rw [if_pos h2]
      refine ⟨?_, by show (0 : Int) ≤ (decVal s.data.toList : Int); omega, h2⟩
      show itoaB (decVal s.data.toList : Int) = s
      rw [itoaB_eq _ (by omega), Int.toNat_natCast, digits_val _ h1, mkB_list]
    · rw [if_neg h2] at h; exact absurd h (by decide)
  · rw [if_neg h1] at h; exact absurd h (by decide)
theorem letter_inv {c : UInt8} {sp : Int} (h : spaceOf c = some sp) : letterB sp = c ∧ 0 ≤ sp ∧ sp ≤ 2 := by
  unfold spaceOf at h
  by_cases h1 : c = 73
  · rw [if_pos h1] at h; cases h; exact ⟨h1.symm, by decide, by decide⟩
  rw [if_neg h1] at h
  by_cases h2 : c = 81
  · rw [if_pos h2] at h; cases h; exact ⟨h2.symm, by decide, by decide⟩
  rw [if_neg h2] at h
  by_cases h3 : c = 77
  · rw [if_pos h3] at h; cases h; exact ⟨h3.symm, by decide, by decide⟩
  rw [if_neg h3] at h
  cases h
theorem addr_inv {s : ByteArray} (h : (parseAddr s.data.toList).2.2 = 0) : fmtB (parseAddr s.data.toList).1 (parseAddr s.data.toList).2.1 = s := by
  have hs := mkB_list s
  cases e : s.data.toList with
  | nil => rw [e] at h; exact absurd h (by decide)
  | cons c ds =>
    rw [e] at h hs
    unfold parseAddr at h ⊢
    simp only at h ⊢
    cases e1 : spaceOf c with
    | none => rw [e1] at h; exact absurd (show (6 : Int) = 0 from h) (by decide)
    | some sp =>
      rw [e1] at h
      simp only at h ⊢
      obtain ⟨l1, l2, l3⟩ := letter_inv e1
      by_cases h1 : isNum ds = true
      · rw [if_pos h1] at h ⊢
        by_cases h2 : decVal ds < 256
        · rw [if_pos h2]
          show fmtB sp (decVal ds : Int) = s
          rw [fmt_eq ⟨l2, l3, by omega, by omega⟩, Int.toNat_natCast, digits_val _ h1, l1, hs]
        · rw [if_neg h2] at h; exact absurd h (by decide)
      · rw [if_neg h1] at h; exact absurd h (by decide)
theorem address_inv {s : PSt} {w : ByteArray} (h : (addressP s w).2.2 = 0) : fmtB (addressP s w).1 (addressP s w).2.1 = w ∧ addrP s.I s.Q s.M (addressP s w).1 (addressP s w).2.1 = 0 := by
  unfold addressP at h ⊢
  by_cases h1 : (parseAddr w.data.toList).2.2 = 0
  · rw [if_pos h1] at h ⊢
    exact ⟨addr_inv h1, h⟩
  · rw [if_neg h1] at h; exact absurd h h1
theorem idxF_at : ∀ (ks : List ByteArray) (w : ByteArray) (i : Nat), 0 ≤ Lib.idxFromS ks w i → ∃ k : Nat, Lib.idxFromS ks w i = ((i + k : Nat) : Int) ∧ k < ks.length ∧ ks.getD k ByteArray.empty = w
  | [], w, i, h => by rw [Lib.idxFromS] at h; exact absurd h (by decide)
  | z :: zs, w, i, h => by
    rw [Lib.idxFromS] at h ⊢
    by_cases h1 : z = w
    · rw [if_pos h1]; exact ⟨0, rfl, by simp, h1⟩
    · rw [if_neg h1] at h ⊢
      obtain ⟨k, h2, h3, h4⟩ := idxF_at zs w (i + 1) h
      exact ⟨k + 1, by rw [h2]; congr 1; omega, by simp; omega, h4⟩
theorem kw_at {ks : List ByteArray} {w : ByteArray} (h : 0 ≤ Lib.idxOfS ks w) : Lib.idxOfS ks w < (ks.length : Int) ∧ ks.getD (Lib.idxOfS ks w).toNat ByteArray.empty = w := by
  obtain ⟨k, h1, h2, h3⟩ := idxF_at ks w 0 h
  unfold Lib.idxOfS
  rw [h1]
  exact ⟨by omega, by rw [Int.toNat_natCast, Nat.zero_add]; exact h3⟩
theorem snoc_of {l : List SR} (h : l ≠ []) : ∃ a x, l = a ++ [x] := ⟨l.dropLast, l.getLast h, (List.dropLast_concat_getLast h).symm⟩
/-- The last rung, changed. -/
theorem set_back {s : PSt} (h : GoodS s) (hz : s.sized = true) {a : List SR} {x : SR} (hx : s.rungs = a ++ [x]) (y : SR) (w : List ByteArray) (js : List Int) (l : LN) (hy : RungOk s.I s.Q s.M x → RungOk s.I s.Q s.M y) (hl : y.f0 = x.f0) (hw : rungLn y = rungLn x ++ [w]) (e : l.f1 = w) :
    GoodS { s with rungs := setR s.rungs y, jumps := js } ∧ wordsOf { s with rungs := setR s.rungs y, jumps := js } = wordsOf s ++ [l.f1] := by
  have hs := h.scan
  rw [hx] at hs
  obtain ⟨h1, h2⟩ := (scanR_snoc a [] 0).1 hs
  refine ⟨⟨fun hf => absurd (hz.symm.trans hf) (by decide), h.size, ?_⟩, ?_⟩
  · show scanR s.I s.Q s.M [] (setR s.rungs y) 0 = none
    rw [hx, setR_snoc]
    refine (scanR_snoc a [] 0).2 ⟨h1, rungP_of (hy (rungP_ok h2)) ?_⟩
    have := label_new h2
    rw [hl]
    exact this
  · unfold wordsOf
    show (if s.sized = true then ladderLn s.I s.Q s.M (setR s.rungs y) else []) = (if s.sized = true then ladderLn s.I s.Q s.M s.rungs else []) ++ [l.f1]
    rw [if_pos hz, if_pos hz, hx, setR_snoc, ladderLn_snoc, ladderLn_snoc, hw, e, List.append_assoc]
theorem con_back {s : PSt} (h : GoodS s) (hz : s.sized = true) (hp : s.rungs ≠ []) {l : LN} {k : Int} (hl : l.f1.length = 4) (h0 : 0 ≤ k) (h4 : k < 4) (hk : kwC.getD k.toNat ByteArray.empty = wd l 0) : Back s l (contactP s l k) := by
  obtain ⟨a, x, hx⟩ := snoc_of hp
  unfold contactP
  by_cases c1 : 0 < (lastR s.rungs).f2.length
  · rw [if_pos c1]; exact .bad (by decide)
  rw [if_neg c1]
  by_cases c2 : 0 < (lastR s.rungs).f3.size
  · rw [if_pos c2]; exact .bad (by decide)
  rw [if_neg c2]
  by_cases c3 : (lastR s.rungs).f1.length = 256
  · rw [if_pos c3]; exact .bad (by decide)
  rw [if_neg c3]
  by_cases c4 : (addressP s (wd l 1)).2.2 = 0
  case neg => rw [if_pos c4]; exact .bad c4
  rw [if_neg (fun hn => hn c4)]
  by_cases c5 : isName (wd l 2).data.toList = false
  · rw [if_pos c5]; exact .bad (by decide)
  rw [if_neg c5]
  by_cases c6 : isName (wd l 3).data.toList = false
  · rw [if_pos c6]; exact .bad (by decide)
  rw [if_neg c6]
  intro _
  obtain ⟨f1, f2⟩ := address_inv c4
  rw [hx, lastR_snoc] at c1 c2 c3
  have q2 : x.f2 = [] := List.length_eq_zero_iff.1 (by omega)
  have q3 : x.f3.size = 0 := by omega
  unfold conAdd
  rw [show lastR s.rungs = x by rw [hx, lastR_snoc]]
  refine set_back h hz hx _ [kwC.getD k.toNat ByteArray.empty, fmtB (addressP s (wd l 1)).1 (addressP s (wd l 1)).2.1, wd l 2, wd l 3] _ l (fun ho => ?_) rfl ?_ ?_
  · refine ⟨ho.label, ho.jump, ?_, ho.coils, fun c hc => ?_, ho.coil⟩
    · show (x.f1 ++ [_]).length ≤ 256
      have := ho.cons
      rw [List.length_append, List.length_singleton]
      omega
    · rcases List.mem_append.1 hc with hc | hc
      · exact ho.con c hc
      · rw [List.mem_singleton.1 hc]
        exact ⟨h0, h4, f2, by simpa [nameB] using c5, by simpa [nameB] using c6⟩
  · unfold rungLn
    simp only [q2, q3, if_true, List.map_append, List.map_nil, List.append_nil, List.map_cons, List.cons_append]
    rfl
  · rw [hk, f1]
    exact four_words hl
theorem coil_back {s : PSt} (h : GoodS s) (hz : s.sized = true) (hp : s.rungs ≠ []) {l : LN} {k : Int} (hl : l.f1.length = 2) (h0 : 0 ≤ k) (h4 : k < 4) (hk : kwQ.getD k.toNat ByteArray.empty = wd l 0) : Back s l (coilP s l k) := by
  obtain ⟨a, x, hx⟩ := snoc_of hp
  unfold coilP
  by_cases c2 : 0 < (lastR s.rungs).f3.size
  · rw [if_pos c2]; exact .bad (by decide)
  rw [if_neg c2]
  by_cases c3 : (lastR s.rungs).f2.length = 16
  · rw [if_pos c3]; exact .bad (by decide)
  rw [if_neg c3]
  by_cases c4 : (addressP s (wd l 1)).2.2 = 0
  case neg => rw [if_pos c4]; exact .bad c4
  rw [if_neg (fun hn => hn c4)]
  by_cases c5 : (addressP s (wd l 1)).1 = 0
  · rw [if_pos c5]; exact .bad (by decide)
  rw [if_neg c5]
  intro _
  obtain ⟨f1, f2⟩ := address_inv c4
  rw [hx, lastR_snoc] at c2 c3
  have q3 : x.f3.size = 0 := by omega
  unfold coilAdd
  rw [show lastR s.rungs = x by rw [hx, lastR_snoc]]
  refine set_back h hz hx _ [kwQ.getD k.toNat ByteArray.empty, fmtB (addressP s (wd l 1)).1 (addressP s (wd l 1)).2.1] _ l (fun ho => ?_) rfl ?_ ?_
  · refine ⟨ho.label, ho.jump, ho.cons, ?_, ho.con, fun c hc => ?_⟩
    · show (x.f2 ++ [_]).length ≤ 16
      have := ho.coils
      rw [List.length_append, List.length_singleton]
      omega
    · rcases List.mem_append.1 hc with hc | hc
      · exact ho.coil c hc
      · rw [List.mem_singleton.1 hc]
        exact ⟨h0, h4, f2, c5⟩
  · unfold rungLn
    simp only [q3, if_true, List.map_append, List.map_nil, List.append_nil, List.map_cons, List.cons_append, List.append_assoc]
    rfl
  · rw [hk, f1]
    exact two_words hl
theorem name_size {s : ByteArray} (h : isName s.data.toList = true) : s.size ≠ 0 := (name_W (s := s) h).size
theorem jump_back {s : PSt} (h : GoodS s) (hz : s.sized = true) (hp : s.rungs ≠ []) {l : LN} (hl : l.f1.length = 2) (hk : wd l 0 = kwJump) : Back s l (jumpP s l) := by
  obtain ⟨a, x, hx⟩ := snoc_of hp
  unfold jumpP
  by_cases c2 : 0 < (lastR s.rungs).f3.size
  · rw [if_pos c2]; exact .bad (by decide)
  rw [if_neg c2]
  by_cases c5 : isName (wd l 1).data.toList = false
  · rw [if_pos c5]; exact .bad (by decide)
  rw [if_neg c5]
  intro _
  have n1 : isName (wd l 1).data.toList = true := by simpa using c5
  rw [hx, lastR_snoc] at c2
  have q3 : x.f3.size = 0 := by omega
  unfold jumpAdd
  rw [show lastR s.rungs = x by rw [hx, lastR_snoc]]
  refine set_back h hz hx _ [wJump, wd l 1] _ l (fun ho => ?_) rfl ?_ ?_
  · exact ⟨ho.label, .inr n1, ho.cons, ho.coils, ho.con, ho.coil⟩
  · unfold rungLn
    simp only [q3, if_true, if_neg (name_size n1), List.append_nil, List.cons_append, List.append_assoc]
  · rw [two_words hl, hk]
    rfl
theorem add_back {s : PSt} (h : GoodS s) (hz : s.sized = true) {l : LN} (n : Int) (lab : ByteArray) (hl : lab.size = 0 ∨ nameB lab = true ∧ hasLabel s.rungs lab = false) (e : l.f1 = if lab.size = 0 then [wRung] else [wRung, lab]) :
    GoodS (addP s n lab) ∧ wordsOf (addP s n lab) = wordsOf s ++ [l.f1] := by
  have hr : RungOk s.I s.Q s.M ⟨lab, [], [], ⟨#[]⟩⟩ := ⟨hl.elim (fun h0 => .inl (empty_list h0)) (fun h1 => .inr h1.1), .inl (empty_list rfl), by simp, by simp, fun c hc => (by cases hc), fun c hc => (by cases hc)⟩
  refine ⟨⟨fun hf => absurd (hz.symm.trans hf) (by decide), h.size, ?_⟩, ?_⟩
  · exact (scanR_snoc s.rungs [] 0).2 ⟨h.scan, rungP_of hr hl⟩
  · unfold wordsOf
    show (if s.sized = true then ladderLn s.I s.Q s.M (s.rungs ++ [⟨lab, [], [], ⟨#[]⟩⟩]) else []) = _
    rw [if_pos hz, if_pos hz, ladderLn_snoc, e]
    rfl
theorem begin_back {s : PSt} (h : GoodS s) (hz : s.sized = true) {l : LN} (h1 : 1 ≤ l.f1.length) (h2 : l.f1.length ≤ 2) (hk : wd l 0 = kwRung) : Back s l (beginP s l) := by
  unfold beginP
  by_cases c1 : 1 < l.f1.length
  · rw [if_pos c1]
    by_cases c2 : isName (wd l 1).data.toList = false
    · rw [if_pos c2]; exact .bad (by decide)
    rw [if_neg c2]
    by_cases c3 : hasLabel s.rungs (wd l 1) = true
    · rw [if_pos c3]; exact .bad (by decide)
    rw [if_neg c3]
    by_cases c4 : s.rungs.length = 64
    · rw [if_pos c4]; exact .bad (by decide)
    rw [if_neg c4]
    intro _
    have n1 : isName (wd l 1).data.toList = true := by simpa using c2
    refine add_back h hz _ _ (.inr ⟨n1, by simpa using c3⟩) ?_
    rw [if_neg (name_size n1), two_words (by omega), hk]
    rfl
  · rw [if_neg c1]
    by_cases c4 : s.rungs.length = 64
    · rw [if_pos c4]; exact .bad (by decide)
    rw [if_neg c4]
    intro _
    refine add_back h hz _ _ (.inl rfl) ?_
    rw [if_pos (show (⟨#[]⟩ : ByteArray).size = 0 from rfl), one_word (by omega), hk]
    rfl
theorem size_back {s : PSt} (h : GoodS s) {l : LN} (hl : l.f1.length = 4) (hk : wd l 0 = kwSize) : Back s l (sizeP s l) := by
  unfold sizeP
  by_cases c0 : s.sized = true
  · rw [if_pos c0]; exact .bad (by decide)
  rw [if_neg c0]
  by_cases c1 : (number (wd l 1).data.toList 256).2 = 0
  case neg => rw [if_pos c1]; exact .bad c1
  rw [if_neg (fun hn => hn c1)]
  by_cases c2 : (number (wd l 2).data.toList 256).2 = 0
  case neg => rw [if_pos c2]; exact .bad c2
  rw [if_neg (fun hn => hn c2)]
  by_cases c3 : (number (wd l 3).data.toList 256).2 = 0
  case neg => rw [if_pos c3]; exact .bad c3
  rw [if_neg (fun hn => hn c3)]
  intro _
  have hr := h.unsz (by simpa using c0)
  obtain ⟨a1, a2⟩ := number_inv c1
  obtain ⟨b1, b2⟩ := number_inv c2
  obtain ⟨d1, d2⟩ := number_inv c3
  refine ⟨⟨fun hf => absurd hf (by simp), ⟨a2, b2, d2⟩, ?_⟩, ?_⟩
  · show scanR _ _ _ [] s.rungs 0 = none
    rw [hr]
    rfl
  · unfold wordsOf
    rw [if_neg c0, if_pos rfl, List.nil_append]
    show ladderLn _ _ _ s.rungs = _
    rw [hr]
    unfold ladderLn
    simp only
    rw [a1, b1, d1, four_words hl, hk]
    rfl
theorem guard_back {least most : Nat} {sized inn : Bool} {s : PSt} {l : LN} {r : Int × PSt} (h : least ≤ l.f1.length → l.f1.length ≤ most → (sized = true → s.sized = true) → (inn = true → s.rungs ≠ []) → Back s l r) : Back s l (guardP least most sized inn s l r) := by
  intro hz
  obtain ⟨h1, h2, h3, h4, e⟩ := guardP_ok hz
  rw [e] at hz ⊢
  exact h h1 h2 h3 (fun hi hn => by have := h4 hi; rw [hn] at this; exact absurd this (by decide)) hz
theorem line_back {s : PSt} (h : GoodS s) (l : LN) : Back s l (lineP s l) := by
  unfold lineP
  by_cases c1 : wd l 0 = kwSize
  · rw [if_pos c1]; exact guard_back fun h1 h2 _ _ => size_back h (by omega) c1
  rw [if_neg c1]
  by_cases c2 : wd l 0 = kwRung
  · rw [if_pos c2]; exact guard_back fun h1 h2 h3 _ => begin_back h (h3 rfl) h1 h2 c2
  rw [if_neg c2]
  by_cases c3 : wd l 0 = kwJump
  · rw [if_pos c3]; exact guard_back fun h1 h2 h3 h4 => jump_back h (h3 rfl) (h4 rfl) (by omega) c3
  rw [if_neg c3]
  by_cases c4 : 0 ≤ Lib.idxOfS kwC0 (wd l 0)
  · rw [if_pos c4]; exact guard_back fun h1 h2 h3 h4 => con_back h (h3 rfl) (h4 rfl) (by omega) c4 (kw_at c4).1 (kw_at c4).2
  rw [if_neg c4]
  by_cases c5 : 0 ≤ Lib.idxOfS kwQ0 (wd l 0)
  · rw [if_pos c5]; exact guard_back fun h1 h2 h3 h4 => coil_back h (h3 rfl) (h4 rfl) (by omega) c5 (kw_at c5).1 (kw_at c5).2
  rw [if_neg c5]
  exact .bad (by decide)
theorem run_back : ∀ (ls : List LN) {s : PSt}, GoodS s → (runP s ls).2.1 = 0 → GoodS (runP s ls).2.2 ∧ wordsOf (runP s ls).2.2 = wordsOf s ++ ls.map (·.f1)
  | [], s, h, _ => ⟨h, (List.append_nil _).symm⟩
  | l :: r, s, h, hz => by
    rw [runP] at hz ⊢
    by_cases h0 : (lineP s l).1 = 0
    · rw [if_pos h0] at hz ⊢
      obtain ⟨h1, h2⟩ := line_back h l h0
      obtain ⟨h3, h4⟩ := run_back r h1 hz
      refine ⟨h3, ?_⟩
      rw [h4, h2, List.append_assoc]
      rfl
    · rw [if_neg h0] at hz; exact absurd hz h0
theorem badJ_scan : ∀ (l : List SR) (i : Nat), badJ l = none → scanJ l i = none := by
  intro l
  induction l with
  | nil => intro i _; rfl
  | cons r t ih =>
    intro i h
    rw [badJ] at h
    rw [scanJ]
    by_cases h1 : 0 < r.f3.size ∧ hasLabel t r.f3 = false
    · rw [if_pos h1] at h; cases h
    · rw [if_neg h1, Option.map_eq_none_iff] at h
      by_cases h2 : r.f3.toList = ([] : List UInt8)
      · rw [if_pos h2]; exact ih _ h
      · rw [if_neg h2]
        have h3 : 0 < r.f3.size := Nat.pos_of_ne_zero fun e => h2 (empty_list e)
        have h4 : hasLabel t r.f3 = true := by
          cases hh : hasLabel t r.f3 with
          | true => rfl
          | false => exact absurd ⟨h3, hh⟩ h1
        rw [if_pos h4]
        exact ih _ h
/-- A parsed ladder. -/
theorem back_law {t : List UInt8} (h : (parseT t).2.2.2.2.2.2 = 0) :
    ∃ (I Q M : Int) (l : List SR) (ls : List Int), parseT t = (I, Q, M, l, ls, 0, 0) ∧ l.length ≤ 64 ∧ checkP I Q M l = ((l.length : Int), 0) ∧ (ladderT I Q M l).length ≤ t.length + 1 ∧ (∀ r ∈ l, r.f1.length ≤ 256 ∧ r.f2.length ≤ 16) := by
  obtain ⟨h1, h2, h3, h4⟩ := parseT_through (.inl h)
  have hsz := h4 (by rw [h]; decide)
  have e : parseT t = endP (runP P.s0 (linesN t)).2.2 := by
    rw [parseT_ok h1 h2]
    unfold parseL
    rw [if_pos h3]
  have hok := runP_ok (linesN t) POk.s0 h3
  obtain ⟨hg, hw⟩ := run_back (linesN t) (s := P.s0) ⟨fun _ => rfl, POk.s0.size, rfl⟩ h3
  rw [e] at h ⊢
  generalize (runP P.s0 (linesN t)).2.2 = s at *
  have hw' : ladderLn s.I s.Q s.M s.rungs = (linesN t).map (·.f1) := by
    unfold wordsOf at hw
    rw [if_pos hsz, if_neg (by decide), List.nil_append] at hw
    exact hw
  unfold endP at h ⊢
  rw [if_neg (by rw [hsz]; decide)] at h ⊢
  cases hb : badJ s.rungs with
  | some i => rw [hb] at h; exact absurd (show (15 : Int) = 0 from h) (by decide)
  | none =>
    have hc : checkP s.I s.Q s.M s.rungs = ((s.rungs.length : Int), 0) := by
      unfold checkP
      rw [if_pos hg.size, if_neg (by have := hok.rungs; omega), hg.scan, badJ_scan _ _ hb]
    refine ⟨s.I, s.Q, s.M, s.rungs, s.lines, rfl, hok.rungs, hc, ?_, fun r hr => ⟨hok.con r hr, hok.coil r hr⟩⟩
    rw [ladder_text hg.size (check_rungs (by rw [hc])), hw']
    exact text_len t
end Go.Proofs.YtdbjjbooalkkbaaGreatDoor.P

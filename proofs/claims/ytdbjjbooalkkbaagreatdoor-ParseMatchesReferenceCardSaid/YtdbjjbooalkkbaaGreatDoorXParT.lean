/- What Parse hands back of a text, plainly: its lines, its errors. -/
import Derived.Test.YtdbjjbooalkkbaaGreatDoorXParR
set_option linter.unusedVariables false
set_option linter.unusedSimpArgs false
namespace Go.Proofs.YtdbjjbooalkkbaaGreatDoor.P
open Go.RowKit Go.Proofs.YtdbjjbooalkkbaaGreatDoorW.PrintWords

def linesN (t : List UInt8) : List LN := (collect 0 (cutAt 10 t)).map toS
/-- What Parse hands back. -/
def parseT (t : List UInt8) : PRes :=
  if 65536 < t.length then bad 0 7 else
  match firstBad 0 (cutAt 10 t) with
  | some k => bad ((k : Int) + 1) 6
  | none => parseL (linesN t)
theorem size_len (t : ByteArray) : t.size = t.data.toList.length := by show t.data.size = _; simp
theorem parse_eq (t : ByteArray) : parse_Parse.f t = some (parseT t.data.toList) := by
  unfold parse_Parse.f parseT
  by_cases h : 65536 < t.size
  · rw [lex_Lines_big t h, if_pos (by rw [← size_len]; exact h)]
    rfl
  · rw [lex_Lines_eq t (by omega), if_neg (by rw [← size_len]; exact h)]
    unfold linesG
    cases firstBad 0 (cutAt 10 t.data.toList) <;> rfl
theorem parseT_ok {t : List UInt8} (h : t.length ≤ 65536) (hp : ∀ l ∈ cutAt 10 t, segPlain l = true) : parseT t = parseL (linesN t) := by
  unfold parseT
  rw [if_neg (by omega), firstBad_none.2 hp]
theorem number_err (l : List UInt8) : (number l 256).2 ≠ 5 ∧ (number l 256).2 ≠ 15 := by
  unfold number
  repeat' split
  all_goals exact ⟨fun hx => by simp at hx, fun hx => by simp at hx⟩
theorem parseAddr_err (l : List UInt8) : (parseAddr l).2.2 ≠ 5 ∧ (parseAddr l).2.2 ≠ 15 := by
  unfold parseAddr
  repeat' split
  all_goals exact ⟨fun hx => by simp at hx, fun hx => by simp at hx⟩
theorem addrP_err (I Q M s n : Int) : addrP I Q M s n ≠ 5 ∧ addrP I Q M s n ≠ 15 := by
  unfold addrP
  repeat' split
  all_goals exact ⟨fun hx => by simp at hx, fun hx => by simp at hx⟩
theorem addressP_err (s : PSt) (w : ByteArray) : (addressP s w).2.2 ≠ 5 ∧ (addressP s w).2.2 ≠ 15 := by
  unfold addressP
  split
  · exact addrP_err _ _ _ _ _
  · exact parseAddr_err _
theorem guardP_err {least most : Nat} {sized inn : Bool} {s : PSt} {l : LN} {r : Int × PSt} (h : r.1 ≠ 5 ∧ r.1 ≠ 15) : (guardP least most sized inn s l r).1 ≠ 5 ∧ (guardP least most sized inn s l r).1 ≠ 15 := by
  unfold guardP
  repeat' split
  all_goals first | exact ⟨fun hx => by simp at hx, fun hx => by simp at hx⟩ | exact h
theorem lineP_err (s : PSt) (l : LN) : (lineP s l).1 ≠ 5 ∧ (lineP s l).1 ≠ 15 := by
  unfold lineP
  repeat' split
  · refine guardP_err ?_
    unfold sizeP
    repeat' split
    all_goals first | exact number_err _ | exact ⟨fun hx => by simp at hx, fun hx => by simp at hx⟩
  · refine guardP_err ?_
    unfold beginP
    repeat' split
    all_goals exact ⟨fun hx => by simp at hx, fun hx => by simp at hx⟩
  · refine guardP_err ?_
    unfold jumpP
    repeat' split
    all_goals exact ⟨fun hx => by simp at hx, fun hx => by simp at hx⟩
  · refine guardP_err ?_
    unfold contactP
    repeat' split
    all_goals first | exact addressP_err _ _ | exact ⟨fun hx => by simp at hx, fun hx => by simp at hx⟩
  · refine guardP_err ?_
    unfold coilP
    repeat' split
    all_goals first | exact addressP_err _ _ | exact ⟨fun hx => by simp at hx, fun hx => by simp at hx⟩
  · exact ⟨fun hx => by simp at hx, fun hx => by simp at hx⟩
theorem runP_err : ∀ (ls : List LN) (s : PSt), (runP s ls).2.1 ≠ 5 ∧ (runP s ls).2.1 ≠ 15
  | [], _ => ⟨fun h => by simp [runP] at h, fun h => by simp [runP] at h⟩
  | l :: r, s => by
    unfold runP
    split
    · exact runP_err r _
    · exact lineP_err s l
theorem runP_append : ∀ (a b : List LN) (s : PSt), runP s (a ++ b) = if (runP s a).2.1 = 0 then runP (runP s a).2.2 b else runP s a
  | [], b, s => by rw [List.nil_append, if_pos (by unfold runP; rfl)]; rfl
  | l :: a, b, s => by
    rw [List.cons_append]
    by_cases h : (lineP s l).1 = 0
    · have e1 : runP s (l :: (a ++ b)) = runP (lineP s l).2 (a ++ b) := by rw [runP, if_pos h]
      have e2 : runP s (l :: a) = runP (lineP s l).2 a := by rw [runP, if_pos h]
      rw [e1, e2]
      exact runP_append a b _
    · have e1 : runP s (l :: (a ++ b)) = (l.f0, (lineP s l).1, s) := by rw [runP, if_neg h]
      have e2 : runP s (l :: a) = (l.f0, (lineP s l).1, s) := by rw [runP, if_neg h]
      rw [e1, e2, if_neg h]
theorem runP_one (s : PSt) (l : LN) (r : List LN) (h : (lineP s l).1 ≠ 0) : runP s (l :: r) = (l.f0, (lineP s l).1, s) := by rw [runP, if_neg h]
/-- The errors of a text that came through its lines. -/
theorem parseT_through {t : List UInt8} (h : (parseT t).2.2.2.2.2.2 = 0 ∨ (parseT t).2.2.2.2.2.2 = 5 ∨ (parseT t).2.2.2.2.2.2 = 15) :
    t.length ≤ 65536 ∧ (∀ l ∈ cutAt 10 t, segPlain l = true) ∧ (runP s0 (linesN t)).2.1 = 0 ∧ ((parseT t).2.2.2.2.2.2 ≠ 5 → (runP s0 (linesN t)).2.2.sized = true) := by
  unfold parseT at h ⊢
  by_cases h1 : 65536 < t.length
  · rw [if_pos h1] at h
    rcases h with h | h | h <;> cases h
  rw [if_neg h1] at h ⊢
  cases h2 : firstBad 0 (cutAt 10 t) with
  | some k =>
    rw [h2] at h
    rcases h with h | h | h <;> cases h
  | none =>
    rw [h2] at h
    simp only at h ⊢
    refine ⟨by omega, firstBad_none.1 h2, ?_⟩
    have he := runP_err (linesN t) s0
    unfold parseL at h ⊢
    by_cases h3 : (runP s0 (linesN t)).2.1 = 0
    · refine ⟨h3, fun h5 => ?_⟩
      rw [if_pos h3] at h5
      cases hs : (runP s0 (linesN t)).2.2.sized with
      | true => rfl
      | false =>
        unfold endP at h5
        rw [if_pos hs] at h5
        exact absurd rfl h5
    · rw [if_neg h3] at h
      exact absurd h (by simp only; omega)
theorem linesN_two (a b : List UInt8) : linesN (a ++ 10 :: b) = linesN a ++ ((collect 0 (cutAt 10 b)).map (fun p => (p.1 + ((cutAt 10 a).length : Int), p.2))).map toS := by
  unfold linesN
  rw [cutAt_two, collect_append, List.map_append, Nat.zero_add]
  congr 1
  have := collect_shift (cutAt 10 b) (cutAt 10 a).length 0
  rw [Nat.zero_add] at this
  rw [this]
/-- A line that is refused, behind a text that came through. -/
theorem parse_then (t b : List UInt8) (ws : List ByteArray) (rest : List (List UInt8)) (hl : (t ++ 10 :: b).length ≤ 65536) (ht : ∀ l ∈ cutAt 10 t, segPlain l = true) (hb : ∀ l ∈ cutAt 10 b, segPlain l = true) (hr : (runP s0 (linesN t)).2.1 = 0)
    (hc : ∃ x, cutAt 10 b = x :: rest ∧ segWords x = ws) (hw : ws ≠ []) (e : Int) (he : e ≠ 0) (hbad : ∀ n, (lineP (runP s0 (linesN t)).2.2 ⟨n, ws⟩).1 = e) : parseT (t ++ 10 :: b) = bad (((cutAt 10 t).length : Int) + 1) e := by
  obtain ⟨x, hx, hxw⟩ := hc
  rw [parseT_ok hl (by
    intro l h
    rw [cutAt_two] at h
    rcases List.mem_append.1 h with h | h
    · exact ht l h
    · exact hb l h), linesN_two, hx, collect, if_neg (by rw [hxw]; exact hw), hxw]
  unfold parseL
  rw [runP_append, if_pos hr]
  have hq : ∀ r, runP (runP s0 (linesN t)).2.2 (toS (((0 : Nat) : Int) + 1 + ((cutAt 10 t).length : Int), ws) :: r) = (((0 : Nat) : Int) + 1 + ((cutAt 10 t).length : Int), e, (runP s0 (linesN t)).2.2) := fun r => by
    rw [runP_one _ _ _ (by show (lineP _ ⟨_, ws⟩).1 ≠ 0; rw [hbad]; exact he)]
    show (_, (lineP _ ⟨_, ws⟩).1, _) = _
    rw [hbad]
    rfl
  rw [List.map_cons, List.map_cons, hq]
  rw [if_neg he]
  show (0, 0, 0, [], [], ((0 : Nat) : Int) + 1 + ((cutAt 10 t).length : Int), e) = bad _ _
  unfold bad
  rw [show ((0 : Nat) : Int) + 1 + ((cutAt 10 t).length : Int) = ((cutAt 10 t).length : Int) + 1 by omega]
end Go.Proofs.YtdbjjbooalkkbaaGreatDoor.P

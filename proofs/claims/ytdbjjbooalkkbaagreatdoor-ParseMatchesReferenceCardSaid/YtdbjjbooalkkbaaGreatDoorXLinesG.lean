/- What lex.Lines hands back, said of lists of bytes. -/
import Derived.Test.YtdbjjbooalkkbaaGreatDoorXLines
import Derived.Test.YtdbjjbooalkkbaaGreatDoorXLexG
namespace Go.Proofs.YtdbjjbooalkkbaaGreatDoor.P
open Go.RowKit Go.Proofs.YtdbjjbooalkkbaaGreatDoorW.PrintWords

def toS (p : Int × List ByteArray) : S61 := ⟨p.1, p.2⟩
theorem pieces_data (s : ByteArray) : (piecesB s).map (·.data.toList) = cutAt 10 s.data.toList := by
  have h := Lib.splitB_data nl 0 (Lib.countB s nl) s
  rw [← split_cutAt]
  exact h
theorem piece_list (s : ByteArray) (k : Nat) (l : List UInt8) (h : (cutAt 10 s.data.toList)[k]? = some l) : (pieceAt (piecesB s) k).data.toList = ahead l := by
  rw [← pieces_data, List.getElem?_map] at h
  obtain ⟨x, hx, rfl⟩ := Option.map_eq_some_iff.mp h
  unfold pieceAt aheadB
  rw [hx]
  simp
theorem plain_seg (s : ByteArray) (k : Nat) (l : List UInt8) (h : (cutAt 10 s.data.toList)[k]? = some l) : plainB (pieceAt (piecesB s) k) = segPlain l := by unfold plainB segPlain; rw [piece_list s k l h]
theorem words_seg (s : ByteArray) (k : Nat) (l : List UInt8) (h : (cutAt 10 s.data.toList)[k]? = some l) : wordsL (pieceAt (piecesB s) k) = segWords l := by unfold wordsL segWords mkB; rw [piece_list s k l h]
theorem pieces_len (s : ByteArray) : (piecesB s).length = (cutAt 10 s.data.toList).length := by rw [← pieces_data, List.length_map]
theorem firstBad_some {segs : List (List UInt8)} : ∀ {i k : Nat}, firstBad i segs = some k → ∃ a l b, segs = a ++ l :: b ∧ k = i + a.length ∧ (∀ x ∈ a, segPlain x = true) ∧ segPlain l = false := by
  induction segs with
  | nil => intro i k h; cases h
  | cons l r ih =>
    intro i k h
    rw [firstBad] at h
    split at h
    · rename_i hp
      obtain ⟨a, m, b, e, e2, h1, h2⟩ := ih h
      refine ⟨l :: a, m, b, by rw [e]; rfl, by rw [List.length_cons]; omega, fun x hx => ?_, h2⟩
      rcases List.mem_cons.mp hx with rfl | hx
      · exact hp
      · exact h1 x hx
    · rename_i hp
      cases h
      exact ⟨[], l, r, rfl, rfl, by simp, by simpa using hp⟩
theorem collect_take (s : ByteArray) : ∀ k, k ≤ (cutAt 10 s.data.toList).length → lined (piecesB s) (List.range k) = (collect 0 ((cutAt 10 s.data.toList).take k)).map toS := by
  intro k
  induction k with
  | zero => intro _; rfl
  | succ k ih =>
    intro hk
    have hl : (cutAt 10 s.data.toList)[k]? = some ((cutAt 10 s.data.toList)[k]'(by omega)) := List.getElem?_eq_getElem _
    have hw := words_seg s k _ hl
    rw [List.range_succ, List.take_add_one, hl, Option.toList_some, collect_append, List.map_append, ← ih (by omega), List.length_take, Nat.min_eq_left (by omega), Nat.zero_add, collect]
    by_cases h : segWords ((cutAt 10 s.data.toList)[k]'(by omega)) = []
    · rw [if_pos h, lined_none _ _ _ (by rw [hw]; exact h)]
      simp [collect]
    · rw [if_neg h, lined_some _ _ _ (by rw [hw]; exact h), hw]
      rfl
theorem lines_eq (s : ByteArray) : linesRes (piecesB s) = ((linesG (cutAt 10 s.data.toList)).1.map toS, (linesG (cutAt 10 s.data.toList)).2) := by
  unfold linesG
  cases h : firstBad 0 (cutAt 10 s.data.toList) with
  | none =>
    have hp := firstBad_none.mp h
    rw [linesRes_ok]
    · rw [pieces_len, collect_take s _ (Nat.le_refl _), List.take_length]
    · intro x hx
      rw [List.mem_range, pieces_len] at hx
      rw [plain_seg s x _ (List.getElem?_eq_getElem hx)]
      exact hp _ (List.getElem_mem hx)
  | some k =>
    obtain ⟨a, l, b, e, e2, h1, h2⟩ := firstBad_some h
    rw [Nat.zero_add] at e2
    have hl : (cutAt 10 s.data.toList).length = k + 1 + b.length := by rw [e, List.length_append, List.length_cons]; omega
    rw [linesRes_bad (piecesB s) (k := k + 1) (x := k) (ini := List.range k) (by rw [pieces_len]; omega) List.range_succ]
    · rfl
    · intro y hy
      rw [List.mem_range] at hy
      have hy2 : (cutAt 10 s.data.toList)[y]? = some (a[y]'(by omega)) := by rw [e, List.getElem?_append_left (by omega), List.getElem?_eq_getElem]
      rw [plain_seg s y _ hy2]
      exact h1 _ (List.getElem_mem _)
    · have hk2 : (cutAt 10 s.data.toList)[k]? = some l := by rw [e, e2, List.getElem?_append_right (Nat.le_refl _), Nat.sub_self]; rfl
      rw [plain_seg s k _ hk2]
      exact h2
/-- lex.Lines: of a text within the limit. -/
theorem lex_Lines_eq (s : ByteArray) (h : s.size ≤ 65536) : lex_Lines.f s = some ((linesG (cutAt 10 s.data.toList)).1.map toS, (linesG (cutAt 10 s.data.toList)).2) := by
  unfold lex_Lines.f
  rw [if_neg (by omega), lines_eq]
theorem lex_Lines_big (s : ByteArray) (h : 65536 < s.size) : lex_Lines.f s = some ([], 0, 7) := by
  unfold lex_Lines.f
  rw [if_pos h]
end Go.Proofs.YtdbjjbooalkkbaaGreatDoor.P

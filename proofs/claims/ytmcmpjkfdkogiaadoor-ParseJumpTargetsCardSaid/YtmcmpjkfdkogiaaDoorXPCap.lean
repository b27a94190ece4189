/- ParseCapacities, plainly: a line put k times behind a head. -/
import Derived.Test.YtmcmpjkfdkogiaaDoorXParT
import Derived.Lib.Repeat
set_option linter.unusedVariables false
set_option linter.unusedSimpArgs false
namespace Go.Proofs.YtmcmpjkfdkogiaaDoor.P
open Go.RowKit Go.Proofs.YtmcmpjkfdkogiaaDoorW.PrintWords

def repLines (ws : List ByteArray) : Nat → Nat → List LN
  | _, 0 => []
  | i, k + 1 => ⟨(i : Int) + 1, ws⟩ :: repLines ws (i + 1) k
theorem collect_rep (x : List UInt8) (hx : segWords x ≠ []) : ∀ (k i : Nat), (collect i (List.replicate k x ++ [[]])).map toS = repLines (segWords x) i k
  | 0, i => rfl
  | k + 1, i => by
    rw [List.replicate_succ, List.cons_append, collect, if_neg hx, List.map_cons, collect_rep x hx k (i + 1)]
    rfl
theorem cut_rep (x : List UInt8) (hx : ∀ b ∈ x, b ≠ 10) : ∀ k, cutAt 10 (Lib.repeatL (x ++ [10]) k) = List.replicate k x ++ [[]]
  | 0 => rfl
  | k + 1 => by
    rw [Lib.repeatL, List.append_assoc, List.singleton_append, cutAt_at 10 x _ hx, cut_rep x hx k]
    rfl
section
variable (P : Nat → PSt → Prop) (ws : List ByteArray) (most : Nat)
theorem run_rep (step : ∀ s n j, P j s → j < most → (lineP s ⟨n, ws⟩).1 = 0 ∧ P (j + 1) (lineP s ⟨n, ws⟩).2) :
    ∀ (k i j : Nat) (s : PSt), P j s → j + k ≤ most → (runP s (repLines ws i k)).2.1 = 0 ∧ P (j + k) (runP s (repLines ws i k)).2.2
  | 0, i, j, s, h, _ => ⟨rfl, h⟩
  | k + 1, i, j, s, h, hk => by
    obtain ⟨h0, h1⟩ := step s ((i : Int) + 1) j h (by omega)
    have := run_rep step k (i + 1) (j + 1) _ h1 (by omega)
    rw [repLines, runP, if_pos h0]
    rw [show j + (k + 1) = j + 1 + k by omega]
    exact this
theorem run_over (step : ∀ s n j, P j s → j < most → (lineP s ⟨n, ws⟩).1 = 0 ∧ P (j + 1) (lineP s ⟨n, ws⟩).2) (full : ∀ s n, P most s → (lineP s ⟨n, ws⟩).1 = 10) :
    ∀ (k i j : Nat) (s : PSt), P j s → j ≤ most → most < j + k → (runP s (repLines ws i k)).1 = ((i + (most - j) : Nat) : Int) + 1 ∧ (runP s (repLines ws i k)).2.1 = 10
  | 0, i, j, s, h, h1, h2 => by omega
  | k + 1, i, j, s, h, h1, h2 => by
    by_cases hj : j = most
    · subst hj
      have hf := full s ((i : Int) + 1) h
      rw [repLines, runP, if_neg (by rw [hf]; decide)]
      exact ⟨by simp, hf⟩
    · obtain ⟨h0, h3⟩ := step s ((i : Int) + 1) j h (by omega)
      have := run_over step full k (i + 1) (j + 1) _ h3 (by omega) (by omega)
      rw [repLines, runP, if_pos h0]
      rw [show i + (most - j) = i + 1 + (most - (j + 1)) by omega]
      exact this
end
theorem badJ_none : ∀ l : List SR, (∀ r ∈ l, r.f3.size = 0) → badJ l = none
  | [], _ => rfl
  | r :: rs, h => by
    rw [badJ, if_neg (fun hh => by have := h r List.mem_cons_self; omega), badJ_none rs (fun x hx => h x (List.mem_cons_of_mem _ hx))]
    rfl

def sizeL : List UInt8 := [115, 105, 122, 101, 32, 49, 32, 49, 32, 48]
def rungL : List UInt8 := [114, 117, 110, 103]
def conL : List UInt8 := [110, 111, 32, 73, 48, 32, 76, 32, 82]
def outL : List UInt8 := [111, 117, 116, 32, 81, 48]
def s1 : PSt := ⟨1, 1, 0, [], true, [], []⟩
def s2 : PSt := ⟨1, 1, 0, [⟨⟨#[]⟩, [], [], ⟨#[]⟩⟩], true, [2], [0]⟩
theorem size_line : lineP P.s0 ⟨1, segWords sizeL⟩ = (0, s1) := by kernel_rfl
theorem rung_line : lineP s1 ⟨2, segWords rungL⟩ = (0, s2) := by kernel_rfl
def P0 (j : Nat) (s : PSt) : Prop := s.sized = true ∧ s.rungs.length = j ∧ ∀ r ∈ s.rungs, r.f3.size = 0
def P1 (j : Nat) (s : PSt) : Prop := s.sized = true ∧ s.I = 1 ∧ s.Q = 1 ∧ s.M = 0 ∧ ∃ cs : List SC, s.rungs = [⟨⟨#[]⟩, cs, [], ⟨#[]⟩⟩] ∧ cs.length = j
def P2 (j : Nat) (s : PSt) : Prop := s.sized = true ∧ s.I = 1 ∧ s.Q = 1 ∧ s.M = 0 ∧ ∃ qs : List SQ, s.rungs = [⟨⟨#[]⟩, [], qs, ⟨#[]⟩⟩] ∧ qs.length = j
theorem line_rung (s : PSt) (n : Int) (hs : s.sized = true) : lineP s ⟨n, segWords rungL⟩ = if s.rungs.length = 64 then (10, s) else (0, addP s n ⟨#[]⟩) := by
  show guardP 1 2 true false s ⟨n, segWords rungL⟩ (beginP s ⟨n, segWords rungL⟩) = _
  have e : (segWords rungL).length = 1 := rfl
  simp [guardP, beginP, hs, e]
theorem step0 (s : PSt) (n : Int) (j : Nat) (h : P0 j s) (hj : j < 64) : (lineP s ⟨n, segWords rungL⟩).1 = 0 ∧ P0 (j + 1) (lineP s ⟨n, segWords rungL⟩).2 := by
  obtain ⟨h1, h2, h3⟩ := h
  rw [line_rung s n h1, if_neg (by omega)]
  refine ⟨rfl, h1, ?_, fun r hr => ?_⟩
  · show (s.rungs ++ [_]).length = _
    rw [List.length_append, h2]
    rfl
  · rcases List.mem_append.1 hr with hr | hr
    · exact h3 r hr
    · rw [List.mem_singleton.1 hr]; rfl
theorem full0 (s : PSt) (n : Int) (h : P0 64 s) : (lineP s ⟨n, segWords rungL⟩).1 = 10 := by rw [line_rung s n h.1, if_pos h.2.1]
theorem line_con0 (s : PSt) (n : Int) : lineP s ⟨n, segWords conL⟩ = guardP 4 4 true true s ⟨n, segWords conL⟩ (contactP s ⟨n, segWords conL⟩ 0) := rfl
theorem line_out0 (s : PSt) (n : Int) : lineP s ⟨n, segWords outL⟩ = guardP 2 2 true true s ⟨n, segWords outL⟩ (coilP s ⟨n, segWords outL⟩ 0) := rfl
theorem line_con (s : PSt) (n : Int) (cs : List SC) (h1 : s.sized = true) (hI : s.I = 1) (hQ : s.Q = 1) (hM : s.M = 0) (hr : s.rungs = [⟨⟨#[]⟩, cs, [], ⟨#[]⟩⟩]) :
    lineP s ⟨n, segWords conL⟩ = if cs.length = 256 then (10, s) else (0, { s with rungs := [⟨⟨#[]⟩, cs ++ [⟨0, ⟨0, 0⟩, ⟨#[76]⟩, ⟨#[82]⟩⟩], [], ⟨#[]⟩⟩] }) := by
  obtain ⟨I, Q, M, rs, sz, ln, jm⟩ := s
  subst h1 hI hQ hM hr
  rw [line_con0]
  have e : (segWords conL).length = 4 := rfl
  by_cases hc : cs.length = 256
  · rw [if_pos hc]
    simp [guardP, e, contactP, lastR, hc]
    rfl
  · rw [if_neg hc]
    simp only [guardP, e, contactP]
    simp [lastR, hc]
    rfl
theorem line_out (s : PSt) (n : Int) (qs : List SQ) (h1 : s.sized = true) (hI : s.I = 1) (hQ : s.Q = 1) (hM : s.M = 0) (hr : s.rungs = [⟨⟨#[]⟩, [], qs, ⟨#[]⟩⟩]) :
    lineP s ⟨n, segWords outL⟩ = if qs.length = 16 then (10, s) else (0, { s with rungs := [⟨⟨#[]⟩, [], qs ++ [⟨0, ⟨1, 0⟩⟩], ⟨#[]⟩⟩] }) := by
  obtain ⟨I, Q, M, rs, sz, ln, jm⟩ := s
  subst h1 hI hQ hM hr
  rw [line_out0]
  have e : (segWords outL).length = 2 := rfl
  by_cases hc : qs.length = 16
  · rw [if_pos hc]
    simp [guardP, e, coilP, lastR, hc]
    rfl
  · rw [if_neg hc]
    simp only [guardP, e, coilP]
    simp [lastR, hc]
    rfl
theorem step1 (s : PSt) (n : Int) (j : Nat) (h : P1 j s) (hj : j < 256) : (lineP s ⟨n, segWords conL⟩).1 = 0 ∧ P1 (j + 1) (lineP s ⟨n, segWords conL⟩).2 := by
  obtain ⟨h1, hI, hQ, hM, cs, hr, hl⟩ := h
  rw [line_con s n cs h1 hI hQ hM hr, if_neg (by omega)]
  exact ⟨rfl, h1, hI, hQ, hM, _, rfl, by rw [List.length_append, hl]; rfl⟩
theorem full1 (s : PSt) (n : Int) (h : P1 256 s) : (lineP s ⟨n, segWords conL⟩).1 = 10 := by
  obtain ⟨h1, hI, hQ, hM, cs, hr, hl⟩ := h
  rw [line_con s n cs h1 hI hQ hM hr, if_pos hl]
theorem step2 (s : PSt) (n : Int) (j : Nat) (h : P2 j s) (hj : j < 16) : (lineP s ⟨n, segWords outL⟩).1 = 0 ∧ P2 (j + 1) (lineP s ⟨n, segWords outL⟩).2 := by
  obtain ⟨h1, hI, hQ, hM, cs, hr, hl⟩ := h
  rw [line_out s n cs h1 hI hQ hM hr, if_neg (by omega)]
  exact ⟨rfl, h1, hI, hQ, hM, _, rfl, by rw [List.length_append, hl]; rfl⟩
theorem full2 (s : PSt) (n : Int) (h : P2 16 s) : (lineP s ⟨n, segWords outL⟩).1 = 10 := by
  obtain ⟨h1, hI, hQ, hM, cs, hr, hl⟩ := h
  rw [line_out s n cs h1 hI hQ hM hr, if_pos hl]
theorem rep_len (x : List UInt8) (k : Nat) : (Lib.repeatL x k).length = k * x.length := Lib.repeatL_length x k
/-- The lines of a head and of a line put k times behind it. -/
theorem lines_0 (x : List UInt8) (hx : ∀ b ∈ x, b ≠ 10) (hp : segPlain x = true) (hw : segWords x ≠ []) (k : Nat) (hk : k * (x.length + 1) ≤ 60000) :
    parseT (sizeL ++ 10 :: Lib.repeatL (x ++ [10]) k) = parseL (⟨1, segWords sizeL⟩ :: repLines (segWords x) 1 k) := by
  have hc : cutAt 10 (sizeL ++ 10 :: Lib.repeatL (x ++ [10]) k) = sizeL :: (List.replicate k x ++ [[]]) := by rw [cutAt_at 10 sizeL _ (by decide), cut_rep x hx k]
  rw [parseT_ok (by rw [List.length_append, List.length_cons, rep_len, List.length_append, List.length_singleton]; have : sizeL.length = 10 := rfl; omega) (by
    rw [hc]
    intro l hl
    rcases List.mem_cons.1 hl with rfl | hl
    · decide
    · rcases List.mem_append.1 hl with hl | hl
      · rw [(List.mem_replicate.1 hl).2]; exact hp
      · rw [List.mem_singleton.1 hl]; rfl)]
  unfold linesN
  rw [hc, collect, if_neg (by decide), List.map_cons, collect_rep x hw k 1]
  rfl
theorem lines_2 (x : List UInt8) (hx : ∀ b ∈ x, b ≠ 10) (hp : segPlain x = true) (hw : segWords x ≠ []) (k : Nat) (hk : k * (x.length + 1) ≤ 60000) :
    parseT (sizeL ++ 10 :: (rungL ++ 10 :: Lib.repeatL (x ++ [10]) k)) = parseL (⟨1, segWords sizeL⟩ :: ⟨2, segWords rungL⟩ :: repLines (segWords x) 2 k) := by
  have hc : cutAt 10 (sizeL ++ 10 :: (rungL ++ 10 :: Lib.repeatL (x ++ [10]) k)) = sizeL :: rungL :: (List.replicate k x ++ [[]]) := by rw [cutAt_at 10 sizeL _ (by decide), cutAt_at 10 rungL _ (by decide), cut_rep x hx k]
  rw [parseT_ok (by rw [List.length_append, List.length_cons, List.length_append, List.length_cons, rep_len, List.length_append, List.length_singleton]; have : sizeL.length = 10 := rfl; have : rungL.length = 4 := rfl; omega) (by
    rw [hc]
    intro l hl
    rcases List.mem_cons.1 hl with rfl | hl
    · decide
    rcases List.mem_cons.1 hl with rfl | hl
    · decide
    · rcases List.mem_append.1 hl with hl | hl
      · rw [(List.mem_replicate.1 hl).2]; exact hp
      · rw [List.mem_singleton.1 hl]; rfl)]
  unfold linesN
  rw [hc, collect, if_neg (by decide), List.map_cons, collect, if_neg (by decide), List.map_cons, collect_rep x hw k 2]
  rfl
theorem run_head0 (r : List LN) : runP P.s0 (⟨1, segWords sizeL⟩ :: r) = runP s1 r := by rw [runP, size_line]; rfl
theorem run_head2 (r : List LN) : runP P.s0 (⟨1, segWords sizeL⟩ :: ⟨2, segWords rungL⟩ :: r) = runP s2 r := by rw [run_head0, runP, rung_line]; rfl
/-- What the law asks of a text that is accepted, of one that is refused. -/
def Yes (n : Nat) (k : Nat) (r : PRes) : Prop := r.2.2.2.2.2.2 = 0 ∧ r.2.2.2.2.2.1 = 0 ∧ ∃ x xs, r.2.2.2.1 = x :: xs ∧ (n = 0 → (x :: xs).length = k) ∧ (n = 1 → x.f1.length = k) ∧ (n = 2 → x.f2.length = k)
theorem end_yes {n k : Nat} {s : PSt} (hs : s.sized = true) (hj : ∀ r ∈ s.rungs, r.f3.size = 0) (hx : ∃ x xs, s.rungs = x :: xs ∧ (n = 0 → (x :: xs).length = k) ∧ (n = 1 → x.f1.length = k) ∧ (n = 2 → x.f2.length = k)) : Yes n k (endP s) := by
  unfold endP
  rw [if_neg (by rw [hs]; decide), badJ_none _ hj]
  exact ⟨rfl, rfl, hx⟩
theorem cap0_yes (k : Nat) (h1 : 1 ≤ k) (h2 : k ≤ 64) : Yes 0 k (parseT (sizeL ++ 10 :: Lib.repeatL (rungL ++ [10]) k)) := by
  rw [lines_0 rungL (by decide) (by decide) (by decide) k (by show k * 5 ≤ 60000; omega)]
  unfold parseL
  rw [run_head0]
  obtain ⟨h3, h4, h5, h6⟩ := run_rep P0 (segWords rungL) 64 step0 k 1 0 s1 ⟨rfl, rfl, by simp [s1]⟩ (by omega)
  rw [if_pos h3]
  refine end_yes h4 h6 ?_
  cases hr : (runP s1 (repLines (segWords rungL) 1 k)).2.2.rungs with
  | nil => rw [hr] at h5; simp at h5; omega
  | cons x xs => rw [hr] at h5; exact ⟨x, xs, rfl, fun _ => by omega, fun h => by omega, fun h => by omega⟩
theorem cap0_no (k : Nat) (h1 : 64 < k) (h2 : k ≤ 100) : parseT (sizeL ++ 10 :: Lib.repeatL (rungL ++ [10]) k) = bad 66 10 := by
  rw [lines_0 rungL (by decide) (by decide) (by decide) k (by show k * 5 ≤ 60000; omega)]
  unfold parseL
  rw [run_head0]
  obtain ⟨h3, h4⟩ := run_over P0 (segWords rungL) 64 step0 full0 k 1 0 s1 ⟨rfl, rfl, by simp [s1]⟩ (by omega) (by omega)
  rw [if_neg (by rw [h4]; decide), h3, h4]
  rfl
theorem cap1_yes (k : Nat) (h1 : 1 ≤ k) (h2 : k ≤ 256) : Yes 1 k (parseT (sizeL ++ 10 :: (rungL ++ 10 :: Lib.repeatL (conL ++ [10]) k))) := by
  rw [lines_2 conL (by decide) (by decide) (by decide) k (by show k * 10 ≤ 60000; omega)]
  unfold parseL
  rw [run_head2]
  obtain ⟨h3, h4, _, _, _, cs, h5, h6⟩ := run_rep P1 (segWords conL) 256 step1 k 2 0 s2 ⟨rfl, rfl, rfl, rfl, [], rfl, rfl⟩ (by omega)
  rw [if_pos h3]
  exact end_yes h4 (by rw [h5]; intro r hr; rw [List.mem_singleton.1 hr]; rfl) ⟨_, _, h5, fun h => by omega, fun _ => by show cs.length = k; omega, fun h => by omega⟩
theorem cap1_no (k : Nat) (h1 : 256 < k) (h2 : k ≤ 300) : parseT (sizeL ++ 10 :: (rungL ++ 10 :: Lib.repeatL (conL ++ [10]) k)) = bad 259 10 := by
  rw [lines_2 conL (by decide) (by decide) (by decide) k (by show k * 10 ≤ 60000; omega)]
  unfold parseL
  rw [run_head2]
  obtain ⟨h3, h4⟩ := run_over P1 (segWords conL) 256 step1 full1 k 2 0 s2 ⟨rfl, rfl, rfl, rfl, [], rfl, rfl⟩ (by omega) (by omega)
  rw [if_neg (by rw [h4]; decide), h3, h4]
  rfl
theorem cap2_yes (k : Nat) (h1 : 1 ≤ k) (h2 : k ≤ 16) : Yes 2 k (parseT (sizeL ++ 10 :: (rungL ++ 10 :: Lib.repeatL (outL ++ [10]) k))) := by
  rw [lines_2 outL (by decide) (by decide) (by decide) k (by show k * 7 ≤ 60000; omega)]
  unfold parseL
  rw [run_head2]
  obtain ⟨h3, h4, _, _, _, cs, h5, h6⟩ := run_rep P2 (segWords outL) 16 step2 k 2 0 s2 ⟨rfl, rfl, rfl, rfl, [], rfl, rfl⟩ (by omega)
  rw [if_pos h3]
  exact end_yes h4 (by rw [h5]; intro r hr; rw [List.mem_singleton.1 hr]; rfl) ⟨_, _, h5, fun h => by omega, fun h => by omega, fun _ => by show cs.length = k; omega⟩
theorem cap2_no (k : Nat) (h1 : 16 < k) (h2 : k ≤ 50) : parseT (sizeL ++ 10 :: (rungL ++ 10 :: Lib.repeatL (outL ++ [10]) k)) = bad 19 10 := by
  rw [lines_2 outL (by decide) (by decide) (by decide) k (by show k * 7 ≤ 60000; omega)]
  unfold parseL
  rw [run_head2]
  obtain ⟨h3, h4⟩ := run_over P2 (segWords outL) 16 step2 full2 k 2 0 s2 ⟨rfl, rfl, rfl, rfl, [], rfl, rfl⟩ (by omega) (by omega)
  rw [if_neg (by rw [h4]; decide), h3, h4]
  rfl
end Go.Proofs.YtmcmpjkfdkogiaaDoor.P

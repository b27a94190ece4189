/- The parser, plainly, from a text to a ladder: one line, all lines, the end. -/
import Derived.Test.YtdbjjbooalkkbaaGreatDoorXParC
import Derived.Test.YtdbjjbooalkkbaaGreatDoorXLinesG
set_option linter.unusedVariables false
set_option linter.unusedSimpArgs false
namespace Go.Proofs.YtdbjjbooalkkbaaGreatDoor.P
open Go.RowKit Go.Proofs.YtdbjjbooalkkbaaGreatDoorW.PrintWords

/-- What stands ahead of a line's own work. -/
def guardP (least most : Nat) (sized inn : Bool) (s : PSt) (l : LN) (r : Int × PSt) : Int × PSt :=
  if l.f1.length < least then (6, s) else if most < l.f1.length then (6, s) else
  if sized = true ∧ s.sized = false then (11, s) else if inn = true ∧ s.rungs.length = 0 then (11, s) else r
def lineP (s : PSt) (l : LN) : Int × PSt :=
  if wd l 0 = kwSize then guardP 4 4 false false s l (sizeP s l) else
  if wd l 0 = kwRung then guardP 1 2 true false s l (beginP s l) else
  if wd l 0 = kwJump then guardP 2 2 true true s l (jumpP s l) else
  if 0 ≤ Lib.idxOfS kwC0 (wd l 0) then guardP 4 4 true true s l (contactP s l (Lib.idxOfS kwC0 (wd l 0))) else
  if 0 ≤ Lib.idxOfS kwQ0 (wd l 0) then guardP 2 2 true true s l (coilP s l (Lib.idxOfS kwQ0 (wd l 0))) else (8, s)
def runP (s : PSt) : List LN → Int × Int × PSt
  | [] => (0, 0, s)
  | l :: r => if (lineP s l).1 = 0 then runP (lineP s l).2 r else (l.f0, (lineP s l).1, s)
/-- The first rung whose jump has no later rung with its label. -/
def badJ : List SR → Option Nat
  | [] => none
  | r :: rs => if 0 < r.f3.size ∧ hasLabel rs r.f3 = false then some 0 else (badJ rs).map (· + 1)
abbrev PRes := Int × Int × Int × List SR × List Int × Int × Int
def bad (n e : Int) : PRes := (0, 0, 0, [], [], n, e)
def endP (s : PSt) : PRes :=
  if s.sized = false then (0, 0, 0, [], [], 0, 5) else
  match badJ s.rungs with
  | some i => (0, 0, 0, [], [], s.jumps.getD i 0, 15)
  | none => (s.I, s.Q, s.M, s.rungs, s.lines, 0, 0)
def s0 : PSt := ⟨0, 0, 0, [], false, [], []⟩
def parseL (ls : List LN) : PRes := if (runP s0 ls).2.1 = 0 then endP (runP s0 ls).2.2 else (0, 0, 0, [], [], (runP s0 ls).1, (runP s0 ls).2.1)
def parse_Parse.f (t : ByteArray) : Option PRes :=
  match lex_Lines.f t with
  | none => none
  | some (ls, n, e) => if e = 0 then some (parseL ls) else some (0, 0, 0, [], [], n, e)
theorem POk.s0 : POk s0 := ⟨by unfold OkSize; decide, by decide, rfl, rfl, by simp [P.s0], by simp [P.s0]⟩
theorem setR_len (xs : List SR) (x : SR) : (setR xs x).length = xs.length := List.length_set
theorem setR_mem {xs : List SR} {x y : SR} (h : y ∈ setR xs x) : y ∈ xs ∨ y = x := List.mem_or_eq_of_mem_set h
theorem POk.setR {s : PSt} (h : POk s) {x : SR} {js : List Int} (hj : js.length = s.jumps.length) (hc : x.f1.length ≤ 256) (hq : x.f2.length ≤ 16) : POk { s with rungs := P.setR s.rungs x, jumps := js } :=
  ⟨h.size, by show (P.setR s.rungs x).length ≤ 64; rw [setR_len]; exact h.rungs, by show s.lines.length = (P.setR s.rungs x).length; rw [setR_len]; exact h.lines, by show js.length = (P.setR s.rungs x).length; rw [setR_len, hj]; exact h.jumps,
    fun r hr => by rcases setR_mem hr with hr | rfl; exact h.con r hr; exact hc, fun r hr => by rcases setR_mem hr with hr | rfl; exact h.coil r hr; exact hq⟩
theorem number_ok {l : List UInt8} (h : (number l 256).2 = 0) : 0 ≤ (number l 256).1 ∧ (number l 256).1 ≤ 256 := by
  unfold number at *
  rw [if_neg (by decide)] at *
  split at h
  · rename_i h1
    rw [if_pos h1]
    split at h
    · rename_i h2
      rw [if_pos h2]
      exact ⟨by omega, h2⟩
    · cases h
  · cases h
theorem POk.sizeP {s : PSt} (h : POk s) {l : LN} (hz : (P.sizeP s l).1 = 0) : POk (P.sizeP s l).2 := by
  unfold P.sizeP at *
  split at hz
  · cases hz
  split at hz
  · contradiction
  split at hz
  · contradiction
  split at hz
  · contradiction
  rename_i h0 h1 h2 h3
  rw [if_neg h0, if_neg h1, if_neg h2, if_neg h3]
  exact ⟨⟨number_ok (by simpa using h1), number_ok (by simpa using h2), number_ok (by simpa using h3)⟩, h.rungs, h.lines, h.jumps, h.con, h.coil⟩
theorem POk.addP {s : PSt} (h : POk s) (n : Int) (lab : ByteArray) (hl : s.rungs.length ≠ 64) : POk (P.addP s n lab) := by
  have := h.rungs
  refine ⟨h.size, by simp [P.addP]; omega, by simp [P.addP, h.lines], by simp [P.addP, h.jumps], fun r hr => ?_, fun r hr => ?_⟩
  · rcases List.mem_append.1 hr with hr | hr
    · exact h.con r hr
    · rw [List.mem_singleton.1 hr]; exact Nat.zero_le _
  · rcases List.mem_append.1 hr with hr | hr
    · exact h.coil r hr
    · rw [List.mem_singleton.1 hr]; exact Nat.zero_le _
theorem POk.beginP {s : PSt} (h : POk s) {l : LN} (hz : (P.beginP s l).1 = 0) : POk (P.beginP s l).2 := by
  unfold P.beginP at *
  split at hz
  · rename_i h0
    rw [if_pos h0]
    split at hz
    · cases hz
    split at hz
    · cases hz
    split at hz
    · cases hz
    rename_i h1 h2 h3
    rw [if_neg h1, if_neg h2, if_neg h3]
    exact h.addP _ _ h3
  · rename_i h0
    rw [if_neg h0]
    split at hz
    · cases hz
    rename_i h3
    rw [if_neg h3]
    exact h.addP _ _ h3
theorem POk.jumpP {s : PSt} (h : POk s) (hp : 0 < s.rungs.length) {l : LN} (hz : (P.jumpP s l).1 = 0) : POk (P.jumpP s l).2 := by
  unfold P.jumpP at *
  split at hz
  · cases hz
  split at hz
  · cases hz
  rename_i h1 h2
  rw [if_neg h1, if_neg h2]
  exact h.setR List.length_set (h.con (lastR s.rungs) (lastR_mem hp)) (h.coil (lastR s.rungs) (lastR_mem hp))
theorem POk.contactP {s : PSt} (h : POk s) (hp : 0 < s.rungs.length) {l : LN} {k : Int} (hz : (P.contactP s l k).1 = 0) : POk (P.contactP s l k).2 := by
  have hc := h.con _ (lastR_mem hp)
  unfold P.contactP at *
  split at hz
  · cases hz
  split at hz
  · cases hz
  split at hz
  · cases hz
  split at hz
  · contradiction
  split at hz
  · cases hz
  split at hz
  · cases hz
  rename_i h1 h2 h3 h4 h5 h6
  rw [if_neg h1, if_neg h2, if_neg h3, if_neg h4, if_neg h5, if_neg h6]
  refine h.setR (js := s.jumps) rfl ?_ (h.coil (lastR s.rungs) (lastR_mem hp))
  show ((lastR s.rungs).f1 ++ _).length ≤ 256
  rw [List.length_append, List.length_singleton]
  omega
theorem POk.coilP {s : PSt} (h : POk s) (hp : 0 < s.rungs.length) {l : LN} {k : Int} (hz : (P.coilP s l k).1 = 0) : POk (P.coilP s l k).2 := by
  have hc := h.coil _ (lastR_mem hp)
  unfold P.coilP at *
  split at hz
  · cases hz
  split at hz
  · cases hz
  split at hz
  · contradiction
  split at hz
  · cases hz
  rename_i h1 h2 h3 h4
  rw [if_neg h1, if_neg h2, if_neg h3, if_neg h4]
  refine h.setR (js := s.jumps) rfl (h.con (lastR s.rungs) (lastR_mem hp)) ?_
  show ((lastR s.rungs).f2 ++ _).length ≤ 16
  rw [List.length_append, List.length_singleton]
  omega
theorem guardP_ok {least most : Nat} {sized inn : Bool} {s : PSt} {l : LN} {r : Int × PSt} (h : (guardP least most sized inn s l r).1 = 0) : least ≤ l.f1.length ∧ l.f1.length ≤ most ∧ (sized = true → s.sized = true) ∧ (inn = true → 0 < s.rungs.length) ∧ guardP least most sized inn s l r = r := by
  unfold guardP at *
  split at h
  · cases h
  split at h
  · cases h
  split at h
  · cases h
  split at h
  · cases h
  rename_i h1 h2 h3 h4
  rw [if_neg h1, if_neg h2, if_neg h3, if_neg h4]
  exact ⟨by omega, by omega, fun e => by simpa [e] using h3, fun e => by rw [e] at h4; simp at h4; exact List.length_pos_iff.2 h4, rfl⟩
theorem POk.lineP {s : PSt} (h : POk s) {l : LN} (hz : (P.lineP s l).1 = 0) : POk (P.lineP s l).2 := by
  unfold P.lineP at *
  split at hz
  · rename_i h0
    rw [if_pos h0]
    obtain ⟨_, _, _, _, e⟩ := guardP_ok hz
    rw [e] at hz ⊢
    exact h.sizeP hz
  rename_i h0
  rw [if_neg h0]
  split at hz
  · rename_i h1
    rw [if_pos h1]
    obtain ⟨_, _, _, _, e⟩ := guardP_ok hz
    rw [e] at hz ⊢
    exact h.beginP hz
  rename_i h1
  rw [if_neg h1]
  split at hz
  · rename_i h2
    rw [if_pos h2]
    obtain ⟨_, _, _, hp, e⟩ := guardP_ok hz
    rw [e] at hz ⊢
    exact h.jumpP (hp rfl) hz
  rename_i h2
  rw [if_neg h2]
  split at hz
  · rename_i h3
    rw [if_pos h3]
    obtain ⟨_, _, _, hp, e⟩ := guardP_ok hz
    rw [e] at hz ⊢
    exact h.contactP (hp rfl) hz
  rename_i h3
  rw [if_neg h3]
  split at hz
  · rename_i h4
    rw [if_pos h4]
    obtain ⟨_, _, _, hp, e⟩ := guardP_ok hz
    rw [e] at hz ⊢
    exact h.coilP (hp rfl) hz
  · cases hz
theorem runP_ok : ∀ (ls : List LN) {s : PSt}, POk s → (runP s ls).2.1 = 0 → POk (runP s ls).2.2
  | [], _, h, _ => h
  | l :: r, s, h, hz => by
    unfold runP at *
    split at hz
    · rename_i h0
      rw [if_pos h0]
      exact runP_ok r (h.lineP h0) hz
    · contradiction
end Go.Proofs.YtdbjjbooalkkbaaGreatDoor.P

/- ParseIgnoresComments, plainly: a comment behind each line and lines ahead shift the numbers alone. -/
import Derived.Test.YtmcmpjkfdkogiaaGreatDoorPQ17
import Derived.Test.YtmcmpjkfdkogiaaGreatDoorXSameZ
import Derived.Test.YtmcmpjkfdkogiaaGreatDoorXAlive10
import Derived.Test.YtmcmpjkfdkogiaaGreatDoorXStrings
import Derived.Test.YtmcmpjkfdkogiaaGreatDoorXParT
import Derived.Test.YtmcmpjkfdkogiaaGreatDoorXRep
import Derived.Lib.Repeat
set_option linter.unusedVariables false
set_option linter.unusedSimpArgs false
namespace Go.Proofs.YtmcmpjkfdkogiaaGreatDoor.P
open Go.RowKit Go.Proofs.YtmcmpjkfdkogiaaGreatDoorW.PrintWords

/-! ### the lines -/
def sfx : List UInt8 := [32, 9, 59, 32, 121]
def pre : List UInt8 := [59, 32, 120]
def addS : List (List UInt8) → List (List UInt8)
  | [] => []
  | [l] => [l]
  | l :: m :: r => (l ++ sfx) :: addS (m :: r)
theorem addS_cons (l : List UInt8) {r : List (List UInt8)} (h : r ≠ []) : addS (l :: r) = (l ++ sfx) :: addS r := by
  cases r with
  | nil => exact absurd rfl h
  | cons m r => rfl
theorem cut_addS : ∀ t : List UInt8, cutAt 10 (rep1 10 (sfx ++ [10]) t) = addS (cutAt 10 t)
  | [] => rfl
  | b :: r => by
    have ih := cut_addS r
    have hne := cutAt_ne 10 r
    by_cases h : b = 10
    · subst h
      rw [rep1_cons_eq, List.append_assoc, List.singleton_append, cutAt_at 10 sfx _ (by decide), ih]
      have e : cutAt 10 (10 :: r) = [] :: cutAt 10 r := by rw [cutAt]; rfl
      rw [e, addS_cons _ hne]
      rfl
    · rw [rep1_cons_ne _ r h]
      have e : ∀ x : List UInt8, cutAt 10 (b :: x) = (b :: (cutAt 10 x).headD []) :: (cutAt 10 x).tail := fun x => by
        rw [cutAt, if_neg (by simpa using h)]
      rw [e, e, ih]
      cases hc : cutAt 10 r with
      | nil => exact absurd hc hne
      | cons x xs =>
        cases xs with
        | nil => rfl
        | cons y ys => rfl
theorem cut_rep2 (x : List UInt8) (hx : ∀ b ∈ x, b ≠ 10) (r : List UInt8) : ∀ k, cutAt 10 (Lib.repeatL (x ++ [10]) k ++ r) = List.replicate k x ++ cutAt 10 r
  | 0 => rfl
  | k + 1 => by
    rw [Lib.repeatL, List.append_assoc, List.append_assoc, List.singleton_append, cutAt_at 10 x _ hx, cut_rep2 x hx r k]
    rfl
theorem ahead_sfx : ∀ l : List UInt8, ahead (l ++ sfx) = ahead l ∨ ahead (l ++ sfx) = ahead l ++ [32, 9]
  | [] => .inr rfl
  | b :: l => by
    by_cases h : b = 59
    · subst h
      exact .inl rfl
    · have e : ∀ x : List UInt8, ahead (b :: x) = b :: ahead x := fun x => by
        unfold ahead
        rw [List.takeWhile_cons, if_pos (by simpa using h)]
      rw [List.cons_append, e, e]
      rcases ahead_sfx l with h1 | h1
      · exact .inl (by rw [h1])
      · exact .inr (by rw [h1]; rfl)
theorem fieldsGo_sp : ∀ (l cur : List UInt8), Lib.fieldsGo cur (l ++ [32, 9]) = Lib.fieldsGo cur l
  | [], cur => by
    cases cur with
    | nil => rfl
    | cons a c => rfl
  | b :: l, cur => by
    rw [List.cons_append, Lib.fieldsGo, Lib.fieldsGo]
    rw [fieldsGo_sp l [], fieldsGo_sp l (cur ++ [b])]
theorem words_sfx (l : List UInt8) : segWords (l ++ sfx) = segWords l := by
  unfold segWords
  rcases ahead_sfx l with h | h
  · rw [h]
  · rw [h]
    unfold Lib.fields
    rw [fieldsGo_sp]
theorem plain_sfx (l : List UInt8) : segPlain (l ++ sfx) = segPlain l := by
  unfold segPlain
  rcases ahead_sfx l with h | h
  · rw [h]
  · rw [h, List.all_append]
    have : ([32, 9] : List UInt8).all isPlain = true := by decide
    rw [this, Bool.and_true]
theorem collect_addS : ∀ (l : List (List UInt8)) (i : Nat), collect i (addS l) = collect i l
  | [], _ => rfl
  | [l], _ => rfl
  | l :: m :: r, i => by
    rw [addS, collect, words_sfx, collect_addS (m :: r) (i + 1)]
    conv => rhs; rw [collect]
theorem bad_addS : ∀ (l : List (List UInt8)) (i : Nat), firstBad i (addS l) = firstBad i l
  | [], _ => rfl
  | [l], _ => rfl
  | l :: m :: r, i => by
    rw [addS, firstBad, plain_sfx, bad_addS (m :: r) (i + 1)]
    conv => rhs; rw [firstBad]
theorem collect_pre (r : List (List UInt8)) : ∀ k i, collect i (List.replicate k pre ++ r) = collect (i + k) r
  | 0, i => rfl
  | k + 1, i => by
    rw [List.replicate_succ, List.cons_append, collect, if_pos (by rfl), collect_pre r k (i + 1), show i + 1 + k = i + (k + 1) by omega]
theorem bad_pre (r : List (List UInt8)) : ∀ k i, firstBad i (List.replicate k pre ++ r) = firstBad (i + k) r
  | 0, i => rfl
  | k + 1, i => by
    rw [List.replicate_succ, List.cons_append, firstBad, if_pos (by rfl), bad_pre r k (i + 1), show i + 1 + k = i + (k + 1) by omega]
theorem bad_shift (d : Nat) : ∀ (a : List (List UInt8)) (i : Nat), firstBad (i + d) a = (firstBad i a).map (· + d)
  | [], _ => rfl
  | l :: r, i => by
    rw [firstBad, firstBad]
    split
    · rw [show i + d + 1 = i + 1 + d by omega]
      exact bad_shift d r (i + 1)
    · rfl

/-! ### the run -/
def sh1 (k : Int) (n : Int) : Int := if n = 0 then 0 else n + k
def shL (k : Int) (l : LN) : LN := ⟨l.f0 + k, l.f1⟩
def shS (k : Int) (s : PSt) : PSt := { s with lines := s.lines.map (· + k), jumps := s.jumps.map (sh1 k) }
def shR (k : Int) (r : PRes) : PRes := (r.1, r.2.1, r.2.2.1, r.2.2.2.1, r.2.2.2.2.1.map (· + k), sh1 k r.2.2.2.2.2.1, r.2.2.2.2.2.2)
theorem sizeP_sh (k : Int) (s : PSt) (l : LN) : sizeP (shS k s) (shL k l) = ((sizeP s l).1, shS k (sizeP s l).2) := by
  unfold sizeP
  have e : ∀ i, wd (shL k l) i = wd l i := fun _ => rfl
  simp only [e]
  show (if s.sized = true then _ else _) = _
  repeat' split
  all_goals rfl
theorem beginP_sh (k : Int) (s : PSt) (l : LN) : beginP (shS k s) (shL k l) = ((beginP s l).1, shS k (beginP s l).2) := by
  unfold beginP
  have e : ∀ i, wd (shL k l) i = wd l i := fun _ => rfl
  have a : ∀ n lab, addP (shS k s) (n + k) lab = shS k (addP s n lab) := fun n lab => by
    unfold addP shS
    simp [sh1]
  simp only [e]
  show (if 1 < l.f1.length then (if isName (wd l 1).data.toList = false then (6, shS k s) else if hasLabel s.rungs (wd l 1) = true then (9, shS k s) else if s.rungs.length = 64 then (10, shS k s) else (0, addP (shS k s) (l.f0 + k) (wd l 1)))
    else if s.rungs.length = 64 then (10, shS k s) else (0, addP (shS k s) (l.f0 + k) ⟨#[]⟩)) = _
  rw [a, a]
  repeat' split
  all_goals rfl
theorem contactP_sh (k : Int) (s : PSt) (l : LN) (j : Int) : contactP (shS k s) (shL k l) j = ((contactP s l j).1, shS k (contactP s l j).2) := by
  unfold contactP
  have e : ∀ i, wd (shL k l) i = wd l i := fun _ => rfl
  have a : ∀ w, addressP (shS k s) w = addressP s w := fun _ => rfl
  have c : conAdd (shS k s) (shL k l) j = shS k (conAdd s l j) := rfl
  have r : (shS k s).rungs = s.rungs := rfl
  simp only [e, a, c, r]
  repeat' split
  all_goals rfl
theorem coilP_sh (k : Int) (s : PSt) (l : LN) (j : Int) : coilP (shS k s) (shL k l) j = ((coilP s l j).1, shS k (coilP s l j).2) := by
  unfold coilP
  have e : ∀ i, wd (shL k l) i = wd l i := fun _ => rfl
  have a : ∀ w, addressP (shS k s) w = addressP s w := fun _ => rfl
  have c : coilAdd (shS k s) (shL k l) j = shS k (coilAdd s l j) := rfl
  have r : (shS k s).rungs = s.rungs := rfl
  simp only [e, a, c, r]
  repeat' split
  all_goals rfl
theorem jumpP_sh (k : Int) (s : PSt) (l : LN) (h0 : l.f0 ≠ 0) : jumpP (shS k s) (shL k l) = ((jumpP s l).1, shS k (jumpP s l).2) := by
  unfold jumpP
  have e : ∀ i, wd (shL k l) i = wd l i := fun _ => rfl
  have r : (shS k s).rungs = s.rungs := rfl
  have a : jumpAdd (shS k s) (shL k l) = shS k (jumpAdd s l) := by
    unfold jumpAdd shS
    simp only [e, List.length_map, List.map_set]
    have : sh1 k l.f0 = (shL k l).f0 := by unfold sh1; rw [if_neg h0]; rfl
    rw [this]
  simp only [e, r, a]
  repeat' split
  all_goals rfl
theorem guardP_sh (k : Int) (least most : Nat) (sized inn : Bool) (s : PSt) (l : LN) (q : Int × PSt) :
    guardP least most sized inn (shS k s) (shL k l) (q.1, shS k q.2) = ((guardP least most sized inn s l q).1, shS k (guardP least most sized inn s l q).2) := by
  unfold guardP
  show (if l.f1.length < least then (6, shS k s) else if most < l.f1.length then (6, shS k s) else if sized = true ∧ s.sized = false then (11, shS k s) else if inn = true ∧ s.rungs.length = 0 then (11, shS k s) else (q.1, shS k q.2)) = _
  repeat' split
  all_goals rfl
theorem lineP_sh (k : Int) (s : PSt) (l : LN) (h0 : l.f0 ≠ 0) : lineP (shS k s) (shL k l) = ((lineP s l).1, shS k (lineP s l).2) := by
  unfold lineP
  have e : ∀ i, wd (shL k l) i = wd l i := fun _ => rfl
  simp only [e, sizeP_sh, beginP_sh, contactP_sh, coilP_sh, jumpP_sh k s l h0, guardP_sh]
  repeat' split
  all_goals rfl
theorem runP_sh (k : Int) : ∀ (ls : List LN) (s : PSt), (∀ l ∈ ls, l.f0 ≠ 0) → runP (shS k s) (ls.map (shL k)) = (sh1 k (runP s ls).1, (runP s ls).2.1, shS k (runP s ls).2.2)
  | [], _, _ => rfl
  | l :: r, s, h => by
    have h0 := h l List.mem_cons_self
    rw [List.map_cons, runP, runP, lineP_sh k s l h0]
    simp only
    split
    · exact runP_sh k r _ (fun x hx => h x (List.mem_cons_of_mem _ hx))
    · have : sh1 k l.f0 = l.f0 + k := by unfold sh1; rw [if_neg h0]
      simp only [this]
      rfl
theorem endP_sh (k : Int) (s : PSt) : endP (shS k s) = shR k (endP s) := by
  unfold endP
  show (if s.sized = false then _ else match badJ s.rungs with | some i => _ | none => _) = _
  split
  · rfl
  · cases badJ s.rungs with
    | none => rfl
    | some i =>
      show ((0, 0, 0, [], [], (s.jumps.map (sh1 k)).getD i 0, 15) : PRes) = (0, 0, 0, [], [], sh1 k (s.jumps.getD i 0), 15)
      have : (s.jumps.map (sh1 k)).getD i 0 = sh1 k (s.jumps.getD i 0) := by
        rw [List.getD_eq_getElem?_getD, List.getD_eq_getElem?_getD, List.getElem?_map]
        cases s.jumps[i]? <;> rfl
      rw [this]
theorem parseL_sh (k : Int) (ls : List LN) (h : ∀ l ∈ ls, l.f0 ≠ 0) : parseL (ls.map (shL k)) = shR k (parseL ls) := by
  unfold parseL
  have e := runP_sh k ls P.s0 h
  have e0 : shS k P.s0 = P.s0 := rfl
  rw [e0] at e
  rw [e]
  simp only
  split
  · exact endP_sh k _
  · rfl
theorem col_num {segs : List (List UInt8)} : ∀ {i : Nat} {p : Int × List ByteArray}, p ∈ collect i segs → (i : Int) + 1 ≤ p.1 ∧ p.1 ≤ (i : Int) + segs.length := by
  induction segs with
  | nil => intro i p hp; cases hp
  | cons l r ih =>
    intro i p hp
    rw [collect] at hp
    rw [List.length_cons]
    split at hp
    · have := ih hp
      omega
    · rcases List.mem_cons.mp hp with rfl | hp
      · constructor <;> simp only <;> omega
      · have := ih hp
        omega
theorem lines_pos (t : List UInt8) : ∀ l ∈ linesN t, l.f0 ≠ 0 := by
  intro l hl
  unfold linesN at hl
  obtain ⟨p, hp, rfl⟩ := List.mem_map.1 hl
  have := col_num hp
  show p.1 ≠ 0
  omega
theorem rep1_len (c : UInt8) (new : List UInt8) : ∀ s : List UInt8, (rep1 c new s).length ≤ (new.length + 1) * s.length
  | [] => Nat.le_refl _
  | b :: l => by
    have ih := rep1_len c new l
    by_cases h : b = c
    · subst h
      rw [rep1_cons_eq, List.length_append, List.length_cons, Nat.mul_succ]
      omega
    · rw [rep1_cons_ne new l h, List.length_cons, List.length_cons, Nat.mul_succ]
      omega
theorem lines_sh (k : Nat) (t : List UInt8) : linesN (Lib.repeatL (pre ++ [10]) k ++ rep1 10 (sfx ++ [10]) t) = (linesN t).map (shL (k : Int)) := by
  unfold linesN
  rw [cut_rep2 pre (by decide), cut_addS, collect_pre, collect_addS, Nat.zero_add]
  have := collect_shift (cutAt 10 t) k 0
  rw [Nat.zero_add] at this
  rw [this, List.map_map, List.map_map]
  rfl
theorem parse_sh (k : Nat) (t : List UInt8) (hk : k < 20) (ht : t.length ≤ 3000) : parseT (Lib.repeatL (pre ++ [10]) k ++ rep1 10 (sfx ++ [10]) t) = shR (k : Int) (parseT t) := by
  have hl : (Lib.repeatL (pre ++ [10]) k ++ rep1 10 (sfx ++ [10]) t).length ≤ 65536 := by
    have h1 := rep1_len 10 (sfx ++ [10]) t
    have h2 : (sfx ++ [10]).length = 6 := rfl
    have h3 : (pre ++ [10]).length = 4 := rfl
    rw [List.length_append, Lib.repeatL_length, h3]
    rw [h2] at h1
    omega
  have hb : firstBad 0 (cutAt 10 (Lib.repeatL (pre ++ [10]) k ++ rep1 10 (sfx ++ [10]) t)) = (firstBad 0 (cutAt 10 t)).map (· + k) := by
    rw [cut_rep2 pre (by decide), cut_addS, bad_pre, bad_addS, bad_shift]
  unfold parseT
  rw [if_neg (by omega), if_neg (by omega), hb, lines_sh]
  cases firstBad 0 (cutAt 10 t) with
  | none => exact parseL_sh (k : Int) _ (lines_pos t)
  | some i =>
    show bad (((i + k : Nat) : Int) + 1) 6 = shR (k : Int) (bad ((i : Int) + 1) 6)
    have : sh1 (k : Int) ((i : Int) + 1) = ((i + k : Nat) : Int) + 1 := by unfold sh1; rw [if_neg (by omega)]; omega
    unfold bad shR
    simp only [this]
    rfl

/-! ### bounds -/
def In (N : Int) (n : Int) : Prop := 0 ≤ n ∧ n ≤ N
def BdS (N : Int) (s : PSt) : Prop := (∀ n ∈ s.lines, In N n) ∧ ∀ n ∈ s.jumps, In N n
theorem guardP_bd {N : Int} {least most : Nat} {sized inn : Bool} {s : PSt} {l : LN} {q : Int × PSt} (h : BdS N s) (hq : BdS N q.2) : BdS N (guardP least most sized inn s l q).2 := by
  unfold guardP
  repeat' split
  all_goals first | exact hq | exact h
theorem addP_bd {N : Int} {s : PSt} (h : BdS N s) (h0 : 0 ≤ N) {n : Int} (hn : In N n) (lab : ByteArray) : BdS N (addP s n lab) := by
  refine ⟨fun x hx => ?_, fun x hx => ?_⟩
  · rcases List.mem_append.1 hx with hx | hx
    · exact h.1 x hx
    · rw [List.mem_singleton.1 hx]; exact hn
  · rcases List.mem_append.1 hx with hx | hx
    · exact h.2 x hx
    · rw [List.mem_singleton.1 hx]; exact ⟨Int.le_refl _, h0⟩
theorem lineP_bd {N : Int} {s : PSt} {l : LN} (h : BdS N s) (h0 : 0 ≤ N) (hl : In N l.f0) : BdS N (lineP s l).2 := by
  unfold lineP
  repeat' split
  · refine guardP_bd h ?_
    unfold sizeP
    repeat' split
    all_goals exact h
  · refine guardP_bd h ?_
    unfold beginP
    repeat' split
    all_goals first | exact addP_bd h h0 hl _ | exact h
  · refine guardP_bd h ?_
    unfold jumpP
    repeat' split
    · exact h
    · exact h
    · refine ⟨h.1, fun x hx => ?_⟩
      rcases List.mem_or_eq_of_mem_set hx with hx | rfl
      · exact h.2 x hx
      · exact hl
  · refine guardP_bd h ?_
    unfold contactP
    repeat' split
    all_goals exact h
  · refine guardP_bd h ?_
    unfold coilP
    repeat' split
    all_goals exact h
  · exact h
theorem runP_bd {N : Int} (h0 : 0 ≤ N) : ∀ (ls : List LN) {s : PSt}, BdS N s → (∀ l ∈ ls, In N l.f0) → In N (runP s ls).1 ∧ BdS N (runP s ls).2.2
  | [], s, h, _ => ⟨⟨Int.le_refl _, h0⟩, h⟩
  | l :: r, s, h, hl => by
    rw [runP]
    split
    · exact runP_bd h0 r (lineP_bd h h0 (hl l List.mem_cons_self)) (fun x hx => hl x (List.mem_cons_of_mem _ hx))
    · exact ⟨hl l List.mem_cons_self, h⟩
theorem parse_bd (t : List UInt8) (ht : t.length ≤ 3000) : (∀ n ∈ (parseT t).2.2.2.2.1, In 4000 n) ∧ In 4000 (parseT t).2.2.2.2.2.1 := by
  have hseg : (cutAt 10 t).length ≤ 3001 := by
    have := count_cutAt 10 t
    have := List.count_le_length (a := (10 : UInt8)) (l := t)
    omega
  unfold parseT
  split
  · exact ⟨fun n hn => (by cases hn), by decide, by decide⟩
  · split
    · rename_i i hi
      have : i < (cutAt 10 t).length := by
        obtain ⟨a, l, b, e, e2, _, _⟩ := firstBad_some hi
        rw [e, List.length_append, List.length_cons]
        omega
      exact ⟨fun n hn => (by cases hn), by show (0 : Int) ≤ (i : Int) + 1; omega, by show (i : Int) + 1 ≤ 4000; omega⟩
    · have hl : ∀ l ∈ linesN t, In 4000 l.f0 := by
        intro l hl
        unfold linesN at hl
        obtain ⟨p, hp, rfl⟩ := List.mem_map.1 hl
        have := col_num hp
        show 0 ≤ p.1 ∧ p.1 ≤ 4000
        omega
      obtain ⟨h1, h2⟩ := runP_bd (N := 4000) (by decide) (linesN t) (s := P.s0) ⟨fun n hn => (by cases hn), fun n hn => (by cases hn)⟩ hl
      unfold parseL
      split
      · unfold endP
        split
        · exact ⟨fun n hn => (by cases hn), by decide, by decide⟩
        · split
          · rename_i i _
            refine ⟨fun n hn => (by cases hn), ?_⟩
            show In 4000 ((runP P.s0 (linesN t)).2.2.jumps.getD i 0)
            rw [List.getD_eq_getElem?_getD]
            cases hj : (runP P.s0 (linesN t)).2.2.jumps[i]? with
            | none => exact ⟨by decide, by decide⟩
            | some x => exact h2.2 x (List.mem_of_getElem? hj)
          · exact ⟨h2.1, Int.le_refl _, by show (0 : Int) ≤ 4000; decide⟩
      · exact ⟨fun n hn => (by cases hn), h1⟩
theorem parsed_ok (t : List UInt8) : (parseT t).2.2.2.1.length ≤ 64 ∧ (parseT t).2.2.2.2.1.length ≤ 64 ∧ ∀ r ∈ (parseT t).2.2.2.1, r.f1.length ≤ 256 ∧ r.f2.length ≤ 16 := by
  have hn : ∀ n e, (bad n e).2.2.2.1.length ≤ 64 ∧ (bad n e).2.2.2.2.1.length ≤ 64 ∧ ∀ r ∈ (bad n e).2.2.2.1, r.f1.length ≤ 256 ∧ r.f2.length ≤ 16 := fun n e => ⟨by simp [bad], by simp [bad], fun r hr => (by cases hr)⟩
  unfold parseT
  split
  · exact hn _ _
  · split
    · exact hn _ _
    · unfold parseL
      split
      · rename_i hz
        have hok := runP_ok (linesN t) POk.s0 hz
        unfold endP
        split
        · exact hn _ _
        · split
          · exact hn _ _
          · exact ⟨hok.rungs, by show (runP P.s0 (linesN t)).2.2.lines.length ≤ 64; rw [hok.lines]; exact hok.rungs, fun r hr => ⟨hok.con r hr, hok.coil r hr⟩⟩
      · exact hn _ _

/-! ### the law -/
theorem ign_loop (k : Nat) (hk : k < 20) (xs : List Int) (hx : ∀ n ∈ xs, In 4000 n) (hl : xs.length ≤ 64) (d : Nat) : ∀ i : Nat, i + d = xs.length →
    Evn (fun f => law10_ParseIgnoresComments.l0 f (k : Int) xs (xs.map (· + (k : Int))) (xs.length : Int) (i : Int)) true := by
  induction d with
  | zero =>
    intro i hi
    exact (Evn.const true).step (fun f => by rw [law10_ParseIgnoresComments.l0, if_neg (by omega)]; rfl)
  | succ d ih =>
    intro i hi
    obtain ⟨n, hn⟩ : ∃ n, xs[i]? = some n := ⟨_, List.getElem?_eq_getElem (by omega)⟩
    have hb := hx n (List.mem_of_getElem? hn)
    have e1 : rd xs (i : Int) = n := by unfold rd; rw [List.getD_eq_getElem?_getD, Int.toNat_natCast, hn]; rfl
    have e2 : rd (xs.map (· + (k : Int))) (i : Int) = n + k := by unfold rd; rw [List.getD_eq_getElem?_getD, Int.toNat_natCast, List.getElem?_map, hn]; rfl
    have hw : wrap64 (n + (k : Int)) = n + k := by obtain ⟨_, _⟩ := hb; unfold wrap64; omega
    have hw2 : wrap64 ((i : Int) + 1) = ((i + 1 : Nat) : Int) := by unfold wrap64; omega
    exact (ih (i + 1) (by omega)).step (fun f => by rw [law10_ParseIgnoresComments.l0, if_pos (by omega), if_pos (by omega), if_pos (by rw [List.length_map]; omega), if_pos (by omega), e1, e2, hw, if_pos rfl, hw2])
theorem ign_j0 (k : Nat) (hk : k < 20) (xs : List Int) (n : Int) (hx : ∀ n ∈ xs, In 4000 n) (hl : xs.length ≤ 64) (hn : In 4000 n) :
    Evn (fun f => law10_ParseIgnoresComments.j0 f (k : Int) xs n (xs.map (· + (k : Int))) (sh1 (k : Int) n) false) true := by
  have h1 : Evn (fun f => law10_ParseIgnoresComments.j1 f (k : Int) xs (xs.map (· + (k : Int))) false) true := (ign_loop k hk xs hx hl xs.length 0 (by omega)).step (fun f => by rw [law10_ParseIgnoresComments.j1, if_neg (by decide)]; rfl)
  obtain ⟨a, b⟩ := hn
  by_cases h0 : n = 0
  · subst h0
    exact h1.step (fun f => by rw [law10_ParseIgnoresComments.j0, if_neg (by decide), if_neg (by decide), if_pos rfl]; rfl)
  · have hs : sh1 (k : Int) n = n + k := by unfold sh1; rw [if_neg h0]
    have hw : wrap64 (n + (k : Int)) = n + k := by unfold wrap64; omega
    exact h1.step (fun f => by rw [law10_ParseIgnoresComments.j0, if_neg (by decide), if_pos (by omega), hs, hw, if_pos rfl, if_neg h0])
theorem wf8' {x : Int} (h : (Lit.int .u8 x).wf = true) : 0 ≤ x ∧ x ≤ 255 := by
  simp only [Lit.wf, Bool.and_eq_true, decide_eq_true_eq] at h
  exact h
theorem law10_ParseIgnoresComments.pure : law10_ParseIgnoresComments.Pure := by
  intro a0 a1 h0 h1
  unfold law10_ParseIgnoresComments.f
  by_cases hl : (a0.size : Int) > 3000
  · exact ⟨0, by rw [if_pos hl]; rfl⟩
  have hwf := wf8' h1
  have htm := Int.tmod_eq_emod_of_nonneg (b := 20) hwf.1
  obtain ⟨k, hk, hk20⟩ : ∃ k : Nat, Int.tmod a1 20 = (k : Int) ∧ k < 20 := ⟨(Int.tmod a1 20).toNat, by omega, by omega⟩
  have hw : wrap64 (Int.tmod a1 20) = (k : Int) := by rw [hk]; unfold wrap64; omega
  have hL := size_len a0
  have hrep : strings_Repeat.f (⟨#[59, 32, 120, 10]⟩ : ByteArray) (k : Int) = some ⟨(Lib.repeatL (pre ++ [10]) k).toArray⟩ := by
    unfold strings_Repeat.f
    rw [if_pos ⟨by omega, by omega, by decide⟩, Int.toNat_natCast]
    rfl
  have hrpl : strings_ReplaceAll.f a0 (⟨#[10]⟩ : ByteArray) (⟨#[32, 9, 59, 32, 121, 10]⟩ : ByteArray) = some ⟨(rep1 10 (sfx ++ [10]) a0.data.toList).toArray⟩ := by
    unfold strings_ReplaceAll.f
    have hc : Lib.countB a0 (⟨#[10]⟩ : ByteArray) ≤ 1000000 := by
      have := Lib.count_le a0.data.toList [10]
      have e : Lib.countB a0 (⟨#[10]⟩ : ByteArray) = Lib.count a0.data.toList [10] := rfl
      omega
    rw [if_pos ⟨by omega, by decide, by decide, hc⟩]
    have e := replaceAll_one 10 (sfx ++ [10]) a0.data.toList (by decide)
    show some (⟨(Lib.replaceAll a0.data.toList [10] (sfx ++ [10])).toArray⟩ : ByteArray) = _
    rw [e]
  generalize hA : (⟨(Lib.repeatL (pre ++ [10]) k).toArray⟩ : ByteArray) = A at hrep
  generalize hB : (⟨(rep1 10 (sfx ++ [10]) a0.data.toList).toArray⟩ : ByteArray) = B at hrpl
  have hAl : A.data.toList = Lib.repeatL (pre ++ [10]) k := by rw [← hA]
  have hBl : B.data.toList = rep1 10 (sfx ++ [10]) a0.data.toList := by rw [← hB]
  have hAs : A.size ≤ 100 := by
    rw [size_len, hAl, Lib.repeatL_length]
    show k * 4 ≤ 100
    omega
  have hBs : B.size ≤ 30000 := by
    rw [size_len, hBl]
    have h1 := rep1_len 10 (sfx ++ [10]) a0.data.toList
    have h2 : (sfx ++ [10]).length = 6 := rfl
    rw [h2] at h1
    omega
  have hd : (A ++ B).data.toList = Lib.repeatL (pre ++ [10]) k ++ rep1 10 (sfx ++ [10]) a0.data.toList := by rw [ByteArray.data_append, Array.toList_append, hAl, hBl]
  have hp := parse_sh k a0.data.toList hk20 (by omega)
  obtain ⟨hb1, hb2⟩ := parse_bd a0.data.toList (by omega)
  obtain ⟨ho1, ho2, ho3⟩ := parsed_ok a0.data.toList
  have hsame := same_eq (parseT a0.data.toList).1 (parseT a0.data.toList).2.1 (parseT a0.data.toList).2.2.1 (parseT a0.data.toList).2.2.2.1 (parseT a0.data.toList).1 (parseT a0.data.toList).2.1 (parseT a0.data.toList).2.2.1 (parseT a0.data.toList).2.2.2.1
    (by omega) (fun r hr => by have := ho3 r hr; omega)
  rw [sameP_refl] at hsame
  obtain ⟨f, hf1, hf2⟩ := hsame.at2 (ign_j0 k hk20 _ _ hb1 ho2 hb2)
  refine ⟨f, ?_⟩
  rw [if_neg hl, parse_eq, Option.bind_some, hw, hrep, Option.bind_some, hrpl, Option.bind_some, if_pos (by omega), parse_eq, Option.bind_some, hd, hp]
  unfold shR
  simp only
  rw [if_pos trivial, hf1, Option.bind_some, if_pos rfl]
  have hlen : (((parseT a0.data.toList).2.2.2.2.1.length : Int) != (((parseT a0.data.toList).2.2.2.2.1.map (· + (k : Int))).length : Int)) = false := by rw [List.length_map]; simp
  rw [hlen]
  exact hf2
theorem ParseIgnoresComments_walk (a0 : ByteArray) (a1 : Int) (w : World) (w0 : a0.size ≤ 140737488351232) (w1 : (Lit.int .u8 a1).wf = true) (hL : Aside0 (LaidW 47 w)) :
    Calls Tryz.prog 7 #[.string a0, .int .u8 a1] w fun e w' => e = .returned (.bool true) ∧ Below w.heap.size w w' :=
  law10_ParseIgnoresComments.walk law10_ParseIgnoresComments.pure a0 a1 w w0 w1 hL
end Go.Proofs.YtmcmpjkfdkogiaaGreatDoor.P

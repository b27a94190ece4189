/- ParseJumpTargets, plainly: rungs a0, a1, .., one of them with a jump. -/
import Derived.Test.YtmcmpjkfdkogiaaDoorXPCap
import Derived.Lib.ItoaNum
set_option linter.unusedVariables false
set_option linter.unusedSimpArgs false
namespace Go.Proofs.YtmcmpjkfdkogiaaDoor.P
open Go.RowKit Go.Proofs.YtmcmpjkfdkogiaaDoorW.PrintWords

def dig2 (x : Nat) : List UInt8 := if x < 10 then [UInt8.ofNat (48 + x)] else [UInt8.ofNat (48 + x / 10), UInt8.ofNat (48 + x % 10)]
theorem itoa_dig2 (x : Nat) (h : x < 100) : Lib.itoa (x : Int) = dig2 x := by
  unfold Lib.itoa dig2
  rw [if_neg (by omega), Int.toNat_natCast, Lib.decDigits]
  split
  · rfl
  · rw [Lib.decDigits, dif_pos (by omega)]
    rfl
def labT (x : Nat) : List UInt8 := 97 :: dig2 x
def labB (x : Nat) : ByteArray := mkB (labT x)
def rungT (x : Nat) : List UInt8 := [114, 117, 110, 103, 32] ++ labT x
def jumpT (j : Nat) : List UInt8 := [106, 117, 109, 112, 32] ++ labT j
def szL : List UInt8 := [115, 105, 122, 101, 32, 49, 32, 49, 32, 49]
theorem lab_name : ∀ x, x < 21 → isName (labT x) = true := by decide
theorem lab_inj : ∀ x, x < 21 → ∀ y, y < 21 → (labT x == labT y) = decide (x = y) := by decide
theorem rung_seg : ∀ x, x < 21 → segWords (rungT x) = [kwRung, labB x] ∧ segPlain (rungT x) = true ∧ (rungT x).all (fun b => b != 10) = true := by decide
theorem jump_seg : ∀ x, x < 21 → segWords (jumpT x) = [kwJump, labB x] ∧ segPlain (jumpT x) = true ∧ (jumpT x).all (fun b => b != 10) = true := by decide
theorem con_seg : segWords conL = [⟨#[110, 111]⟩, ⟨#[73, 48]⟩, ⟨#[76]⟩, ⟨#[82]⟩] ∧ segPlain conL = true := ⟨rfl, rfl⟩
theorem free_of {l : List UInt8} (h : l.all (fun b => b != 10) = true) : ∀ b ∈ l, b ≠ 10 := fun b hb => by
  have := List.all_eq_true.1 h b hb
  simpa using this
section
variable (i j : Nat)
def blockSegs (x : Nat) : List (List UInt8) := rungT x :: conL :: (if x = i then [jumpT j] else [])
def blockText (x : Nat) : List UInt8 := rungT x ++ 10 :: (conL ++ 10 :: (if x = i then jumpT j ++ [10] else []))
def tailSegs : Nat → Nat → List (List UInt8)
  | _, 0 => [[]]
  | x, d + 1 => blockSegs i j x ++ tailSegs (x + 1) d
def tailText : Nat → Nat → List UInt8
  | _, 0 => []
  | x, d + 1 => blockText i j x ++ tailText (x + 1) d
theorem tail_cut (hj : j < 21) : ∀ d x, x + d ≤ 20 → cutAt 10 (tailText i j x d) = tailSegs i j x d
  | 0, _, _ => rfl
  | d + 1, x, h => by
    have ih := tail_cut hj d (x + 1) (by omega)
    rw [tailText, tailSegs, blockText, blockSegs, List.append_assoc, List.cons_append, cutAt_at 10 _ _ (free_of (rung_seg x (by omega)).2.2), List.append_assoc, List.cons_append, cutAt_at 10 conL _ (by decide)]
    by_cases hx : x = i
    · rw [if_pos hx, if_pos hx, List.append_assoc, List.singleton_append, cutAt_at 10 _ _ (free_of (jump_seg j hj).2.2), ih]
      rfl
    · rw [if_neg hx, if_neg hx, List.nil_append, ih]
      rfl
/-- The rung with number y. -/
def R (y : Nat) : SR := ⟨labB y, [⟨0, ⟨0, 0⟩, ⟨#[76]⟩, ⟨#[82]⟩⟩], [], if y = i then labB j else ⟨#[]⟩⟩
def jn (y : Nat) : Int := if y = i then (2 * i + 4 : Nat) else 0
/-- The parser before block x, at line (index) n. -/
structure At (x : Nat) (s : PSt) : Prop where
  sized : s.sized = true
  I : s.I = 1
  Q : s.Q = 1
  M : s.M = 1
  rungs : s.rungs = (List.range x).map (R i j)
  jumps : s.jumps = (List.range x).map (jn i)
def idx (x : Nat) : Nat := 1 + 2 * x + (if i < x then 1 else 0)
theorem lab_toList (x : Nat) : (labB x).toList = labT x := by unfold labB mkB; rw [ByteArray.toList_eq]
theorem no_label (x : Nat) (hx : x < 20) : hasLabel ((List.range x).map (R i j)) (labB x) = false := by
  unfold hasLabel
  rw [List.any_eq_false]
  intro r hr
  obtain ⟨y, hy, rfl⟩ := List.mem_map.1 hr
  have hy := List.mem_range.1 hy
  show ¬ ((labB y).toList == (labB x).toList) = true
  rw [lab_toList, lab_toList, lab_inj y (by omega) x (by omega), decide_eq_true_eq]
  omega
theorem last_app (xs : List SR) (r : SR) : lastR (xs ++ [r]) = r := by
  unfold lastR
  simp
theorem set_app (xs : List SR) (r r' : SR) : setR (xs ++ [r]) r' = xs ++ [r'] := by
  unfold setR
  simp
theorem block_run (x : Nat) (hx : x < 20) (hj : j < 21) (s : PSt) (h : At i j x s) (r : List LN) :
    ∃ s', At i j (x + 1) s' ∧ runP s ((collect (idx i x) (blockSegs i j x)).map toS ++ r) = runP s' r := by
  obtain ⟨hs, hI, hQ, hM, hr, hjm⟩ := h
  obtain ⟨w1, _, _⟩ := rung_seg x (by omega)
  obtain ⟨w3, _, _⟩ := jump_seg j hj
  have w2 := con_seg.1
  have nm := lab_name x (by omega)
  have nmj := lab_name j hj
  have nl := no_label i j x hx
  have hlen : s.rungs.length = x := by rw [hr, List.length_map, List.length_range]
  have e1 : lineP s ⟨((idx i x : Nat) : Int) + 1, [kwRung, labB x]⟩ = (0, addP s (((idx i x : Nat) : Int) + 1) (labB x)) := by
    show guardP 1 2 true false s ⟨((idx i x : Nat) : Int) + 1, [kwRung, labB x]⟩ (beginP s ⟨((idx i x : Nat) : Int) + 1, [kwRung, labB x]⟩) = _
    have : isName (labB x).data.toList = true := by show isName (mkB (labT x)).data.toList = true; rw [mkB_data]; exact nm
    simp [guardP, beginP, hs, wd, this, hr, nl]
    omega
  obtain ⟨s1, hs1⟩ : ∃ s1, s1 = addP s (((idx i x : Nat) : Int) + 1) (labB x) := ⟨_, rfl⟩
  have r1 : s1.rungs = s.rungs ++ [⟨labB x, [], [], ⟨#[]⟩⟩] := by rw [hs1]; rfl
  have e2 : lineP s1 ⟨((idx i x + 1 : Nat) : Int) + 1, segWords conL⟩ = (0, { s1 with rungs := s.rungs ++ [⟨labB x, [⟨0, ⟨0, 0⟩, ⟨#[76]⟩, ⟨#[82]⟩⟩], [], ⟨#[]⟩⟩] }) := by
    have a : addressP s1 ⟨#[73, 48]⟩ = (0, 0, 0) := by
      have b1 : s1.I = 1 := by rw [hs1]; exact hI
      have b2 : s1.Q = 1 := by rw [hs1]; exact hQ
      have b3 : s1.M = 1 := by rw [hs1]; exact hM
      unfold addressP
      rw [b1, b2, b3]
      rfl
    rw [line_con0]
    have hsz : s1.sized = true := by rw [hs1]; exact hs
    have hl1 : lastR s1.rungs = ⟨labB x, [], [], ⟨#[]⟩⟩ := by rw [r1, last_app]
    have hn1 : s1.rungs.length ≠ 0 := by rw [r1, List.length_append]; simp
    have q1 : wd ⟨((idx i x + 1 : Nat) : Int) + 1, segWords conL⟩ 1 = ⟨#[73, 48]⟩ := rfl
    have q2 : wd ⟨((idx i x + 1 : Nat) : Int) + 1, segWords conL⟩ 2 = ⟨#[76]⟩ := rfl
    have q3 : wd ⟨((idx i x + 1 : Nat) : Int) + 1, segWords conL⟩ 3 = ⟨#[82]⟩ := rfl
    have g : ∀ q, guardP 4 4 true true s1 ⟨((idx i x + 1 : Nat) : Int) + 1, segWords conL⟩ q = q := fun q => by
      unfold guardP
      rw [if_neg (by show ¬ (segWords conL).length < 4; decide), if_neg (by show ¬ 4 < (segWords conL).length; decide), if_neg (by rw [hsz]; simp), if_neg (fun hh => hn1 hh.2)]
    rw [g]
    unfold contactP
    rw [hl1, q1, q2, q3, a]
    rw [if_neg (by show ¬ 0 < 0; decide), if_neg (by show ¬ 0 < (⟨#[]⟩ : ByteArray).size; decide), if_neg (by show ¬ 0 = 256; decide), if_neg (by decide), if_neg (by decide), if_neg (by decide)]
    unfold conAdd
    rw [hl1, q1, q2, q3, a, r1, set_app]
    rfl
  obtain ⟨s2, hs2⟩ : ∃ s2, s2 = ({ s1 with rungs := s.rungs ++ [⟨labB x, [⟨0, ⟨0, 0⟩, ⟨#[76]⟩, ⟨#[82]⟩⟩], [], ⟨#[]⟩⟩] } : PSt) := ⟨_, rfl⟩
  rw [← hs1] at e1
  rw [← hs2] at e2
  have f2 : s2.sized = true ∧ s2.I = 1 ∧ s2.Q = 1 ∧ s2.M = 1 := by rw [hs2, hs1]; exact ⟨hs, hI, hQ, hM⟩
  have r2 : s2.rungs = s.rungs ++ [⟨labB x, [⟨0, ⟨0, 0⟩, ⟨#[76]⟩, ⟨#[82]⟩⟩], [], ⟨#[]⟩⟩] := by rw [hs2]
  have j2 : s2.jumps = s.jumps ++ [0] := by rw [hs2, hs1]; rfl
  have c1 : segWords (rungT x) ≠ [] := by rw [w1]; simp
  have c2 : segWords conL ≠ [] := by rw [w2]; simp
  have c3 : segWords (jumpT j) ≠ [] := by rw [w3]; simp
  unfold blockSegs
  rw [collect, if_neg c1, collect, if_neg c2]
  by_cases hxi : x = i
  · rw [if_pos hxi, collect, if_neg c3]
    have e3 : lineP s2 ⟨((idx i x + 1 + 1 : Nat) : Int) + 1, [kwJump, labB j]⟩ = (0, { s2 with rungs := s.rungs ++ [⟨labB x, [⟨0, ⟨0, 0⟩, ⟨#[76]⟩, ⟨#[82]⟩⟩], [], labB j⟩], jumps := s.jumps ++ [((idx i x + 1 + 1 : Nat) : Int) + 1] }) := by
      show guardP 2 2 true true s2 ⟨((idx i x + 1 + 1 : Nat) : Int) + 1, [kwJump, labB j]⟩ (jumpP s2 ⟨((idx i x + 1 + 1 : Nat) : Int) + 1, [kwJump, labB j]⟩) = _
      have hn1 : s2.rungs.length ≠ 0 := by rw [r2, List.length_append]; simp
      have g : ∀ q, guardP 2 2 true true s2 ⟨((idx i x + 1 + 1 : Nat) : Int) + 1, [kwJump, labB j]⟩ q = q := fun q => by
        unfold guardP
        rw [if_neg (by simp), if_neg (by simp), if_neg (by rw [f2.1]; simp), if_neg (fun hh => hn1 hh.2)]
      have hl2 : lastR s2.rungs = ⟨labB x, [⟨0, ⟨0, 0⟩, ⟨#[76]⟩, ⟨#[82]⟩⟩], [], ⟨#[]⟩⟩ := by rw [r2, last_app]
      have q1 : wd ⟨((idx i x + 1 + 1 : Nat) : Int) + 1, [kwJump, labB j]⟩ 1 = labB j := rfl
      have nj : isName (labB j).data.toList = true := by show isName (mkB (labT j)).data.toList = true; rw [mkB_data]; exact nmj
      rw [g]
      unfold jumpP
      rw [hl2, q1, nj, if_neg (by show ¬ 0 < (⟨#[]⟩ : ByteArray).size; decide), if_neg (by decide)]
      unfold jumpAdd
      rw [hl2, q1, r2, set_app, j2]
      simp
    refine ⟨{ s2 with rungs := s.rungs ++ [⟨labB x, [⟨0, ⟨0, 0⟩, ⟨#[76]⟩, ⟨#[82]⟩⟩], [], labB j⟩], jumps := s.jumps ++ [((idx i x + 1 + 1 : Nat) : Int) + 1] }, ⟨f2.1, f2.2.1, f2.2.2.1, f2.2.2.2, ?_, ?_⟩, ?_⟩
    · show s.rungs ++ [_] = _
      rw [hr, List.range_succ, List.map_append]
      show _ = _ ++ [R i j x]
      unfold R
      rw [if_pos hxi]
    · show s.jumps ++ [_] = _
      rw [hjm, List.range_succ, List.map_append]
      show _ = _ ++ [jn i x]
      unfold jn idx
      rw [if_pos hxi, hxi, if_neg (by omega)]
      have e : ((1 + 2 * i + 0 + 1 + 1 : Nat) : Int) + 1 = ((2 * i + 4 : Nat) : Int) := by omega
      rw [e]
    · rw [w1, w3]
      show runP s (⟨((idx i x : Nat) : Int) + 1, [kwRung, labB x]⟩ :: ⟨((idx i x + 1 : Nat) : Int) + 1, segWords conL⟩ :: ⟨((idx i x + 1 + 1 : Nat) : Int) + 1, [kwJump, labB j]⟩ :: r) = _
      rw [runP, e1, if_pos rfl, runP, e2, if_pos rfl, runP, e3, if_pos rfl]
  · rw [if_neg hxi, collect]
    refine ⟨s2, ⟨f2.1, f2.2.1, f2.2.2.1, f2.2.2.2, ?_, ?_⟩, ?_⟩
    · rw [r2, hr, List.range_succ, List.map_append]
      show _ = _ ++ [R i j x]
      unfold R
      rw [if_neg hxi]
    · rw [j2, hjm, List.range_succ, List.map_append]
      show _ = _ ++ [jn i x]
      unfold jn
      rw [if_neg hxi]
    · rw [w1]
      show runP s (⟨((idx i x : Nat) : Int) + 1, [kwRung, labB x]⟩ :: ⟨((idx i x + 1 : Nat) : Int) + 1, segWords conL⟩ :: r) = _
      rw [runP, e1, if_pos rfl, runP, e2, if_pos rfl]
theorem tail_run (hj : j < 21) : ∀ (d x : Nat) (s : PSt), x + d ≤ 20 → At i j x s →
    ∃ s', At i j (x + d) s' ∧ runP s ((collect (idx i x) (tailSegs i j x d)).map toS) = (0, 0, s')
  | 0, x, s, _, h => ⟨s, h, rfl⟩
  | d + 1, x, s, hx, h => by
    obtain ⟨s1, h1, e1⟩ := block_run i j x (by omega) hj s h ((collect (idx i (x + 1)) (tailSegs i j (x + 1) d)).map toS)
    obtain ⟨s2, h2, e2⟩ := tail_run hj d (x + 1) s1 (by omega) h1
    refine ⟨s2, by rw [show x + (d + 1) = x + 1 + d by omega]; exact h2, ?_⟩
    rw [tailSegs, collect_append, List.map_append]
    have hi : idx i x + (blockSegs i j x).length = idx i (x + 1) := by
      unfold idx blockSegs
      by_cases hxi : x = i
      · subst hxi
        rw [if_pos rfl, if_neg (by omega), if_pos (by omega)]
        simp only [List.length_cons, List.length_nil]
        omega
      · rw [if_neg hxi]
        simp only [List.length_cons, List.length_nil]
        by_cases hlt : i < x
        · rw [if_pos hlt, if_pos (by omega)]; omega
        · rw [if_neg hlt, if_neg (by omega)]; omega
    rw [hi, e1, e2]
theorem tail_plain (hj : j < 21) : ∀ d x, x + d ≤ 20 → ∀ l ∈ tailSegs i j x d, segPlain l = true
  | 0, _, _ => fun l hl => by rw [List.mem_singleton.1 hl]; rfl
  | d + 1, x, hx => fun l hl => by
    rcases List.mem_append.1 hl with hl | hl
    · unfold blockSegs at hl
      rcases List.mem_cons.1 hl with rfl | hl
      · exact (rung_seg x (by omega)).2.1
      rcases List.mem_cons.1 hl with rfl | hl
      · exact con_seg.2
      by_cases hxi : x = i
      · rw [if_pos hxi] at hl
        rw [List.mem_singleton.1 hl]
        exact (jump_seg j hj).2.1
      · rw [if_neg hxi] at hl
        cases hl
    · exact tail_plain hj d (x + 1) (by omega) l hl
theorem lab_size (y : Nat) : 0 < (labB y).size := by
  unfold labB
  rw [mkB_size]
  unfold labT
  rw [List.length_cons]
  omega
theorem has_rest (hj : j < 21) (d : Nat) : ∀ y, y + d ≤ 20 → hasLabel ((List.range' y d).map (R i j)) (labB j) = decide (y ≤ j ∧ j < y + d) := by
  induction d with
  | zero => intro y _; rw [decide_eq_false (by omega)]; rfl
  | succ d ih =>
    intro y hy
    have := ih (y + 1) (by omega)
    unfold hasLabel at this ⊢
    rw [List.range'_succ, List.map_cons, List.any_cons, this]
    have e : ((R i j y).f0.toList == (labB j).toList) = decide (y = j) := by
      show ((labB y).toList == (labB j).toList) = _
      rw [lab_toList, lab_toList, lab_inj y (by omega) j hj]
    rw [e]
    by_cases h1 : y = j
    · rw [decide_eq_true h1, decide_eq_true (show y ≤ j ∧ j < y + (d + 1) by omega)]; rfl
    · rw [decide_eq_false h1, Bool.false_or]
      by_cases h2 : y + 1 ≤ j ∧ j < y + 1 + d
      · rw [decide_eq_true h2, decide_eq_true (by omega)]
      · rw [decide_eq_false h2, decide_eq_false (by omega)]
theorem bad_rest (hj : j < 21) (d : Nat) : ∀ y, y + d ≤ 20 → badJ ((List.range' y d).map (R i j)) = if y ≤ i ∧ i < y + d ∧ ¬ (i < j ∧ j < y + d) then some (i - y) else none := by
  induction d with
  | zero => intro y _; rw [if_neg (by omega)]; rfl
  | succ d ih =>
    intro y hy
    rw [List.range'_succ, List.map_cons, badJ]
    by_cases hyi : y = i
    · subst hyi
      have hf : (R y j y).f3 = labB j := by unfold R; rw [if_pos rfl]
      rw [hf, has_rest y j hj d (y + 1) (by omega)]
      by_cases h2 : y + 1 ≤ j ∧ j < y + 1 + d
      · rw [decide_eq_true h2, if_neg (fun h => by cases h.2), ih (y + 1) (by omega), if_neg (by omega), if_neg (by omega)]
        rfl
      · rw [decide_eq_false h2, if_pos ⟨lab_size j, rfl⟩, if_pos (by omega), Nat.sub_self]
    · have hf : (R i j y).f3.size = 0 := by unfold R; rw [if_neg hyi]; rfl
      rw [if_neg (fun h => by omega), ih (y + 1) (by omega)]
      by_cases h3 : y ≤ i ∧ i < y + (d + 1) ∧ ¬ (i < j ∧ j < y + (d + 1))
      · rw [if_pos h3, if_pos (by omega)]
        show some (i - (y + 1) + 1) = some (i - y)
        congr 1
        omega
      · rw [if_neg h3, if_neg (by omega)]
        rfl
end
def sj : PSt := ⟨1, 1, 1, [], true, [], []⟩
theorem szj : lineP P.s0 ⟨1, segWords szL⟩ = (0, sj) := by kernel_rfl
theorem tail_len (i j : Nat) (hj : j < 21) : ∀ d x, x + d ≤ 20 → (tailText i j x d).length ≤ 40 * d
  | 0, _, _ => Nat.le_refl _
  | d + 1, x, h => by
    have ih := tail_len i j hj d (x + 1) (by omega)
    have l1 : (rungT x).length ≤ 8 := (by decide : ∀ x, x < 21 → (rungT x).length ≤ 8) x (by omega)
    have l2 : (jumpT j).length ≤ 8 := (by decide : ∀ x, x < 21 → (jumpT x).length ≤ 8) j hj
    have l3 : conL.length = 9 := rfl
    rw [tailText, List.length_append, blockText]
    simp only [List.length_append, List.length_cons]
    split
    · simp only [List.length_append, List.length_cons, List.length_nil]; omega
    · simp only [List.length_nil]; omega
/-- What Parse gives of the text. -/
theorem jump_law (i j k : Nat) (hk : k ≤ 20) (hik : i < k) (hj : j ≤ k) :
    if i < j ∧ j < k then ∃ ls, parseT (szL ++ 10 :: tailText i j 0 k) = (1, 1, 1, (List.range k).map (R i j), ls, 0, 0)
    else parseT (szL ++ 10 :: tailText i j 0 k) = bad ((2 * i + 4 : Nat) : Int) 15 := by
  have hj21 : j < 21 := by omega
  have hc : cutAt 10 (szL ++ 10 :: tailText i j 0 k) = szL :: tailSegs i j 0 k := by rw [cutAt_at 10 szL _ (by decide), tail_cut i j hj21 k 0 (by omega)]
  have hl := tail_len i j hj21 k 0 (by omega)
  have hp : parseT (szL ++ 10 :: tailText i j 0 k) = parseL (linesN (szL ++ 10 :: tailText i j 0 k)) := parseT_ok (by
    rw [List.length_append, List.length_cons]
    have : szL.length = 10 := rfl
    omega) (by
    rw [hc]
    intro l h
    rcases List.mem_cons.1 h with rfl | h
    · decide
    · exact tail_plain i j hj21 k 0 (by omega) l h)
  have hn : linesN (szL ++ 10 :: tailText i j 0 k) = ⟨1, segWords szL⟩ :: (collect 1 (tailSegs i j 0 k)).map toS := by
    unfold linesN
    rw [hc, collect, if_neg (by decide)]
    rfl
  have hA : At i j 0 sj := ⟨rfl, rfl, rfl, rfl, rfl, rfl⟩
  obtain ⟨s, h, e⟩ := tail_run i j hj21 k 0 sj (by omega) hA
  have hi0 : idx i 0 = 1 := by unfold idx; rw [if_neg (by omega)]
  rw [hi0] at e
  rw [Nat.zero_add] at h
  have hb := bad_rest i j hj21 k 0 (by omega)
  rw [← List.range_eq_range'] at hb
  have hr : parseT (szL ++ 10 :: tailText i j 0 k) = endP s := by
    rw [hp, hn]
    unfold parseL
    rw [runP, szj, if_pos rfl, e, if_pos rfl]
  have he : endP s = match badJ ((List.range k).map (R i j)) with
      | some i_1 => ((0, 0, 0, [], [], ((List.range k).map (jn i)).getD i_1 0, 15) : PRes)
      | none => (1, 1, 1, (List.range k).map (R i j), s.lines, 0, 0) := by
    unfold endP
    rw [if_neg (by rw [h.sized]; decide), h.rungs, h.I, h.Q, h.M, h.jumps]
    cases badJ ((List.range k).map (R i j)) <;> rfl
  rw [hr, he, hb]
  by_cases hcase : i < j ∧ j < k
  · rw [if_pos hcase, if_neg (by omega)]
    exact ⟨_, rfl⟩
  · rw [if_neg hcase, if_pos (by omega)]
    show ((0, 0, 0, [], [], ((List.range k).map (jn i)).getD (i - 0) 0, 15) : PRes) = _
    have : ((List.range k).map (jn i)).getD (i - 0) 0 = ((2 * i + 4 : Nat) : Int) := by
      rw [Nat.sub_zero, List.getD_eq_getElem?_getD, List.getElem?_map, List.getElem?_range hik]
      show jn i i = _
      unfold jn
      rw [if_pos rfl]
    rw [this]
    rfl
end Go.Proofs.YtmcmpjkfdkogiaaDoor.P

/- ParseDeclaredSizes, plainly: a size line, a contact or a coil behind it. -/
import Derived.Test.YtdbjjbooalkkbaaDoorXParT
import Derived.Test.YtdbjjbooalkkbaaDoorXLine0
import Derived.Test.YtdbjjbooalkkbaaDoorXDig
set_option linter.unusedVariables false
set_option linter.unusedSimpArgs false
namespace Go.Proofs.YtdbjjbooalkkbaaDoor.P
open Go.RowKit Go.Proofs.YtdbjjbooalkkbaaDoorW.PrintWords

theorem isDig_okW {b : UInt8} (h : isDig b = true) : okW b := by
  have h1 : 48 ≤ b.toNat ∧ b.toNat ≤ 57 := by simpa [isDig] using h
  refine ⟨by omega, by omega, fun e => ?_⟩
  subst e
  exact absurd h1.2 (by decide)
theorem digits_okW (n : Nat) : Lib.decDigits n ≠ [] ∧ ∀ b ∈ Lib.decDigits n, okW b :=
  ⟨decDigits_ne n, fun b hb => isDig_okW (List.all_eq_true.1 (decDigits_spec n).2.1 b hb)⟩
theorem number_digits (n : Nat) : number (Lib.decDigits n) 256 = if n ≤ 256 then ((n : Int), 0) else (0, 3) := by
  unfold number
  rw [if_neg (by decide), if_pos (isNum_digits n), (decDigits_spec n).1]
  by_cases h : n ≤ 256
  · rw [if_pos h, if_pos (by omega)]
  · rw [if_neg h, if_neg (by omega)]
def sizeW : List UInt8 := [115, 105, 122, 101]
def szWs (i q m : Nat) : List (List UInt8) := [sizeW, Lib.decDigits i, Lib.decDigits q, Lib.decDigits m]
def szLine (i q m : Nat) : List UInt8 := Lib.join (szWs i q m) [32]
theorem szLine_eq (i q m : Nat) : szLine i q m = sizeW ++ 32 :: (Lib.decDigits i ++ 32 :: (Lib.decDigits q ++ 32 :: Lib.decDigits m)) := by
  unfold szLine szWs Lib.join
  simp [List.intercalate, List.intersperse]
theorem sz_facts (i q m : Nat) : segWords (szLine i q m) = (szWs i q m).map mkB ∧ segPlain (szLine i q m) = true ∧ ∀ b ∈ szLine i q m, b ≠ 10 :=
  line_of _ (fun x hx => by
    unfold szWs at hx
    simp only [List.mem_cons, List.not_mem_nil, or_false] at hx
    rcases hx with rfl | rfl | rfl | rfl
    · exact ⟨by decide, fun b hb => by
        have : b = 115 ∨ b = 105 ∨ b = 122 ∨ b = 101 := by simpa [sizeW] using hb
        rcases this with rfl | rfl | rfl | rfl <;> exact ⟨by decide, by decide, by decide⟩⟩
    · exact digits_okW i
    · exact digits_okW q
    · exact digits_okW m)
def szS (i q m : Nat) : PSt := ⟨i, q, m, [], true, [], []⟩
/-- The size line. -/
theorem sz_run (i q m : Nat) (n : Int) : lineP P.s0 ⟨n, (szWs i q m).map mkB⟩ = if i ≤ 256 ∧ q ≤ 256 ∧ m ≤ 256 then (0, szS i q m) else (3, P.s0) := by
  have e : lineP P.s0 ⟨n, (szWs i q m).map mkB⟩ = sizeP P.s0 ⟨n, (szWs i q m).map mkB⟩ := rfl
  have w1 : (wd ⟨n, (szWs i q m).map mkB⟩ 1).data.toList = Lib.decDigits i := mkB_data _
  have w2 : (wd ⟨n, (szWs i q m).map mkB⟩ 2).data.toList = Lib.decDigits q := mkB_data _
  have w3 : (wd ⟨n, (szWs i q m).map mkB⟩ 3).data.toList = Lib.decDigits m := mkB_data _
  rw [e]
  unfold sizeP
  rw [w1, w2, w3, number_digits, number_digits, number_digits, if_neg (by decide)]
  by_cases h1 : i ≤ 256
  · by_cases h2 : q ≤ 256
    · by_cases h3 : m ≤ 256
      · simp [h1, h2, h3, szS, P.s0]
      · simp [h1, h2, h3]
    · simp [h1, h2]
  · simp [h1]
theorem digits_len (n : Nat) (h : n < 1000) : (Lib.decDigits n).length ≤ 3 := by
  rw [Lib.decDigits]
  split
  · simp
  · rw [Lib.decDigits]
    split
    · simp
    · rw [Lib.decDigits, dif_pos (by omega)]
      simp
theorem sz_len (i q m : Nat) (hi : i < 1000) (hq : q < 1000) (hm : m < 1000) : (szLine i q m).length ≤ 20 := by
  have := digits_len i hi
  have := digits_len q hq
  have := digits_len m hm
  rw [szLine_eq]
  simp only [List.length_append, List.length_cons]
  have : sizeW.length = 4 := rfl
  omega
/-- The size line alone. -/
theorem size_law (i q m : Nat) (hi : i < 1000) (hq : q < 1000) (hm : m < 1000) :
    parseT (szLine i q m ++ [10]) = if i ≤ 256 ∧ q ≤ 256 ∧ m ≤ 256 then ((i : Int), (q : Int), (m : Int), [], [], 0, 0) else bad 1 3 := by
  obtain ⟨f1, f2, f3⟩ := sz_facts i q m
  have hl := sz_len i q m hi hq hm
  have hc : cutAt 10 (szLine i q m ++ [10]) = [szLine i q m, []] := cutAt_at 10 _ [] f3
  rw [parseT_ok (by simp; omega) (by
    rw [hc]
    intro l h
    rcases List.mem_cons.1 h with rfl | h
    · exact f2
    · rw [List.mem_singleton.1 h]; rfl)]
  have hn : linesN (szLine i q m ++ [10]) = [⟨1, (szWs i q m).map mkB⟩] := by
    unfold linesN
    rw [hc, collect, if_neg (by rw [f1]; simp [szWs]), f1]
    rfl
  rw [hn]
  unfold parseL
  rw [runP, sz_run]
  by_cases h : i ≤ 256 ∧ q ≤ 256 ∧ m ≤ 256
  · rw [if_pos h, if_pos h]
    rfl
  · rw [if_neg h, if_neg h]
    rfl
/-- What stands behind it: a rung and one line more. -/
theorem two_law (i q m : Nat) (hi : i ≤ 256) (hq : q ≤ 256) (hm : m ≤ 256) (x : List UInt8) (ws : List ByteArray) (hx : ∀ b ∈ x, b ≠ 10) (hp : segPlain x = true) (hw : segWords x = ws) (hne : ws ≠ []) (hxl : x.length ≤ 100) :
    parseT (szLine i q m ++ 10 :: ([114, 117, 110, 103] ++ 10 :: x)) =
      if (lineP ⟨i, q, m, [⟨⟨#[]⟩, [], [], ⟨#[]⟩⟩], true, [2], [0]⟩ ⟨3, ws⟩).1 = 0 then endP (lineP ⟨i, q, m, [⟨⟨#[]⟩, [], [], ⟨#[]⟩⟩], true, [2], [0]⟩ ⟨3, ws⟩).2
      else bad 3 (lineP ⟨i, q, m, [⟨⟨#[]⟩, [], [], ⟨#[]⟩⟩], true, [2], [0]⟩ ⟨3, ws⟩).1 := by
  obtain ⟨f1, f2, f3⟩ := sz_facts i q m
  have hl := sz_len i q m (by omega) (by omega) (by omega)
  have hc : cutAt 10 (szLine i q m ++ 10 :: ([114, 117, 110, 103] ++ 10 :: x)) = [szLine i q m, [114, 117, 110, 103], x] := by
    rw [cutAt_at 10 _ _ f3, cutAt_at 10 _ _ (by decide), cutAt_none 10 x hx]
  rw [parseT_ok (by simp; omega) (by
    rw [hc]
    intro l h
    simp only [List.mem_cons, List.not_mem_nil, or_false] at h
    rcases h with rfl | rfl | rfl
    · exact f2
    · decide
    · exact hp)]
  have hn : linesN (szLine i q m ++ 10 :: ([114, 117, 110, 103] ++ 10 :: x)) = [⟨1, (szWs i q m).map mkB⟩, ⟨2, [kwRung]⟩, ⟨3, ws⟩] := by
    unfold linesN
    rw [hc, collect, if_neg (by rw [f1]; simp [szWs]), f1, collect, if_neg (by decide), collect, if_neg (by rw [hw]; exact hne), hw]
    rfl
  have hr : lineP (szS i q m) ⟨2, [kwRung]⟩ = (0, ⟨i, q, m, [⟨⟨#[]⟩, [], [], ⟨#[]⟩⟩], true, [2], [0]⟩) := rfl
  have hz : lineP P.s0 ⟨1, (szWs i q m).map mkB⟩ = (0, szS i q m) := by rw [sz_run, if_pos ⟨hi, hq, hm⟩]
  have hrun : ∀ r, runP P.s0 (⟨1, (szWs i q m).map mkB⟩ :: ⟨2, [kwRung]⟩ :: r) = runP ⟨i, q, m, [⟨⟨#[]⟩, [], [], ⟨#[]⟩⟩], true, [2], [0]⟩ r := fun r => by
    rw [runP, hz, if_pos rfl, runP, hr, if_pos rfl]
  rw [hn]
  unfold parseL
  rw [hrun, runP]
  by_cases h0 : (lineP ⟨i, q, m, [⟨⟨#[]⟩, [], [], ⟨#[]⟩⟩], true, [2], [0]⟩ ⟨3, ws⟩).1 = 0
  · rw [if_pos h0, if_pos h0]
    rfl
  · rw [if_neg h0, if_neg h0, if_neg h0]
    rfl
def ltr (sp : Nat) : UInt8 := if sp = 0 then 73 else if sp = 1 then 81 else 77
def conWs (sp k : Nat) : List (List UInt8) := [[110, 99], ltr sp :: Lib.decDigits k, [76], [82]]
def outWs (sp k : Nat) : List (List UInt8) := [[111, 117, 116], ltr sp :: Lib.decDigits k]
theorem ltr_okW {sp : Nat} (h : sp < 3) : okW (ltr sp) ∧ spaceOf (ltr sp) = some (sp : Int) := by
  have : sp = 0 ∨ sp = 1 ∨ sp = 2 := by omega
  rcases this with rfl | rfl | rfl <;> exact ⟨⟨by decide, by decide, by decide⟩, rfl⟩
theorem lits_okW (l : List UInt8) (h : l.all (fun b => decide (33 ≤ b.toNat ∧ b.toNat ≤ 126) && b != 59) = true) : ∀ b ∈ l, okW b := fun b hb => by
  have := List.all_eq_true.1 h b hb
  simp only [Bool.and_eq_true, decide_eq_true_eq, bne_iff_ne] at this
  exact ⟨this.1.1, this.1.2, this.2⟩
theorem addr_okW {sp : Nat} (h : sp < 3) (k : Nat) : ∀ b ∈ ltr sp :: Lib.decDigits k, okW b := fun b hb => by
  rcases List.mem_cons.1 hb with rfl | hb
  · exact (ltr_okW h).1
  · exact (digits_okW k).2 b hb
theorem con_facts {sp : Nat} (h : sp < 3) (k : Nat) : segWords (Lib.join (conWs sp k) [32]) = (conWs sp k).map mkB ∧ segPlain (Lib.join (conWs sp k) [32]) = true ∧ ∀ b ∈ Lib.join (conWs sp k) [32], b ≠ 10 :=
  line_of _ (fun x hx => by
    unfold conWs at hx
    simp only [List.mem_cons, List.not_mem_nil, or_false] at hx
    rcases hx with rfl | rfl | rfl | rfl
    · exact ⟨by decide, lits_okW _ (by decide)⟩
    · exact ⟨by simp, addr_okW h k⟩
    · exact ⟨by decide, lits_okW _ (by decide)⟩
    · exact ⟨by decide, lits_okW _ (by decide)⟩)
theorem out_facts {sp : Nat} (h : sp < 3) (k : Nat) : segWords (Lib.join (outWs sp k) [32]) = (outWs sp k).map mkB ∧ segPlain (Lib.join (outWs sp k) [32]) = true ∧ ∀ b ∈ Lib.join (outWs sp k) [32], b ≠ 10 :=
  line_of _ (fun x hx => by
    unfold outWs at hx
    simp only [List.mem_cons, List.not_mem_nil, or_false] at hx
    rcases hx with rfl | rfl
    · exact ⟨by decide, lits_okW _ (by decide)⟩
    · exact ⟨by simp, addr_okW h k⟩)
theorem parse_addr {sp : Nat} (h : sp < 3) {k : Nat} (hk : k < 256) : parseAddr (ltr sp :: Lib.decDigits k) = ((sp : Int), (k : Int), 0) := by
  unfold parseAddr
  simp only [(ltr_okW h).2]
  rw [if_pos (isNum_digits k), (decDigits_spec k).1, if_pos hk]
def s3 (i q m : Nat) : PSt := ⟨i, q, m, [⟨⟨#[]⟩, [], [], ⟨#[]⟩⟩], true, [2], [0]⟩
/-- The width of a space. -/
def wid (i q m sp : Nat) : Nat := if sp = 0 then i else if sp = 1 then q else m
theorem addr_P {i q m sp k : Nat} (h : sp < 3) : addrP i q m sp k = if k < wid i q m sp then 0 else 3 := by
  unfold addrP widthP wid
  have : sp = 0 ∨ sp = 1 ∨ sp = 2 := by omega
  rcases this with rfl | rfl | rfl <;> simp
theorem addressP_3 (i q m : Nat) {sp k : Nat} (h : sp < 3) (hk : k < 256) : addressP (s3 i q m) (mkB (ltr sp :: Lib.decDigits k)) = ((sp : Int), (k : Int), if k < wid i q m sp then 0 else 3) := by
  unfold addressP
  rw [mkB_data, parse_addr h hk, if_pos rfl]
  show ((sp : Int), (k : Int), addrP i q m sp k) = _
  rw [addr_P h]
theorem con_line (i q m : Nat) {sp k : Nat} (h : sp < 3) (hk : k < 256) :
    lineP (s3 i q m) ⟨3, (conWs sp k).map mkB⟩ = if k < wid i q m sp then (0, conAdd (s3 i q m) ⟨3, (conWs sp k).map mkB⟩ 1) else (3, s3 i q m) := by
  have e : lineP (s3 i q m) ⟨3, (conWs sp k).map mkB⟩ = contactP (s3 i q m) ⟨3, (conWs sp k).map mkB⟩ 1 := rfl
  have w1 : wd ⟨3, (conWs sp k).map mkB⟩ 1 = mkB (ltr sp :: Lib.decDigits k) := rfl
  rw [e]
  unfold contactP
  rw [w1, addressP_3 i q m h hk, if_neg (by show ¬ 0 < 0; decide), if_neg (by show ¬ 0 < (⟨#[]⟩ : ByteArray).size; decide), if_neg (by show ¬ 0 = 256; decide)]
  by_cases hw : k < wid i q m sp
  · rw [if_pos hw, if_pos hw, if_neg (by show ¬ (0 : Int) ≠ 0; decide), if_neg (show ¬ isName (wd ⟨3, (conWs sp k).map mkB⟩ 2).data.toList = false from by show ¬ isName [76] = false; decide), if_neg (show ¬ isName (wd ⟨3, (conWs sp k).map mkB⟩ 3).data.toList = false from by show ¬ isName [82] = false; decide)]
  · rw [if_neg hw, if_neg hw, if_pos (by show (3 : Int) ≠ 0; decide)]
theorem out_line (i q m : Nat) {sp k : Nat} (h : sp < 3) (hk : k < 256) :
    lineP (s3 i q m) ⟨3, (outWs sp k).map mkB⟩ = if k < wid i q m sp then (if sp = 0 then (2, s3 i q m) else (0, coilAdd (s3 i q m) ⟨3, (outWs sp k).map mkB⟩ 0)) else (3, s3 i q m) := by
  have e : lineP (s3 i q m) ⟨3, (outWs sp k).map mkB⟩ = coilP (s3 i q m) ⟨3, (outWs sp k).map mkB⟩ 0 := rfl
  have w1 : wd ⟨3, (outWs sp k).map mkB⟩ 1 = mkB (ltr sp :: Lib.decDigits k) := rfl
  rw [e]
  unfold coilP
  rw [w1, addressP_3 i q m h hk, if_neg (by show ¬ 0 < (⟨#[]⟩ : ByteArray).size; decide), if_neg (by show ¬ 0 = 16; decide)]
  by_cases hw : k < wid i q m sp
  · rw [if_pos hw, if_pos hw, if_neg (by show ¬ (0 : Int) ≠ 0; decide)]
    by_cases h0 : sp = 0
    · rw [if_pos h0, if_pos (by show (sp : Int) = 0; omega)]
    · rw [if_neg h0, if_neg (by show ¬ (sp : Int) = 0; omega)]
  · rw [if_neg hw, if_neg hw, if_pos (by show (3 : Int) ≠ 0; decide)]
theorem join_len {sp k : Nat} (hk : k < 256) : (Lib.join (conWs sp k) [32]).length ≤ 100 ∧ (Lib.join (outWs sp k) [32]).length ≤ 100 := by
  have := digits_len k (by omega)
  unfold conWs outWs Lib.join
  constructor <;> simp [List.intercalate, List.intersperse] <;> omega
/-- The contact. -/
theorem con_law (i q m : Nat) (hi : i ≤ 256) (hq : q ≤ 256) (hm : m ≤ 256) {sp k : Nat} (h : sp < 3) (hk : k < 256) :
    (k < wid i q m sp → (parseT (szLine i q m ++ 10 :: ([114, 117, 110, 103] ++ 10 :: Lib.join (conWs sp k) [32]))).2.2.2.2.2.2 = 0) ∧ (¬ k < wid i q m sp → parseT (szLine i q m ++ 10 :: ([114, 117, 110, 103] ++ 10 :: Lib.join (conWs sp k) [32])) = bad 3 3) := by
  obtain ⟨f1, f2, f3⟩ := con_facts h k
  have e := two_law i q m hi hq hm _ _ f3 f2 f1 (by simp [conWs]) (join_len hk).1
  have hl := con_line i q m h hk
  unfold s3 at hl
  rw [hl] at e
  rw [e]
  refine ⟨fun hw => ?_, fun hw => ?_⟩
  · rw [if_pos hw]
    rfl
  · rw [if_neg hw]
    rfl
/-- The coil. -/
theorem out_law (i q m : Nat) (hi : i ≤ 256) (hq : q ≤ 256) (hm : m ≤ 256) {sp k : Nat} (h : sp < 3) (hk : k < 256) :
    (k < wid i q m sp ∧ sp ≠ 0 → (parseT (szLine i q m ++ 10 :: ([114, 117, 110, 103] ++ 10 :: Lib.join (outWs sp k) [32]))).2.2.2.2.2.2 = 0) ∧
    (¬ (k < wid i q m sp ∧ sp ≠ 0) → ∃ e : Int, e ≠ 0 ∧ parseT (szLine i q m ++ 10 :: ([114, 117, 110, 103] ++ 10 :: Lib.join (outWs sp k) [32])) = bad 3 e) := by
  obtain ⟨f1, f2, f3⟩ := out_facts h k
  have e := two_law i q m hi hq hm _ _ f3 f2 f1 (by simp [outWs]) (join_len hk).2
  have hl := out_line i q m h hk
  unfold s3 at hl
  rw [hl] at e
  rw [e]
  refine ⟨fun hw => ?_, fun hw => ?_⟩
  · rw [if_pos hw.1, if_neg hw.2]
    rfl
  · by_cases h1 : k < wid i q m sp
    · have h0 : sp = 0 := Classical.byContradiction fun h0 => hw ⟨h1, h0⟩
      rw [if_pos h1, if_pos h0]
      exact ⟨2, by decide, rfl⟩
    · rw [if_neg h1]
      exact ⟨3, by decide, rfl⟩
end Go.Proofs.YtdbjjbooalkkbaaDoor.P

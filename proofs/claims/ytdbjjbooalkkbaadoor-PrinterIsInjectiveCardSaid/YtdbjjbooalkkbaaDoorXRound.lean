/- PrinterRoundTrip, plainly: the printed text's lines, and the parser over them. -/
import Derived.Test.YtdbjjbooalkkbaaDoorXPrintC
import Derived.Test.YtdbjjbooalkkbaaDoorXParT
import Derived.Test.YtdbjjbooalkkbaaDoorXLine0
import Derived.Test.YtdbjjbooalkkbaaDoorXDecB
set_option linter.unusedVariables false
set_option linter.unusedSimpArgs false
namespace Go.Proofs.YtdbjjbooalkkbaaDoor.P
open Go.RowKit Go.Proofs.YtdbjjbooalkkbaaDoorW.PrintWords

/-! ### lines -/
def joinW (ws : List ByteArray) : List UInt8 := Lib.join (ws.map (·.data.toList)) [32]
def lineTx (ws : List ByteArray) : List UInt8 := joinW ws ++ [10]
def linesTx (L : List (List ByteArray)) : List UInt8 := (L.map lineTx).flatten
def GoodW (x : ByteArray) : Prop := x.data.toList ≠ [] ∧ ∀ b ∈ x.data.toList, okW b
structure GoodL (ws : List ByteArray) : Prop where
  ne : ws ≠ []
  ok : ∀ x ∈ ws, GoodW x
theorem GoodL.facts {ws : List ByteArray} (h : GoodL ws) : segWords (joinW ws) = ws ∧ segPlain (joinW ws) = true ∧ ∀ b ∈ joinW ws, b ≠ 10 := by
  obtain ⟨h1, h2, h3⟩ := line_of (ws.map (·.data.toList)) (fun x hx => by obtain ⟨y, hy, rfl⟩ := List.mem_map.1 hx; exact h.ok y hy)
  refine ⟨?_, h2, h3⟩
  unfold joinW
  rw [h1, List.map_map, show (mkB ∘ fun x : ByteArray => x.data.toList) = id from funext mkB_list, List.map_id]
theorem cut_lines : ∀ L : List (List ByteArray), (∀ ws ∈ L, GoodL ws) → cutAt 10 (linesTx L) = L.map joinW ++ [[]]
  | [], _ => rfl
  | ws :: r, h => by
    have e : linesTx (ws :: r) = joinW ws ++ 10 :: linesTx r := by
      unfold linesTx
      rw [List.map_cons, List.flatten_cons]
      unfold lineTx
      rw [List.append_assoc]
      rfl
    rw [e, cutAt_at 10 _ _ (h ws (by simp)).facts.2.2, cut_lines r (fun x hx => h x (by simp [hx]))]
    rfl
def numL : Int → List (List ByteArray) → List LN
  | _, [] => []
  | n, ws :: r => ⟨n + 1, ws⟩ :: numL (n + 1) r
theorem numL_append (A B : List (List ByteArray)) : ∀ n, numL n (A ++ B) = numL n A ++ numL (n + (A.length : Int)) B := by
  induction A with
  | nil => intro n; simp [numL]
  | cons x r ih =>
    intro n
    rw [List.cons_append, numL, numL, ih, List.length_cons, List.cons_append]
    congr 3
    omega
theorem collect_lines : ∀ (L : List (List ByteArray)) (i : Nat), (∀ ws ∈ L, GoodL ws) → (collect i (L.map joinW ++ [[]])).map toS = numL (i : Int) L
  | [], i, _ => rfl
  | ws :: r, i, h => by
    rw [List.map_cons, List.cons_append, collect, (h ws (by simp)).facts.1, if_neg (h ws (by simp)).ne, List.map_cons, collect_lines r (i + 1) (fun x hx => h x (by simp [hx]))]
    rfl
theorem parse_lines (L : List (List ByteArray)) (h : ∀ ws ∈ L, GoodL ws) (hl : (linesTx L).length ≤ 65536) : parseT (linesTx L) = parseL (numL 0 L) := by
  rw [parseT_ok hl (by
    rw [cut_lines L h]
    intro l hm
    rcases List.mem_append.1 hm with hm | hm
    · obtain ⟨ws, hw, rfl⟩ := List.mem_map.1 hm
      exact (h ws hw).facts.2.1
    · rw [List.mem_singleton.1 hm]; rfl)]
  unfold linesN
  rw [cut_lines L h, collect_lines L 0 h]
  rfl

/-! ### the printed text as lines -/
theorem join_cons (x : List UInt8) : ∀ ws : List (List UInt8), Lib.join (x :: ws) [32] = x ++ (ws.map (fun y => 32 :: y)).flatten := by
  intro ws
  induction ws generalizing x with
  | nil => simp [Lib.join, List.intercalate, List.intersperse]
  | cons y r ih =>
    have h := ih y
    unfold Lib.join at h ⊢
    rw [List.map_cons, List.flatten_cons, List.cons_append, ← h]
    simp [List.intercalate, List.intersperse]
theorem segs_pos (ws : List ByteArray) : ∀ i, (∀ x ∈ ws, x.size ≠ 0) → segs (i + 1) ws = ((ws.map (·.data.toList)).map (fun y => 32 :: y)).flatten := by
  induction ws with
  | nil => intro i _; rfl
  | cons x r ih =>
    intro i h
    rw [segs, ih (i + 1) (fun y hy => h y (by simp [hy])), List.map_cons, List.map_cons, List.flatten_cons]
    unfold seg
    rw [if_pos ⟨by omega, h x (by simp)⟩]
    rfl
theorem lineL_eq (ws : List ByteArray) (hne : ws ≠ []) (h : ∀ x ∈ ws, x.size ≠ 0) : lineL ws = lineTx ws := by
  cases ws with
  | nil => exact absurd rfl hne
  | cons x r =>
    unfold lineL lineTx joinW
    rw [segs, segs_pos r 0 (fun y hy => h y (by simp [hy])), List.map_cons, join_cons]
    unfold seg
    rw [if_neg (by omega), List.nil_append]
theorem bsize_nil {s : ByteArray} (h : s.size = 0) : s = ⟨#[]⟩ := by
  cases s with
  | mk d =>
    have : d.size = 0 := h
    rw [Array.eq_empty_of_size_eq_zero this]
theorem GoodW.size {x : ByteArray} (h : GoodW x) : x.size ≠ 0 := fun e => h.1 (by rw [bsize_nil e])
theorem GoodL.line {ws : List ByteArray} (h : GoodL ws) : lineL ws = lineTx ws := lineL_eq ws h.ne (fun x hx => (h.ok x hx).size)
def rungLn (r : SR) : List (List ByteArray) := (if r.f0.size = 0 then [wRung] else [wRung, r.f0]) :: (r.f1.map conWords ++ (r.f2.map coilWords ++ (if r.f3.size = 0 then [] else [[wJump, r.f3]])))
def ladderLn (I Q M : Int) (l : List SR) : List (List ByteArray) := [wSize, itoaB I, itoaB Q, itoaB M] :: (l.map rungLn).flatten
theorem lits_W (l : List UInt8) (hn : l ≠ []) (h : l.all (fun b => decide (33 ≤ b.toNat ∧ b.toNat ≤ 126) && b != 59) = true) : GoodW (mkB l) := ⟨by rw [mkB_data]; exact hn, fun b hb => by
  rw [mkB_data] at hb
  have := List.all_eq_true.1 h b hb
  simp only [Bool.and_eq_true, decide_eq_true_eq, bne_iff_ne] at this
  exact ⟨this.1.1, this.1.2, this.2⟩⟩
theorem dig_okW {b : UInt8} (h : isDig b = true) : okW b := by
  have h1 : 48 ≤ b.toNat ∧ b.toNat ≤ 57 := by simpa [isDig] using h
  refine ⟨by omega, by omega, fun e => ?_⟩
  subst e
  exact absurd h1.2 (by decide)
theorem let_okW {b : UInt8} (h : nameTail b = true) : okW b := by
  unfold nameTail isLetter at h
  simp only [Bool.or_eq_true, decide_eq_true_eq] at h
  refine ⟨by omega, by omega, fun e => ?_⟩
  subst e
  revert h
  decide
theorem itoaB_eq (n : Int) (h : 0 ≤ n) : itoaB n = mkB (Lib.decDigits n.toNat) := by
  unfold itoaB Lib.itoa
  rw [if_neg (by omega)]
  rfl
theorem itoa_W (n : Int) (h : 0 ≤ n) : GoodW (itoaB n) := by
  rw [itoaB_eq n h]
  refine ⟨by rw [mkB_data]; exact decDigits_ne _, fun b hb => ?_⟩
  rw [mkB_data] at hb
  exact dig_okW (List.all_eq_true.1 (decDigits_spec n.toNat).2.1 b hb)
theorem name_W {s : ByteArray} (h : nameB s = true) : GoodW s := by
  unfold nameB isName at h
  cases e : s.data.toList with
  | nil => rw [e] at h; cases h
  | cons c r =>
    rw [e] at h
    simp only [Bool.and_eq_true, decide_eq_true_eq] at h
    refine ⟨by rw [e]; simp, fun b hb => ?_⟩
    rw [e] at hb
    rcases List.mem_cons.1 hb with rfl | hb
    · exact let_okW (by unfold nameTail; rw [h.1.2]; rfl)
    · exact let_okW (List.all_eq_true.1 h.2 b hb)
theorem addr_in {I Q M s n : Int} (hs : OkSize I Q M) (h : addrP I Q M s n = 0) : 0 ≤ s ∧ s ≤ 2 ∧ 0 ≤ n ∧ n ≤ 255 := by
  unfold addrP at h
  split at h
  · rename_i h1
    split at h
    · rename_i h2
      have h3 : widthP I Q M s ≤ 256 := by
        unfold widthP
        obtain ⟨a, b, c⟩ := hs
        repeat' split
        all_goals omega
      exact ⟨h1.1, h1.2, h2.1, by omega⟩
    · exact absurd h (by decide)
  · exact absurd h (by decide)
theorem fmt_eq {s n : Int} (h : 0 ≤ s ∧ s ≤ 2 ∧ 0 ≤ n ∧ n ≤ 255) : fmtB s n = mkB (letterB s :: Lib.decDigits n.toNat) := by
  unfold fmtB Lib.itoa
  rw [if_pos h, if_neg (by omega)]
  rfl
theorem letter_ok {s : Int} (h : 0 ≤ s ∧ s ≤ 2) : okW (letterB s) ∧ spaceOf (letterB s) = some s := by
  have : s = 0 ∨ s = 1 ∨ s = 2 := by omega
  rcases this with rfl | rfl | rfl <;> exact ⟨⟨by decide, by decide, by decide⟩, rfl⟩
theorem fmt_W {s n : Int} (h : 0 ≤ s ∧ s ≤ 2 ∧ 0 ≤ n ∧ n ≤ 255) : GoodW (fmtB s n) := by
  rw [fmt_eq h]
  refine ⟨by rw [mkB_data]; simp, fun b hb => ?_⟩
  rw [mkB_data] at hb
  rcases List.mem_cons.1 hb with rfl | hb
  · exact (letter_ok ⟨h.1, h.2.1⟩).1
  · exact dig_okW (List.all_eq_true.1 (decDigits_spec n.toNat).2.1 b hb)
theorem kind4 {k : Int} (h0 : 0 ≤ k) (h4 : k < 4) : k = 0 ∨ k = 1 ∨ k = 2 ∨ k = 3 := by omega
theorem kwC_W {k : Int} (h0 : 0 ≤ k) (h4 : k < 4) : GoodW (kwC.getD k.toNat ByteArray.empty) := by
  rcases kind4 h0 h4 with rfl | rfl | rfl | rfl
  · exact lits_W [110, 111] (by decide) (by decide)
  · exact lits_W [110, 99] (by decide) (by decide)
  · exact lits_W [117, 112] (by decide) (by decide)
  · exact lits_W [100, 111, 119, 110] (by decide) (by decide)
theorem kwQ_W {k : Int} (h0 : 0 ≤ k) (h4 : k < 4) : GoodW (kwQ.getD k.toNat ByteArray.empty) := by
  rcases kind4 h0 h4 with rfl | rfl | rfl | rfl
  · exact lits_W [111, 117, 116] (by decide) (by decide)
  · exact lits_W [110, 111, 116] (by decide) (by decide)
  · exact lits_W [115, 101, 116] (by decide) (by decide)
  · exact lits_W [114, 101, 115, 101, 116] (by decide) (by decide)
theorem con_L {I Q M : Int} (hs : OkSize I Q M) {c : S44} (h : ConOk I Q M c) : GoodL (conWords c) := ⟨by simp [conWords], fun x hx => by
  unfold conWords at hx
  simp only [List.mem_cons, List.not_mem_nil, or_false] at hx
  rcases hx with rfl | rfl | rfl | rfl
  · exact kwC_W h.k0 h.k4
  · exact fmt_W (addr_in hs h.addr)
  · exact name_W h.src
  · exact name_W h.dst⟩
theorem coil_L {I Q M : Int} (hs : OkSize I Q M) {c : S47} (h : CoilOk I Q M c) : GoodL (coilWords c) := ⟨by simp [coilWords], fun x hx => by
  unfold coilWords at hx
  simp only [List.mem_cons, List.not_mem_nil, or_false] at hx
  rcases hx with rfl | rfl
  · exact kwQ_W h.k0 h.k4
  · exact fmt_W (addr_in hs h.addr)⟩
theorem wRung_W : GoodW wRung := lits_W [114, 117, 110, 103] (by decide) (by decide)
theorem wJump_W : GoodW wJump := lits_W [106, 117, 109, 112] (by decide) (by decide)
theorem wSize_W : GoodW wSize := lits_W [115, 105, 122, 101] (by decide) (by decide)
theorem some_name {s : ByteArray} (h : s.toList = ([] : List UInt8) ∨ nameB s = true) (hs : s.size ≠ 0) : nameB s = true := h.elim (fun e => absurd (nil_len e) hs) id
theorem two_L {a b : ByteArray} (ha : GoodW a) (hb : GoodW b) : GoodL [a, b] := ⟨by simp, fun x hx => by
  simp only [List.mem_cons, List.not_mem_nil, or_false] at hx
  rcases hx with rfl | rfl <;> assumption⟩
theorem head_L {r : SR} (h : r.f0.toList = ([] : List UInt8) ∨ nameB r.f0 = true) : GoodL (if r.f0.size = 0 then [wRung] else [wRung, r.f0]) := by
  split
  · exact ⟨by simp, fun x hx => by rw [List.mem_singleton.1 hx]; exact wRung_W⟩
  · rename_i h0
    exact two_L wRung_W (name_W (some_name h h0))
theorem rung_L {I Q M : Int} (hs : OkSize I Q M) {r : SR} (h : RungOk I Q M r) : ∀ ws ∈ rungLn r, GoodL ws := fun ws hw => by
  unfold rungLn at hw
  rcases List.mem_cons.1 hw with rfl | hw
  · exact head_L h.label
  rcases List.mem_append.1 hw with hw | hw
  · obtain ⟨c, hc, rfl⟩ := List.mem_map.1 hw
    exact con_L hs (h.con c hc)
  rcases List.mem_append.1 hw with hw | hw
  · obtain ⟨c, hc, rfl⟩ := List.mem_map.1 hw
    exact coil_L hs (h.coil c hc)
  · split at hw
    · cases hw
    · rename_i h0
      rw [List.mem_singleton.1 hw]
      exact two_L wJump_W (name_W (some_name h.jump h0))
theorem linesTx_append (A B : List (List ByteArray)) : linesTx (A ++ B) = linesTx A ++ linesTx B := by unfold linesTx; rw [List.map_append, List.flatten_append]
theorem linesTx_cons (a : List ByteArray) (B : List (List ByteArray)) : linesTx (a :: B) = lineTx a ++ linesTx B := by unfold linesTx; rw [List.map_cons, List.flatten_cons]
theorem rung_text {I Q M : Int} (hs : OkSize I Q M) {r : SR} (h : RungOk I Q M r) : rungT r = linesTx (rungLn r) := by
  have h1 : lineL [wRung, r.f0] = lineTx (if r.f0.size = 0 then [wRung] else [wRung, r.f0]) := by
    split
    · rename_i h0
      rw [bsize_nil h0]
      decide
    · rename_i h0
      exact (two_L wRung_W (name_W (some_name h.label h0))).line
  have h2 : ∀ l : List S44, (∀ c ∈ l, ConOk I Q M c) → consT l = linesTx (l.map conWords) := by
    intro l
    induction l with
    | nil => intro _; rfl
    | cons c t ih =>
      intro hc
      rw [List.map_cons, linesTx_cons, ← ih (fun x hx => hc x (by simp [hx])), ← (con_L hs (hc c (by simp))).line]
      rfl
  have h3 : ∀ l : List S47, (∀ c ∈ l, CoilOk I Q M c) → coilsT l = linesTx (l.map coilWords) := by
    intro l
    induction l with
    | nil => intro _; rfl
    | cons c t ih =>
      intro hc
      rw [List.map_cons, linesTx_cons, ← ih (fun x hx => hc x (by simp [hx])), ← (coil_L hs (hc c (by simp))).line]
      rfl
  have h4 : jumpT r.f3 = linesTx (if r.f3.size = 0 then [] else [[wJump, r.f3]]) := by
    unfold jumpT
    split
    · rfl
    · rename_i h0
      rw [(two_L wJump_W (name_W (some_name h.jump h0))).line, linesTx_cons]
      exact (List.append_nil _).symm
  unfold rungT rungLn
  rw [linesTx_cons, linesTx_append, linesTx_append, h1, h2 _ h.con, h3 _ h.coil, h4]
  simp only [List.append_assoc]
theorem size_L {I Q M : Int} (hs : OkSize I Q M) : GoodL [wSize, itoaB I, itoaB Q, itoaB M] := ⟨by simp, fun x hx => by
  simp only [List.mem_cons, List.not_mem_nil, or_false] at hx
  obtain ⟨a, b, c⟩ := hs
  rcases hx with rfl | rfl | rfl | rfl
  · exact wSize_W
  · exact itoa_W _ a.1
  · exact itoa_W _ b.1
  · exact itoa_W _ c.1⟩
theorem ladder_L {I Q M : Int} (hs : OkSize I Q M) {l : List SR} (h : ∀ r ∈ l, RungOk I Q M r) : ∀ ws ∈ ladderLn I Q M l, GoodL ws := fun ws hw => by
  rcases List.mem_cons.1 hw with rfl | hw
  · exact size_L hs
  · obtain ⟨x, hx, hw⟩ := List.mem_flatten.1 hw
    obtain ⟨r, hr, rfl⟩ := List.mem_map.1 hx
    exact rung_L hs (h r hr) ws hw
theorem ladder_text {I Q M : Int} (hs : OkSize I Q M) {l : List SR} (h : ∀ r ∈ l, RungOk I Q M r) : ladderT I Q M l = linesTx (ladderLn I Q M l) := by
  have h1 : ∀ l : List SR, (∀ r ∈ l, RungOk I Q M r) → rungsT l = linesTx (l.map rungLn).flatten := by
    intro l
    induction l with
    | nil => intro _; rfl
    | cons r t ih =>
      intro hr
      rw [List.map_cons, List.flatten_cons, linesTx_append, ← ih (fun x hx => hr x (by simp [hx])), ← rung_text hs (hr r (by simp))]
      rfl
  unfold ladderT ladderLn sizeT
  rw [linesTx_cons, ← (size_L hs).line, h1 l h]

/-! ### the parser over them -/
theorem lastR_snoc (a : List SR) (x : SR) : lastR (a ++ [x]) = x := by
  unfold lastR
  rw [List.getD_eq_getElem?_getD, List.length_append, List.length_singleton, Nat.add_sub_cancel, List.getElem?_concat_length]
  rfl
theorem setR_snoc (a : List SR) (x y : SR) : setR (a ++ [x]) y = a ++ [y] := by
  unfold setR
  rw [List.length_append, List.length_singleton, Nat.add_sub_cancel, List.set_append_right _ _ (Nat.le_refl _), Nat.sub_self]
  rfl
theorem address_fmt {s : PSt} (hs : OkSize s.I s.Q s.M) {sp n : Int} (h : addrP s.I s.Q s.M sp n = 0) : addressP s (fmtB sp n) = (sp, n, 0) := by
  have hb := addr_in hs h
  have hp : parseAddr (letterB sp :: Lib.decDigits n.toNat) = (sp, n, 0) := by
    unfold parseAddr
    simp only [(letter_ok ⟨hb.1, hb.2.1⟩).2]
    rw [if_pos (isNum_digits _), (decDigits_spec _).1, if_pos (by omega), Int.toNat_of_nonneg hb.2.2.1]
  unfold addressP
  rw [fmt_eq hb, mkB_data, hp, if_pos rfl]
  show (sp, n, addrP s.I s.Q s.M sp n) = _
  rw [h]
theorem guard_in {least most : Nat} {s : PSt} {l : LN} {r : Int × PSt} (h1 : least ≤ l.f1.length) (h2 : l.f1.length ≤ most) (h3 : s.sized = true) (inn : Bool) (h4 : s.rungs ≠ [] ∨ inn = false) : guardP least most true inn s l r = r := by
  unfold guardP
  rw [if_neg (by omega), if_neg (by omega), if_neg (by rw [h3]; simp), if_neg ?_]
  intro hx
  rcases h4 with h4 | h4
  · exact h4 (List.length_eq_zero_iff.1 hx.2)
  · rw [h4] at hx; exact absurd hx.1 (by decide)
theorem con_at (s : PSt) (n : Int) (c : S44) (h0 : 0 ≤ c.f0) (h4 : c.f0 < 4) : lineP s ⟨n, conWords c⟩ = guardP 4 4 true true s ⟨n, conWords c⟩ (contactP s ⟨n, conWords c⟩ c.f0) := by
  unfold conWords
  rcases kind4 h0 h4 with h | h | h | h <;> rw [h] <;> rfl
theorem coil_at (s : PSt) (n : Int) (c : S47) (h0 : 0 ≤ c.f0) (h4 : c.f0 < 4) : lineP s ⟨n, coilWords c⟩ = guardP 2 2 true true s ⟨n, coilWords c⟩ (coilP s ⟨n, coilWords c⟩ c.f0) := by
  unfold coilWords
  rcases kind4 h0 h4 with h | h | h | h <;> rw [h] <;> rfl
theorem con_fwd {I Q M : Int} (hs : OkSize I Q M) (a : List SR) (lab e : ByteArray) (cs : List S44) (ls js : List Int) (n : Int) (c : S44) (he : e.size = 0) (hn : cs.length < 256) (h : ConOk I Q M c) :
    lineP ⟨I, Q, M, a ++ [⟨lab, cs, [], e⟩], true, ls, js⟩ ⟨n, conWords c⟩ = (0, ⟨I, Q, M, a ++ [⟨lab, cs ++ [c], [], e⟩], true, ls, js⟩) := by
  rw [con_at _ _ _ h.k0 h.k4, guard_in (by simp [conWords]) (by simp [conWords]) rfl true (.inl (by simp))]
  have e1 : addressP ⟨I, Q, M, a ++ [⟨lab, cs, [], e⟩], true, ls, js⟩ (fmtB c.f1.f0 c.f1.f1) = (c.f1.f0, c.f1.f1, 0) := address_fmt hs h.addr
  have w1 : wd ⟨n, conWords c⟩ 1 = fmtB c.f1.f0 c.f1.f1 := rfl
  have w2 : wd ⟨n, conWords c⟩ 2 = c.f2 := rfl
  have w3 : wd ⟨n, conWords c⟩ 3 = c.f3 := rfl
  have n2 : isName c.f2.data.toList = true := h.src
  have n3 : isName c.f3.data.toList = true := h.dst
  unfold contactP conAdd
  rw [w1, w2, w3, e1, n2, n3]
  show (if 0 < (lastR (a ++ [⟨lab, cs, [], e⟩])).f2.length then _ else _) = _
  rw [lastR_snoc, setR_snoc, if_neg (by show ¬ 0 < 0; decide), if_neg (by show ¬ 0 < e.size; omega), if_neg (by show ¬ cs.length = 256; omega), if_neg (by simp), if_neg (by decide), if_neg (by decide)]
theorem coil_fwd {I Q M : Int} (hs : OkSize I Q M) (a : List SR) (lab e : ByteArray) (cs : List S44) (qs : List S47) (ls js : List Int) (n : Int) (c : S47) (he : e.size = 0) (hn : qs.length < 16) (h : CoilOk I Q M c) :
    lineP ⟨I, Q, M, a ++ [⟨lab, cs, qs, e⟩], true, ls, js⟩ ⟨n, coilWords c⟩ = (0, ⟨I, Q, M, a ++ [⟨lab, cs, qs ++ [c], e⟩], true, ls, js⟩) := by
  rw [coil_at _ _ _ h.k0 h.k4, guard_in (by simp [coilWords]) (by simp [coilWords]) rfl true (.inl (by simp))]
  have e1 : addressP ⟨I, Q, M, a ++ [⟨lab, cs, qs, e⟩], true, ls, js⟩ (fmtB c.f1.f0 c.f1.f1) = (c.f1.f0, c.f1.f1, 0) := address_fmt hs h.addr
  have w1 : wd ⟨n, coilWords c⟩ 1 = fmtB c.f1.f0 c.f1.f1 := rfl
  unfold coilP coilAdd
  rw [w1, e1]
  show (if 0 < (lastR (a ++ [⟨lab, cs, qs, e⟩])).f3.size then _ else _) = _
  rw [lastR_snoc, setR_snoc, if_neg (by show ¬ 0 < e.size; omega), if_neg (by show ¬ qs.length = 16; omega), if_neg (by simp), if_neg (by exact h.out)]
theorem jump_fwd (I Q M : Int) (a : List SR) (lab e j : ByteArray) (cs : List S44) (qs : List S47) (ls js : List Int) (n : Int) (he : e.size = 0) (h : nameB j = true) :
    lineP ⟨I, Q, M, a ++ [⟨lab, cs, qs, e⟩], true, ls, js⟩ ⟨n, [wJump, j]⟩ = (0, ⟨I, Q, M, a ++ [⟨lab, cs, qs, j⟩], true, ls, js.set (js.length - 1) n⟩) := by
  have e0 : lineP ⟨I, Q, M, a ++ [⟨lab, cs, qs, e⟩], true, ls, js⟩ ⟨n, [wJump, j]⟩ = guardP 2 2 true true ⟨I, Q, M, a ++ [⟨lab, cs, qs, e⟩], true, ls, js⟩ ⟨n, [wJump, j]⟩ (jumpP ⟨I, Q, M, a ++ [⟨lab, cs, qs, e⟩], true, ls, js⟩ ⟨n, [wJump, j]⟩) := rfl
  have w1 : wd ⟨n, [wJump, j]⟩ 1 = j := rfl
  have n1 : isName j.data.toList = true := h
  rw [e0, guard_in (by simp) (by simp) rfl true (.inl (by simp))]
  unfold jumpP jumpAdd
  rw [w1, n1]
  show (if 0 < (lastR (a ++ [⟨lab, cs, qs, e⟩])).f3.size then _ else _) = _
  rw [lastR_snoc, setR_snoc, if_neg (by show ¬ 0 < e.size; omega), if_neg (by decide)]
theorem begin_fwd (I Q M : Int) (a : List SR) (lab : ByteArray) (ls js : List Int) (n : Int) (hn : a.length < 64) (h : lab.size = 0 ∨ nameB lab = true ∧ hasLabel a lab = false) :
    lineP ⟨I, Q, M, a, true, ls, js⟩ ⟨n, if lab.size = 0 then [wRung] else [wRung, lab]⟩ = (0, ⟨I, Q, M, a ++ [⟨lab, [], [], ⟨#[]⟩⟩], true, ls ++ [n], js ++ [0]⟩) := by
  by_cases h0 : lab.size = 0
  · rw [if_pos h0]
    have e0 : lineP ⟨I, Q, M, a, true, ls, js⟩ ⟨n, [wRung]⟩ = guardP 1 2 true false ⟨I, Q, M, a, true, ls, js⟩ ⟨n, [wRung]⟩ (beginP ⟨I, Q, M, a, true, ls, js⟩ ⟨n, [wRung]⟩) := rfl
    rw [e0, guard_in (by simp) (by simp) rfl false (.inr rfl)]
    unfold beginP
    rw [if_neg (by show ¬ 1 < 1; decide), if_neg (by show ¬ a.length = 64; omega), bsize_nil h0]
    rfl
  · rw [if_neg h0]
    obtain ⟨h1, h2⟩ := h.resolve_left h0
    have e0 : lineP ⟨I, Q, M, a, true, ls, js⟩ ⟨n, [wRung, lab]⟩ = guardP 1 2 true false ⟨I, Q, M, a, true, ls, js⟩ ⟨n, [wRung, lab]⟩ (beginP ⟨I, Q, M, a, true, ls, js⟩ ⟨n, [wRung, lab]⟩) := rfl
    have w1 : wd ⟨n, [wRung, lab]⟩ 1 = lab := rfl
    have n1 : isName lab.data.toList = true := h1
    rw [e0, guard_in (by simp) (by simp) rfl false (.inr rfl)]
    unfold beginP
    rw [w1, n1, if_pos (by show 1 < 2; decide), if_neg (by decide), if_neg (by show ¬ hasLabel a lab = true; rw [h2]; decide), if_neg (by show ¬ a.length = 64; omega)]
    rfl
theorem runP_go {s s' : PSt} {l : LN} {r : List LN} (h : lineP s l = (0, s')) : runP s (l :: r) = runP s' r := by rw [runP, h, if_pos rfl]
theorem cons_fwd {I Q M : Int} (hs : OkSize I Q M) (a : List SR) (lab e : ByteArray) (he : e.size = 0) (ls js : List Int) (rest : List LN) : ∀ (l cs : List S44) (n : Int), cs.length + l.length ≤ 256 → (∀ c ∈ l, ConOk I Q M c) →
    runP ⟨I, Q, M, a ++ [⟨lab, cs, [], e⟩], true, ls, js⟩ (numL n (l.map conWords) ++ rest) = runP ⟨I, Q, M, a ++ [⟨lab, cs ++ l, [], e⟩], true, ls, js⟩ rest := by
  intro l
  induction l with
  | nil => intro cs n _ _; rw [List.append_nil]; rfl
  | cons c t ih =>
    intro cs n hl hc
    rw [List.length_cons] at hl
    rw [List.map_cons, numL, List.cons_append, runP_go (con_fwd hs a lab e cs ls js _ c he (by omega) (hc c (by simp))), ih _ _ (by rw [List.length_append, List.length_singleton]; omega) (fun x hx => hc x (by simp [hx]))]
    rw [List.append_assoc]
    rfl
theorem coils_fwd {I Q M : Int} (hs : OkSize I Q M) (a : List SR) (lab e : ByteArray) (cs : List S44) (he : e.size = 0) (ls js : List Int) (rest : List LN) : ∀ (l qs : List S47) (n : Int), qs.length + l.length ≤ 16 → (∀ c ∈ l, CoilOk I Q M c) →
    runP ⟨I, Q, M, a ++ [⟨lab, cs, qs, e⟩], true, ls, js⟩ (numL n (l.map coilWords) ++ rest) = runP ⟨I, Q, M, a ++ [⟨lab, cs, qs ++ l, e⟩], true, ls, js⟩ rest := by
  intro l
  induction l with
  | nil => intro qs n _ _; rw [List.append_nil]; rfl
  | cons c t ih =>
    intro qs n hl hc
    rw [List.length_cons] at hl
    rw [List.map_cons, numL, List.cons_append, runP_go (coil_fwd hs a lab e cs qs ls js _ c he (by omega) (hc c (by simp))), ih _ _ (by rw [List.length_append, List.length_singleton]; omega) (fun x hx => hc x (by simp [hx]))]
    rw [List.append_assoc]
    rfl
theorem label_new {I Q M : Int} {a : List SR} {r : SR} (h : rungP I Q M a r = 0) : r.f0.size = 0 ∨ nameB r.f0 = true ∧ hasLabel a r.f0 = false := by
  unfold rungP at h
  by_cases h0 : r.f0.toList = ([] : List UInt8)
  · exact .inl (nil_len h0)
  · rw [if_neg h0] at h
    by_cases h1 : nameB r.f0 = true
    · rw [if_pos h1] at h
      by_cases h2 : hasLabel a r.f0 = true
      · rw [if_pos h2] at h; exact absurd h (by decide)
      · exact .inr ⟨h1, by simpa using h2⟩
    · rw [if_neg h1] at h; exact absurd h (by decide)
theorem rung_fwd {I Q M : Int} (hs : OkSize I Q M) (a : List SR) (r : SR) (ls js : List Int) (n : Int) (hn : a.length < 64) (h : rungP I Q M a r = 0) :
    ∃ js' : List Int, ∀ rest, runP ⟨I, Q, M, a, true, ls, js⟩ (numL n (rungLn r) ++ rest) = runP ⟨I, Q, M, a ++ [r], true, ls ++ [n + 1], js'⟩ rest := by
  have hr := rungP_ok h
  have h1 := begin_fwd I Q M a r.f0 ls js (n + 1) hn (label_new h)
  by_cases h0 : r.f3.size = 0
  · refine ⟨js ++ [0], fun rest => ?_⟩
    unfold rungLn
    rw [if_pos h0, List.append_nil, numL, List.cons_append, runP_go h1, numL_append, List.append_assoc, cons_fwd hs a r.f0 ⟨#[]⟩ rfl _ _ _ r.f1 [] _ (by have := hr.cons; simpa using this) hr.con,
      coils_fwd hs a r.f0 ⟨#[]⟩ _ rfl _ _ _ r.f2 [] _ (by have := hr.coils; simpa using this) hr.coil, List.nil_append, List.nil_append]
    have : r = ⟨r.f0, r.f1, r.f2, ⟨#[]⟩⟩ := by rw [← bsize_nil h0]
    rw [← this]
  · refine ⟨(js ++ [0]).set ((js ++ [0]).length - 1) (n + 1 + (r.f1.map conWords).length + (r.f2.map coilWords).length + 1), fun rest => ?_⟩
    unfold rungLn
    rw [if_neg h0, numL, List.cons_append, runP_go h1, numL_append, List.append_assoc, cons_fwd hs a r.f0 ⟨#[]⟩ rfl _ _ _ r.f1 [] _ (by have := hr.cons; simpa using this) hr.con,
      numL_append, List.append_assoc, coils_fwd hs a r.f0 ⟨#[]⟩ _ rfl _ _ _ r.f2 [] _ (by have := hr.coils; simpa using this) hr.coil, List.nil_append, List.nil_append, numL, List.cons_append,
      runP_go (jump_fwd I Q M a r.f0 ⟨#[]⟩ r.f3 r.f1 r.f2 _ _ _ rfl (some_name hr.jump h0))]
    rfl
theorem rungs_fwd {I Q M : Int} (hs : OkSize I Q M) : ∀ (l a : List SR) (i : Nat) (ls js : List Int) (n : Int), a.length + l.length ≤ 64 → scanR I Q M a l i = none →
    ∃ ls' js' : List Int, ls'.length = ls.length + l.length ∧ runP ⟨I, Q, M, a, true, ls, js⟩ (numL n (l.map rungLn).flatten) = (0, 0, ⟨I, Q, M, a ++ l, true, ls', js'⟩) := by
  intro l
  induction l with
  | nil => intro a i ls js n _ _; exact ⟨ls, js, rfl, by rw [List.append_nil]; rfl⟩
  | cons r t ih =>
    intro a i ls js n hl h
    rw [List.length_cons] at hl
    rw [scanR] at h
    by_cases h1 : rungP I Q M a r = 0
    · rw [if_pos h1] at h
      obtain ⟨js1, hj⟩ := rung_fwd hs a r ls js n (by omega) h1
      obtain ⟨ls', js', h2, h3⟩ := ih (a ++ [r]) (i + 1) (ls ++ [n + 1]) js1 (n + ((rungLn r).length : Int)) (by rw [List.length_append, List.length_singleton]; omega) h
      refine ⟨ls', js', ?_, ?_⟩
      · rw [h2, List.length_append, List.length_singleton, List.length_cons]; omega
      · rw [List.map_cons, List.flatten_cons, numL_append, hj, h3, List.append_assoc]
        rfl
    · rw [if_neg h1] at h; cases h
theorem scanJ_bad : ∀ (l : List SR) (i : Nat), scanJ l i = none → badJ l = none := by
  intro l
  induction l with
  | nil => intro i _; rfl
  | cons r t ih =>
    intro i h
    rw [scanJ] at h
    rw [badJ]
    split at h
    · rename_i h0
      rw [if_neg (by rw [nil_len h0]; simp), ih _ h]
      rfl
    · split at h
      · rename_i h0 h1
        rw [if_neg (by rw [h1]; simp), ih _ h]
        rfl
      · cases h
theorem number_itoa {n : Int} (h : 0 ≤ n ∧ n ≤ 256) : number (itoaB n).data.toList 256 = (n, 0) := by
  rw [itoaB_eq n h.1, mkB_data]
  unfold number
  rw [if_neg (by decide), if_pos (isNum_digits _), (decDigits_spec _).1, Int.toNat_of_nonneg h.1, if_pos h.2]
theorem size_fwd {I Q M : Int} (hs : OkSize I Q M) (n : Int) : lineP P.s0 ⟨n, [wSize, itoaB I, itoaB Q, itoaB M]⟩ = (0, ⟨I, Q, M, [], true, [], []⟩) := by
  have e0 : lineP P.s0 ⟨n, [wSize, itoaB I, itoaB Q, itoaB M]⟩ = sizeP P.s0 ⟨n, [wSize, itoaB I, itoaB Q, itoaB M]⟩ := rfl
  have w1 : wd ⟨n, [wSize, itoaB I, itoaB Q, itoaB M]⟩ 1 = itoaB I := rfl
  have w2 : wd ⟨n, [wSize, itoaB I, itoaB Q, itoaB M]⟩ 2 = itoaB Q := rfl
  have w3 : wd ⟨n, [wSize, itoaB I, itoaB Q, itoaB M]⟩ 3 = itoaB M := rfl
  obtain ⟨a, b, c⟩ := hs
  rw [e0]
  unfold sizeP
  rw [w1, w2, w3, number_itoa a, number_itoa b, number_itoa c, if_neg (by decide), if_neg (fun h => h rfl), if_neg (fun h => h rfl), if_neg (fun h => h rfl)]
  rfl
/-- The printed text of a ladder, parsed. -/
theorem round_law {I Q M : Int} {l : List SR} (h : (checkP I Q M l).2 = 0) (hl : (ladderT I Q M l).length ≤ 65536) :
    ∃ ls : List Int, ls.length = l.length ∧ parseT (ladderT I Q M l) = (I, Q, M, l, ls, 0, 0) := by
  obtain ⟨hs, h64, hR, hJ, _⟩ := check_ok h
  have hr := check_rungs h
  rw [ladder_text hs hr] at hl ⊢
  rw [parse_lines _ (ladder_L hs hr) hl]
  obtain ⟨ls, js, h1, h2⟩ := rungs_fwd hs l [] 0 [] [] (0 + 1) (by simpa using h64) hR
  refine ⟨ls, by simpa using h1, ?_⟩
  have e : runP P.s0 (numL 0 (ladderLn I Q M l)) = (0, 0, ⟨I, Q, M, l, true, ls, js⟩) := by
    unfold ladderLn
    rw [numL, runP_go (size_fwd hs _), h2]
    rfl
  unfold parseL
  rw [e, if_pos rfl]
  unfold endP
  rw [if_neg (by show ¬ true = false; decide)]
  show (match badJ l with | some i => _ | none => _) = _
  rw [scanJ_bad l 0 hJ]
end Go.Proofs.YtdbjjbooalkkbaaDoor.P

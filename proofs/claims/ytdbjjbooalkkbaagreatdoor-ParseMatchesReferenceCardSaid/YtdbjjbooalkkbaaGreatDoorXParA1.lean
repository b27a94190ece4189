/- parse.Parse: the walk. -/
import Derived.Test.YtdbjjbooalkkbaaGreatDoorXParA0
set_option linter.unusedVariables false
set_option linter.unusedSimpArgs false
namespace Go.Proofs.YtdbjjbooalkkbaaGreatDoor.P
open Go.RowKit Go.Shelf Go.Proofs.YtdbjjbooalkkbaaGreatDoorW.PrintWords Go.Proofs.YtdbjjbooalkkbaaGreatDoorW.PrintLast Go.Proofs.YtdbjjbooalkkbaaGreatDoorW.PrintMore

theorem own_nil : (Value.slice none 0 0).ownBlock = none := rfl
theorem Stage.start (w : World) : Stage w.heap.size w.heap.size 57 (pc P.s0 (.slice none 0 0) (.slice none 0 0) (.slice none 0 0)) (w.alloc (.cells (pc P.s0 (.slice none 0 0) (.slice none 0 0) (.slice none 0 0)) 57)) (.slice none 0 0) P.s0.rungs (.slice none 0 0) P.s0.lines (.slice none 0 0) P.s0.jumps [] (w.alloc (.cells (pc P.s0 (.slice none 0 0) (.slice none 0 0) (.slice none 0 0)) 57)) :=
  ⟨Bx.new w _ _, Nat.le_refl _, by decide, Did.refl _ _ _, S_nil _ _, Kd.R_nil _ _ _ _ _, Kd.R_nil _ _ _ _ _, fun k hk _ => (nomatch (own_nil.symm.trans hk)), fun p hp => absurd hp List.not_mem_nil⟩
theorem dropA_at {ls : List LN} {k : Nat} (h : k < ls.length) : ls.drop k = rd_T61 ls (k : Int) :: ls.drop (k + 1) := by
  unfold rd_T61
  rw [List.drop_eq_getElem_cons h, List.getD_eq_getElem?_getD, Int.toNat_natCast, List.getElem?_eq_getElem h]
  rfl
theorem rd_mem {ls : List LN} {k : Nat} (h : k < ls.length) : rd_T61 ls (k : Int) ∈ ls := by
  unfold rd_T61
  rw [List.getD_eq_getElem?_getD, Int.toNat_natCast, List.getElem?_eq_getElem h]
  exact List.getElem_mem h
theorem dropR_at {ls : List SR} {k : Nat} (h : k < ls.length) : ls.drop k = rd_T47 ls (k : Int) :: ls.drop (k + 1) := by
  unfold rd_T47
  rw [List.drop_eq_getElem_cons h, List.getD_eq_getElem?_getD, Int.toNat_natCast, List.getElem?_eq_getElem h]
  rfl
theorem map_succ (o : Option Nat) (k : Nat) : (o.map (· + 1)).map (· + k) = o.map (· + (k + 1)) := by
  cases o with
  | none => rfl
  | some x => simp only [Option.map_some]; congr 1; omega
theorem meas_succ {n k : Nat} (h : k < n) : n - (intOf (.int .i64 ((k + 1 : Nat) : Int))).toNat < n - (intOf (.int .i64 (k : Int))).toNat := by
  simp only [intOf, Int.toNat_natCast]
  omega
theorem slice_run (ad : Addr) (n cap k : Nat) (h : k + 1 ≤ n) (hm : n ≤ 9223372036854775807) (W : World) :
    (Instr.slice 23 (.slice (some ad) n cap) (some (.int .i64 (wrap64 ((k : Int) + 1)))) none none).run Tryz.prog W = .ok (.slice (if cap = k + 1 then some ad else some (ad.add ((k + 1) * 4))) (n - (k + 1)) (cap - (k + 1))) W := by
  have hw : wrap64 ((k : Int) + 1) = ((k + 1 : Nat) : Int) := by unfold wrap64; omega
  obtain ⟨x, hx, hs⟩ := Option.map_eq_some_iff.1 infoR
  simp only [Prod.mk.injEq] at hs
  have hb : (Instr.sliceBound (.int .i64 ((k + 1 : Nat) : Int)) n .sliceB).run Tryz.prog W = .ok (k + 1) W := by
    rw [run_sliceBound W .i64 _ n _ (by omega) (by omega)]
    rfl
  rw [hw]
  generalize ((k + 1 : Nat) : Int) = z at hb
  simp [Instr.slice, run_underlying undR, Instr.sliceBounds, hb, sizeOf, typeInfo, hx, hs.2.1, Result.andThen]
theorem Stage.jump_at {B b t : Nat} {cs : Array Value} {w0 w : World} {vR vL vJ : Value} {xs : List SR} {ls js : List Int} {lits : List (Nat × Nat × Array Value)} (h : Stage B b t cs w0 vR xs vL ls vJ js lits w) {i : Nat} (hi : i < js.length) :
    ∃ g cap, vJ = .slice (some ⟨g, 0, none⟩) js.length cap ∧ B ≤ g ∧ w.cell? ⟨g, i, none⟩ = some (.int .i64 (js.getD i 0)) := by
  obtain ⟨g, cap, rfl, hg, _⟩ := Kd.R_form h.J (by omega)
  obtain ⟨c, hcl, hM, hcc, _⟩ := Kd.R_elem h.J 0 (i : Int) (by omega) (by omega)
  rw [Int.toNat_natCast] at hM hcc
  have hM : c = [Value.int .i64 (js.getD i 0)] := hM
  subst hM
  have h1 := hcc 0 _ rfl
  have e : i * kI.sz + 0 = i := by show i * 1 + 0 = i; omega
  rw [e] at h1
  exact ⟨g, cap, rfl, hg, h1⟩
theorem S_four {g B : Nat} {cs : Array Value} {W : World} {v : Value} {xs : List SR} (h : Kd.S kR 47 W B (fun _ => True) v xs) (hb : Bx g 25 cs W) (a b c d : Value) :
    Kd.S kR 47 ((((W.setCell ⟨g, 0, none⟩ a).setCell ⟨g, 1, none⟩ b).setCell ⟨g, 2, none⟩ c).setCell ⟨g, 3, none⟩ d) B (fun _ => True) v xs :=
  Kd.S_set (Kd.S_set (Kd.S_set (Kd.S_set h hb.out (neR (by decide)) 0 a) (hb.put 0 a).out (neR (by decide)) 1 b) ((hb.put 0 a).put 1 b).out (neR (by decide)) 2 c) (((hb.put 0 a).put 1 b).put 2 c).out (neR (by decide)) 3 d
theorem R_four {g B : Nat} {cs : Array Value} {W : World} {v : Value} {xs : List Int} (h : kI.R 3 W B (fun _ => True) v xs) (hb : Bx g 25 cs W) (a b c d : Value) :
    kI.R 3 ((((W.setCell ⟨g, 0, none⟩ a).setCell ⟨g, 1, none⟩ b).setCell ⟨g, 2, none⟩ c).setCell ⟨g, 3, none⟩ d) B (fun _ => True) v xs :=
  Kd.R_set (Kd.R_set (Kd.R_set (Kd.R_set h hb.out (neI' (by decide)) 0 a) (hb.put 0 a).out (neI' (by decide)) 1 b) ((hb.put 0 a).put 1 b).out (neI' (by decide)) 2 c) (((hb.put 0 a).put 1 b).put 2 c).out (neI' (by decide)) 3 d
theorem size_alloc (w : World) (o : Obj) : (w.alloc o).heap.size = w.heap.size + 1 := by unfold World.alloc; exact Array.size_push _
theorem Bx.low {g t B : Nat} {cs : Array Value} {w w' : World} (h : Bx g t cs w) (hb : Below B w w') (hg : g < B) : Bx g t cs w' := ⟨(hb.block g hg).trans h.out⟩
theorem far4 {g : Nat} {p : Addr} {W : World} {v : Value} (hp : g ≠ p.block) (h : W.cell? p = some v) (a b c d : Value) :
    ((((W.setCell ⟨g, 0, none⟩ a).setCell ⟨g, 1, none⟩ b).setCell ⟨g, 2, none⟩ c).setCell ⟨g, 3, none⟩ d).cell? p = some v :=
  (World.cell?_setCell_far _ _ _ _ hp).trans ((World.cell?_setCell_far _ _ _ _ hp).trans ((World.cell?_setCell_far _ _ _ _ hp).trans ((World.cell?_setCell_far _ _ _ _ hp).trans h)))
set_option maxRecDepth 100000 in
set_option maxHeartbeats 8000000 in
theorem parse_main (t : ByteArray) (n : Int) (ls : List LN) (hws : ∀ l ∈ ls, 0 < l.f1.length ∧ ∀ x ∈ l.f1, x.size ≤ 65536) (w : World) (hL : Aside0 (LaidW 47 w)) (h : lex_Lines.f t = some (ls, n, 0)) :
    Calls Tryz.prog 6 #[.string t] w (PRet w.heap.size (parseL ls) w) := by
  have hC := Lib.hid (fun (W : World) (hb : Below w.heap.size w W) => lex_Lines.calls t ls n 0 W (LaidW.below hL rfl hb) h)
  have HL := Lib.hid hL
  have HW := Lib.hid hws
  clear h hL hws
  go_enter Tryz.func6, Tryz.ntmps6
  go_wp2_with (first
    | (go_at_call 20; (with_reducible refine (hC.out _ (below_alloc (Below.refl _ _) _)).mono ?_); rintro e1 w1 ⟨v0, rfl, hS, hb⟩; obtain ⟨A, c, rfl, hlc, hCC⟩ := Kd.S_reads hS; have HC := Lib.hid hCC; have HX := Lib.hid ((Bx.new w 25 #[.int .i64 0, .int .i64 0, .int .i64 0, .slice none 0 0]).on hb); have HB := Lib.hid (below_step (below_alloc (Below.refl w.heap.size w) (.cells #[.int .i64 0, .int .i64 0, .int .i64 0, .slice none 0 0] 25)) hb); clear hb hCC hS)
    | (go_at_call 21; (with_reducible refine (words_walk _ _ ?_).mono ?_)))
  · exact (LaidW.below (m' := 32) HL.out rfl (below_alloc HB.out _)).out.key rfl
  rintro e3 w3 ⟨rm, rfl, hM, hrm, hb⟩
  have HSt := Lib.hid ((Stage.start w1).on hb).since
  have HM := Lib.hid hM
  have HB3 := Lib.hid (below_step (below_alloc (Below.refl w1.heap.size w1) _) hb)
  have HR := Lib.hid hrm
  clear hM hrm hb
  go_wp2
  go_loopw [33] (fun i wr => ∃ (k : Nat) (s : PSt) (vR vL vJ : Value), k ≤ ls.length ∧ i = .int .i64 k ∧ Hid (runP P.s0 ls = runP s (ls.drop k)) ∧ Hid (POk s) ∧ Hid (Stage w1.heap.size w1.heap.size 57 (pc s vR vL vJ) w3 vR s.rungs vL s.lines vJ s.jumps [] wr)) (fun i _ => ls.length - (intOf i).toNat)
  case atStart => exact ⟨0, P.s0, _, _, _, Nat.zero_le _, rfl, Lib.hid rfl, Lib.hid POk.s0, HSt⟩
  case round =>
    obtain ⟨k, s, vR, vL, vJ, hk, rfl, HRun, HOk, HS⟩ := hrel
    clear HSt
    have hmax := HC.out.2.1
    have HBr := Lib.hid (HB3.out.trans HS.out.did.below)
    have HMr := Lib.hid (Mp.mk (HS.out.did.kept rm _ HM.out.out (by have := HR.out; rw [size_alloc] at this; omega) (fun cs t r e => by cases e)))
    by_cases hlt : k < ls.length
    · obtain ⟨ad, A1, cp, rfl, h0, h1, hl1, hCw⟩ := at_T61 HC.out (k : Int) (by omega) (by omega)
      have hdrop := dropA_at hlt
      have hmem := rd_mem hlt
      rw [Int.toNat_natCast] at h0 h1
      replace h0 := pw_cell_below HBr.out h0
      replace h1 := pw_cell_below HBr.out h1
      generalize rd_T61 ls (k : Int) = l at h0 h1 hl1 hCw hdrop hmem
      obtain ⟨hn0, hz⟩ := HW.out l hmem
      have hlow : ∀ wb wo, A1 = some ⟨wb, wo, none⟩ → wb < w1.heap.size := by
        obtain ⟨wb, wo, e1, hw⟩ := words_at hCw hn0
        intro wb' wo' e2
        rw [e1] at e2
        injection e2 with e2
        injection e2 with e2 _ _
        subst e2
        exact World.block_lt_of_cell? _ _ (hw 0 hn0)
      have HLn := Lib.hid (fun (W : World) (hb : Below wr.heap.size wr W) => line_walk (B := w1.heap.size) (b := w1.heap.size) s l A1 cp rm vR vL vJ W (HS.out.on hb).since HOk.out (HMr.out.on hb) (Kd.C_below hCw (HBr.out.trans (hb.mono HBr.out.size))) hn0 hz hlow
        (fun W' hb' => LaidW.below HL.out rfl (HB.out.trans (((HBr.out.trans (hb.mono HBr.out.size)).trans hb').mono HB.out.size)))
        (fun W' hb' => LaidW.below HL.out rfl (HB.out.trans (((HBr.out.trans (hb.mono HBr.out.size)).trans hb').mono HB.out.size))))
      have hrun : runP P.s0 ls = if (lineP s l).1 = 0 then runP (lineP s l).2 (ls.drop (k + 1)) else (l.f0, (lineP s l).1, s) := by
        rw [HRun.out, hdrop, runP]
      have hok : (lineP s l).1 = 0 → POk (lineP s l).2 := HOk.out.lineP
      have hwr : wrap64 ((k : Int) + 1) = ((k + 1 : Nat) : Int) := by unfold wrap64; omega
      generalize lineP s l = q at HLn hrun hok
      have HQ := Lib.hid (And.intro hrun hok)
      have HD := Lib.hid HS.out.did
      have hblt := HS.out.bx.lt
      have hqk : decide ((k : Int) < (ls.length : Int)) = true := decide_eq_true (by omega)
      clear hrun hok hdrop hmem hz hlow hCw HOk HS HMr HRun
      by_cases hq : q.1 = 0
      · have hq' : (q.1 != 0) = false := by rw [hq]; rfl
        go_wp2_with (go_at_call 22; (with_reducible refine (HLn.out _ (below_alloc (Below.refl _ _) _)).mono ?_); rintro e4 w4 ⟨rfl, hd, hp⟩)
        obtain ⟨vR', vL', vJ', S4⟩ := hp hq
        refine ⟨⟨k + 1, q.2, vR', vL', vJ', by omega, by rw [Int.natCast_add]; rfl, Lib.hid (HQ.out.1.trans (if_pos hq)), Lib.hid (HQ.out.2 hq), Lib.hid (S4.from (HD.out.on (below_alloc (Below.refl _ _) _) (Nat.le_of_lt hblt)))⟩, ?_⟩
        simp only [intOf]
        omega
      · have hq' : (q.1 != 0) = true := by rw [bne_iff_ne]; exact hq
        go_wp2_with (go_at_call 22; (with_reducible refine (HLn.out _ (below_alloc (Below.refl _ _) _)).mono ?_); rintro e4 w4 ⟨rfl, hd, hp⟩)
        have hr1 := HBr.out.size
        have hx1 := HX.out.lt
        have HB4 := Lib.hid ((HBr.out.trans ((below_alloc (Below.refl wr.heap.size wr) (.cells #[.int .i64 l.f0, .slice A1 l.f1.length cp] 61)).mono hr1)).trans hd.below)
        have LB4 := hd.bx (Bx.new wr 61 #[.int .i64 l.f0, .slice A1 l.f1.length cp]) (show wr.heap.size ≠ w1.heap.size by omega) rfl
        have hX4 := HX.out.low (HB4.out) hx1
        have hB4 := HB.out.trans (HB4.out.mono HB.out.size)
        have hgx : w.heap.size ≠ wr.heap.size := by omega
        have HPar := Lib.hid (show parseL ls = bad l.f0 q.1 by unfold parseL; rw [HQ.out.1, if_neg hq, if_neg hq]; rfl)
        clear h0 h1
        have SS : (fun w' => w'.cell? ⟨wr.heap.size, 0, none⟩ = some (.int .i64 l.f0)) w4.drew := LB4.drew.cell 0 _ rfl
        refine start_ (n := 8) (S := fun w' => w'.cell? ⟨wr.heap.size, 0, none⟩ = some (.int .i64 l.f0)) (ds := []) #[false, false, false, false, false, false, false, false] (by kernel_rfl) rfl rfl SS (fun hHeld => ?_)
        have hX := hX4.drew
        have hBE := below_drew1 hB4
        clear SS LB4 hX4 hB4
        generalize w4.drew = Ws at hHeld hX hBE ⊢
        refine pure_ (i := 0) (N := some 43) (v := ?_) (a' := ?_) #[true, false, false, false, false, false, false, false] rfl rfl (by kernel_rfl) (fun _ _ _ h => h) (Or.inl ⟨by rfl, ?_⟩) ?_ ?_
        rotate_left
        · intro w'; go_simp; try with_reducible rfl
        rotate_left
        · simp only [Act.put, List.setIfInBounds_toArray, List.set_cons_zero, List.set_cons_succ]; rfl
        refine pure_ (i := 1) (N := some 44) (v := ?_) (a' := ?_) #[true, true, false, false, false, false, false, false] rfl rfl (by kernel_rfl) (fun _ _ _ h => h) (Or.inl ⟨by rfl, ?_⟩) ?_ ?_
        rotate_left
        · intro w'; go_simp; try with_reducible rfl
        rotate_left
        · simp only [Act.put, List.setIfInBounds_toArray, List.set_cons_zero, List.set_cons_succ]; rfl
        refine take_ (i := 2) (N := some 45) (v := ?_) (a' := ?_) #[true, true, true, false, false, false, false, false] rfl rfl (by kernel_rfl) (fun _ _ _ h => h) (Or.inl ⟨by rfl, ?_⟩) hHeld ?_ ?_
        rotate_left
        · rintro w' s0; go_simp; try with_reducible rfl
        rotate_left
        · simp only [Act.put, List.setIfInBounds_toArray, List.set_cons_zero, List.set_cons_succ]; rfl
        refine pure_ (i := 3) (N := some 46) (v := ?_) (a' := ?_) #[true, true, true, true, false, false, false, false] rfl rfl (by kernel_rfl) (fun _ _ _ h => h) (Or.inl ⟨by rfl, ?_⟩) ?_ ?_
        rotate_left
        · intro w'; go_simp; try with_reducible rfl
        rotate_left
        · simp only [Act.put, List.setIfInBounds_toArray, List.set_cons_zero, List.set_cons_succ]; rfl
        refine one_ (i := 4) (N := none) #[true, true, true, true, true, false, false, false] rfl rfl (by kernel_rfl) (by decide) (fun K hK => ?_)
        have c0 := hX.cell 0 _ rfl
        have c1 := hX.cell 1 _ rfl
        have c2 := hX.cell 2 _ rfl
        have c3 := hX.cell 3 _ rfl
        have fz := hX.frozen
        go_simp
        refine hK.out _ _ (far4 hgx hHeld _ _ _ _) (fun hHeld => ?_)
        clear hK K
        refine norm_ (a' := ?_) ?_ ?_
        rotate_left
        · rfl
        refine pure_ (i := 5) (N := some 3) (v := ?_) (a' := ?_) #[true, true, true, true, true, true, false, false] rfl rfl (by kernel_rfl) (fun _ _ _ h => h) (Or.inl ⟨by rfl, ?_⟩) ?_ ?_
        rotate_left
        · intro w'; go_simp; try with_reducible rfl
        rotate_left
        · simp only [Act.put, List.setIfInBounds_toArray, List.set_cons_zero, List.set_cons_succ]; rfl
        refine pure_ (i := 6) (N := some 4) (v := ?_) (a' := ?_) #[true, true, true, true, true, true, true, false] rfl rfl (by kernel_rfl) (fun _ _ _ h => h) (Or.inl ⟨by rfl, ?_⟩) ?_ ?_
        rotate_left
        · intro w'; go_simp; try with_reducible rfl
        rotate_left
        · simp only [Act.put, List.setIfInBounds_toArray, List.set_cons_zero, List.set_cons_succ]; rfl
        refine pure_ (i := 7) (N := some 5) (v := ?_) (a' := ?_) #[true, true, true, true, true, true, true, true] rfl rfl (by kernel_rfl) (fun _ _ _ h => h) (Or.inl ⟨by rfl, ?_⟩) ?_ ?_
        rotate_left
        · intro w'; go_simp; try with_reducible rfl
        rotate_left
        · simp only [Act.put, List.setIfInBounds_toArray, List.set_cons_zero, List.set_cons_succ]; rfl
        refine done_ (by kernel_rfl) ?_
        go_wp2
        have hb4 := four_put hX rfl (.int .i64 0) (.int .i64 0) (.int .i64 0) (.slice none 0 0)
        have HB5 := Lib.hid (four_below hBE (Nat.le_refl _) (.int .i64 0) (.int .i64 0) (.int .i64 0) (.slice none 0 0))
        clear hX hHeld c0 c1 c2 c3 fz
        generalize ((((Ws.setCell ⟨w.heap.size, 0, none⟩ (.int .i64 0)).setCell ⟨w.heap.size, 1, none⟩ (.int .i64 0)).setCell ⟨w.heap.size, 2, none⟩ (.int .i64 0)).setCell ⟨w.heap.size, 3, none⟩ (.slice none 0 0)) = W4 at hb4 HB5 ⊢
        have c0 := hb4.cell 0 (.int .i64 0) rfl
        have c1 := hb4.cell 1 (.int .i64 0) rfl
        have c2 := hb4.cell 2 (.int .i64 0) rfl
        have c3 := hb4.cell 3 (.slice none 0 0) rfl
        refine bodyPost_ret (v := .tuple #[.agg #[.int .i64 0, .int .i64 0, .int .i64 0, .slice none 0 0], .slice none 0 0, .int .i64 l.f0, .int .i64 q.1]) (by simp [results, Tryz.results6, go_sem, c0, c1, c2, c3]) rfl ?_
        rw [HPar.out]
        exact PRet.nil l.f0 q.1 HB5.out
    · have hqk : decide ((k : Int) < (ls.length : Int)) = false := decide_eq_false (by omega)
      have hR0 : runP P.s0 ls = (0, 0, s) := by rw [HRun.out, List.drop_of_length_le (by omega)]; rfl
      have HPar : parseL ls = endP s := by unfold parseL; rw [hR0]; rfl
      have hx1 := HX.out.lt
      have hX4 := HX.out.low HBr.out hx1
      have hB4 := HB.out.trans (HBr.out.mono HB.out.size)
      have HJl : s.jumps.length = s.rungs.length := HOk.out.jumps
      obtain ⟨AR, cR, rfl, hlR, hCR⟩ := Kd.S_reads HS.out.R
      obtain ⟨AL, cL, rfl, hlL, hCL⟩ := Kd.R_reads HS.out.L
      obtain ⟨AJ, cJ, rfl, hlJ, hCJ⟩ := Kd.R_reads HS.out.J
      have p3 : wr.cell? ⟨w1.heap.size, 3, none⟩ = some (.slice AR s.rungs.length cR) := HS.out.bx.cell 3 _ rfl
      have p4 : wr.cell? ⟨w1.heap.size, 4, none⟩ = some (.bool s.sized) := HS.out.bx.cell 4 _ rfl
      have HCR := Lib.hid hCR
      clear hCR hCL hCJ HMr hR0 HRun hlJ hlL
      cases hsz : s.sized with
      | false =>
        rw [hsz] at p4
        have HPar := Lib.hid (show parseL ls = bad 0 5 by rw [HPar]; unfold endP; rw [if_pos hsz]; rfl)
        have c0 := hX4.cell 0 _ rfl
        have c1 := hX4.cell 1 _ rfl
        have c2 := hX4.cell 2 _ rfl
        have c3 := hX4.cell 3 _ rfl
        have fz := hX4.frozen
        go_wp2
        have hb4 := four_put hX4 rfl (.int .i64 0) (.int .i64 0) (.int .i64 0) (.slice none 0 0)
        have HB5 := Lib.hid (four_below hB4 (Nat.le_refl _) (.int .i64 0) (.int .i64 0) (.int .i64 0) (.slice none 0 0))
        clear hX4 c0 c1 c2 c3 fz
        generalize ((((wr.setCell ⟨w.heap.size, 0, none⟩ (.int .i64 0)).setCell ⟨w.heap.size, 1, none⟩ (.int .i64 0)).setCell ⟨w.heap.size, 2, none⟩ (.int .i64 0)).setCell ⟨w.heap.size, 3, none⟩ (.slice none 0 0)) = W4 at hb4 HB5 ⊢
        have c0 := hb4.cell 0 (.int .i64 0) rfl
        have c1 := hb4.cell 1 (.int .i64 0) rfl
        have c2 := hb4.cell 2 (.int .i64 0) rfl
        have c3 := hb4.cell 3 (.slice none 0 0) rfl
        refine bodyPost_ret (v := .tuple #[.agg #[.int .i64 0, .int .i64 0, .int .i64 0, .slice none 0 0], .slice none 0 0, .int .i64 0, .int .i64 5]) (by simp [results, Tryz.results6, go_sem, c0, c1, c2, c3]) rfl ?_
        rw [HPar.out]
        exact PRet.nil 0 5 HB5.out
      | true =>
        rw [hsz] at p4
        have HX4 := Lib.hid hX4
        have HB4 := Lib.hid hB4
        have HPar := Lib.hid HPar
        have hblt := HS.out.bx.lt
        have hbr := HBr.out.size
        clear hX4 hB4
        rename World => wq
        go_wp2
        go_loopw [60] (fun i W => ∃ k2 : Nat, k2 ≤ s.rungs.length ∧ i = .int .i64 k2 ∧ Hid (badJ s.rungs = (badJ (s.rungs.drop k2)).map (· + k2)) ∧ Hid (Below wq.heap.size wq W)) (fun i _ => s.rungs.length - (intOf i).toNat)
        case atStart => exact ⟨0, Nat.zero_le _, rfl, Lib.hid (by rw [List.drop_zero]; cases badJ s.rungs <;> rfl), Lib.hid (Below.refl _ _)⟩
        case round =>
          obtain ⟨k2, hk2, rfl, HBad, HBq⟩ := hrel
          have hmax2 := HCR.out.2.1
          by_cases hlt2 : k2 < s.rungs.length
          · obtain ⟨ad, A1, cp, A2, cp2, rfl, h0, h1, h2, h3, _⟩ := at_T47 HCR.out (k2 : Int) (by omega) (by omega)
            have hdrop := dropR_at hlt2
            rw [Int.toNat_natCast] at h0 h1 h2 h3
            replace h0 := pw_cell_below HBq.out h0
            replace h1 := pw_cell_below HBq.out h1
            replace h2 := pw_cell_below HBq.out h2
            replace h3 := pw_cell_below HBq.out h3
            have p3 := pw_cell_below HBq.out p3
            have hCd := Kd.C_drop HCR.out (m := k2 + 1) (by omega) hlR
            generalize rd_T47 s.rungs (k2 : Int) = r at h0 h1 h2 h3 hdrop
            have hqk2 : decide ((k2 : Int) < (s.rungs.length : Int)) = true := decide_eq_true (by omega)
            have hwr2 : wrap64 ((k2 : Int) + 1) = ((k2 + 1 : Nat) : Int) := by unfold wrap64; omega
            have hne : w1.heap.size ≠ wr.heap.size := by have := HBq.out.size; omega
            have p3 := pw_cell_below (below_alloc (Below.refl wr.heap.size wr) (.cells #[.string r.f0, .slice A1 r.f1.length cp, .slice A2 r.f2.length cp2, .string r.f3] 47)) p3
            have hv : Value.int .i64 (wrap64 ((k2 : Int) + 1)) = .int .i64 ((k2 + 1 : Nat) : Int) := by rw [hwr2]
            have hms := meas_succ hlt2
            rw [← hwr2] at hms
            have HV := Lib.hid (And.intro hv hms)
            have hsl : 0 ≤ (k2 : Int) + 1 ∧ (k2 : Int) + 1 ≤ (s.rungs.length : Int) := by clear hv hms hwr2; omega
            clear hv hms
            have HSl := Lib.hid (fun W => slice_run ad s.rungs.length cR k2 hlt2 hmax2 W)
            have HDr := Lib.hid hdrop
            have HCd := Lib.hid hCd
            clear hdrop hCd
            by_cases t1 : 0 < r.f3.size
            · have q1 := size_pos (Nat.ne_of_gt t1)
              have q2 := list_pos (Nat.ne_of_gt t1)
              have HCon : ∀ c', Calls Tryz.prog 23 #[.slice (if cR = k2 + 1 then some ad else some (ad.add ((k2 + 1) * 4))) (s.rungs.length - (k2 + 1)) c', .func (.func 24) #[] #[.pointer (some ⟨wr.heap.size, 0, none⟩)]] (wr.alloc (.cells #[.string r.f0, .slice A1 r.f1.length cp, .slice A2 r.f2.length cp2, .string r.f3] 47)) fun e w' => e = .returned (.bool (hasLabel (s.rungs.drop (k2 + 1)) r.f3)) ∧ Below (wr.alloc (.cells #[.string r.f0, .slice A1 r.f1.length cp, .slice A2 r.f2.length cp2, .string r.f3] 47)).heap.size (wr.alloc (.cells #[.string r.f0, .slice A1 r.f1.length cp, .slice A2 r.f2.length cp2, .string r.f3] 47)) w' := fun c' => by
                have h5 := has_parse (c := c') (Bx.new wr 47 #[.string r.f0, .slice A1 r.f1.length cp, .slice A2 r.f2.length cp2, .string r.f3]) (a := r.f3) rfl (Kd.C_below HCd.out (below_alloc HBq.out _))
                rw [List.length_drop] at h5
                exact h5
              have hS1 : ∀ W, (Instr.slice 23 (.slice (some ad) s.rungs.length cR) (some (.int .i64 (wrap64 ((k2 : Int) + 1)))) none none).run Tryz.prog W = .ok (.slice (if cR = k2 + 1 then some ad else some (ad.add ((k2 + 1) * 4))) (s.rungs.length - (k2 + 1)) (cR - (k2 + 1))) W := fun W => HSl.out W
              generalize (if cR = k2 + 1 then some ad else some (ad.add ((k2 + 1) * 4))) = AX at HCon hS1
              have HT := Lib.hid t1
              clear hwr2 hmax2 hmax hbr hsl t1
              generalize hh : hasLabel (s.rungs.drop (k2 + 1)) r.f3 = hb at HCon
              have HC2 := Lib.hid HCon
              clear HCon
              cases hb with
              | true =>
                have HN := Lib.hid (And.intro HV.out.1 (And.intro hlt2 (And.intro HV.out.2 (show badJ s.rungs = (badJ (s.rungs.drop (k2 + 1))).map (· + (k2 + 1)) by rw [HBad.out, HDr.out, badJ, if_neg (fun h => by rw [hh] at h; exact absurd h.2 (by decide))]; exact map_succ _ _))))
                have HBn := Lib.hid (below_alloc HBq.out (.cells #[.string r.f0, .slice A1 r.f1.length cp, .slice A2 r.f2.length cp2, .string r.f3] 47))
                go_wp2_with (go_at_call 23; (with_reducible refine (HC2.out _).mono ?_); rintro e5 w5 ⟨rfl, hb5⟩)
                exact ⟨⟨k2 + 1, HN.out.2.1, HN.out.1, Lib.hid HN.out.2.2.2, Lib.hid (below_step HBn.out hb5)⟩, HN.out.2.2.1⟩
              | false =>
                have HPar2 := Lib.hid (show parseL ls = bad (s.jumps.getD k2 0) 15 by rw [HPar.out]; unfold endP; rw [if_neg (by rw [hsz]; decide), HBad.out, HDr.out, badJ, if_pos ⟨HT.out, hh⟩]; simp only [Option.map_some]; rw [Nat.zero_add]; rfl)
                obtain ⟨gj, capj, eJ, hgj1, hjc⟩ := HS.out.jump_at (i := k2) (by rw [HJl]; exact hlt2)
                injection eJ with eJ _ eJ2
                subst eJ
                subst eJ2
                have p6 : wq.cell? ⟨w1.heap.size, 6, none⟩ = some (.slice (some ⟨gj, 0, none⟩) s.jumps.length cJ) := HS.out.bx.cell 6 _ rfl
                have HJC := Lib.hid (And.intro hjc p6)
                clear hjc p6
                go_wp2_with (go_at_call 23; (with_reducible refine (HC2.out _).mono ?_); rintro e5 w4 ⟨rfl, hb5⟩)
                have HBw := Lib.hid (below_step (below_alloc HBq.out (.cells #[.string r.f0, .slice A1 r.f1.length cp, .slice A2 r.f2.length cp2, .string r.f3] 47)) hb5)
                have hBE0 := HB4.out.trans (HBw.out.mono HB4.out.size)
                have hX4 := HX4.out.on HBw.out
                have hj1 := (HJC.out.2 |> pw_cell_below (below_drew1 HBw.out))
                have hj2 := (HJC.out.1 |> pw_cell_below (below_drew1 HBw.out))
                have hB4 := hBE0
                have hgx : w.heap.size ≠ w1.heap.size := by have := HB.out.size; have := HX.out.lt; omega
                have hgj : w.heap.size ≠ gj := by have := HX.out.lt; omega
                generalize s.jumps.getD k2 0 = jn at hj2 HPar2
                clear hb5 h0 h1 h2 h3 p3
                have SS : (fun w' => w'.cell? ⟨w1.heap.size, 6, none⟩ = some (.slice (some ⟨gj, 0, none⟩) s.jumps.length cJ) ∧ w'.cell? ⟨gj, k2, none⟩ = some (.int .i64 jn)) w4.drew := ⟨hj1, hj2⟩
                refine start_ (n := 12) (S := fun w' => w'.cell? ⟨w1.heap.size, 6, none⟩ = some (.slice (some ⟨gj, 0, none⟩) s.jumps.length cJ) ∧ w'.cell? ⟨gj, k2, none⟩ = some (.int .i64 jn)) (ds := []) #[false, false, false, false, false, false, false, false, false, false, false, false] (by kernel_rfl) rfl rfl SS (fun hHeld => ?_)
                have hX := hX4.drew
                have hBE := below_drew1 hB4
                clear SS hX4 hB4
                generalize w4.drew = Ws at hHeld hX hBE ⊢
                refine pure_ (i := 0) (N := some 81) (v := ?_) (a' := ?_) #[true, false, false, false, false, false, false, false, false, false, false, false] rfl rfl (by kernel_rfl) (fun _ _ _ h => h) (Or.inl ⟨by rfl, ?_⟩) ?_ ?_
                rotate_left
                · intro w'; go_simp; try with_reducible rfl
                rotate_left
                · simp only [Act.put, List.setIfInBounds_toArray, List.set_cons_zero, List.set_cons_succ]; rfl
                refine pure_ (i := 1) (N := some 82) (v := ?_) (a' := ?_) #[true, true, false, false, false, false, false, false, false, false, false, false] rfl rfl (by kernel_rfl) (fun _ _ _ h => h) (Or.inl ⟨by rfl, ?_⟩) ?_ ?_
                rotate_left
                · intro w'; go_simp; try with_reducible rfl
                rotate_left
                · simp only [Act.put, List.setIfInBounds_toArray, List.set_cons_zero, List.set_cons_succ]; rfl
                refine pure_ (i := 2) (N := some 83) (v := ?_) (a' := ?_) #[true, true, true, false, false, false, false, false, false, false, false, false] rfl rfl (by kernel_rfl) (fun _ _ _ h => h) (Or.inl ⟨by rfl, ?_⟩) ?_ ?_
                rotate_left
                · intro w'; go_simp; try with_reducible rfl
                rotate_left
                · simp only [Act.put, List.setIfInBounds_toArray, List.set_cons_zero, List.set_cons_succ]; rfl
                refine pure_ (i := 3) (N := some 84) (v := ?_) (a' := ?_) #[true, true, true, true, false, false, false, false, false, false, false, false] rfl rfl (by kernel_rfl) (fun _ _ _ h => h) (Or.inl ⟨by rfl, ?_⟩) ?_ ?_
                rotate_left
                · intro w'; go_simp; try with_reducible rfl
                rotate_left
                · simp only [Act.put, List.setIfInBounds_toArray, List.set_cons_zero, List.set_cons_succ]; rfl
                refine take_ (i := 4) (N := some 85) (v := ?_) (a' := ?_) #[true, true, true, true, true, false, false, false, false, false, false, false] rfl rfl (by kernel_rfl) (fun _ _ _ h => h) (Or.inl ⟨by rfl, ?_⟩) hHeld ?_ ?_
                rotate_left
                · rintro w' ⟨s0, s1⟩; go_simp; try with_reducible rfl
                rotate_left
                · simp only [Act.put, List.setIfInBounds_toArray, List.set_cons_zero, List.set_cons_succ]; rfl
                refine pure_ (i := 5) (N := some 86) (v := ?_) (a' := ?_) #[true, true, true, true, true, true, false, false, false, false, false, false] rfl rfl (by kernel_rfl) (fun _ _ _ h => h) (Or.inl ⟨by rfl, ?_⟩) ?_ ?_
                rotate_left
                · intro w'; go_simp; try with_reducible rfl
                rotate_left
                · simp only [Act.put, List.setIfInBounds_toArray, List.set_cons_zero, List.set_cons_succ]; rfl
                refine pure_ (i := 6) (N := some 87) (v := ?_) (a' := ?_) #[true, true, true, true, true, true, true, false, false, false, false, false] rfl rfl (by kernel_rfl) (fun _ _ _ h => h) (Or.inl ⟨by rfl, ?_⟩) ?_ ?_
                rotate_left
                · intro w'; go_simp; try with_reducible rfl
                rotate_left
                · simp only [Act.put, List.setIfInBounds_toArray, List.set_cons_zero, List.set_cons_succ]; rfl
                refine take_ (i := 7) (N := some 88) (v := ?_) (a' := ?_) #[true, true, true, true, true, true, true, true, false, false, false, false] rfl rfl (by kernel_rfl) (fun _ _ _ h => h) (Or.inl ⟨by rfl, ?_⟩) hHeld ?_ ?_
                rotate_left
                · rintro w' ⟨s0, s1⟩; go_simp; try with_reducible rfl
                rotate_left
                · simp only [Act.put, List.setIfInBounds_toArray, List.set_cons_zero, List.set_cons_succ]; rfl
                refine one_ (i := 8) (N := none) #[true, true, true, true, true, true, true, true, true, false, false, false] rfl rfl (by kernel_rfl) (by decide) (fun K hK => ?_)
                have c0 := hX.cell 0 _ rfl
                have c1 := hX.cell 1 _ rfl
                have c2 := hX.cell 2 _ rfl
                have c3 := hX.cell 3 _ rfl
                have fz := hX.frozen
                go_simp
                refine hK.out _ _ ⟨far4 hgx hHeld.1 _ _ _ _, far4 hgj hHeld.2 _ _ _ _⟩ (fun hHeld => ?_)
                clear hK K
                refine norm_ (a' := ?_) ?_ ?_
                rotate_left
                · rfl
                refine pure_ (i := 9) (N := some 3) (v := ?_) (a' := ?_) #[true, true, true, true, true, true, true, true, true, true, false, false] rfl rfl (by kernel_rfl) (fun _ _ _ h => h) (Or.inl ⟨by rfl, ?_⟩) ?_ ?_
                rotate_left
                · intro w'; go_simp; try with_reducible rfl
                rotate_left
                · simp only [Act.put, List.setIfInBounds_toArray, List.set_cons_zero, List.set_cons_succ]; rfl
                refine pure_ (i := 10) (N := some 4) (v := ?_) (a' := ?_) #[true, true, true, true, true, true, true, true, true, true, true, false] rfl rfl (by kernel_rfl) (fun _ _ _ h => h) (Or.inl ⟨by rfl, ?_⟩) ?_ ?_
                rotate_left
                · intro w'; go_simp; try with_reducible rfl
                rotate_left
                · simp only [Act.put, List.setIfInBounds_toArray, List.set_cons_zero, List.set_cons_succ]; rfl
                refine pure_ (i := 11) (N := some 5) (v := ?_) (a' := ?_) #[true, true, true, true, true, true, true, true, true, true, true, true] rfl rfl (by kernel_rfl) (fun _ _ _ h => h) (Or.inl ⟨by rfl, ?_⟩) ?_ ?_
                rotate_left
                · intro w'; go_simp; try with_reducible rfl
                rotate_left
                · simp only [Act.put, List.setIfInBounds_toArray, List.set_cons_zero, List.set_cons_succ]; rfl
                refine done_ (by kernel_rfl) ?_
                go_wp2
                have hb4 := four_put hX rfl (.int .i64 0) (.int .i64 0) (.int .i64 0) (.slice none 0 0)
                have HB5 := Lib.hid (four_below hBE (Nat.le_refl _) (.int .i64 0) (.int .i64 0) (.int .i64 0) (.slice none 0 0))
                clear hX hHeld c0 c1 c2 c3 fz
                generalize ((((Ws.setCell ⟨w.heap.size, 0, none⟩ (.int .i64 0)).setCell ⟨w.heap.size, 1, none⟩ (.int .i64 0)).setCell ⟨w.heap.size, 2, none⟩ (.int .i64 0)).setCell ⟨w.heap.size, 3, none⟩ (.slice none 0 0)) = W4 at hb4 HB5 ⊢
                have c0 := hb4.cell 0 (.int .i64 0) rfl
                have c1 := hb4.cell 1 (.int .i64 0) rfl
                have c2 := hb4.cell 2 (.int .i64 0) rfl
                have c3 := hb4.cell 3 (.slice none 0 0) rfl
                refine bodyPost_ret (v := .tuple #[.agg #[.int .i64 0, .int .i64 0, .int .i64 0, .slice none 0 0], .slice none 0 0, .int .i64 jn, .int .i64 15]) (by simp [results, Tryz.results6, go_sem, c0, c1, c2, c3]) rfl ?_
                rw [HPar2.out]
                exact PRet.nil jn 15 HB5.out
            · have q0 : r.f3.size = 0 := by clear hwr2; omega
              have q1 := eq_true (size_nil q0)
              have q2 := list_nil q0
              have HN := Lib.hid (And.intro HV.out.1 (And.intro hlt2 (And.intro HV.out.2 (show badJ s.rungs = (badJ (s.rungs.drop (k2 + 1))).map (· + (k2 + 1)) by rw [HBad.out, HDr.out, badJ, if_neg (fun h => absurd h.1 t1)]; exact map_succ _ _))))
              have HBn := Lib.hid (below_alloc HBq.out (.cells #[.string r.f0, .slice A1 r.f1.length cp, .slice A2 r.f2.length cp2, .string r.f3] 47))
              clear hwr2 hmax2 hmax hbr hsl
              go_wp2
              exact ⟨⟨k2 + 1, HN.out.2.1, HN.out.1, Lib.hid HN.out.2.2.2, HBn⟩, HN.out.2.2.1⟩
          · have hNone := Lib.hid (show parseL ls = (s.I, s.Q, s.M, s.rungs, s.lines, 0, 0) by rw [HPar.out]; unfold endP; rw [if_neg (by rw [hsz]; decide), HBad.out, List.drop_of_length_le (by omega)]; rfl)
            have HSd := Lib.hid (Kd.S_below HS.out.R (below_drew1 HBq.out))
            have HLd := Lib.hid (Kd.R_below HS.out.L (below_drew1 HBq.out))
            have hX4 := HX4.out.on HBq.out
            have hB4 := HB4.out.trans (HBq.out.mono HB4.out.size)
            have hgx : w.heap.size ≠ w1.heap.size := by have := HX.out.lt; omega
            have p0 : wq.cell? ⟨w1.heap.size, 0, none⟩ = some (.int .i64 s.I) := HS.out.bx.cell 0 _ rfl
            have p1 : wq.cell? ⟨w1.heap.size, 1, none⟩ = some (.int .i64 s.Q) := HS.out.bx.cell 1 _ rfl
            have p2 : wq.cell? ⟨w1.heap.size, 2, none⟩ = some (.int .i64 s.M) := HS.out.bx.cell 2 _ rfl
            have p5 : wq.cell? ⟨w1.heap.size, 5, none⟩ = some (.slice AL s.lines.length cL) := HS.out.bx.cell 5 _ rfl
            replace p0 := pw_cell_below (below_drew1 HBq.out) p0
            replace p1 := pw_cell_below (below_drew1 HBq.out) p1
            replace p2 := pw_cell_below (below_drew1 HBq.out) p2
            replace p3 := pw_cell_below (below_drew1 HBq.out) p3
            replace p5 := pw_cell_below (below_drew1 HBq.out) p5
            clear hmax hmax2 hbr
            go_wp2
            have SS : (fun w' => w'.cell? ⟨w1.heap.size, 0, none⟩ = some (.int .i64 s.I) ∧ w'.cell? ⟨w1.heap.size, 1, none⟩ = some (.int .i64 s.Q) ∧ w'.cell? ⟨w1.heap.size, 2, none⟩ = some (.int .i64 s.M) ∧ w'.cell? ⟨w1.heap.size, 3, none⟩ = some (.slice AR s.rungs.length cR) ∧ w'.cell? ⟨w1.heap.size, 5, none⟩ = some (.slice AL s.lines.length cL)) wr.drew := ⟨p0, p1, p2, p3, p5⟩
            refine start_ (n := 12) (S := fun w' => w'.cell? ⟨w1.heap.size, 0, none⟩ = some (.int .i64 s.I) ∧ w'.cell? ⟨w1.heap.size, 1, none⟩ = some (.int .i64 s.Q) ∧ w'.cell? ⟨w1.heap.size, 2, none⟩ = some (.int .i64 s.M) ∧ w'.cell? ⟨w1.heap.size, 3, none⟩ = some (.slice AR s.rungs.length cR) ∧ w'.cell? ⟨w1.heap.size, 5, none⟩ = some (.slice AL s.lines.length cL)) (ds := []) #[false, false, false, false, false, false, false, false, false, false, false, false] (by kernel_rfl) rfl rfl SS (fun hHeld => ?_)
            have hX := hX4.drew
            have hBE := below_drew1 hB4
            clear SS hX4 hB4
            generalize wr.drew = Ws at hHeld hX hBE HSd HLd ⊢
            refine pure_ (i := 0) (N := some 90) (v := ?_) (a' := ?_) #[true, false, false, false, false, false, false, false, false, false, false, false] rfl rfl (by kernel_rfl) (fun _ _ _ h => h) (Or.inl ⟨by rfl, ?_⟩) ?_ ?_
            rotate_left
            · intro w'; go_simp; try with_reducible rfl
            rotate_left
            · simp only [Act.put, List.setIfInBounds_toArray, List.set_cons_zero, List.set_cons_succ]; rfl
            refine pure_ (i := 1) (N := some 91) (v := ?_) (a' := ?_) #[true, true, false, false, false, false, false, false, false, false, false, false] rfl rfl (by kernel_rfl) (fun _ _ _ h => h) (Or.inl ⟨by rfl, ?_⟩) ?_ ?_
            rotate_left
            · intro w'; go_simp; try with_reducible rfl
            rotate_left
            · simp only [Act.put, List.setIfInBounds_toArray, List.set_cons_zero, List.set_cons_succ]; rfl
            refine pure_ (i := 2) (N := some 92) (v := ?_) (a' := ?_) #[true, true, true, false, false, false, false, false, false, false, false, false] rfl rfl (by kernel_rfl) (fun _ _ _ h => h) (Or.inl ⟨by rfl, ?_⟩) ?_ ?_
            rotate_left
            · intro w'; go_simp; try with_reducible rfl
            rotate_left
            · simp only [Act.put, List.setIfInBounds_toArray, List.set_cons_zero, List.set_cons_succ]; rfl
            refine take_ (i := 3) (N := some 93) (v := ?_) (a' := ?_) #[true, true, true, true, false, false, false, false, false, false, false, false] rfl rfl (by kernel_rfl) (fun _ _ _ h => h) (Or.inl ⟨by rfl, ?_⟩) hHeld ?_ ?_
            rotate_left
            · rintro w' ⟨s0, s1, s2, s3, s5⟩; go_simp; try with_reducible rfl
            rotate_left
            · simp only [Act.put, List.setIfInBounds_toArray, List.set_cons_zero, List.set_cons_succ]; rfl
            refine pure_ (i := 4) (N := some 94) (v := ?_) (a' := ?_) #[true, true, true, true, true, false, false, false, false, false, false, false] rfl rfl (by kernel_rfl) (fun _ _ _ h => h) (Or.inl ⟨by rfl, ?_⟩) ?_ ?_
            rotate_left
            · intro w'; go_simp; try with_reducible rfl
            rotate_left
            · simp only [Act.put, List.setIfInBounds_toArray, List.set_cons_zero, List.set_cons_succ]; rfl
            refine pure_ (i := 5) (N := some 95) (v := ?_) (a' := ?_) #[true, true, true, true, true, true, false, false, false, false, false, false] rfl rfl (by kernel_rfl) (fun _ _ _ h => h) (Or.inl ⟨by rfl, ?_⟩) ?_ ?_
            rotate_left
            · intro w'; go_simp; try with_reducible rfl
            rotate_left
            · simp only [Act.put, List.setIfInBounds_toArray, List.set_cons_zero, List.set_cons_succ]; rfl
            refine pure_ (i := 6) (N := some 96) (v := ?_) (a' := ?_) #[true, true, true, true, true, true, true, false, false, false, false, false] rfl rfl (by kernel_rfl) (fun _ _ _ h => h) (Or.inl ⟨by rfl, ?_⟩) ?_ ?_
            rotate_left
            · intro w'; go_simp; try with_reducible rfl
            rotate_left
            · simp only [Act.put, List.setIfInBounds_toArray, List.set_cons_zero, List.set_cons_succ]; rfl
            refine take_ (i := 7) (N := some 97) (v := ?_) (a' := ?_) #[true, true, true, true, true, true, true, true, false, false, false, false] rfl rfl (by kernel_rfl) (fun _ _ _ h => h) (Or.inl ⟨by rfl, ?_⟩) hHeld ?_ ?_
            rotate_left
            · rintro w' ⟨s0, s1, s2, s3, s5⟩; go_simp; try with_reducible rfl
            rotate_left
            · simp only [Act.put, List.setIfInBounds_toArray, List.set_cons_zero, List.set_cons_succ]; rfl
            refine one_ (i := 8) (N := none) #[true, true, true, true, true, true, true, true, true, false, false, false] rfl rfl (by kernel_rfl) (by decide) (fun K hK => ?_)
            have c0 := hX.cell 0 _ rfl
            have c1 := hX.cell 1 _ rfl
            have c2 := hX.cell 2 _ rfl
            have c3 := hX.cell 3 _ rfl
            have fz := hX.frozen
            go_simp
            refine hK.out _ _ ⟨far4 hgx hHeld.1 _ _ _ _, far4 hgx hHeld.2.1 _ _ _ _, far4 hgx hHeld.2.2.1 _ _ _ _, far4 hgx hHeld.2.2.2.1 _ _ _ _, far4 hgx hHeld.2.2.2.2 _ _ _ _⟩ (fun hHeld => ?_)
            clear hK K
            refine norm_ (a' := ?_) ?_ ?_
            rotate_left
            · rfl
            refine pure_ (i := 9) (N := some 3) (v := ?_) (a' := ?_) #[true, true, true, true, true, true, true, true, true, true, false, false] rfl rfl (by kernel_rfl) (fun _ _ _ h => h) (Or.inl ⟨by rfl, ?_⟩) ?_ ?_
            rotate_left
            · intro w'; go_simp; try with_reducible rfl
            rotate_left
            · simp only [Act.put, List.setIfInBounds_toArray, List.set_cons_zero, List.set_cons_succ]; rfl
            refine pure_ (i := 10) (N := some 4) (v := ?_) (a' := ?_) #[true, true, true, true, true, true, true, true, true, true, true, false] rfl rfl (by kernel_rfl) (fun _ _ _ h => h) (Or.inl ⟨by rfl, ?_⟩) ?_ ?_
            rotate_left
            · intro w'; go_simp; try with_reducible rfl
            rotate_left
            · simp only [Act.put, List.setIfInBounds_toArray, List.set_cons_zero, List.set_cons_succ]; rfl
            refine pure_ (i := 11) (N := some 5) (v := ?_) (a' := ?_) #[true, true, true, true, true, true, true, true, true, true, true, true] rfl rfl (by kernel_rfl) (fun _ _ _ h => h) (Or.inl ⟨by rfl, ?_⟩) ?_ ?_
            rotate_left
            · intro w'; go_simp; try with_reducible rfl
            rotate_left
            · simp only [Act.put, List.setIfInBounds_toArray, List.set_cons_zero, List.set_cons_succ]; rfl
            refine done_ (by kernel_rfl) ?_
            go_wp2
            have hb4 := four_put hX rfl (.int .i64 s.I) (.int .i64 s.Q) (.int .i64 s.M) (.slice AR s.rungs.length cR)
            have HB5 := Lib.hid (four_below hBE (Nat.le_refl _) (.int .i64 s.I) (.int .i64 s.Q) (.int .i64 s.M) (.slice AR s.rungs.length cR))
            have HS5 := Lib.hid (S_four HSd.out hX (.int .i64 s.I) (.int .i64 s.Q) (.int .i64 s.M) (.slice AR s.rungs.length cR))
            have HL5 := Lib.hid (R_four HLd.out hX (.int .i64 s.I) (.int .i64 s.Q) (.int .i64 s.M) (.slice AR s.rungs.length cR))
            clear hX hHeld c0 c1 c2 c3 fz HSd HLd
            generalize ((((Ws.setCell ⟨w.heap.size, 0, none⟩ (.int .i64 s.I)).setCell ⟨w.heap.size, 1, none⟩ (.int .i64 s.Q)).setCell ⟨w.heap.size, 2, none⟩ (.int .i64 s.M)).setCell ⟨w.heap.size, 3, none⟩ (.slice AR s.rungs.length cR)) = W4 at hb4 HB5 HS5 HL5 ⊢
            have c0 := hb4.cell 0 _ rfl
            have c1 := hb4.cell 1 _ rfl
            have c2 := hb4.cell 2 _ rfl
            have c3 := hb4.cell 3 _ rfl
            refine bodyPost_ret (v := .tuple #[.agg #[.int .i64 s.I, .int .i64 s.Q, .int .i64 s.M, .slice AR s.rungs.length cR], .slice AL s.lines.length cL, .int .i64 0, .int .i64 0]) (by simp [results, Tryz.results6, go_sem, c0, c1, c2, c3]) rfl ?_
            rw [hNone.out]
            exact ⟨_, _, rfl, Kd.S_lower HS5.out HB.out.size, Kd.R_lower HL5.out HB.out.size, HB5.out⟩
end Go.Proofs.YtdbjjbooalkkbaaGreatDoor.P

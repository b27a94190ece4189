/- ParseDeclaredSizes: the walk. -/
import Derived.Test.YtdbjjbooalkkbaaDoorXDMap
set_option linter.unusedVariables false
set_option linter.unusedSimpArgs false
namespace Go.Proofs.YtdbjjbooalkkbaaDoor.P
open Go.RowKit Go.Shelf Go.Proofs.YtdbjjbooalkkbaaDoorW.PrintWords Go.Proofs.YtdbjjbooalkkbaaDoorW.PrintLast Go.Proofs.YtdbjjbooalkkbaaDoorW.PrintMore

set_option maxRecDepth 100000 in
set_option maxHeartbeats 32000000 in
theorem ds_walk (x0 x1 x2 a1 : Int) (i q m k : Nat) (w : World) (hL : Aside0 (LaidW 63 w)) (hi : Int.tmod x0 300 = (i : Int)) (hq : Int.tmod x1 300 = (q : Int)) (hm : Int.tmod x2 300 = (m : Int)) (hk : Int.tmod a1 256 = (k : Int)) (hi3 : i < 300) (hq3 : q < 300) (hm3 : m < 300) (hk3 : k < 256) :
    Calls Tryd.prog 5 #[.agg #[.int .u16 x0, .int .u16 x1, .int .u16 x2], .int .u16 a1] w fun e w' => e = .returned (.bool true) ∧ Below w.heap.size w w' := by
  obtain ⟨mx, hmx⟩ : ∃ d : Int, (if (if (i : Int) < (q : Int) then (q : Int) else (i : Int)) < (m : Int) then (m : Int) else (if (i : Int) < (q : Int) then (q : Int) else (i : Int))) = d := ⟨_, rfl⟩
  have MR : ∀ (ats : Array TypeId) (ty : TypeId) (w : World), (Builtin.max_ ats ty #[.int .i64 (i : Int), .int .i64 (q : Int), .int .i64 (m : Int)]).run Tryd.prog w = .ok (.int .i64 mx) w := max_run _ _ _ _ hmx
  have hmb : mx ≤ 256 ↔ (i ≤ 256 ∧ q ≤ 256 ∧ m ≤ 256) := by
    subst hmx
    clear MR
    split <;> split <;> omega
  have Hmb := Lib.hid hmb
  clear hmx hmb
  have HI := Lib.hid (fun (n : Nat) (hn : n < 1000) (W : World) (hb : Below w.heap.size w W) => strconv_Itoa.calls (n : Int) (itB n) W (LaidW.below hL rfl hb) (itoa_nat' n hn))
  go_enter Tryd.func5, Tryd.ntmps5
  go_wp2
  go_quiet (fail)
  have H0 := Lib.hid (pw_below_drewN (below_alloc (Below.refl w.heap.size w) (.cells #[.int .u16 x0, .int .u16 x1, .int .u16 x2] 51)) nq)
  generalize (w.alloc (.cells #[.int .u16 x0, .int .u16 x1, .int .u16 x2] 51)).drewN nq = W0 at H0 ⊢
  have s1 : 5 + (itB i).size ≤ 9223372036854775807 := by have := itB_len i (by omega); omega
  have s2 : 5 + (itB i).size + 1 ≤ 9223372036854775807 := by have := itB_len i (by omega); omega
  have s3 : 5 + (itB i).size + 1 + (itB q).size ≤ 9223372036854775807 := by have := itB_len i (by omega); have := itB_len q (by omega); omega
  have s4 : 5 + (itB i).size + 1 + (itB q).size + 1 ≤ 9223372036854775807 := by have := itB_len i (by omega); have := itB_len q (by omega); omega
  have s5 : 5 + (itB i).size + 1 + (itB q).size + 1 + (itB m).size ≤ 9223372036854775807 := by have := itB_len i (by omega); have := itB_len q (by omega); have := itB_len m (by omega); omega
  have s6 : 5 + (itB i).size + 1 + (itB q).size + 1 + (itB m).size + 1 ≤ 9223372036854775807 := by have := itB_len i (by omega); have := itB_len q (by omega); have := itB_len m (by omega); omega
  go_wp2_with (first
    | ((go_at_call 13; (with_reducible refine (HI.out i (by omega) _ H0.out).mono ?_); rintro e w1 ⟨rfl, hb⟩; have Hw1 := Lib.hid (below_step H0.out hb); clear hb))
    | ((go_at_call 13; (with_reducible refine (HI.out q (by omega) _ Hw1.out).mono ?_); rintro e w2 ⟨rfl, hb⟩; have Hw2 := Lib.hid (below_step Hw1.out hb); clear hb))
    | ((go_at_call 13; (with_reducible refine (HI.out m (by omega) _ Hw2.out).mono ?_); rintro e w3 ⟨rfl, hb⟩; have Hw3 := Lib.hid (below_step Hw2.out hb); clear hb)))
  have HTl := Lib.hid (t0_list i q m)
  generalize hTT : ((((((⟨#[115, 105, 122, 101, 32]⟩ : ByteArray) ++ itB i) ++ (⟨#[32]⟩ : ByteArray)) ++ itB q ++ (⟨#[32]⟩ : ByteArray)) ++ itB m) ++ (⟨#[10]⟩ : ByteArray)) = T at HTl ⊢
  clear hTT s1 s2 s3 s4 s5 s6
  by_cases hb : i ≤ 256 ∧ q ≤ 256 ∧ m ≤ 256
  case neg =>
    have qd : decide (256 < mx) = true := decide_eq_true (by have := Hmb.out; omega)
    have hf : parse_Parse.f T = some (0, 0, 0, [], [], 1, 3) := by
      rw [parse_eq, HTl.out, size_law i q m (by omega) (by omega) (by omega), if_neg hb]
      rfl
    have HA := Lib.hid (fun (W : World) (hb : Below w.heap.size w W) => law10_alive.calls true W (LaidW.below hL rfl hb) rfl)
    refine (parse_Parse.calls _ _ _ _ _ _ _ _ w3 (LaidW.below hL rfl Hw3.out) hf).mono ?_
    rintro e w4 ⟨v3, v4, rfl, hS, hR, hb4⟩
    obtain ⟨A3, c3, rfl, _, _⟩ := Kd.S_reads hS
    obtain ⟨A4, c4, rfl, _, _⟩ := Kd.R_reads hR
    have Hw4 := Lib.hid (below_step Hw3.out hb4)
    clear hS hR hb4 HI hf
    go_wp2_with (go_at_call 15; (with_reducible refine (HA.out _ (below_alloc Hw4.out _)).mono ?_); rintro e w5 ⟨rfl, hb5⟩)
    go_ret
    exact ⟨rfl, below_step (below_alloc Hw4.out _) hb5⟩
  case pos =>
    have qd : decide (256 < mx) = false := decide_eq_false (by have := Hmb.out; omega)
    have hf : parse_Parse.f T = some ((i : Int), (q : Int), (m : Int), [], [], 0, 0) := by
      rw [parse_eq, HTl.out, size_law i q m (by omega) (by omega) (by omega), if_pos hb]
    have HA := Lib.hid (fun (W : World) (hb : Below w.heap.size w W) => law10_alive.calls true W (LaidW.below hL rfl hb) rfl)
    obtain ⟨b1, b2, b3⟩ := hb
    have hTs : T.size ≤ 21 := by
      rw [size_len, HTl.out, List.length_append, List.length_singleton]
      have := sz_len i q m (by omega) (by omega) (by omega)
      omega
    refine (parse_Parse.calls _ _ _ _ _ _ _ _ w3 (LaidW.below hL rfl Hw3.out) hf).mono ?_
    rintro e w4 ⟨v3, v4, rfl, hS, hR, hb4⟩
    obtain ⟨A3, c3, rfl, _, _⟩ := Kd.S_reads hS
    obtain ⟨A4, c4, rfl, _, _⟩ := Kd.R_reads hR
    have Hw4 := Lib.hid (below_step Hw3.out hb4)
    clear hS hR hb4 hf
    go_wp2
    have HL0 := Lib.hid (below_alloc Hw4.out (.cells #[.int .i64 (i : Int), .int .i64 (q : Int), .int .i64 (m : Int), .slice A3 0 c3] 24))
    generalize w4.alloc (.cells #[.int .i64 (i : Int), .int .i64 (q : Int), .int .i64 (m : Int), .slice A3 0 c3] 24) = W5 at HL0 ⊢
    have hM : (Instr.makeMap 56 none).run Tryd.prog W5 = .ok (.map (some W5.heap.size)) (dw i q m W5 0) := run_makeMap_plain W5 _
    have U0 := dw_0 i q m W5
    have U1 := dw_1 i q m W5
    have U2 := dw_2 i q m W5
    have hR : (Instr.range 56 (.map (some W5.heap.size))).run Tryd.prog (dw i q m W5 3) = .ok (.pointer (some ⟨(dw i q m W5 3).heap.size, 0, none⟩)) ((dw i q m W5 3).alloc (.mapIter (some W5.heap.size) 3 #[] 3)) := run_range_map _ _ _ _ _ _ _ undMI (dw_mp i q m W5 3).out
    have hlt := (dw_mp i q m W5 3).lt
    have HLp := Lib.hid (show Lp w.heap.size (dw i q m W5 3).heap.size W5.heap.size (ents3 i q m 3) #[] w ((dw i q m W5 3).alloc (.mapIter (some W5.heap.size) 3 #[] 3)) from
      ⟨heap_alloc_new _ _, by rw [heap_alloc_old _ _ hlt]; exact (dw_mp i q m W5 3).out, below_alloc (HL0.out.trans ((dw_below i q m W5 3).mono HL0.out.size)) _, Nat.le_trans HL0.out.size (Nat.le_of_lt hlt)⟩)
    have Hne := Lib.hid (Nat.ne_of_lt hlt)
    clear hlt
    generalize dw i q m W5 = D at *
    generalize hr : (D 3).heap.size = r at *
    generalize (D 3).alloc (.mapIter (some W5.heap.size) 3 #[] 3) = W6 at *
    generalize hbm : W5.heap.size = bm at *
    clear hr hbm HL0
    have Hst := Lib.hid (show (∀ x ∈ (ents3 i q m 3).toList, x.born < 3) ∧ ((ents3 i q m 3).toList.map (·.born)).Nodup from by
      refine ⟨fun x hx => ?_, by show ([0, 1, 2] : List Nat).Nodup; decide⟩
      have h2 : x = ⟨.string ⟨#[73]⟩, .int .i64 (i : Int), 0⟩ ∨ x = ⟨.string ⟨#[81]⟩, .int .i64 (q : Int), 1⟩ ∨ x = ⟨.string ⟨#[77]⟩, .int .i64 (m : Int), 2⟩ := by
        simpa [ents3] using hx
      rcases h2 with rfl | rfl | rfl
      · show 0 < 3; decide
      · show 1 < 3; decide
      · show 2 < 3; decide)
    rw [hM]
    go_wp2
    go_loopw [14] (fun _ wr => ∃ seen, Lp w.heap.size r bm (ents3 i q m 3) seen w wr) (fun _ wr => (leftOf (ents3 i q m 3) (wr.iterSeen r)).size)
    case atStart => exact ⟨#[], HLp.out⟩
    case round =>
      obtain ⟨seen, HL1⟩ := hrel
      have HL1 := Lib.hid HL1
      rcases run_next_at (P := Tryd.prog) wr 0 r bm 3 3 seen (ents3 i q m 3) 3 HL1.out.it HL1.out.mp Hst.out.1 (Nat.le_refl _) with ⟨h0, hrun⟩ | ⟨e, he, w7, hw7, hrun⟩
      case inl =>
        clear HI
        go_wp2_with (go_at_call 15; (with_reducible refine (HA.out _ HL1.out.bel).mono ?_); rintro e w8 ⟨rfl, hb8⟩)
        go_ret
        exact ⟨rfl, HL1.out.bel.trans (hb8.mono HL1.out.size)⟩
      case inr =>
        have HL2 := Lib.hid (HL1.out.next hw7 Hne.out (seen.push e.born))
        have hen := run_entry_at (P := Tryd.prog) _ r bm 3 seen (ents3 i q m 3) 3 e HL2.out.it HL2.out.mp (mem_left he).1 Hst.out.2
        generalize ChangeMaps.setBlock w7 r (.mapIter (some bm) 3 (seen.push e.born) 3) = W8 at HL2 hen hrun
        have Hsh := Lib.hid (left_shrinks (ents3 i q m 3) seen e he)
        obtain ⟨sp, hsp, he2⟩ := left_entry he
        obtain ⟨I1, Q1, M1, rs1, ls1, a, f, hp1, hc1⟩ := con_parse T i q m sp k HTl.out b1 b2 b3 hsp hk3
        obtain ⟨I2, Q2, M2, rs2, ls2, b, g, hp2, hc2⟩ := out_parse T i q m sp k HTl.out b1 b2 b3 hsp hk3
        have ek : e.key = .string ⟨#[ltr sp]⟩ := by rw [he2]
        have ev : e.val = .int .i64 (wid i q m sp : Int) := by rw [he2]
        rw [ek, ev] at hen hrun
        clear ek ev he2 he hw7
        have HP1 := Lib.hid (fun (W : World) (hb : Below w.heap.size w W) => parse_Parse.calls _ _ _ _ _ _ _ _ W (LaidW.below hL rfl hb) hp1)
        have HP2 := Lib.hid (fun (W : World) (hb : Below w.heap.size w W) => parse_Parse.calls _ _ _ _ _ _ _ _ W (LaidW.below hL rfl hb) hp2)
        have hit := itB_len k (by omega)
        have hlI : ((⟨#[ltr sp]⟩ : ByteArray).toList == [73]) = decide (sp = 0) := by
          rw [ByteArray.toList_eq]
          have : sp = 0 ∨ sp = 1 ∨ sp = 2 := by omega
          rcases this with rfl | rfl | rfl <;> rfl
        have hl1 : (⟨#[ltr sp]⟩ : ByteArray).size = 1 := rfl
        generalize (⟨#[ltr sp]⟩ : ByteArray) = lt at *
        generalize wid i q m sp = wd at *
        clear hp1 hp2 hsp
        have t1 : T.size + 8 ≤ 9223372036854775807 := by omega
        have t2 : T.size + 8 + lt.size ≤ 9223372036854775807 := by omega
        have t3 : T.size + 8 + lt.size + (itB k).size ≤ 9223372036854775807 := by omega
        have t4 : T.size + 8 + lt.size + (itB k).size + 4 ≤ 9223372036854775807 := by omega
        have t5 : T.size + 9 ≤ 9223372036854775807 := by omega
        have t6 : T.size + 9 + lt.size ≤ 9223372036854775807 := by omega
        have t7 : T.size + 9 + lt.size + (itB k).size ≤ 9223372036854775807 := by omega
        clear hit hl1 hTs
        rcases hc1 with ⟨k1, rfl⟩ | ⟨k1, rfl, rfl⟩ <;> rcases hc2 with ⟨⟨k2, k3⟩, rfl⟩ | ⟨k2, k3, rfl⟩
        case inr.inl => exact absurd k2 k1
        case' inl.inl => (have q1 : decide (k < wd) = true := decide_eq_true k1); (have q2 : decide (sp = 0) = false := decide_eq_false k3)
        case' inl.inr => (have q1 : decide (k < wd) = true := decide_eq_true k1); (have q2 : decide (sp = 0) = true := decide_eq_true (Classical.byContradiction fun h0 => k2 ⟨k1, h0⟩)); (have q3 : (g == 0) = false := beq_false_of_ne k3); (have q4 : (g != 0) = true := bne_iff_ne.2 k3)
        case' inr.inr => (have q1 : decide (k < wd) = false := decide_eq_false k1); (have q3 : (g == 0) = false := beq_false_of_ne k3); (have q4 : (g != 0) = true := bne_iff_ne.2 k3)
        all_goals go_wp2_with (first
          | ((go_at_call 13; (with_reducible refine (HI.out k (by omega) _ HL2.out.bel).mono ?_); rintro e w9 ⟨rfl, hb⟩; have HL3 := Lib.hid (HL2.out.on hb HL2.out.size); clear hb))
          | ((go_at_call 14; (with_reducible refine (HP1.out _ HL3.out.bel).mono ?_); rintro e w10 ⟨v3, v4, rfl, hS, hR, hb⟩; obtain ⟨A5, c5, rfl, _, _⟩ := Kd.S_reads hS; obtain ⟨A6, c6, rfl, _, _⟩ := Kd.R_reads hR; have HL4 := Lib.hid (HL3.out.on hb HL3.out.size); clear hb hS hR))
          | ((go_at_call 13; (with_reducible refine (HI.out k (by omega) _ (HL4.out.alloc _).bel).mono ?_); rintro e w11 ⟨rfl, hb⟩; have HL5 := Lib.hid ((HL4.out.alloc _).on hb (HL4.out.alloc _).size); clear hb))
          | ((go_at_call 14; (with_reducible refine (HP2.out _ HL5.out.bel).mono ?_); rintro e w12 ⟨v5, v6, rfl, hS, hR, hb⟩; obtain ⟨A7, c7, rfl, _, _⟩ := Kd.S_reads hS; obtain ⟨A8, c8, rfl, _, _⟩ := Kd.R_reads hR; have HL6 := Lib.hid (HL5.out.on hb HL5.out.size); clear hb hS hR)))
        all_goals
          refine ⟨⟨_, HL6.out.alloc _⟩, ?_⟩
          rw [(HL6.out.alloc _).seen, HL1.out.seen]
          exact Hsh.out
end Go.Proofs.YtdbjjbooalkkbaaDoor.P

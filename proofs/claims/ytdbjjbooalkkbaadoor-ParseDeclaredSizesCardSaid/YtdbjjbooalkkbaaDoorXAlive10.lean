/- law10_alive: the example of the chapter holds: called, it returns true. -/
import Derived.Test.YtdbjjbooalkkbaaDoorXParseAll
import Derived.Test.YtdbjjbooalkkbaaDoorXParT
import Derived.Test.YtdbjjbooalkkbaaDoorPQ0
namespace Go.Proofs.YtdbjjbooalkkbaaDoor.P
open Go.RowKit Go.Proofs.YtdbjjbooalkkbaaDoorW.PrintWords Go.Proofs.YtdbjjbooalkkbaaDoorW.PrintLast Go.Proofs.YtdbjjbooalkkbaaDoorW.PrintMore
attribute [local go_sem] max2_int min2_int max_two min_two max_three min_three max_four min_four   -- for this text's walks alone
set_option linter.unusedVariables false
set_option linter.unusedSimpArgs false
def law10_example.f  : Option (ByteArray) := some (⟨#[115, 105, 122, 101, 32, 49, 32, 49, 32, 48, 10, 114, 117, 110, 103, 10, 110, 111, 32, 73, 48, 32, 76, 32, 82, 10, 111, 117, 116, 32, 81, 48, 10]⟩ : ByteArray)
set_option maxHeartbeats 8000000 in
set_option maxRecDepth 100000 in
theorem law10_example.calls  (r : ByteArray) (w : World) (h : law10_example.f  = some r) :
  Calls Tryd.prog 38 #[] w fun e w' => e = .returned (.string r) ∧ Drawn0 w w' := by
 have H : (some (⟨#[115, 105, 122, 101, 32, 49, 32, 49, 32, 48, 10, 114, 117, 110, 103, 10, 110, 111, 32, 73, 48, 32, 76, 32, 82, 10, 111, 117, 116, 32, 81, 48, 10]⟩ : ByteArray)) = some r := h
 clear h
 obtain rfl := Option.some.inj H
 go_enter Tryd.func38, Tryd.ntmps38
 go_wp2
 go_ret
 exact ⟨by first | rfl | (simp; done) | (simp [*]; done), by repeat (first | exact Drawn0.refl _ | apply Drawn0.step)⟩

def law10_aliveL.f  : Option (Bool) := (law10_example.f).bind fun t101 => ((parse_Parse.f t101).bind fun bt102 => (if bt102.2.2.2.2.2.2 = 0 then (if bt102.2.2.2.2.2.1 = 0 then (if (bt102.2.2.2.2.1.length : Int) = 1 then (if 0 < (bt102.2.2.2.2.1.length : Int) then (if (rd bt102.2.2.2.2.1 0) = 2 then (if (bt102.2.2.2.1.length : Int) = 1 then (if 0 < (bt102.2.2.2.1.length : Int) then (if (((rd_T28 bt102.2.2.2.1 0).f1).length : Int) = 1 then (if (((rd_T28 bt102.2.2.2.1 0).f2).length : Int) = 1 then (if 0 < (((rd_T28 bt102.2.2.2.1 0).f1).length : Int) then (some (((rd_T44 ((rd_T28 bt102.2.2.2.1 0).f1) 0).f3).toList == ([82] : List UInt8))) else (none)) else (some false)) else (some false)) else (none)) else (some false)) else (some false)) else (none)) else (some false)) else (some false)) else (some false)))
theorem toList_mk' (l : List UInt8) : (⟨l.toArray⟩ : ByteArray).toList = l := by rw [ByteArray.toList_eq]
theorem parse_example : parse_Parse.f (⟨#[115, 105, 122, 101, 32, 49, 32, 49, 32, 48, 10, 114, 117, 110, 103, 10, 110, 111, 32, 73, 48, 32, 76, 32, 82, 10, 111, 117, 116, 32, 81, 48, 10]⟩ : ByteArray) = some (1, 1, 0, [⟨⟨#[]⟩, [⟨0, ⟨0, 0⟩, ⟨#[76]⟩, ⟨#[82]⟩⟩], [⟨0, ⟨1, 0⟩⟩], ⟨#[]⟩⟩], [2], 0, 0) := by
  rw [parse_eq]
  exact congrArg some (by kernel_rfl)
theorem law10_alive_true : law10_aliveL.f = some true := by
  unfold law10_aliveL.f law10_example.f
  simp only [Option.bind_some]
  rw [parse_example]
  have e2 : (⟨#[82]⟩ : ByteArray).toList = [82] := toList_mk' [82]
  simp [rd_T28, rd_T44, rd, rdOf, e2]
set_option maxHeartbeats 8000000 in
set_option maxRecDepth 100000 in
theorem law10_aliveL.calls  (r : Bool) (w : World) (hL : Aside0 (LaidW 47 w)) (h : law10_aliveL.f  = some r) :
  Calls Tryd.prog 15 #[] w fun e w' => e = .returned (.bool r) ∧ Below w.heap.size w w' := by
 have hu24 := Tryd.underlying24
 have hr_ : r = true := Option.some.inj (h.symm.trans law10_alive_true)
 have HB := Aside0.mk (Below.refl w.heap.size w)
 have H : ((law10_example.f).bind fun t101 => ((parse_Parse.f t101).bind fun bt102 => (if bt102.2.2.2.2.2.2 = 0 then (if bt102.2.2.2.2.2.1 = 0 then (if (bt102.2.2.2.2.1.length : Int) = 1 then (if 0 < (bt102.2.2.2.2.1.length : Int) then (if (rd bt102.2.2.2.2.1 0) = 2 then (if (bt102.2.2.2.1.length : Int) = 1 then (if 0 < (bt102.2.2.2.1.length : Int) then (if (((rd_T28 bt102.2.2.2.1 0).f1).length : Int) = 1 then (if (((rd_T28 bt102.2.2.2.1 0).f2).length : Int) = 1 then (if 0 < (((rd_T28 bt102.2.2.2.1 0).f1).length : Int) then (some (((rd_T44 ((rd_T28 bt102.2.2.2.1 0).f1) 0).f3).toList == ([82] : List UInt8))) else (none)) else (some false)) else (some false)) else (none)) else (some false)) else (some false)) else (none)) else (some false)) else (some false)) else (some false)))) = some r := h
 clear h
 replace H := Option.bind_eq_some_iff.mp H
 obtain ⟨t101, A10, H⟩ := H
 replace H : ((parse_Parse.f t101).bind fun bt102 => (if bt102.2.2.2.2.2.2 = 0 then (if bt102.2.2.2.2.2.1 = 0 then (if (bt102.2.2.2.2.1.length : Int) = 1 then (if 0 < (bt102.2.2.2.2.1.length : Int) then (if (rd bt102.2.2.2.2.1 0) = 2 then (if (bt102.2.2.2.1.length : Int) = 1 then (if 0 < (bt102.2.2.2.1.length : Int) then (if (((rd_T28 bt102.2.2.2.1 0).f1).length : Int) = 1 then (if (((rd_T28 bt102.2.2.2.1 0).f2).length : Int) = 1 then (if 0 < (((rd_T28 bt102.2.2.2.1 0).f1).length : Int) then (some (((rd_T44 ((rd_T28 bt102.2.2.2.1 0).f1) 0).f3).toList == ([82] : List UInt8))) else (none)) else (some false)) else (some false)) else (none)) else (some false)) else (some false)) else (none)) else (some false)) else (some false)) else (some false))) = some r := H
 have A1 := Aside0.mk A10
 clear A10
 replace H := Option.bind_eq_some_iff.mp H
 obtain ⟨⟨t102, t103, t104, t105, t108, t111, t112⟩, A20, H⟩ := H
 replace H : (if t112 = 0 then (if t111 = 0 then (if (t108.length : Int) = 1 then (if 0 < (t108.length : Int) then (if (rd t108 0) = 2 then (if (t105.length : Int) = 1 then (if 0 < (t105.length : Int) then (if (((rd_T28 t105 0).f1).length : Int) = 1 then (if (((rd_T28 t105 0).f2).length : Int) = 1 then (if 0 < (((rd_T28 t105 0).f1).length : Int) then (some (((rd_T44 ((rd_T28 t105 0).f1) 0).f3).toList == ([82] : List UInt8))) else (none)) else (some false)) else (some false)) else (none)) else (some false)) else (some false)) else (none)) else (some false)) else (some false)) else (some false)) = some r := H
 have A2 := Aside0.mk A20
 clear A20
 by_cases c3 : t112 = 0
 ·rw [if_pos c3] at H
  have c3b0 : (t112 == 0) = true := beq_iff_eq.mpr c3
  have c3b1 : (t112 != 0) = false := bne_eq_false_iff_eq.mpr c3
  clear c3
  by_cases c4 : t111 = 0
  ·rw [if_pos c4] at H
   have c4b0 : (t111 == 0) = true := beq_iff_eq.mpr c4
   have c4b1 : (t111 != 0) = false := bne_eq_false_iff_eq.mpr c4
   clear c4
   by_cases c5 : (t108.length : Int) = 1
   ·rw [if_pos c5] at H
    have c5b0 : ((t108.length : Int) == 1) = true := beq_iff_eq.mpr c5
    have c5b1 : ((t108.length : Int) != 1) = false := bne_eq_false_iff_eq.mpr c5
    clear c5
    by_cases c6 : 0 < (t108.length : Int)
    ·rw [if_pos c6] at H
     have c6b0 : decide (0 < (t108.length : Int)) = true := decide_eq_true c6
     have c6b1 : decide (0 < t108.length) = true := decide_eq_true (by omega)
     clear c6
     by_cases c7 : (rd t108 0) = 2
     ·rw [if_pos c7] at H
      have c7b0 : ((rd t108 0) == 2) = true := beq_iff_eq.mpr c7
      have c7b1 : ((rd t108 0) != 2) = false := bne_eq_false_iff_eq.mpr c7
      clear c7
      by_cases c8 : (t105.length : Int) = 1
      ·rw [if_pos c8] at H
       have c8b0 : ((t105.length : Int) == 1) = true := beq_iff_eq.mpr c8
       have c8b1 : ((t105.length : Int) != 1) = false := bne_eq_false_iff_eq.mpr c8
       clear c8
       by_cases c9 : 0 < (t105.length : Int)
       ·rw [if_pos c9] at H
        have c9b0 : decide (0 < (t105.length : Int)) = true := decide_eq_true c9
        have c9b1 : decide (0 < t105.length) = true := decide_eq_true (by omega)
        clear c9
        by_cases c10 : (((rd_T28 t105 0).f1).length : Int) = 1
        ·rw [if_pos c10] at H
         have c10b0 : ((((rd_T28 t105 0).f1).length : Int) == 1) = true := beq_iff_eq.mpr c10
         have c10b1 : ((((rd_T28 t105 0).f1).length : Int) != 1) = false := bne_eq_false_iff_eq.mpr c10
         clear c10
         by_cases c11 : (((rd_T28 t105 0).f2).length : Int) = 1
         ·rw [if_pos c11] at H
          have c11b0 : ((((rd_T28 t105 0).f2).length : Int) == 1) = true := beq_iff_eq.mpr c11
          have c11b1 : ((((rd_T28 t105 0).f2).length : Int) != 1) = false := bne_eq_false_iff_eq.mpr c11
          clear c11
          by_cases c12 : 0 < (((rd_T28 t105 0).f1).length : Int)
          ·rw [if_pos c12] at H
           have c12b0 : decide (0 < (((rd_T28 t105 0).f1).length : Int)) = true := decide_eq_true c12
           have c12b1 : decide (0 < ((rd_T28 t105 0).f1).length) = true := decide_eq_true (by omega)
           clear c12
           clear hr_
           obtain rfl := Option.some.inj H
           go_enter Tryd.func15, Tryd.ntmps15
           go_wp2_with (first | ((with_reducible refine gate_callee (f := 38) rfl ?_); refine goesL_ (some 6) rfl rfl Tryd.func38 (by kernel_rfl) rfl #[] rfl (by (try simp only [List.map_toArray, List.map_cons, List.map_nil]); first | done | rfl | (simp only [List.length_drop, List.length_take]; rfl)) ?_; (with_reducible refine (law10_example.calls  t101 _ A1.out).mono ?_); rintro e w' ⟨rfl, ⟨nd, rfl⟩⟩; refine ⟨_, rfl, ?_⟩) | ((with_reducible refine gate_callee (f := 14) rfl ?_); refine goesL_ (some 7) rfl rfl Tryd.func14 (by kernel_rfl) rfl #[.string t101] rfl (by (try simp only [List.map_toArray, List.map_cons, List.map_nil]); first | done | rfl | (simp only [List.length_drop, List.length_take]; rfl)) ?_; (with_reducible refine (parse_Parse.calls t101 t102 t103 t104 t105 t108 t111 t112 _ (LaidW.below (m' := 47) hL rfl (by repeat (first | (with_reducible first | exact HB.out | apply below_alloc | apply pw_below_drewN | apply below_drew1) | exact HB.out))) A2.out).mono ?_); rintro e w13 ⟨v106, v109, rfl, ho0, ho1, hb⟩; refine ⟨_, rfl, ?_⟩; have n0_ := Aside0.mk (Kd.S_lower ho0 (below_size (by repeat (first | (with_reducible first | exact HB.out | apply below_alloc | apply pw_below_drewN | apply below_drew1) | exact HB.out)))); have n1_ := Aside0.mk (Kd.R_lower ho1 (below_size (by repeat (first | (with_reducible first | exact HB.out | apply below_alloc | apply pw_below_drewN | apply below_drew1) | exact HB.out)))); have n2_ := Aside0.mk (below_step (by repeat (first | (with_reducible first | exact HB.out | apply below_alloc | apply pw_below_drewN | apply below_drew1) | exact HB.out)) hb); clear HB; have HO107 := n0_; have HO110 := n1_; have HB := n2_; clear n0_ n1_ n2_; (try clear hb); (try clear hb2); (try clear hk); (try clear hi); (try clear ho0); (try clear ho1)) | ((with_reducible refine gate_dst (N := 1) rfl ?_); (try (refine gate_guard (by rfl) ?_; dsimp only)); refine box_event ?hg (N := 1) ?hd (cs := #[.int .i64 0, .int .i64 0, .int .i64 0, .slice none 0 0]) (t := 24) ?hr ?_; (case hd => rfl); (case hg => rfl); (case hr => first | (go_simp; done) | (go_simp; rfl)); intro gb113 hg w14 hbox hb; have n0_ := Aside0.mk (Kd.S_below (by (with_reducible repeat (first | apply Kd.S_alloc | apply Kd.S_drewN | apply Kd.S_drew)); exact HO107.out) hb); have n1_ := Aside0.mk (Kd.R_below (by (with_reducible repeat (first | apply Kd.R_alloc | apply Kd.R_drewN | apply Kd.R_drew)); exact HO110.out) hb); have n2_ := Aside0.mk (below_step (by repeat (first | (with_reducible first | exact HB.out | apply below_alloc | apply pw_below_drewN | apply below_drew1) | exact HB.out)) hb); have n3_ := Aside0.mk (hbox); have n4_ := Aside0.mk ((by rw [hg]; exact (below_size (by repeat (first | (with_reducible first | exact HB.out | apply below_alloc | apply pw_below_drewN | apply below_drew1) | exact HB.out))) : w.heap.size ≤ gb113)); have n5_ := Aside0.mk ((by rw [hg]; exact (below_size (by repeat (first | (with_reducible first | exact HB.out | apply below_alloc | apply pw_below_drewN | apply below_drew1) | exact HB.out))) : w.heap.size ≤ gb113)); clear HO107; clear HO110; clear HB; have HO107 := n0_; have HO110 := n1_; have HB := n2_; have BK113 := n3_; have GW113 := n4_; have GE113 := n5_; clear n0_ n1_ n2_ n3_ n4_ n5_; clear hb hbox hg; have hcz15_0 : w14.cell? ⟨gb113, 0, none⟩ = some (.int .i64 0) := (blk_cell BK113.out 0).trans rfl; have hcz15_1 : w14.cell? ⟨gb113, 1, none⟩ = some (.int .i64 0) := (blk_cell BK113.out 1).trans rfl; have hcz15_2 : w14.cell? ⟨gb113, 2, none⟩ = some (.int .i64 0) := (blk_cell BK113.out 2).trans rfl; have hcz15_3 : w14.cell? ⟨gb113, 3, none⟩ = some (.slice none 0 0) := (blk_cell BK113.out 3).trans rfl; have hfz15_0 := blk_frozen BK113.out 0; have hfz15_1 := blk_frozen BK113.out 1; have hfz15_2 := blk_frozen BK113.out 2; have hfz15_3 := blk_frozen BK113.out 3; obtain ⟨Ao16, co16, eo16⟩ := Kd.S_slice HO107.out; subst eo16) | ((with_reducible refine gate_store (t := 24) (p := 1) rfl ?_); refine store_event (t := 24) (p := 1) (v := ?vo_w17) (w1 := ((((w14.setCell ⟨gb113, 0, none⟩ (.int .i64 t102)).setCell ⟨gb113, 1, none⟩ (.int .i64 t103)).setCell ⟨gb113, 2, none⟩ (.int .i64 t104)).setCell ⟨gb113, 3, none⟩ (.slice Ao16 t105.length co16))) ?hg ?ho ?hn ?hr ?_; (case ho => rfl); (case hg => rfl); (case hn => rfl); (case hr => first | (go_simp; done) | (go_simp; rfl)); intro w17 hw; have n0_ : Aside0 (Kd.S k28 28 w17 w.heap.size (fun _ => True) (.slice Ao16 t105.length co16) t105) := ⟨(by rw [hw]; exact (by (with_reducible repeat (first | apply Kd.S_alloc | apply Kd.S_drewN | apply Kd.S_drew)); exact Kd.S_mono (Kd.S_far (p := ⟨gb113, 3, none⟩) (Kd.S_far (p := ⟨gb113, 2, none⟩) (Kd.S_far (p := ⟨gb113, 1, none⟩) (Kd.S_far (p := ⟨gb113, 0, none⟩) (Kd.S_types HO107.out BK113.out (by decide)) (fun _ hk => hk.2) (.int .i64 t102)) (fun _ hk => hk.2) (.int .i64 t103)) (fun _ hk => hk.2) (.int .i64 t104)) (fun _ hk => hk.2) (.slice Ao16 t105.length co16)) (fun _ hk => trivial)))⟩; have n1_ : Aside0 (Kd.R (Kd.int .i64) 3 w17 w.heap.size (fun _ => True) v109 t108) := ⟨(by rw [hw]; exact (by (with_reducible repeat (first | apply Kd.R_alloc | apply Kd.R_drewN | apply Kd.R_drew)); exact Kd.R_mono (Kd.R_far (p := ⟨gb113, 3, none⟩) (Kd.R_far (p := ⟨gb113, 2, none⟩) (Kd.R_far (p := ⟨gb113, 1, none⟩) (Kd.R_far (p := ⟨gb113, 0, none⟩) (Kd.R_types HO110.out BK113.out (by decide)) (fun _ hk => hk.2) (.int .i64 t102)) (fun _ hk => hk.2) (.int .i64 t103)) (fun _ hk => hk.2) (.int .i64 t104)) (fun _ hk => hk.2) (.slice Ao16 t105.length co16)) (fun _ hk => trivial)))⟩; have n2_ : Aside0 (w17.heap[gb113]? = some (.cells #[.int .i64 t102, .int .i64 t103, .int .i64 t104, .slice Ao16 t105.length co16] 24 (0, 0))) := ⟨(by rw [hw]; exact (by (with_reducible repeat (first | refine blk_drewN ?_ _ | refine blk_drew ?_ | refine blk_alloc ?_ _)); refine blk_put (cs := #[.int .i64 t102, .int .i64 t103, .int .i64 t104, .slice none 0 0]) ?_ 3 _ rfl; (with_reducible repeat (first | refine blk_drewN ?_ _ | refine blk_drew ?_ | refine blk_alloc ?_ _)); refine blk_put (cs := #[.int .i64 t102, .int .i64 t103, .int .i64 0, .slice none 0 0]) ?_ 2 _ rfl; (with_reducible repeat (first | refine blk_drewN ?_ _ | refine blk_drew ?_ | refine blk_alloc ?_ _)); refine blk_put (cs := #[.int .i64 t102, .int .i64 0, .int .i64 0, .slice none 0 0]) ?_ 1 _ rfl; (with_reducible repeat (first | refine blk_drewN ?_ _ | refine blk_drew ?_ | refine blk_alloc ?_ _)); refine blk_put (cs := #[.int .i64 0, .int .i64 0, .int .i64 0, .slice none 0 0]) ?_ 0 _ rfl; (with_reducible repeat (first | refine blk_drewN ?_ _ | refine blk_drew ?_ | refine blk_alloc ?_ _)); exact BK113.out))⟩; have n3_ : Aside0 (Below w.heap.size w w17) := ⟨(by rw [hw]; exact (by repeat (first | (with_reducible first | exact HB.out | apply below_alloc | apply pw_below_drewN | apply below_drew1 | refine below_set ?_ GE113.out) | exact HB.out)))⟩; clear hw; clear HO107; clear HO110; clear BK113; clear HB; have HO107 := n0_; have HO110 := n1_; have BK113 := n2_; have HB := n3_; clear n0_ n1_ n2_ n3_; obtain ⟨Ao18, co18, eo18⟩ := Kd.R_slice HO110.out; subst eo18; have p114 : 0 ≤ (0 : Int) := (by omega); have q114 : 0 < (t108.length : Int) := of_decide_eq_true (by first | (with_reducible assumption) | assumption); obtain ⟨ad114, e114, hx114_0⟩ := Kd.at_int (Kd.R_reads' HO110.out).2.2 0 p114 q114; cases e114; have qi114 : (0 < t108.length) = True := eq_true (by omega); (try rw [show ((0 : Int)).toNat = 0 from rfl] at hx114_0); (try rw [Addr.add_zero'] at hx114_0); replace p114 := eq_true p114; replace q114 := eq_true q114; have hcz19_0 : w17.cell? ⟨gb113, 0, none⟩ = some (.int .i64 t102) := (blk_cell BK113.out 0).trans rfl; have hcz19_1 : w17.cell? ⟨gb113, 1, none⟩ = some (.int .i64 t103) := (blk_cell BK113.out 1).trans rfl; have hcz19_2 : w17.cell? ⟨gb113, 2, none⟩ = some (.int .i64 t104) := (blk_cell BK113.out 2).trans rfl; have hcz19_3 : w17.cell? ⟨gb113, 3, none⟩ = some (.slice Ao16 t105.length co16) := (blk_cell BK113.out 3).trans rfl; have hfz19_0 := blk_frozen BK113.out 0; have hfz19_1 := blk_frozen BK113.out 1; have hfz19_2 := blk_frozen BK113.out 2; have hfz19_3 := blk_frozen BK113.out 3; have p115 : 0 ≤ (0 : Int) := (by omega); have q115 : 0 < (t105.length : Int) := of_decide_eq_true (by first | (with_reducible assumption) | assumption); obtain ⟨ad115, A115_1, c115_1, A115_2, c115_2, e115, hx115_0, hx115_1, hx115_2, hx115_3, hl115_1, hi115_1, hl115_2, hi115_2⟩ := at_T28 (Kd.S_reads' HO107.out).2.2 0 p115 q115; cases e115; obtain ⟨ce115, hce115, hMe115, hcc115⟩ := Kd.S_get HO107.out z28 0 p115 (by first | exact q115 | exact of_decide_eq_true (by first | (with_reducible assumption) | assumption) | (have e_ := (Kd.S_reads' HO107.out).1; omega)); obtain ⟨ve115_1, ve115_2, rfl, ge115_1, ge115_2⟩ := k28_openM hMe115; have hv115_1 := hcc115 1 _ rfl; rw [add_field _ _ 1 (by omega)] at hv115_1; replace hv115_1 := Option.some.inj (hv115_1.symm.trans hx115_1); rw [hv115_1] at ge115_1; have HL115_1 := Aside0.mk (show Kd.R k44 44 _ _ _ _ ((rd_T28 t105 0).f1) from ge115_1); clear hv115_1 ge115_1; have hv115_2 := hcc115 2 _ rfl; rw [add_field _ _ 2 (by omega)] at hv115_2; replace hv115_2 := Option.some.inj (hv115_2.symm.trans hx115_2); rw [hv115_2] at ge115_2; have HL115_2 := Aside0.mk (show Kd.R k47 47 _ _ _ _ ((rd_T28 t105 0).f2) from ge115_2); clear hv115_2 ge115_2; clear hcc115 hce115; have qi115 : (0 < t105.length) = True := eq_true (by omega); (try rw [show ((0 : Int)).toNat = 0 from rfl] at hx115_0); (try rw [show 0 * 4 = 0 from rfl] at hx115_0); (try rw [Addr.add_zero'] at hx115_0); (try rw [show ((0 : Int)).toNat = 0 from rfl] at hx115_1); (try rw [show 0 * 4 = 0 from rfl] at hx115_1); (try rw [Addr.add_zero'] at hx115_1); (try rw [show ((0 : Int)).toNat = 0 from rfl] at hx115_2); (try rw [show 0 * 4 = 0 from rfl] at hx115_2); (try rw [Addr.add_zero'] at hx115_2); (try rw [show ((0 : Int)).toNat = 0 from rfl] at hx115_3); (try rw [show 0 * 4 = 0 from rfl] at hx115_3); (try rw [Addr.add_zero'] at hx115_3); have HR115_1 := Aside0.mk hi115_1; have HC115_1 := Aside0.mk hl115_1; clear hi115_1 hl115_1; have HR115_2 := Aside0.mk hi115_2; have HC115_2 := Aside0.mk hl115_2; clear hi115_2 hl115_2; replace p115 := eq_true p115; replace q115 := eq_true q115; have p116 : 0 ≤ (0 : Int) := (by omega); have q116 : 0 < (t105.length : Int) := of_decide_eq_true (by first | (with_reducible assumption) | assumption); obtain ⟨ad116, A116_1, c116_1, A116_2, c116_2, e116, hx116_0, hx116_1, hx116_2, hx116_3, hl116_1, hi116_1, hl116_2, hi116_2⟩ := at_T28 (Kd.S_reads' HO107.out).2.2 0 p116 q116; obtain rfl : ad115 = ad116 := (by injection e116); obtain ⟨ce116, hce116, hMe116, hcc116⟩ := Kd.S_get HO107.out z28 0 p116 (by first | exact q116 | exact of_decide_eq_true (by first | (with_reducible assumption) | assumption) | (have e_ := (Kd.S_reads' HO107.out).1; omega)); obtain ⟨ve116_1, ve116_2, rfl, ge116_1, ge116_2⟩ := k28_openM hMe116; have hv116_1 := hcc116 1 _ rfl; rw [add_field _ _ 1 (by omega)] at hv116_1; replace hv116_1 := Option.some.inj (hv116_1.symm.trans hx116_1); rw [hv116_1] at ge116_1; have HL116_1 := Aside0.mk (show Kd.R k44 44 _ _ _ _ ((rd_T28 t105 0).f1) from ge116_1); clear hv116_1 ge116_1; have hv116_2 := hcc116 2 _ rfl; rw [add_field _ _ 2 (by omega)] at hv116_2; replace hv116_2 := Option.some.inj (hv116_2.symm.trans hx116_2); rw [hv116_2] at ge116_2; have HL116_2 := Aside0.mk (show Kd.R k47 47 _ _ _ _ ((rd_T28 t105 0).f2) from ge116_2); clear hv116_2 ge116_2; clear hcc116 hce116; have qi116 : (0 < t105.length) = True := eq_true (by omega); (try rw [show ((0 : Int)).toNat = 0 from rfl] at hx116_0); (try rw [show 0 * 4 = 0 from rfl] at hx116_0); (try rw [Addr.add_zero'] at hx116_0); (try rw [show ((0 : Int)).toNat = 0 from rfl] at hx116_1); (try rw [show 0 * 4 = 0 from rfl] at hx116_1); (try rw [Addr.add_zero'] at hx116_1); (try rw [show ((0 : Int)).toNat = 0 from rfl] at hx116_2); (try rw [show 0 * 4 = 0 from rfl] at hx116_2); (try rw [Addr.add_zero'] at hx116_2); (try rw [show ((0 : Int)).toNat = 0 from rfl] at hx116_3); (try rw [show 0 * 4 = 0 from rfl] at hx116_3); (try rw [Addr.add_zero'] at hx116_3); have HR116_1 := Aside0.mk hi116_1; have HC116_1 := Aside0.mk hl116_1; clear hi116_1 hl116_1; have HR116_2 := Aside0.mk hi116_2; have HC116_2 := Aside0.mk hl116_2; clear hi116_2 hl116_2; replace p116 := eq_true p116; replace q116 := eq_true q116; have ea_ := Option.some.inj (hx115_1.symm.trans hx116_1); injection ea_ with ea_ en_ ec_; subst ea_; subst ec_; clear en_; have ea_ := Option.some.inj (hx115_2.symm.trans hx116_2); injection ea_ with ea_ en_ ec_; subst ea_; subst ec_; clear en_; have p117 : 0 ≤ (0 : Int) := (by omega); have q117 : 0 < (t105.length : Int) := of_decide_eq_true (by first | (with_reducible assumption) | assumption); obtain ⟨ad117, A117_1, c117_1, A117_2, c117_2, e117, hx117_0, hx117_1, hx117_2, hx117_3, hl117_1, hi117_1, hl117_2, hi117_2⟩ := at_T28 (Kd.S_reads' HO107.out).2.2 0 p117 q117; obtain rfl : ad115 = ad117 := (by injection e117); obtain ⟨ce117, hce117, hMe117, hcc117⟩ := Kd.S_get HO107.out z28 0 p117 (by first | exact q117 | exact of_decide_eq_true (by first | (with_reducible assumption) | assumption) | (have e_ := (Kd.S_reads' HO107.out).1; omega)); obtain ⟨ve117_1, ve117_2, rfl, ge117_1, ge117_2⟩ := k28_openM hMe117; have hv117_1 := hcc117 1 _ rfl; rw [add_field _ _ 1 (by omega)] at hv117_1; replace hv117_1 := Option.some.inj (hv117_1.symm.trans hx117_1); rw [hv117_1] at ge117_1; have HL117_1 := Aside0.mk (show Kd.R k44 44 _ _ _ _ ((rd_T28 t105 0).f1) from ge117_1); clear hv117_1 ge117_1; have hv117_2 := hcc117 2 _ rfl; rw [add_field _ _ 2 (by omega)] at hv117_2; replace hv117_2 := Option.some.inj (hv117_2.symm.trans hx117_2); rw [hv117_2] at ge117_2; have HL117_2 := Aside0.mk (show Kd.R k47 47 _ _ _ _ ((rd_T28 t105 0).f2) from ge117_2); clear hv117_2 ge117_2; clear hcc117 hce117; have qi117 : (0 < t105.length) = True := eq_true (by omega); (try rw [show ((0 : Int)).toNat = 0 from rfl] at hx117_0); (try rw [show 0 * 4 = 0 from rfl] at hx117_0); (try rw [Addr.add_zero'] at hx117_0); (try rw [show ((0 : Int)).toNat = 0 from rfl] at hx117_1); (try rw [show 0 * 4 = 0 from rfl] at hx117_1); (try rw [Addr.add_zero'] at hx117_1); (try rw [show ((0 : Int)).toNat = 0 from rfl] at hx117_2); (try rw [show 0 * 4 = 0 from rfl] at hx117_2); (try rw [Addr.add_zero'] at hx117_2); (try rw [show ((0 : Int)).toNat = 0 from rfl] at hx117_3); (try rw [show 0 * 4 = 0 from rfl] at hx117_3); (try rw [Addr.add_zero'] at hx117_3); have HR117_1 := Aside0.mk hi117_1; have HC117_1 := Aside0.mk hl117_1; clear hi117_1 hl117_1; have HR117_2 := Aside0.mk hi117_2; have HC117_2 := Aside0.mk hl117_2; clear hi117_2 hl117_2; replace p117 := eq_true p117; replace q117 := eq_true q117; have ea_ := Option.some.inj (hx115_1.symm.trans hx117_1); injection ea_ with ea_ en_ ec_; subst ea_; subst ec_; clear en_; have ea_ := Option.some.inj (hx115_2.symm.trans hx117_2); injection ea_ with ea_ en_ ec_; subst ea_; subst ec_; clear en_; have p118 : 0 ≤ (0 : Int) := (by omega); have q118 : 0 < (((rd_T28 t105 0).f1).length : Int) := of_decide_eq_true (by first | (with_reducible assumption) | assumption); obtain ⟨ad118, e118, hx118_0, hx118_1, hx118_2, hx118_3, hx118_4⟩ := at_T44 (by repeat (first | (with_reducible exact HR117_1.out) | (with_reducible refine Kd.C_alloc ?_ _) | (with_reducible refine Kd.C_drewN ?_ _) | (with_reducible refine Kd.C_drew ?_) | exact HR117_1.out)) 0 p118 q118; cases e118; have qi118 : (0 < ((rd_T28 t105 0).f1).length) = True := eq_true (by omega); (try rw [show ((0 : Int)).toNat = 0 from rfl] at hx118_0); (try rw [show 0 * 5 = 0 from rfl] at hx118_0); (try rw [Addr.add_zero'] at hx118_0); (try rw [show ((0 : Int)).toNat = 0 from rfl] at hx118_1); (try rw [show 0 * 5 = 0 from rfl] at hx118_1); (try rw [Addr.add_zero'] at hx118_1); (try rw [show ((0 : Int)).toNat = 0 from rfl] at hx118_2); (try rw [show 0 * 5 = 0 from rfl] at hx118_2); (try rw [Addr.add_zero'] at hx118_2); (try rw [show ((0 : Int)).toNat = 0 from rfl] at hx118_3); (try rw [show 0 * 5 = 0 from rfl] at hx118_3); (try rw [Addr.add_zero'] at hx118_3); (try rw [show ((0 : Int)).toNat = 0 from rfl] at hx118_4); (try rw [show 0 * 5 = 0 from rfl] at hx118_4); (try rw [Addr.add_zero'] at hx118_4); replace p118 := eq_true p118; replace q118 := eq_true q118))
           go_ret
           exact ⟨by first | rfl | (simp [errW_none, errW_some] <;> rfl) | (simp [*, errW_none, errW_some] <;> rfl), by repeat (first | (with_reducible first | exact HB.out | apply below_alloc | apply pw_below_drewN | apply below_drew1 | refine below_set ?_ GE113.out) | exact HB.out)⟩
          ·rw [if_neg c12] at H
           exact absurd H (by simp)
         ·rw [if_neg c11] at H
          have c11b0 : ((((rd_T28 t105 0).f2).length : Int) == 1) = false := beq_eq_false_iff_ne.mpr c11
          have c11b1 : ((((rd_T28 t105 0).f2).length : Int) != 1) = true := bne_iff_ne.mpr c11
          exact absurd ((Option.some.inj H).trans hr_) (by decide)
        ·rw [if_neg c10] at H
         have c10b0 : ((((rd_T28 t105 0).f1).length : Int) == 1) = false := beq_eq_false_iff_ne.mpr c10
         have c10b1 : ((((rd_T28 t105 0).f1).length : Int) != 1) = true := bne_iff_ne.mpr c10
         exact absurd ((Option.some.inj H).trans hr_) (by decide)
       ·rw [if_neg c9] at H
        exact absurd H (by simp)
      ·rw [if_neg c8] at H
       have c8b0 : ((t105.length : Int) == 1) = false := beq_eq_false_iff_ne.mpr c8
       have c8b1 : ((t105.length : Int) != 1) = true := bne_iff_ne.mpr c8
       exact absurd ((Option.some.inj H).trans hr_) (by decide)
     ·rw [if_neg c7] at H
      have c7b0 : ((rd t108 0) == 2) = false := beq_eq_false_iff_ne.mpr c7
      have c7b1 : ((rd t108 0) != 2) = true := bne_iff_ne.mpr c7
      exact absurd ((Option.some.inj H).trans hr_) (by decide)
    ·rw [if_neg c6] at H
     exact absurd H (by simp)
   ·rw [if_neg c5] at H
    have c5b0 : ((t108.length : Int) == 1) = false := beq_eq_false_iff_ne.mpr c5
    have c5b1 : ((t108.length : Int) != 1) = true := bne_iff_ne.mpr c5
    exact absurd ((Option.some.inj H).trans hr_) (by decide)
  ·rw [if_neg c4] at H
   have c4b0 : (t111 == 0) = false := beq_eq_false_iff_ne.mpr c4
   have c4b1 : (t111 != 0) = true := bne_iff_ne.mpr c4
   exact absurd ((Option.some.inj H).trans hr_) (by decide)
 ·rw [if_neg c3] at H
  have c3b0 : (t112 == 0) = false := beq_eq_false_iff_ne.mpr c3
  have c3b1 : (t112 != 0) = true := bne_iff_ne.mpr c3
  exact absurd ((Option.some.inj H).trans hr_) (by decide)

def law10_alive.f : Option Bool := some true
theorem law10_alive.calls (r : Bool) (w : World) (hL : Aside0 (LaidW 47 w)) (h : law10_alive.f = some r) :
  Calls Tryd.prog 15 #[] w fun e w' => e = .returned (.bool r) ∧ Below w.heap.size w w' := by
  obtain rfl := Option.some.inj h
  exact law10_aliveL.calls true w hL law10_alive_true
end Go.Proofs.YtdbjjbooalkkbaaDoor.P

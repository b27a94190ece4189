-- Out of the translation's print, by a program. Lean checks it.
import Derived.Test.YthidobgadndclaaDoorPM0
import Derived.Test.YthidobgadndclaaDoorPA2
import Derived.Test.YthidobgadndclaaDoorPA7
import Derived.Test.YthidobgadndclaaDoorXLaid
namespace Go.Proofs.YthidobgadndclaaDoor.P.M
open Go.RowKit Go.Proofs.YthidobgadndclaaDoorW.PrintWords Go.Proofs.YthidobgadndclaaDoorW.PrintLast Go.Proofs.YthidobgadndclaaDoorW.PrintMore
attribute [local go_sem] max2_int min2_int max_two min_two max_three min_three max_four min_four   -- for this text's walks alone
set_option linter.unusedVariables false
set_option linter.unusedSimpArgs false

/-! ### law01_AddrCheckIsMonotone: function 10 -/
def law01_AddrCheckIsMonotone.l0 : Nat → Int → Int → Int → Int → Int → Int → Int → Int → Int → Int → Option (Bool)
 | 0, _, _, _, _, _, _, _, _, _, _ => none
 | k + 1, x2, x40, x104000, x104001, x104002, x104003, x105000, x105001, x105002, x105003 => if x40 < 3 then ((addr_CheckAddr.f x104000 x104001 x104002 x104003 x40 (wrap64 (x2))).bind fun t107 => ((addr_Width.f x104000 x104001 x104002 x104003 x40).bind fun t108 => (if ((t107 == 0) != (decide ((wrap64 (x2)) < t108))) = true then (some false) else ((addr_CheckAddr.f x104000 x104001 x104002 x104003 x40 (wrap64 (x2))).bind fun t109 => (if t107 = 0 then ((addr_CheckAddr.f x105000 x105001 x105002 x105003 x40 (wrap64 (x2))).bind fun t110 => (if t110 = 0 then (law01_AddrCheckIsMonotone.l0 k x2 (wrap64 (x40 + 1)) x104000 x104001 x104002 x104003 x105000 x105001 x105002 x105003) else (some false))) else (law01_AddrCheckIsMonotone.l0 k x2 (wrap64 (x40 + 1)) x104000 x104001 x104002 x104003 x105000 x105001 x105002 x105003)))))) else ((law01_alive.f).bind fun t105 => (some t105))
def law01_AddrCheckIsMonotone.f (k : Nat) (a0_0 : Int) (a0_1 : Int) (a0_2 : Int) (a1_0 : Int) (a1_1 : Int) (a1_2 : Int) (a2 : Int) : Option (Bool) := law01_AddrCheckIsMonotone.l0 k a2 0 (wrap64 (a0_0)) (wrap64 (a0_1)) (wrap64 (a0_2)) 0 (wrap64 ((wrap64 (a0_0)) + (wrap64 (a1_0)))) (wrap64 ((wrap64 (a0_1)) + (wrap64 (a1_1)))) (wrap64 ((wrap64 (a0_2)) + (wrap64 (a1_2)))) 0
theorem law01_AddrCheckIsMonotone.mono_l : ∀ k, (∀ y0 y1 y2 y3 y4 y5 y6 y7 y8 y9, LeO (law01_AddrCheckIsMonotone.l0 k y0 y1 y2 y3 y4 y5 y6 y7 y8 y9) (law01_AddrCheckIsMonotone.l0 (k + 1) y0 y1 y2 y3 y4 y5 y6 y7 y8 y9))
 | 0 => fun _ _ _ _ _ _ _ _ _ _ r h => by simp [law01_AddrCheckIsMonotone.l0] at h
 | k + 1 => by
  have ih0 := law01_AddrCheckIsMonotone.mono_l k
  ·intro y0 y1 y2 y3 y4 y5 y6 y7 y8 y9
   unfold law01_AddrCheckIsMonotone.l0
   repeat' first
   | (with_reducible exact ih0 _ _ _ _ _ _ _ _ _ _)
   | (with_reducible exact LeO.refl _)
   | (with_reducible exact LeO.none _)
   | (with_reducible refine LeO.ite ?_ ?_)
   | (with_reducible refine LeO.bind ?_ (fun _ => ?_))
   | exact ih0 _ _ _ _ _ _ _ _ _ _
   | exact LeO.none _
   | refine LeO.ite ?_ ?_
   | refine LeO.bind ?_ (fun _ => ?_)
theorem law01_AddrCheckIsMonotone.mono : ∀ a0 a1 a2 a3 a4 a5 a6 k, LeO (law01_AddrCheckIsMonotone.f k a0 a1 a2 a3 a4 a5 a6) (law01_AddrCheckIsMonotone.f (k + 1) a0 a1 a2 a3 a4 a5 a6) := by
 intro a0 a1 a2 a3 a4 a5 a6 k
 have ih0 := law01_AddrCheckIsMonotone.mono_l k
 unfold law01_AddrCheckIsMonotone.f
 repeat' first
   | (with_reducible exact ih0 _ _ _ _ _ _ _ _ _ _)
   | (with_reducible exact LeO.refl _)
   | (with_reducible exact LeO.none _)
   | (with_reducible refine LeO.ite ?_ ?_)
   | (with_reducible refine LeO.bind ?_ (fun _ => ?_))
   | exact ih0 _ _ _ _ _ _ _ _ _ _
   | exact LeO.none _
   | refine LeO.ite ?_ ?_
   | refine LeO.bind ?_ (fun _ => ?_)
def law01_AddrCheckIsMonotone.T7 : Bool × List (List Nat × List Nat) := (true, [([], []), ([], []), ([0, 1], [0, 1]), ([2], [2]), ([], []), ([4], [4]), ([], []), ([], []), ([6, 7, 2], [6, 7]), ([5, 8], [5, 8]), ([3, 9], [3, 9]), ([10, 8], [10]), ([11], [11]), ([11], [11]), ([12, 13, 11, 11], [11, 12, 13]), ([14, 11], [11, 14]), ([15, 14, 11], [11, 15]), ([16], [16]), ([16], [16]), ([17, 18, 16, 16], [16, 17, 18]), ([19, 16], [16, 19]), ([16, 20, 11], [11, 16, 20]), ([11, 21], [11, 21])])
def law01_AddrCheckIsMonotone.B7 : List Nat := [0, 0, 3, 7, 0, 16, 0, 0, 199, 503, 1023, 2047, 4095, 4095, 16383, 32767, 65535, 131071, 131071, 524287, 1048575, 2097151, 4194303]
theorem law01_AddrCheckIsMonotone.tab7 : rtab .any (opsOf Tryd.f10 7) = law01_AddrCheckIsMonotone.T7 := by kernel_rfl
theorem law01_AddrCheckIsMonotone.bits7 : waitsOk law01_AddrCheckIsMonotone.T7.2 law01_AddrCheckIsMonotone.B7 = true := by kernel_rfl
set_option maxHeartbeats 8000000 in
set_option maxRecDepth 100000 in
theorem law01_AddrCheckIsMonotone.calls (k : Nat) (a0_0 : Int) (a0_1 : Int) (a0_2 : Int) (a1_0 : Int) (a1_1 : Int) (a1_2 : Int) (a2 : Int) (r : Bool) (w : World) (hL : Aside0 (LaidW 22 w)) (h : law01_AddrCheckIsMonotone.f k a0_0 a0_1 a0_2 a1_0 a1_1 a1_2 a2 = some r) :
  Calls Tryd.prog 10 #[.agg #[.int .u16 a0_0, .int .u16 a0_1, .int .u16 a0_2], .agg #[.int .u16 a1_0, .int .u16 a1_1, .int .u16 a1_2], .int .u16 a2] w fun e w' => e = .returned (.bool r) ∧ Below w.heap.size w w' := by
 have hu54 := Tryd.underlying54
 have hu56 := Tryd.underlying56
 have hu45 := Tryd.underlying45
 have HB := Aside0.mk (Below.refl w.heap.size w)
 have H : (law01_AddrCheckIsMonotone.l0 k a2 0 (wrap64 (a0_0)) (wrap64 (a0_1)) (wrap64 (a0_2)) 0 (wrap64 ((wrap64 (a0_0)) + (wrap64 (a1_0)))) (wrap64 ((wrap64 (a0_1)) + (wrap64 (a1_1)))) (wrap64 ((wrap64 (a0_2)) + (wrap64 (a1_2)))) 0) = some r := h
 clear h
 have H' := Aside0.mk H
 clear H
 go_enter Tryd.func10, Tryd.ntmps10
 go_wp2_with (first | ((with_reducible refine gate_dst (N := 3) rfl ?_); refine box_event ?hg (N := 3) ?hd (cs := #[.int .u16 a0_0, .int .u16 a0_1, .int .u16 a0_2]) (t := 54) ?hr ?_; (case hd => rfl); (case hg => rfl); (case hr => first | (go_simp; done) | (go_simp; rfl)); intro gb101 hg w4 hbox hb; have n0_ := Aside0.mk (below_step (by repeat (first | (with_reducible first | exact HB.out | apply below_alloc | apply pw_below_drewN | apply below_drew1) | exact HB.out)) hb); have n1_ := Aside0.mk (hbox); have n2_ := Aside0.mk ((by rw [hg]; exact (below_size (by repeat (first | (with_reducible first | exact HB.out | apply below_alloc | apply pw_below_drewN | apply below_drew1) | exact HB.out))) : w.heap.size ≤ gb101)); have n3_ := Aside0.mk ((by rw [hg]; exact (below_size (by repeat (first | (with_reducible first | exact HB.out | apply below_alloc | apply pw_below_drewN | apply below_drew1) | exact HB.out))) : w.heap.size ≤ gb101)); clear HB; have HB := n0_; have BK101 := n1_; have GW101 := n2_; have GE101 := n3_; clear n0_ n1_ n2_ n3_; clear hb hbox hg) | ((with_reducible refine gate_dst (N := 4) rfl ?_); refine box_event ?hg (N := 4) ?hd (cs := #[.int .u16 a1_0, .int .u16 a1_1, .int .u16 a1_2]) (t := 54) ?hr ?_; (case hd => rfl); (case hg => rfl); (case hr => first | (go_simp; done) | (go_simp; rfl)); intro gb102 hg w5 hbox hb; have n0_ := Aside0.mk (blk_below (g := gb101) (o := .cells #[.int .u16 a0_0, .int .u16 a0_1, .int .u16 a0_2] 54 (0, 0)) (by (with_reducible repeat (first | refine blk_drewN ?_ _ | refine blk_drew ?_ | refine blk_alloc ?_ _)); exact BK101.out) hb); have n1_ := Aside0.mk (below_step (by repeat (first | (with_reducible first | exact HB.out | apply below_alloc | apply pw_below_drewN | apply below_drew1 | refine below_set ?_ GE101.out) | exact HB.out)) hb); have n2_ := Aside0.mk (hbox); have n3_ := Aside0.mk ((by rw [hg]; exact (below_size (by repeat (first | (with_reducible first | exact HB.out | apply below_alloc | apply pw_below_drewN | apply below_drew1 | refine below_set ?_ GE101.out) | exact HB.out))) : w.heap.size ≤ gb102)); have n4_ := Aside0.mk ((by rw [hg]; exact (below_size (by repeat (first | (with_reducible first | exact HB.out | apply below_alloc | apply pw_below_drewN | apply below_drew1 | refine below_set ?_ GE101.out) | exact HB.out))) : w.heap.size ≤ gb102)); have n5_ := Aside0.mk ((by rw [hg]; exact Nat.ne_of_lt (blk_lt (g := gb101) (o := .cells #[.int .u16 a0_0, .int .u16 a0_1, .int .u16 a0_2] 54 (0, 0)) (by (with_reducible repeat (first | refine blk_drewN ?_ _ | refine blk_drew ?_ | refine blk_alloc ?_ _)); exact BK101.out)) : gb101 ≠ gb102)); have n6_ := Aside0.mk ((by rw [hg]; exact Nat.ne_of_gt (blk_lt (g := gb101) (o := .cells #[.int .u16 a0_0, .int .u16 a0_1, .int .u16 a0_2] 54 (0, 0)) (by (with_reducible repeat (first | refine blk_drewN ?_ _ | refine blk_drew ?_ | refine blk_alloc ?_ _)); exact BK101.out)) : gb102 ≠ gb101)); clear BK101; clear HB; have BK101 := n0_; have HB := n1_; have BK102 := n2_; have GW102 := n3_; have GE102 := n4_; have NB101_102 := n5_; have NB102_101 := n6_; clear n0_ n1_ n2_ n3_ n4_ n5_ n6_; clear hb hbox hg; have hnb6 := NB101_102.out; have hnc6 := NB102_101.out; have hcz7_0 : w5.cell? ⟨gb101, 0, none⟩ = some (.int .u16 a0_0) := (blk_cell BK101.out 0).trans rfl; have hcz7_1 : w5.cell? ⟨gb101, 1, none⟩ = some (.int .u16 a0_1) := (blk_cell BK101.out 1).trans rfl; have hcz7_2 : w5.cell? ⟨gb101, 2, none⟩ = some (.int .u16 a0_2) := (blk_cell BK101.out 2).trans rfl; have hfz7_0 := blk_frozen BK101.out 0; have hfz7_1 := blk_frozen BK101.out 1; have hfz7_2 := blk_frozen BK101.out 2) | ((with_reducible refine gate_dst (N := 7) rfl ?_); refine box_event ?hg (N := 7) ?hd (cs := #[.int .i64 0, .int .i64 0, .int .i64 0, .int .i64 0]) (t := 56) ?hr ?_; (case hd => rfl); (case hg => rfl); (case hr => first | (go_simp; done) | (go_simp; rfl)); intro gb103 hg w8 hbox hb; have n0_ := Aside0.mk (blk_below (g := gb101) (o := .cells #[.int .u16 a0_0, .int .u16 a0_1, .int .u16 a0_2] 54 (0, 0)) (by (with_reducible repeat (first | refine blk_drewN ?_ _ | refine blk_drew ?_ | refine blk_alloc ?_ _)); exact BK101.out) hb); have n1_ := Aside0.mk (blk_below (g := gb102) (o := .cells #[.int .u16 a1_0, .int .u16 a1_1, .int .u16 a1_2] 54 (0, 0)) (by (with_reducible repeat (first | refine blk_drewN ?_ _ | refine blk_drew ?_ | refine blk_alloc ?_ _)); exact BK102.out) hb); have n2_ := Aside0.mk (below_step (by repeat (first | (with_reducible first | exact HB.out | apply below_alloc | apply pw_below_drewN | apply below_drew1 | refine below_set ?_ GE101.out | refine below_set ?_ GE102.out) | exact HB.out)) hb); have n3_ := Aside0.mk (hbox); have n4_ := Aside0.mk ((by rw [hg]; exact (below_size (by repeat (first | (with_reducible first | exact HB.out | apply below_alloc | apply pw_below_drewN | apply below_drew1 | refine below_set ?_ GE101.out | refine below_set ?_ GE102.out) | exact HB.out))) : w.heap.size ≤ gb103)); have n5_ := Aside0.mk ((by rw [hg]; exact (below_size (by repeat (first | (with_reducible first | exact HB.out | apply below_alloc | apply pw_below_drewN | apply below_drew1 | refine below_set ?_ GE101.out | refine below_set ?_ GE102.out) | exact HB.out))) : w.heap.size ≤ gb103)); have n6_ := Aside0.mk ((by rw [hg]; exact Nat.ne_of_lt (blk_lt (g := gb101) (o := .cells #[.int .u16 a0_0, .int .u16 a0_1, .int .u16 a0_2] 54 (0, 0)) (by (with_reducible repeat (first | refine blk_drewN ?_ _ | refine blk_drew ?_ | refine blk_alloc ?_ _)); exact BK101.out)) : gb101 ≠ gb103)); have n7_ := Aside0.mk ((by rw [hg]; exact Nat.ne_of_gt (blk_lt (g := gb101) (o := .cells #[.int .u16 a0_0, .int .u16 a0_1, .int .u16 a0_2] 54 (0, 0)) (by (with_reducible repeat (first | refine blk_drewN ?_ _ | refine blk_drew ?_ | refine blk_alloc ?_ _)); exact BK101.out)) : gb103 ≠ gb101)); have n8_ := Aside0.mk ((by rw [hg]; exact Nat.ne_of_lt (blk_lt (g := gb102) (o := .cells #[.int .u16 a1_0, .int .u16 a1_1, .int .u16 a1_2] 54 (0, 0)) (by (with_reducible repeat (first | refine blk_drewN ?_ _ | refine blk_drew ?_ | refine blk_alloc ?_ _)); exact BK102.out)) : gb102 ≠ gb103)); have n9_ := Aside0.mk ((by rw [hg]; exact Nat.ne_of_gt (blk_lt (g := gb102) (o := .cells #[.int .u16 a1_0, .int .u16 a1_1, .int .u16 a1_2] 54 (0, 0)) (by (with_reducible repeat (first | refine blk_drewN ?_ _ | refine blk_drew ?_ | refine blk_alloc ?_ _)); exact BK102.out)) : gb103 ≠ gb102)); clear BK101; clear BK102; clear HB; have BK101 := n0_; have BK102 := n1_; have HB := n2_; have BK103 := n3_; have GW103 := n4_; have GE103 := n5_; have NB101_103 := n6_; have NB103_101 := n7_; have NB102_103 := n8_; have NB103_102 := n9_; clear n0_ n1_ n2_ n3_ n4_ n5_ n6_ n7_ n8_ n9_; clear hb hbox hg; have hnb9 := NB103_101.out; have hnc9 := NB101_103.out; have hnb10 := NB103_102.out; have hnc10 := NB102_103.out; have hcz11_0 : w8.cell? ⟨gb103, 0, none⟩ = some (.int .i64 0) := (blk_cell BK103.out 0).trans rfl; have hcz11_1 : w8.cell? ⟨gb103, 1, none⟩ = some (.int .i64 0) := (blk_cell BK103.out 1).trans rfl; have hcz11_2 : w8.cell? ⟨gb103, 2, none⟩ = some (.int .i64 0) := (blk_cell BK103.out 2).trans rfl; have hcz11_3 : w8.cell? ⟨gb103, 3, none⟩ = some (.int .i64 0) := (blk_cell BK103.out 3).trans rfl; have hfz11_0 := blk_frozen BK103.out 0; have hfz11_1 := blk_frozen BK103.out 1; have hfz11_2 := blk_frozen BK103.out 2; have hfz11_3 := blk_frozen BK103.out 3; have hcz12_0 : w8.cell? ⟨gb102, 0, none⟩ = some (.int .u16 a1_0) := (blk_cell BK102.out 0).trans rfl; have hcz12_1 : w8.cell? ⟨gb102, 1, none⟩ = some (.int .u16 a1_1) := (blk_cell BK102.out 1).trans rfl; have hcz12_2 : w8.cell? ⟨gb102, 2, none⟩ = some (.int .u16 a1_2) := (blk_cell BK102.out 2).trans rfl; have hfz12_0 := blk_frozen BK102.out 0; have hfz12_1 := blk_frozen BK102.out 1; have hfz12_2 := blk_frozen BK102.out 2) | ((with_reducible refine gate_dst (N := 8) rfl ?_); refine box_event ?hg (N := 8) ?hd (cs := #[.int .i64 0, .int .i64 0, .int .i64 0, .int .i64 0]) (t := 56) ?hr ?_; (case hd => rfl); (case hg => rfl); (case hr => first | (go_simp; done) | (go_simp; rfl)); intro gb104 hg w13 hbox hb; have n0_ := Aside0.mk (blk_below (g := gb101) (o := .cells #[.int .u16 a0_0, .int .u16 a0_1, .int .u16 a0_2] 54 (0, 0)) (by (with_reducible repeat (first | refine blk_drewN ?_ _ | refine blk_drew ?_ | refine blk_alloc ?_ _)); refine blk_far ?_ NB101_103.out _; (with_reducible repeat (first | refine blk_drewN ?_ _ | refine blk_drew ?_ | refine blk_alloc ?_ _)); refine blk_far ?_ NB101_103.out _; (with_reducible repeat (first | refine blk_drewN ?_ _ | refine blk_drew ?_ | refine blk_alloc ?_ _)); refine blk_far ?_ NB101_103.out _; (with_reducible repeat (first | refine blk_drewN ?_ _ | refine blk_drew ?_ | refine blk_alloc ?_ _)); refine blk_far ?_ NB101_103.out _; (with_reducible repeat (first | refine blk_drewN ?_ _ | refine blk_drew ?_ | refine blk_alloc ?_ _)); exact BK101.out) hb); have n1_ := Aside0.mk (blk_below (g := gb102) (o := .cells #[.int .u16 a1_0, .int .u16 a1_1, .int .u16 a1_2] 54 (0, 0)) (by (with_reducible repeat (first | refine blk_drewN ?_ _ | refine blk_drew ?_ | refine blk_alloc ?_ _)); refine blk_far ?_ NB102_103.out _; (with_reducible repeat (first | refine blk_drewN ?_ _ | refine blk_drew ?_ | refine blk_alloc ?_ _)); refine blk_far ?_ NB102_103.out _; (with_reducible repeat (first | refine blk_drewN ?_ _ | refine blk_drew ?_ | refine blk_alloc ?_ _)); refine blk_far ?_ NB102_103.out _; (with_reducible repeat (first | refine blk_drewN ?_ _ | refine blk_drew ?_ | refine blk_alloc ?_ _)); refine blk_far ?_ NB102_103.out _; (with_reducible repeat (first | refine blk_drewN ?_ _ | refine blk_drew ?_ | refine blk_alloc ?_ _)); exact BK102.out) hb); have n2_ := Aside0.mk (blk_below (g := gb103) (o := .cells #[.int .i64 (wrap64 (a0_0)), .int .i64 (wrap64 (a0_1)), .int .i64 (wrap64 (a0_2)), .int .i64 0] 56 (0, 0)) (by (with_reducible repeat (first | refine blk_drewN ?_ _ | refine blk_drew ?_ | refine blk_alloc ?_ _)); refine blk_put (cs := #[.int .i64 (wrap64 (a0_0)), .int .i64 (wrap64 (a0_1)), .int .i64 (wrap64 (a0_2)), .int .i64 0]) ?_ 3 _ rfl; (with_reducible repeat (first | refine blk_drewN ?_ _ | refine blk_drew ?_ | refine blk_alloc ?_ _)); refine blk_put (cs := #[.int .i64 (wrap64 (a0_0)), .int .i64 (wrap64 (a0_1)), .int .i64 0, .int .i64 0]) ?_ 2 _ rfl; (with_reducible repeat (first | refine blk_drewN ?_ _ | refine blk_drew ?_ | refine blk_alloc ?_ _)); refine blk_put (cs := #[.int .i64 (wrap64 (a0_0)), .int .i64 0, .int .i64 0, .int .i64 0]) ?_ 1 _ rfl; (with_reducible repeat (first | refine blk_drewN ?_ _ | refine blk_drew ?_ | refine blk_alloc ?_ _)); refine blk_put (cs := #[.int .i64 0, .int .i64 0, .int .i64 0, .int .i64 0]) ?_ 0 _ rfl; (with_reducible repeat (first | refine blk_drewN ?_ _ | refine blk_drew ?_ | refine blk_alloc ?_ _)); exact BK103.out) hb); have n3_ := Aside0.mk (below_step (by repeat (first | (with_reducible first | exact HB.out | apply below_alloc | apply pw_below_drewN | apply below_drew1 | refine below_set ?_ GE101.out | refine below_set ?_ GE102.out | refine below_set ?_ GE103.out) | exact HB.out)) hb); have n4_ := Aside0.mk (hbox); have n5_ := Aside0.mk ((by rw [hg]; exact (below_size (by repeat (first | (with_reducible first | exact HB.out | apply below_alloc | apply pw_below_drewN | apply below_drew1 | refine below_set ?_ GE101.out | refine below_set ?_ GE102.out | refine below_set ?_ GE103.out) | exact HB.out))) : w.heap.size ≤ gb104)); have n6_ := Aside0.mk ((by rw [hg]; exact (below_size (by repeat (first | (with_reducible first | exact HB.out | apply below_alloc | apply pw_below_drewN | apply below_drew1 | refine below_set ?_ GE101.out | refine below_set ?_ GE102.out | refine below_set ?_ GE103.out) | exact HB.out))) : w.heap.size ≤ gb104)); have n7_ := Aside0.mk ((by rw [hg]; exact Nat.ne_of_lt (blk_lt (g := gb101) (o := .cells #[.int .u16 a0_0, .int .u16 a0_1, .int .u16 a0_2] 54 (0, 0)) (by (with_reducible repeat (first | refine blk_drewN ?_ _ | refine blk_drew ?_ | refine blk_alloc ?_ _)); refine blk_far ?_ NB101_103.out _; (with_reducible repeat (first | refine blk_drewN ?_ _ | refine blk_drew ?_ | refine blk_alloc ?_ _)); refine blk_far ?_ NB101_103.out _; (with_reducible repeat (first | refine blk_drewN ?_ _ | refine blk_drew ?_ | refine blk_alloc ?_ _)); refine blk_far ?_ NB101_103.out _; (with_reducible repeat (first | refine blk_drewN ?_ _ | refine blk_drew ?_ | refine blk_alloc ?_ _)); refine blk_far ?_ NB101_103.out _; (with_reducible repeat (first | refine blk_drewN ?_ _ | refine blk_drew ?_ | refine blk_alloc ?_ _)); exact BK101.out)) : gb101 ≠ gb104)); have n8_ := Aside0.mk ((by rw [hg]; exact Nat.ne_of_gt (blk_lt (g := gb101) (o := .cells #[.int .u16 a0_0, .int .u16 a0_1, .int .u16 a0_2] 54 (0, 0)) (by (with_reducible repeat (first | refine blk_drewN ?_ _ | refine blk_drew ?_ | refine blk_alloc ?_ _)); refine blk_far ?_ NB101_103.out _; (with_reducible repeat (first | refine blk_drewN ?_ _ | refine blk_drew ?_ | refine blk_alloc ?_ _)); refine blk_far ?_ NB101_103.out _; (with_reducible repeat (first | refine blk_drewN ?_ _ | refine blk_drew ?_ | refine blk_alloc ?_ _)); refine blk_far ?_ NB101_103.out _; (with_reducible repeat (first | refine blk_drewN ?_ _ | refine blk_drew ?_ | refine blk_alloc ?_ _)); refine blk_far ?_ NB101_103.out _; (with_reducible repeat (first | refine blk_drewN ?_ _ | refine blk_drew ?_ | refine blk_alloc ?_ _)); exact BK101.out)) : gb104 ≠ gb101)); have n9_ := Aside0.mk ((by rw [hg]; exact Nat.ne_of_lt (blk_lt (g := gb102) (o := .cells #[.int .u16 a1_0, .int .u16 a1_1, .int .u16 a1_2] 54 (0, 0)) (by (with_reducible repeat (first | refine blk_drewN ?_ _ | refine blk_drew ?_ | refine blk_alloc ?_ _)); refine blk_far ?_ NB102_103.out _; (with_reducible repeat (first | refine blk_drewN ?_ _ | refine blk_drew ?_ | refine blk_alloc ?_ _)); refine blk_far ?_ NB102_103.out _; (with_reducible repeat (first | refine blk_drewN ?_ _ | refine blk_drew ?_ | refine blk_alloc ?_ _)); refine blk_far ?_ NB102_103.out _; (with_reducible repeat (first | refine blk_drewN ?_ _ | refine blk_drew ?_ | refine blk_alloc ?_ _)); refine blk_far ?_ NB102_103.out _; (with_reducible repeat (first | refine blk_drewN ?_ _ | refine blk_drew ?_ | refine blk_alloc ?_ _)); exact BK102.out)) : gb102 ≠ gb104)); have n10_ := Aside0.mk ((by rw [hg]; exact Nat.ne_of_gt (blk_lt (g := gb102) (o := .cells #[.int .u16 a1_0, .int .u16 a1_1, .int .u16 a1_2] 54 (0, 0)) (by (with_reducible repeat (first | refine blk_drewN ?_ _ | refine blk_drew ?_ | refine blk_alloc ?_ _)); refine blk_far ?_ NB102_103.out _; (with_reducible repeat (first | refine blk_drewN ?_ _ | refine blk_drew ?_ | refine blk_alloc ?_ _)); refine blk_far ?_ NB102_103.out _; (with_reducible repeat (first | refine blk_drewN ?_ _ | refine blk_drew ?_ | refine blk_alloc ?_ _)); refine blk_far ?_ NB102_103.out _; (with_reducible repeat (first | refine blk_drewN ?_ _ | refine blk_drew ?_ | refine blk_alloc ?_ _)); refine blk_far ?_ NB102_103.out _; (with_reducible repeat (first | refine blk_drewN ?_ _ | refine blk_drew ?_ | refine blk_alloc ?_ _)); exact BK102.out)) : gb104 ≠ gb102)); have n11_ := Aside0.mk ((by rw [hg]; exact Nat.ne_of_lt (blk_lt (g := gb103) (o := .cells #[.int .i64 (wrap64 (a0_0)), .int .i64 (wrap64 (a0_1)), .int .i64 (wrap64 (a0_2)), .int .i64 0] 56 (0, 0)) (by (with_reducible repeat (first | refine blk_drewN ?_ _ | refine blk_drew ?_ | refine blk_alloc ?_ _)); refine blk_put (cs := #[.int .i64 (wrap64 (a0_0)), .int .i64 (wrap64 (a0_1)), .int .i64 (wrap64 (a0_2)), .int .i64 0]) ?_ 3 _ rfl; (with_reducible repeat (first | refine blk_drewN ?_ _ | refine blk_drew ?_ | refine blk_alloc ?_ _)); refine blk_put (cs := #[.int .i64 (wrap64 (a0_0)), .int .i64 (wrap64 (a0_1)), .int .i64 0, .int .i64 0]) ?_ 2 _ rfl; (with_reducible repeat (first | refine blk_drewN ?_ _ | refine blk_drew ?_ | refine blk_alloc ?_ _)); refine blk_put (cs := #[.int .i64 (wrap64 (a0_0)), .int .i64 0, .int .i64 0, .int .i64 0]) ?_ 1 _ rfl; (with_reducible repeat (first | refine blk_drewN ?_ _ | refine blk_drew ?_ | refine blk_alloc ?_ _)); refine blk_put (cs := #[.int .i64 0, .int .i64 0, .int .i64 0, .int .i64 0]) ?_ 0 _ rfl; (with_reducible repeat (first | refine blk_drewN ?_ _ | refine blk_drew ?_ | refine blk_alloc ?_ _)); exact BK103.out)) : gb103 ≠ gb104)); have n12_ := Aside0.mk ((by rw [hg]; exact Nat.ne_of_gt (blk_lt (g := gb103) (o := .cells #[.int .i64 (wrap64 (a0_0)), .int .i64 (wrap64 (a0_1)), .int .i64 (wrap64 (a0_2)), .int .i64 0] 56 (0, 0)) (by (with_reducible repeat (first | refine blk_drewN ?_ _ | refine blk_drew ?_ | refine blk_alloc ?_ _)); refine blk_put (cs := #[.int .i64 (wrap64 (a0_0)), .int .i64 (wrap64 (a0_1)), .int .i64 (wrap64 (a0_2)), .int .i64 0]) ?_ 3 _ rfl; (with_reducible repeat (first | refine blk_drewN ?_ _ | refine blk_drew ?_ | refine blk_alloc ?_ _)); refine blk_put (cs := #[.int .i64 (wrap64 (a0_0)), .int .i64 (wrap64 (a0_1)), .int .i64 0, .int .i64 0]) ?_ 2 _ rfl; (with_reducible repeat (first | refine blk_drewN ?_ _ | refine blk_drew ?_ | refine blk_alloc ?_ _)); refine blk_put (cs := #[.int .i64 (wrap64 (a0_0)), .int .i64 0, .int .i64 0, .int .i64 0]) ?_ 1 _ rfl; (with_reducible repeat (first | refine blk_drewN ?_ _ | refine blk_drew ?_ | refine blk_alloc ?_ _)); refine blk_put (cs := #[.int .i64 0, .int .i64 0, .int .i64 0, .int .i64 0]) ?_ 0 _ rfl; (with_reducible repeat (first | refine blk_drewN ?_ _ | refine blk_drew ?_ | refine blk_alloc ?_ _)); exact BK103.out)) : gb104 ≠ gb103)); clear BK101; clear BK102; clear BK103; clear HB; have BK101 := n0_; have BK102 := n1_; have BK103 := n2_; have HB := n3_; have BK104 := n4_; have GW104 := n5_; have GE104 := n6_; have NB101_104 := n7_; have NB104_101 := n8_; have NB102_104 := n9_; have NB104_102 := n10_; have NB103_104 := n11_; have NB104_103 := n12_; clear n0_ n1_ n2_ n3_ n4_ n5_ n6_ n7_ n8_ n9_ n10_ n11_ n12_; clear hb hbox hg; have hnb14 := NB104_101.out; have hnc14 := NB101_104.out; have hnb15 := NB104_102.out; have hnc15 := NB102_104.out; have hnb16 := NB104_103.out; have hnc16 := NB103_104.out; have hcz17_0 : w13.cell? ⟨gb104, 0, none⟩ = some (.int .i64 0) := (blk_cell BK104.out 0).trans rfl; have hcz17_1 : w13.cell? ⟨gb104, 1, none⟩ = some (.int .i64 0) := (blk_cell BK104.out 1).trans rfl; have hcz17_2 : w13.cell? ⟨gb104, 2, none⟩ = some (.int .i64 0) := (blk_cell BK104.out 2).trans rfl; have hcz17_3 : w13.cell? ⟨gb104, 3, none⟩ = some (.int .i64 0) := (blk_cell BK104.out 3).trans rfl; have hfz17_0 := blk_frozen BK104.out 0; have hfz17_1 := blk_frozen BK104.out 1; have hfz17_2 := blk_frozen BK104.out 2; have hfz17_3 := blk_frozen BK104.out 3))
 go_loopg [40] k (fun kq v40 w' => ∃ (x40_1 : Int), v40 = .int .i64 x40_1 ∧ Aside0 (law01_AddrCheckIsMonotone.l0 kq a2 x40_1 (wrap64 (a0_0)) (wrap64 (a0_1)) (wrap64 (a0_2)) 0 (wrap64 ((wrap64 (a0_0)) + (wrap64 (a1_0)))) (wrap64 ((wrap64 (a0_1)) + (wrap64 (a1_1)))) (wrap64 ((wrap64 (a0_2)) + (wrap64 (a1_2)))) 0 = some r) ∧ Aside0 (kq ≤ k) ∧ Aside0 (w'.heap[gb101]? = some (.cells #[.int .u16 a0_0, .int .u16 a0_1, .int .u16 a0_2] 54 (0, 0))) ∧ Aside0 (w'.heap[gb102]? = some (.cells #[.int .u16 a1_0, .int .u16 a1_1, .int .u16 a1_2] 54 (0, 0))) ∧ Aside0 (w'.heap[gb103]? = some (.cells #[.int .i64 (wrap64 (a0_0)), .int .i64 (wrap64 (a0_1)), .int .i64 (wrap64 (a0_2)), .int .i64 0] 56 (0, 0))) ∧ Aside0 (w'.heap[gb104]? = some (.cells #[.int .i64 (wrap64 ((wrap64 (a0_0)) + (wrap64 (a1_0)))), .int .i64 (wrap64 ((wrap64 (a0_1)) + (wrap64 (a1_1)))), .int .i64 (wrap64 ((wrap64 (a0_2)) + (wrap64 (a1_2)))), .int .i64 0] 56 (0, 0))) ∧ Aside0 (Below w.heap.size w w'))
 case atStart => exact ⟨(0), (by first | rfl | (simp; done) | (simp [*]; done)), H', ⟨Nat.le_refl _⟩, ⟨by (with_reducible repeat (first | refine blk_drewN ?_ _ | refine blk_drew ?_ | refine blk_alloc ?_ _)); refine blk_far ?_ NB101_104.out _; (with_reducible repeat (first | refine blk_drewN ?_ _ | refine blk_drew ?_ | refine blk_alloc ?_ _)); refine blk_far ?_ NB101_104.out _; (with_reducible repeat (first | refine blk_drewN ?_ _ | refine blk_drew ?_ | refine blk_alloc ?_ _)); refine blk_far ?_ NB101_104.out _; (with_reducible repeat (first | refine blk_drewN ?_ _ | refine blk_drew ?_ | refine blk_alloc ?_ _)); refine blk_far ?_ NB101_104.out _; (with_reducible repeat (first | refine blk_drewN ?_ _ | refine blk_drew ?_ | refine blk_alloc ?_ _)); exact BK101.out⟩, ⟨by (with_reducible repeat (first | refine blk_drewN ?_ _ | refine blk_drew ?_ | refine blk_alloc ?_ _)); refine blk_far ?_ NB102_104.out _; (with_reducible repeat (first | refine blk_drewN ?_ _ | refine blk_drew ?_ | refine blk_alloc ?_ _)); refine blk_far ?_ NB102_104.out _; (with_reducible repeat (first | refine blk_drewN ?_ _ | refine blk_drew ?_ | refine blk_alloc ?_ _)); refine blk_far ?_ NB102_104.out _; (with_reducible repeat (first | refine blk_drewN ?_ _ | refine blk_drew ?_ | refine blk_alloc ?_ _)); refine blk_far ?_ NB102_104.out _; (with_reducible repeat (first | refine blk_drewN ?_ _ | refine blk_drew ?_ | refine blk_alloc ?_ _)); exact BK102.out⟩, ⟨by (with_reducible repeat (first | refine blk_drewN ?_ _ | refine blk_drew ?_ | refine blk_alloc ?_ _)); refine blk_far ?_ NB103_104.out _; (with_reducible repeat (first | refine blk_drewN ?_ _ | refine blk_drew ?_ | refine blk_alloc ?_ _)); refine blk_far ?_ NB103_104.out _; (with_reducible repeat (first | refine blk_drewN ?_ _ | refine blk_drew ?_ | refine blk_alloc ?_ _)); refine blk_far ?_ NB103_104.out _; (with_reducible repeat (first | refine blk_drewN ?_ _ | refine blk_drew ?_ | refine blk_alloc ?_ _)); refine blk_far ?_ NB103_104.out _; (with_reducible repeat (first | refine blk_drewN ?_ _ | refine blk_drew ?_ | refine blk_alloc ?_ _)); exact BK103.out⟩, ⟨by (with_reducible repeat (first | refine blk_drewN ?_ _ | refine blk_drew ?_ | refine blk_alloc ?_ _)); refine blk_put (cs := #[.int .i64 (wrap64 ((wrap64 (a0_0)) + (wrap64 (a1_0)))), .int .i64 (wrap64 ((wrap64 (a0_1)) + (wrap64 (a1_1)))), .int .i64 (wrap64 ((wrap64 (a0_2)) + (wrap64 (a1_2)))), .int .i64 0]) ?_ 3 _ rfl; (with_reducible repeat (first | refine blk_drewN ?_ _ | refine blk_drew ?_ | refine blk_alloc ?_ _)); refine blk_put (cs := #[.int .i64 (wrap64 ((wrap64 (a0_0)) + (wrap64 (a1_0)))), .int .i64 (wrap64 ((wrap64 (a0_1)) + (wrap64 (a1_1)))), .int .i64 0, .int .i64 0]) ?_ 2 _ rfl; (with_reducible repeat (first | refine blk_drewN ?_ _ | refine blk_drew ?_ | refine blk_alloc ?_ _)); refine blk_put (cs := #[.int .i64 (wrap64 ((wrap64 (a0_0)) + (wrap64 (a1_0)))), .int .i64 0, .int .i64 0, .int .i64 0]) ?_ 1 _ rfl; (with_reducible repeat (first | refine blk_drewN ?_ _ | refine blk_drew ?_ | refine blk_alloc ?_ _)); refine blk_put (cs := #[.int .i64 0, .int .i64 0, .int .i64 0, .int .i64 0]) ?_ 0 _ rfl; (with_reducible repeat (first | refine blk_drewN ?_ _ | refine blk_drew ?_ | refine blk_alloc ?_ _)); exact BK104.out⟩, ⟨by repeat (first | (with_reducible first | exact HB.out | apply below_alloc | apply pw_below_drewN | apply below_drew1 | refine below_set ?_ GE101.out | refine below_set ?_ GE102.out | refine below_set ?_ GE103.out | refine below_set ?_ GE104.out) | exact HB.out)⟩⟩
 case round =>
  clear H'
  try clear c1
  try clear p2
  try clear c6
  try clear p6
  try clear c9
  try clear c10
  try clear c14
  try clear c15
  try clear c16
  try clear hcz11_0
  try clear hcz11_1
  try clear hcz11_2
  try clear hcz11_3
  try clear hcz12_0
  try clear hcz12_1
  try clear hcz12_2
  try clear hcz17_0
  try clear hcz17_1
  try clear hcz17_2
  try clear hcz17_3
  try clear hcz7_0
  try clear hcz7_1
  try clear hcz7_2
  try clear hfz11_0
  try clear hfz11_1
  try clear hfz11_2
  try clear hfz11_3
  try clear hfz12_0
  try clear hfz12_1
  try clear hfz12_2
  try clear hfz17_0
  try clear hfz17_1
  try clear hfz17_2
  try clear hfz17_3
  try clear hfz7_0
  try clear hfz7_1
  try clear hfz7_2
  obtain ⟨x40_1, rfl, HA, HK1, BK101, BK102, BK103, BK104, HB⟩ := hrel
  cases gk with
  | zero => exact absurd HA.out (by simp [law01_AddrCheckIsMonotone.l0])
  | succ k1 =>
   have H := HA.out
   clear HA
   simp only [law01_AddrCheckIsMonotone.l0] at H
   by_cases c18 : x40_1 < 3
   ·rw [if_pos c18] at H
    have c18b0 : decide (x40_1 < 3) = true := decide_eq_true c18
    clear c18
    replace H := Option.bind_eq_some_iff.mp H
    obtain ⟨t107, A190, H⟩ := H
    replace H : ((addr_Width.f (wrap64 (a0_0)) (wrap64 (a0_1)) (wrap64 (a0_2)) 0 x40_1).bind fun t108 => (if ((t107 == 0) != (decide ((wrap64 (a2)) < t108))) = true then (some false) else ((addr_CheckAddr.f (wrap64 (a0_0)) (wrap64 (a0_1)) (wrap64 (a0_2)) 0 x40_1 (wrap64 (a2))).bind fun t109 => (if t107 = 0 then ((addr_CheckAddr.f (wrap64 ((wrap64 (a0_0)) + (wrap64 (a1_0)))) (wrap64 ((wrap64 (a0_1)) + (wrap64 (a1_1)))) (wrap64 ((wrap64 (a0_2)) + (wrap64 (a1_2)))) 0 x40_1 (wrap64 (a2))).bind fun t110 => (if t110 = 0 then (law01_AddrCheckIsMonotone.l0 k1 a2 (wrap64 (x40_1 + 1)) (wrap64 (a0_0)) (wrap64 (a0_1)) (wrap64 (a0_2)) 0 (wrap64 ((wrap64 (a0_0)) + (wrap64 (a1_0)))) (wrap64 ((wrap64 (a0_1)) + (wrap64 (a1_1)))) (wrap64 ((wrap64 (a0_2)) + (wrap64 (a1_2)))) 0) else (some false))) else (law01_AddrCheckIsMonotone.l0 k1 a2 (wrap64 (x40_1 + 1)) (wrap64 (a0_0)) (wrap64 (a0_1)) (wrap64 (a0_2)) 0 (wrap64 ((wrap64 (a0_0)) + (wrap64 (a1_0)))) (wrap64 ((wrap64 (a0_1)) + (wrap64 (a1_1)))) (wrap64 ((wrap64 (a0_2)) + (wrap64 (a1_2)))) 0))))) = some r := H
    have A19 := Aside0.mk A190
    clear A190
    replace H := Option.bind_eq_some_iff.mp H
    obtain ⟨t108, A200, H⟩ := H
    replace H : (if ((t107 == 0) != (decide ((wrap64 (a2)) < t108))) = true then (some false) else ((addr_CheckAddr.f (wrap64 (a0_0)) (wrap64 (a0_1)) (wrap64 (a0_2)) 0 x40_1 (wrap64 (a2))).bind fun t109 => (if t107 = 0 then ((addr_CheckAddr.f (wrap64 ((wrap64 (a0_0)) + (wrap64 (a1_0)))) (wrap64 ((wrap64 (a0_1)) + (wrap64 (a1_1)))) (wrap64 ((wrap64 (a0_2)) + (wrap64 (a1_2)))) 0 x40_1 (wrap64 (a2))).bind fun t110 => (if t110 = 0 then (law01_AddrCheckIsMonotone.l0 k1 a2 (wrap64 (x40_1 + 1)) (wrap64 (a0_0)) (wrap64 (a0_1)) (wrap64 (a0_2)) 0 (wrap64 ((wrap64 (a0_0)) + (wrap64 (a1_0)))) (wrap64 ((wrap64 (a0_1)) + (wrap64 (a1_1)))) (wrap64 ((wrap64 (a0_2)) + (wrap64 (a1_2)))) 0) else (some false))) else (law01_AddrCheckIsMonotone.l0 k1 a2 (wrap64 (x40_1 + 1)) (wrap64 (a0_0)) (wrap64 (a0_1)) (wrap64 (a0_2)) 0 (wrap64 ((wrap64 (a0_0)) + (wrap64 (a1_0)))) (wrap64 ((wrap64 (a0_1)) + (wrap64 (a1_1)))) (wrap64 ((wrap64 (a0_2)) + (wrap64 (a1_2)))) 0)))) = some r := H
    have A20 := Aside0.mk A200
    clear A200
    by_cases c21 : ((t107 == 0) != (decide ((wrap64 (a2)) < t108))) = true
    ·rw [if_pos c21] at H
     have c21b0 : ((t107 == 0) != (decide ((wrap64 (a2)) < t108))) = true := c21
     (try (have c21b1 : decide ((t107 == 0) = (decide ((wrap64 (a2)) < t108))) = false := by simpa using c21))
     (try (have c21b2 : ((t107 == 0) == (decide ((wrap64 (a2)) < t108))) = false := by simpa using c21))
     (try (have c21b3 : ¬ ((t107 == 0) = (decide ((wrap64 (a2)) < t108))) := by simpa using c21))
     clear c21
     obtain rfl := Option.some.inj H
     try go_wp2_with (first | ((with_reducible refine gate_dst (N := 10) rfl ?_); refine box_event ?hg (N := 10) ?hd (cs := #[.int .i64 0, .int .i64 0]) (t := 45) ?hr ?_; (case hd => rfl); (case hg => rfl); (case hr => first | (go_simp; done) | (go_simp; rfl)); intro gb106 hg w22 hbox hb; have n0_ := Aside0.mk (blk_below (g := gb101) (o := .cells #[.int .u16 a0_0, .int .u16 a0_1, .int .u16 a0_2] 54 (0, 0)) (by (with_reducible repeat (first | refine blk_drewN ?_ _ | refine blk_drew ?_ | refine blk_alloc ?_ _)); exact BK101.out) hb); have n1_ := Aside0.mk (blk_below (g := gb102) (o := .cells #[.int .u16 a1_0, .int .u16 a1_1, .int .u16 a1_2] 54 (0, 0)) (by (with_reducible repeat (first | refine blk_drewN ?_ _ | refine blk_drew ?_ | refine blk_alloc ?_ _)); exact BK102.out) hb); have n2_ := Aside0.mk (blk_below (g := gb103) (o := .cells #[.int .i64 (wrap64 (a0_0)), .int .i64 (wrap64 (a0_1)), .int .i64 (wrap64 (a0_2)), .int .i64 0] 56 (0, 0)) (by (with_reducible repeat (first | refine blk_drewN ?_ _ | refine blk_drew ?_ | refine blk_alloc ?_ _)); exact BK103.out) hb); have n3_ := Aside0.mk (blk_below (g := gb104) (o := .cells #[.int .i64 (wrap64 ((wrap64 (a0_0)) + (wrap64 (a1_0)))), .int .i64 (wrap64 ((wrap64 (a0_1)) + (wrap64 (a1_1)))), .int .i64 (wrap64 ((wrap64 (a0_2)) + (wrap64 (a1_2)))), .int .i64 0] 56 (0, 0)) (by (with_reducible repeat (first | refine blk_drewN ?_ _ | refine blk_drew ?_ | refine blk_alloc ?_ _)); exact BK104.out) hb); have n4_ := Aside0.mk (below_step (by repeat (first | (with_reducible first | exact HB.out | apply below_alloc | apply pw_below_drewN | apply below_drew1 | refine below_set ?_ GE101.out | refine below_set ?_ GE102.out | refine below_set ?_ GE103.out | refine below_set ?_ GE104.out) | exact HB.out)) hb); have n5_ := Aside0.mk (hbox); have n6_ := Aside0.mk ((by rw [hg]; exact (below_size (by repeat (first | (with_reducible first | exact HB.out | apply below_alloc | apply pw_below_drewN | apply below_drew1 | refine below_set ?_ GE101.out | refine below_set ?_ GE102.out | refine below_set ?_ GE103.out | refine below_set ?_ GE104.out) | exact HB.out))) : w.heap.size ≤ gb106)); have n7_ := Aside0.mk ((by rw [hg]; exact (below_size (by repeat (first | (with_reducible first | exact HB.out | apply below_alloc | apply pw_below_drewN | apply below_drew1 | refine below_set ?_ GE101.out | refine below_set ?_ GE102.out | refine below_set ?_ GE103.out | refine below_set ?_ GE104.out) | exact HB.out))) : w.heap.size ≤ gb106)); have n8_ := Aside0.mk ((by rw [hg]; exact Nat.ne_of_lt (blk_lt (g := gb101) (o := .cells #[.int .u16 a0_0, .int .u16 a0_1, .int .u16 a0_2] 54 (0, 0)) (by (with_reducible repeat (first | refine blk_drewN ?_ _ | refine blk_drew ?_ | refine blk_alloc ?_ _)); exact BK101.out)) : gb101 ≠ gb106)); have n9_ := Aside0.mk ((by rw [hg]; exact Nat.ne_of_gt (blk_lt (g := gb101) (o := .cells #[.int .u16 a0_0, .int .u16 a0_1, .int .u16 a0_2] 54 (0, 0)) (by (with_reducible repeat (first | refine blk_drewN ?_ _ | refine blk_drew ?_ | refine blk_alloc ?_ _)); exact BK101.out)) : gb106 ≠ gb101)); have n10_ := Aside0.mk ((by rw [hg]; exact Nat.ne_of_lt (blk_lt (g := gb102) (o := .cells #[.int .u16 a1_0, .int .u16 a1_1, .int .u16 a1_2] 54 (0, 0)) (by (with_reducible repeat (first | refine blk_drewN ?_ _ | refine blk_drew ?_ | refine blk_alloc ?_ _)); exact BK102.out)) : gb102 ≠ gb106)); have n11_ := Aside0.mk ((by rw [hg]; exact Nat.ne_of_gt (blk_lt (g := gb102) (o := .cells #[.int .u16 a1_0, .int .u16 a1_1, .int .u16 a1_2] 54 (0, 0)) (by (with_reducible repeat (first | refine blk_drewN ?_ _ | refine blk_drew ?_ | refine blk_alloc ?_ _)); exact BK102.out)) : gb106 ≠ gb102)); have n12_ := Aside0.mk ((by rw [hg]; exact Nat.ne_of_lt (blk_lt (g := gb103) (o := .cells #[.int .i64 (wrap64 (a0_0)), .int .i64 (wrap64 (a0_1)), .int .i64 (wrap64 (a0_2)), .int .i64 0] 56 (0, 0)) (by (with_reducible repeat (first | refine blk_drewN ?_ _ | refine blk_drew ?_ | refine blk_alloc ?_ _)); exact BK103.out)) : gb103 ≠ gb106)); have n13_ := Aside0.mk ((by rw [hg]; exact Nat.ne_of_gt (blk_lt (g := gb103) (o := .cells #[.int .i64 (wrap64 (a0_0)), .int .i64 (wrap64 (a0_1)), .int .i64 (wrap64 (a0_2)), .int .i64 0] 56 (0, 0)) (by (with_reducible repeat (first | refine blk_drewN ?_ _ | refine blk_drew ?_ | refine blk_alloc ?_ _)); exact BK103.out)) : gb106 ≠ gb103)); have n14_ := Aside0.mk ((by rw [hg]; exact Nat.ne_of_lt (blk_lt (g := gb104) (o := .cells #[.int .i64 (wrap64 ((wrap64 (a0_0)) + (wrap64 (a1_0)))), .int .i64 (wrap64 ((wrap64 (a0_1)) + (wrap64 (a1_1)))), .int .i64 (wrap64 ((wrap64 (a0_2)) + (wrap64 (a1_2)))), .int .i64 0] 56 (0, 0)) (by (with_reducible repeat (first | refine blk_drewN ?_ _ | refine blk_drew ?_ | refine blk_alloc ?_ _)); exact BK104.out)) : gb104 ≠ gb106)); have n15_ := Aside0.mk ((by rw [hg]; exact Nat.ne_of_gt (blk_lt (g := gb104) (o := .cells #[.int .i64 (wrap64 ((wrap64 (a0_0)) + (wrap64 (a1_0)))), .int .i64 (wrap64 ((wrap64 (a0_1)) + (wrap64 (a1_1)))), .int .i64 (wrap64 ((wrap64 (a0_2)) + (wrap64 (a1_2)))), .int .i64 0] 56 (0, 0)) (by (with_reducible repeat (first | refine blk_drewN ?_ _ | refine blk_drew ?_ | refine blk_alloc ?_ _)); exact BK104.out)) : gb106 ≠ gb104)); clear BK101; clear BK102; clear BK103; clear BK104; clear HB; have BK101 := n0_; have BK102 := n1_; have BK103 := n2_; have BK104 := n3_; have HB := n4_; have BK106 := n5_; have GW106 := n6_; have GE106 := n7_; have NB101_106 := n8_; have NB106_101 := n9_; have NB102_106 := n10_; have NB106_102 := n11_; have NB103_106 := n12_; have NB106_103 := n13_; have NB104_106 := n14_; have NB106_104 := n15_; clear n0_ n1_ n2_ n3_ n4_ n5_ n6_ n7_ n8_ n9_ n10_ n11_ n12_ n13_ n14_ n15_; clear hb hbox hg; have hnb23 := NB106_101.out; have hnc23 := NB101_106.out; have hnb24 := NB106_102.out; have hnc24 := NB102_106.out; have hnb25 := NB106_103.out; have hnc25 := NB103_106.out; have hnb26 := NB106_104.out; have hnc26 := NB104_106.out; have hcz27_0 : w22.cell? ⟨gb106, 0, none⟩ = some (.int .i64 0) := (blk_cell BK106.out 0).trans rfl; have hcz27_1 : w22.cell? ⟨gb106, 1, none⟩ = some (.int .i64 0) := (blk_cell BK106.out 1).trans rfl; have hfz27_0 := blk_frozen BK106.out 0; have hfz27_1 := blk_frozen BK106.out 1))
     have n0_ : Aside0 (((w22.setCell ⟨gb106, 0, none⟩ (.int .i64 x40_1)).setCell ⟨gb106, 1, none⟩ (.int .i64 (wrap64 (a2)))).heap[gb101]? = some (.cells #[.int .u16 a0_0, .int .u16 a0_1, .int .u16 a0_2] 54 (0, 0))) := ⟨by (with_reducible repeat (first | refine blk_drewN ?_ _ | refine blk_drew ?_ | refine blk_alloc ?_ _)); refine blk_far ?_ NB101_106.out _; (with_reducible repeat (first | refine blk_drewN ?_ _ | refine blk_drew ?_ | refine blk_alloc ?_ _)); refine blk_far ?_ NB101_106.out _; (with_reducible repeat (first | refine blk_drewN ?_ _ | refine blk_drew ?_ | refine blk_alloc ?_ _)); exact BK101.out⟩
     have n1_ : Aside0 (((w22.setCell ⟨gb106, 0, none⟩ (.int .i64 x40_1)).setCell ⟨gb106, 1, none⟩ (.int .i64 (wrap64 (a2)))).heap[gb102]? = some (.cells #[.int .u16 a1_0, .int .u16 a1_1, .int .u16 a1_2] 54 (0, 0))) := ⟨by (with_reducible repeat (first | refine blk_drewN ?_ _ | refine blk_drew ?_ | refine blk_alloc ?_ _)); refine blk_far ?_ NB102_106.out _; (with_reducible repeat (first | refine blk_drewN ?_ _ | refine blk_drew ?_ | refine blk_alloc ?_ _)); refine blk_far ?_ NB102_106.out _; (with_reducible repeat (first | refine blk_drewN ?_ _ | refine blk_drew ?_ | refine blk_alloc ?_ _)); exact BK102.out⟩
     have n2_ : Aside0 (((w22.setCell ⟨gb106, 0, none⟩ (.int .i64 x40_1)).setCell ⟨gb106, 1, none⟩ (.int .i64 (wrap64 (a2)))).heap[gb103]? = some (.cells #[.int .i64 (wrap64 (a0_0)), .int .i64 (wrap64 (a0_1)), .int .i64 (wrap64 (a0_2)), .int .i64 0] 56 (0, 0))) := ⟨by (with_reducible repeat (first | refine blk_drewN ?_ _ | refine blk_drew ?_ | refine blk_alloc ?_ _)); refine blk_far ?_ NB103_106.out _; (with_reducible repeat (first | refine blk_drewN ?_ _ | refine blk_drew ?_ | refine blk_alloc ?_ _)); refine blk_far ?_ NB103_106.out _; (with_reducible repeat (first | refine blk_drewN ?_ _ | refine blk_drew ?_ | refine blk_alloc ?_ _)); exact BK103.out⟩
     have n3_ : Aside0 (((w22.setCell ⟨gb106, 0, none⟩ (.int .i64 x40_1)).setCell ⟨gb106, 1, none⟩ (.int .i64 (wrap64 (a2)))).heap[gb104]? = some (.cells #[.int .i64 (wrap64 ((wrap64 (a0_0)) + (wrap64 (a1_0)))), .int .i64 (wrap64 ((wrap64 (a0_1)) + (wrap64 (a1_1)))), .int .i64 (wrap64 ((wrap64 (a0_2)) + (wrap64 (a1_2)))), .int .i64 0] 56 (0, 0))) := ⟨by (with_reducible repeat (first | refine blk_drewN ?_ _ | refine blk_drew ?_ | refine blk_alloc ?_ _)); refine blk_far ?_ NB104_106.out _; (with_reducible repeat (first | refine blk_drewN ?_ _ | refine blk_drew ?_ | refine blk_alloc ?_ _)); refine blk_far ?_ NB104_106.out _; (with_reducible repeat (first | refine blk_drewN ?_ _ | refine blk_drew ?_ | refine blk_alloc ?_ _)); exact BK104.out⟩
     have n4_ : Aside0 (((w22.setCell ⟨gb106, 0, none⟩ (.int .i64 x40_1)).setCell ⟨gb106, 1, none⟩ (.int .i64 (wrap64 (a2)))).heap[gb106]? = some (.cells #[.int .i64 x40_1, .int .i64 (wrap64 (a2))] 45 (0, 0))) := ⟨by (with_reducible repeat (first | refine blk_drewN ?_ _ | refine blk_drew ?_ | refine blk_alloc ?_ _)); refine blk_put (cs := #[.int .i64 x40_1, .int .i64 0]) ?_ 1 _ rfl; (with_reducible repeat (first | refine blk_drewN ?_ _ | refine blk_drew ?_ | refine blk_alloc ?_ _)); refine blk_put (cs := #[.int .i64 0, .int .i64 0]) ?_ 0 _ rfl; (with_reducible repeat (first | refine blk_drewN ?_ _ | refine blk_drew ?_ | refine blk_alloc ?_ _)); exact BK106.out⟩
     have n5_ : Aside0 (Below w.heap.size w ((w22.setCell ⟨gb106, 0, none⟩ (.int .i64 x40_1)).setCell ⟨gb106, 1, none⟩ (.int .i64 (wrap64 (a2))))) := ⟨by repeat (first | (with_reducible first | exact HB.out | apply below_alloc | apply pw_below_drewN | apply below_drew1 | refine below_set ?_ GE101.out | refine below_set ?_ GE102.out | refine below_set ?_ GE103.out | refine below_set ?_ GE104.out | refine below_set ?_ GE106.out) | exact HB.out)⟩
     (try clear BK101)
     (try clear BK102)
     (try clear BK103)
     (try clear BK104)
     (try clear BK106)
     (try clear HB)
     generalize ((w22.setCell ⟨gb106, 0, none⟩ (.int .i64 x40_1)).setCell ⟨gb106, 1, none⟩ (.int .i64 (wrap64 (a2)))) = w28 at n0_ n1_ n2_ n3_ n4_ n5_ ⊢
     have BK101 := n0_
     have BK102 := n1_
     have BK103 := n2_
     have BK104 := n3_
     have BK106 := n4_
     have HB := n5_
     clear n0_ n1_ n2_ n3_ n4_ n5_
     have n0_ := Aside0.mk (blk_drew BK101.out)
     have n1_ := Aside0.mk (blk_drew BK102.out)
     have n2_ := Aside0.mk (blk_drew BK103.out)
     have n3_ := Aside0.mk (blk_drew BK104.out)
     have n4_ := Aside0.mk (blk_drew BK106.out)
     have n5_ := Aside0.mk (below_drew1 HB.out)
     clear BK101
     clear BK102
     clear BK103
     clear BK104
     clear BK106
     clear HB
     have BK101 := n0_
     have BK102 := n1_
     have BK103 := n2_
     have BK104 := n3_
     have BK106 := n4_
     have HB := n5_
     clear n0_ n1_ n2_ n3_ n4_ n5_
     refine start_ (n := 23) (S := fun w' => w'.cell? ⟨gb103, 0, none⟩ = some (.int .i64 (wrap64 (a0_0))) ∧ w'.cell? ⟨gb103, 1, none⟩ = some (.int .i64 (wrap64 (a0_1))) ∧ w'.cell? ⟨gb103, 2, none⟩ = some (.int .i64 (wrap64 (a0_2))) ∧ w'.cell? ⟨gb103, 3, none⟩ = some (.int .i64 0) ∧ w'.cell? ⟨gb106, 0, none⟩ = some (.int .i64 x40_1) ∧ w'.cell? ⟨gb106, 1, none⟩ = some (.int .i64 (wrap64 (a2)))) (ds := []) #[false, false, false, false, false, false, false, false, false, false, false, false, false, false, false, false, false, false, false, false, false, false, false] (by kernel_rfl) rfl rfl ⟨(blk_cell BK103.out 0).trans rfl, (blk_cell BK103.out 1).trans rfl, (blk_cell BK103.out 2).trans rfl, (blk_cell BK103.out 3).trans rfl, (blk_cell BK106.out 0).trans rfl, (blk_cell BK106.out 1).trans rfl⟩ (fun hHeld => ?_); refine with_tabW law01_AddrCheckIsMonotone.tab7 law01_AddrCheckIsMonotone.bits7 (fun HT_ HW_ => ?_)
     generalize w28.drew = w29 at BK101 BK102 BK103 BK104 BK106 HB hHeld ⊢
     refine pure_ (i := 4) (N := some 51) (v := ?_) (a' := ?_) #[false, false, false, false, true, false, false, false, false, false, false, false, false, false, false, false, false, false, false, false, false, false, false] rfl rfl (any_of HT_.out (by kernel_rfl)) (fun _ _ _ h => h) (Or.inl ⟨by rfl, ?_⟩) ?_ ?_
     rotate_left
     ·intro w'
      go_simp
      with_reducible rfl
     rotate_left
     ·simp only [Act.put, List.setIfInBounds_toArray, List.set_cons_zero, List.set_cons_succ, i64_w, i32_w]
      rfl
     refine pure_ (i := 5) (N := some 52) (v := ?_) (a' := ?_) #[false, false, false, false, true, true, false, false, false, false, false, false, false, false, false, false, false, false, false, false, false, false, false] rfl rfl (any_of HT_.out (by kernel_rfl)) (fun _ _ _ h => h) (Or.inl ⟨by rfl, ?_⟩) ?_ ?_
     rotate_left
     ·intro w'
      go_simp
      with_reducible rfl
     rotate_left
     ·simp only [Act.put, List.setIfInBounds_toArray, List.set_cons_zero, List.set_cons_succ, i64_w, i32_w]
      rfl
     refine pure_ (i := 7) (N := some 54) (v := ?_) (a' := ?_) #[false, false, false, false, true, true, false, true, false, false, false, false, false, false, false, false, false, false, false, false, false, false, false] rfl rfl (any_of HT_.out (by kernel_rfl)) (fun _ _ _ h => h) (Or.inl ⟨by rfl, ?_⟩) ?_ ?_
     rotate_left
     ·intro w'
      go_simp
      with_reducible rfl
     rotate_left
     ·simp only [Act.put, List.setIfInBounds_toArray, List.set_cons_zero, List.set_cons_succ, i64_w, i32_w]
      rfl
     refine take_ (i := 0) (N := some 47) (v := ?_) (a' := ?_) #[true, false, false, false, true, true, false, true, false, false, false, false, false, false, false, false, false, false, false, false, false, false, false] rfl rfl (take_ofW HT_.out HW_.out (by kernel_rfl)) (fun _ _ _ h => h) (Or.inl ⟨by rfl, ?_⟩) hHeld ?_ ?_
     rotate_left
     ·rintro w' ⟨s0, s1, s2, s3, s4, s5⟩
      go_simp
      with_reducible rfl
     rotate_left
     ·simp only [Act.put, List.setIfInBounds_toArray, List.set_cons_zero, List.set_cons_succ, i64_w, i32_w]
      rfl
     refine take_ (i := 1) (N := some 48) (v := ?_) (a' := ?_) #[true, true, false, false, true, true, false, true, false, false, false, false, false, false, false, false, false, false, false, false, false, false, false] rfl rfl (take_ofW HT_.out HW_.out (by kernel_rfl)) (fun _ _ _ h => h) (Or.inl ⟨by rfl, ?_⟩) hHeld ?_ ?_
     rotate_left
     ·rintro w' ⟨s0, s1, s2, s3, s4, s5⟩
      go_simp
      with_reducible rfl
     rotate_left
     ·simp only [Act.put, List.setIfInBounds_toArray, List.set_cons_zero, List.set_cons_succ, i64_w, i32_w]
      rfl
     refine take_ (i := 6) (N := some 53) (v := ?_) (a' := ?_) #[true, true, false, false, true, true, true, true, false, false, false, false, false, false, false, false, false, false, false, false, false, false, false] rfl rfl (take_ofW HT_.out HW_.out (by kernel_rfl)) (fun _ _ _ h => h) (Or.inl ⟨by rfl, ?_⟩) hHeld ?_ ?_
     rotate_left
     ·rintro w' ⟨s0, s1, s2, s3, s4, s5⟩
      go_simp
      with_reducible rfl
     rotate_left
     ·simp only [Act.put, List.setIfInBounds_toArray, List.set_cons_zero, List.set_cons_succ, i64_w, i32_w]
      rfl
     refine one_ (i := 2) (N := some 49) #[true, true, true, false, true, true, true, true, false, false, false, false, false, false, false, false, false, false, false, false, false, false, false] rfl rfl (one_of HT_.out (by kernel_rfl)) (by decide) (fun K hK => ?_)
     refine goes_ Tryd.func30 (by kernel_rfl) rfl #[.agg #[.int .i64 (wrap64 (a0_0)), .int .i64 (wrap64 (a0_1)), .int .i64 (wrap64 (a0_2)), .int .i64 0], .agg #[.int .i64 x40_1, .int .i64 (wrap64 (a2))]] (by rfl) rfl rfl (by (try simp only [List.map_toArray, List.map_cons, List.map_nil]); first | done | rfl | (simp only [List.length_drop, List.length_take]; rfl)) ?_
     with_reducible refine (addr_CheckAddr.calls (wrap64 (a0_0)) (wrap64 (a0_1)) (wrap64 (a0_2)) 0 x40_1 (wrap64 (a2)) t107 _ A19.out).mono ?_
     rintro e w30 ⟨rfl, hb⟩
     refine ⟨_, rfl, ?_⟩
     have n0_ := Aside0.mk (blk_below (g := gb101) (o := .cells #[.int .u16 a0_0, .int .u16 a0_1, .int .u16 a0_2] 54 (0, 0)) (by (with_reducible repeat (first | refine blk_drewN ?_ _ | refine blk_drew ?_ | refine blk_alloc ?_ _)); exact BK101.out) hb)
     have n1_ := Aside0.mk (blk_below (g := gb102) (o := .cells #[.int .u16 a1_0, .int .u16 a1_1, .int .u16 a1_2] 54 (0, 0)) (by (with_reducible repeat (first | refine blk_drewN ?_ _ | refine blk_drew ?_ | refine blk_alloc ?_ _)); exact BK102.out) hb)
     have n2_ := Aside0.mk (blk_below (g := gb103) (o := .cells #[.int .i64 (wrap64 (a0_0)), .int .i64 (wrap64 (a0_1)), .int .i64 (wrap64 (a0_2)), .int .i64 0] 56 (0, 0)) (by (with_reducible repeat (first | refine blk_drewN ?_ _ | refine blk_drew ?_ | refine blk_alloc ?_ _)); exact BK103.out) hb)
     have n3_ := Aside0.mk (blk_below (g := gb104) (o := .cells #[.int .i64 (wrap64 ((wrap64 (a0_0)) + (wrap64 (a1_0)))), .int .i64 (wrap64 ((wrap64 (a0_1)) + (wrap64 (a1_1)))), .int .i64 (wrap64 ((wrap64 (a0_2)) + (wrap64 (a1_2)))), .int .i64 0] 56 (0, 0)) (by (with_reducible repeat (first | refine blk_drewN ?_ _ | refine blk_drew ?_ | refine blk_alloc ?_ _)); exact BK104.out) hb)
     have n4_ := Aside0.mk (blk_below (g := gb106) (o := .cells #[.int .i64 x40_1, .int .i64 (wrap64 (a2))] 45 (0, 0)) (by (with_reducible repeat (first | refine blk_drewN ?_ _ | refine blk_drew ?_ | refine blk_alloc ?_ _)); exact BK106.out) hb)
     have n5_ := Aside0.mk (below_step (by repeat (first | (with_reducible first | exact HB.out | apply below_alloc | apply pw_below_drewN | apply below_drew1 | refine below_set ?_ GE101.out | refine below_set ?_ GE102.out | refine below_set ?_ GE103.out | refine below_set ?_ GE104.out | refine below_set ?_ GE106.out) | exact HB.out)) hb)
     clear BK101
     clear BK102
     clear BK103
     clear BK104
     clear BK106
     clear HB
     have BK101 := n0_
     have BK102 := n1_
     have BK103 := n2_
     have BK104 := n3_
     have BK106 := n4_
     have HB := n5_
     clear n0_ n1_ n2_ n3_ n4_ n5_
     (try clear hb)
     (try clear hb2)
     (try clear hk)
     (try clear hi)
     refine hK.out _ _ ⟨(blk_cell BK103.out 0).trans rfl, (blk_cell BK103.out 1).trans rfl, (blk_cell BK103.out 2).trans rfl, (blk_cell BK103.out 3).trans rfl, (blk_cell BK106.out 0).trans rfl, (blk_cell BK106.out 1).trans rfl⟩ (fun hHeld => ?_)
     clear hK K
     refine norm_ (a' := ?_) ?_ ?_
     rotate_left
     ·show Act.put _ (some 49) _ = _
      simp only [Act.put, List.setIfInBounds_toArray, List.set_cons_zero, List.set_cons_succ, i64_w, i32_w]
      rfl
     refine pure_ (i := 3) (N := some 50) (v := ?_) (a' := ?_) #[true, true, true, true, true, true, true, true, false, false, false, false, false, false, false, false, false, false, false, false, false, false, false] rfl rfl (any_of HT_.out (by kernel_rfl)) (fun _ _ _ h => h) (Or.inl ⟨by rfl, ?_⟩) ?_ ?_
     rotate_left
     ·intro w'
      go_simp
      with_reducible rfl
     rotate_left
     ·simp only [Act.put, List.setIfInBounds_toArray, List.set_cons_zero, List.set_cons_succ, i64_w, i32_w]
      rfl
     refine one_ (i := 8) (N := some 55) #[true, true, true, true, true, true, true, true, true, false, false, false, false, false, false, false, false, false, false, false, false, false, false] rfl rfl (one_of HT_.out (by kernel_rfl)) (by decide) (fun K hK => ?_)
     refine goes_ Tryd.func31 (by kernel_rfl) rfl #[.agg #[.int .i64 (wrap64 (a0_0)), .int .i64 (wrap64 (a0_1)), .int .i64 (wrap64 (a0_2)), .int .i64 0], .int .i64 x40_1] (by rfl) rfl rfl (by (try simp only [List.map_toArray, List.map_cons, List.map_nil]); first | done | rfl | (simp only [List.length_drop, List.length_take]; rfl)) ?_
     with_reducible refine (addr_Width.calls (wrap64 (a0_0)) (wrap64 (a0_1)) (wrap64 (a0_2)) 0 x40_1 t108 _ A20.out).mono ?_
     rintro e w31 ⟨rfl, hb⟩
     refine ⟨_, rfl, ?_⟩
     have n0_ := Aside0.mk (blk_below (g := gb101) (o := .cells #[.int .u16 a0_0, .int .u16 a0_1, .int .u16 a0_2] 54 (0, 0)) (by (with_reducible repeat (first | refine blk_drewN ?_ _ | refine blk_drew ?_ | refine blk_alloc ?_ _)); exact BK101.out) hb)
     have n1_ := Aside0.mk (blk_below (g := gb102) (o := .cells #[.int .u16 a1_0, .int .u16 a1_1, .int .u16 a1_2] 54 (0, 0)) (by (with_reducible repeat (first | refine blk_drewN ?_ _ | refine blk_drew ?_ | refine blk_alloc ?_ _)); exact BK102.out) hb)
     have n2_ := Aside0.mk (blk_below (g := gb103) (o := .cells #[.int .i64 (wrap64 (a0_0)), .int .i64 (wrap64 (a0_1)), .int .i64 (wrap64 (a0_2)), .int .i64 0] 56 (0, 0)) (by (with_reducible repeat (first | refine blk_drewN ?_ _ | refine blk_drew ?_ | refine blk_alloc ?_ _)); exact BK103.out) hb)
     have n3_ := Aside0.mk (blk_below (g := gb104) (o := .cells #[.int .i64 (wrap64 ((wrap64 (a0_0)) + (wrap64 (a1_0)))), .int .i64 (wrap64 ((wrap64 (a0_1)) + (wrap64 (a1_1)))), .int .i64 (wrap64 ((wrap64 (a0_2)) + (wrap64 (a1_2)))), .int .i64 0] 56 (0, 0)) (by (with_reducible repeat (first | refine blk_drewN ?_ _ | refine blk_drew ?_ | refine blk_alloc ?_ _)); exact BK104.out) hb)
     have n4_ := Aside0.mk (blk_below (g := gb106) (o := .cells #[.int .i64 x40_1, .int .i64 (wrap64 (a2))] 45 (0, 0)) (by (with_reducible repeat (first | refine blk_drewN ?_ _ | refine blk_drew ?_ | refine blk_alloc ?_ _)); exact BK106.out) hb)
     have n5_ := Aside0.mk (below_step (by repeat (first | (with_reducible first | exact HB.out | apply below_alloc | apply pw_below_drewN | apply below_drew1 | refine below_set ?_ GE101.out | refine below_set ?_ GE102.out | refine below_set ?_ GE103.out | refine below_set ?_ GE104.out | refine below_set ?_ GE106.out) | exact HB.out)) hb)
     clear BK101
     clear BK102
     clear BK103
     clear BK104
     clear BK106
     clear HB
     have BK101 := n0_
     have BK102 := n1_
     have BK103 := n2_
     have BK104 := n3_
     have BK106 := n4_
     have HB := n5_
     clear n0_ n1_ n2_ n3_ n4_ n5_
     (try clear hb)
     (try clear hb2)
     (try clear hk)
     (try clear hi)
     refine hK.out _ _ ⟨(blk_cell BK103.out 0).trans rfl, (blk_cell BK103.out 1).trans rfl, (blk_cell BK103.out 2).trans rfl, (blk_cell BK103.out 3).trans rfl, (blk_cell BK106.out 0).trans rfl, (blk_cell BK106.out 1).trans rfl⟩ (fun hHeld => ?_)
     clear hK K
     refine norm_ (a' := ?_) ?_ ?_
     rotate_left
     ·show Act.put _ (some 55) _ = _
      simp only [Act.put, List.setIfInBounds_toArray, List.set_cons_zero, List.set_cons_succ, i64_w, i32_w]
      rfl
     refine pure_ (i := 9) (N := some 56) (v := ?_) (a' := ?_) #[true, true, true, true, true, true, true, true, true, true, false, false, false, false, false, false, false, false, false, false, false, false, false] rfl rfl (any_of HT_.out (by kernel_rfl)) (fun _ _ _ h => h) (Or.inl ⟨by rfl, ?_⟩) ?_ ?_
     rotate_left
     ·intro w'
      go_simp
      with_reducible rfl
     rotate_left
     ·simp only [Act.put, List.setIfInBounds_toArray, List.set_cons_zero, List.set_cons_succ, i64_w, i32_w]
      rfl
     refine pure_ (i := 10) (N := some 57) (v := ?_) (a' := ?_) #[true, true, true, true, true, true, true, true, true, true, true, false, false, false, false, false, false, false, false, false, false, false, false] rfl rfl (any_of HT_.out (by kernel_rfl)) (fun _ _ _ h => h) (Or.inl ⟨by rfl, ?_⟩) ?_ ?_
     rotate_left
     ·intro w'
      go_simp
      with_reducible rfl
     rotate_left
     ·simp only [Act.put, List.setIfInBounds_toArray, List.set_cons_zero, List.set_cons_succ, i64_w, i32_w]
      rfl
     refine pure_ (i := 11) (N := some 58) (v := ?_) (a' := ?_) #[true, true, true, true, true, true, true, true, true, true, true, true, false, false, false, false, false, false, false, false, false, false, false] rfl rfl (any_of HT_.out (by kernel_rfl)) (fun _ _ _ h => h) (Or.inl ⟨by rfl, ?_⟩) ?_ ?_
     rotate_left
     ·intro w'
      go_simp
      with_reducible rfl
     rotate_left
     ·simp only [Act.put, List.setIfInBounds_toArray, List.set_cons_zero, List.set_cons_succ, i64_w, i32_w]
      rfl
     refine pure_ (i := 12) (N := some 59) (v := undef) (a' := ?_) #[true, true, true, true, true, true, true, true, true, true, true, true, true, false, false, false, false, false, false, false, false, false, false] rfl rfl (any_of HT_.out (by kernel_rfl)) (fun _ _ _ h => h) (Or.inr ⟨by rfl, rfl⟩) ?_ ?_
     rotate_left
     ·simp only [Act.put, List.setIfInBounds_toArray, List.set_cons_zero, List.set_cons_succ, i64_w, i32_w]
      rfl
     refine pure_ (i := 13) (N := some 60) (v := undef) (a' := ?_) #[true, true, true, true, true, true, true, true, true, true, true, true, true, true, false, false, false, false, false, false, false, false, false] rfl rfl (any_of HT_.out (by kernel_rfl)) (fun _ _ _ h => h) (Or.inr ⟨by rfl, rfl⟩) ?_ ?_
     rotate_left
     ·simp only [Act.put, List.setIfInBounds_toArray, List.set_cons_zero, List.set_cons_succ, i64_w, i32_w]
      rfl
     refine pure_ (i := 14) (N := some 61) (v := undef) (a' := ?_) #[true, true, true, true, true, true, true, true, true, true, true, true, true, true, true, false, false, false, false, false, false, false, false] rfl rfl (any_of HT_.out (by kernel_rfl)) (fun _ _ _ h => h) (Or.inr ⟨by rfl, rfl⟩) ?_ ?_
     rotate_left
     ·simp only [Act.put, List.setIfInBounds_toArray, List.set_cons_zero, List.set_cons_succ, i64_w, i32_w]
      rfl
     refine pure_ (i := 15) (N := some 62) (v := undef) (a' := ?_) #[true, true, true, true, true, true, true, true, true, true, true, true, true, true, true, true, false, false, false, false, false, false, false] rfl rfl (any_of HT_.out (by kernel_rfl)) (fun _ _ _ h => h) (Or.inr ⟨by rfl, rfl⟩) ?_ ?_
     rotate_left
     ·simp only [Act.put, List.setIfInBounds_toArray, List.set_cons_zero, List.set_cons_succ, i64_w, i32_w]
      rfl
     refine pure_ (i := 16) (N := some 63) (v := undef) (a' := ?_) #[true, true, true, true, true, true, true, true, true, true, true, true, true, true, true, true, true, false, false, false, false, false, false] rfl rfl (any_of HT_.out (by kernel_rfl)) (fun _ _ _ h => h) (Or.inr ⟨by rfl, rfl⟩) ?_ ?_
     rotate_left
     ·simp only [Act.put, List.setIfInBounds_toArray, List.set_cons_zero, List.set_cons_succ, i64_w, i32_w]
      rfl
     refine pure_ (i := 17) (N := some 64) (v := undef) (a' := ?_) #[true, true, true, true, true, true, true, true, true, true, true, true, true, true, true, true, true, true, false, false, false, false, false] rfl rfl (any_of HT_.out (by kernel_rfl)) (fun _ _ _ h => h) (Or.inr ⟨by rfl, rfl⟩) ?_ ?_
     rotate_left
     ·simp only [Act.put, List.setIfInBounds_toArray, List.set_cons_zero, List.set_cons_succ, i64_w, i32_w]
      rfl
     refine pure_ (i := 18) (N := some 65) (v := undef) (a' := ?_) #[true, true, true, true, true, true, true, true, true, true, true, true, true, true, true, true, true, true, true, false, false, false, false] rfl rfl (any_of HT_.out (by kernel_rfl)) (fun _ _ _ h => h) (Or.inr ⟨by rfl, rfl⟩) ?_ ?_
     rotate_left
     ·simp only [Act.put, List.setIfInBounds_toArray, List.set_cons_zero, List.set_cons_succ, i64_w, i32_w]
      rfl
     refine pure_ (i := 19) (N := some 66) (v := undef) (a' := ?_) #[true, true, true, true, true, true, true, true, true, true, true, true, true, true, true, true, true, true, true, true, false, false, false] rfl rfl (any_of HT_.out (by kernel_rfl)) (fun _ _ _ h => h) (Or.inr ⟨by rfl, rfl⟩) ?_ ?_
     rotate_left
     ·simp only [Act.put, List.setIfInBounds_toArray, List.set_cons_zero, List.set_cons_succ, i64_w, i32_w]
      rfl
     refine pure_ (i := 20) (N := some 67) (v := undef) (a' := ?_) #[true, true, true, true, true, true, true, true, true, true, true, true, true, true, true, true, true, true, true, true, true, false, false] rfl rfl (any_of HT_.out (by kernel_rfl)) (fun _ _ _ h => h) (Or.inr ⟨by rfl, rfl⟩) ?_ ?_
     rotate_left
     ·simp only [Act.put, List.setIfInBounds_toArray, List.set_cons_zero, List.set_cons_succ, i64_w, i32_w]
      rfl
     refine pure_ (i := 21) (N := some 68) (v := undef) (a' := ?_) #[true, true, true, true, true, true, true, true, true, true, true, true, true, true, true, true, true, true, true, true, true, true, false] rfl rfl (any_of HT_.out (by kernel_rfl)) (fun _ _ _ h => h) (Or.inr ⟨by rfl, rfl⟩) ?_ ?_
     rotate_left
     ·simp only [Act.put, List.setIfInBounds_toArray, List.set_cons_zero, List.set_cons_succ, i64_w, i32_w]
      rfl
     refine pure_ (i := 22) (N := some 69) (v := ?_) (a' := ?_) #[true, true, true, true, true, true, true, true, true, true, true, true, true, true, true, true, true, true, true, true, true, true, true] rfl rfl (any_of HT_.out (by kernel_rfl)) (fun _ _ _ h => h) (Or.inl ⟨by rfl, ?_⟩) ?_ ?_
     rotate_left
     ·intro w'
      go_simp
      with_reducible rfl
     rotate_left
     ·simp only [Act.put, List.setIfInBounds_toArray, List.set_cons_zero, List.set_cons_succ, i64_w, i32_w]
      rfl
     refine done_ (done_of HT_.out (by kernel_rfl)) ?_
     try go_wp2
     go_ret
     exact ⟨by first | rfl | (simp [errW_none, errW_some] <;> rfl) | (simp [*, errW_none, errW_some] <;> rfl), by repeat (first | (with_reducible first | exact HB.out | apply below_alloc | apply pw_below_drewN | apply below_drew1 | refine below_set ?_ GE101.out | refine below_set ?_ GE102.out | refine below_set ?_ GE103.out | refine below_set ?_ GE104.out | refine below_set ?_ GE106.out) | exact HB.out)⟩
    ·rw [if_neg c21] at H
     have c21b0 : ((t107 == 0) != (decide ((wrap64 (a2)) < t108))) = false := by simpa using c21
     (try (have c21b1 : decide ((t107 == 0) = (decide ((wrap64 (a2)) < t108))) = true := by simpa using c21))
     (try (have c21b2 : ((t107 == 0) == (decide ((wrap64 (a2)) < t108))) = true := by simpa using c21))
     clear c21
     replace H := Option.bind_eq_some_iff.mp H
     obtain ⟨t109, A320, H⟩ := H
     replace H : (if t107 = 0 then ((addr_CheckAddr.f (wrap64 ((wrap64 (a0_0)) + (wrap64 (a1_0)))) (wrap64 ((wrap64 (a0_1)) + (wrap64 (a1_1)))) (wrap64 ((wrap64 (a0_2)) + (wrap64 (a1_2)))) 0 x40_1 (wrap64 (a2))).bind fun t110 => (if t110 = 0 then (law01_AddrCheckIsMonotone.l0 k1 a2 (wrap64 (x40_1 + 1)) (wrap64 (a0_0)) (wrap64 (a0_1)) (wrap64 (a0_2)) 0 (wrap64 ((wrap64 (a0_0)) + (wrap64 (a1_0)))) (wrap64 ((wrap64 (a0_1)) + (wrap64 (a1_1)))) (wrap64 ((wrap64 (a0_2)) + (wrap64 (a1_2)))) 0) else (some false))) else (law01_AddrCheckIsMonotone.l0 k1 a2 (wrap64 (x40_1 + 1)) (wrap64 (a0_0)) (wrap64 (a0_1)) (wrap64 (a0_2)) 0 (wrap64 ((wrap64 (a0_0)) + (wrap64 (a1_0)))) (wrap64 ((wrap64 (a0_1)) + (wrap64 (a1_1)))) (wrap64 ((wrap64 (a0_2)) + (wrap64 (a1_2)))) 0)) = some r := H
     have A32 := Aside0.mk A320
     clear A320
     by_cases c33 : t107 = 0
     ·rw [if_pos c33] at H
      have c33b0 : (t107 == 0) = true := beq_iff_eq.mpr c33
      have hx1 : (t109 == 0) = true := by rw [Option.some.inj (A32.out.symm.trans A19.out)]; exact c33b0
      have c33b1 : (t107 != 0) = false := bne_eq_false_iff_eq.mpr c33
      have hx2 : (t109 != 0) = false := by rw [Option.some.inj (A32.out.symm.trans A19.out)]; exact c33b1
      have hx3 : (decide ((wrap64 (a2)) < t108)) = true := by rw [c33b0] at c21b0; revert c21b0; generalize (decide ((wrap64 (a2)) < t108)) = z; cases z <;> simp
      clear c33
      replace H := Option.bind_eq_some_iff.mp H
      obtain ⟨t110, A340, H⟩ := H
      replace H : (if t110 = 0 then (law01_AddrCheckIsMonotone.l0 k1 a2 (wrap64 (x40_1 + 1)) (wrap64 (a0_0)) (wrap64 (a0_1)) (wrap64 (a0_2)) 0 (wrap64 ((wrap64 (a0_0)) + (wrap64 (a1_0)))) (wrap64 ((wrap64 (a0_1)) + (wrap64 (a1_1)))) (wrap64 ((wrap64 (a0_2)) + (wrap64 (a1_2)))) 0) else (some false)) = some r := H
      have A34 := Aside0.mk A340
      clear A340
      by_cases c35 : t110 = 0
      ·rw [if_pos c35] at H
       have c35b0 : (t110 == 0) = true := beq_iff_eq.mpr c35
       have c35b1 : (t110 != 0) = false := bne_eq_false_iff_eq.mpr c35
       clear c35
       have H' := Aside0.mk H
       clear H
       try go_wp2_with (first | ((with_reducible refine gate_dst (N := 10) rfl ?_); refine box_event ?hg (N := 10) ?hd (cs := #[.int .i64 0, .int .i64 0]) (t := 45) ?hr ?_; (case hd => rfl); (case hg => rfl); (case hr => first | (go_simp; done) | (go_simp; rfl)); intro gb106 hg w36 hbox hb; have n0_ := Aside0.mk (blk_below (g := gb101) (o := .cells #[.int .u16 a0_0, .int .u16 a0_1, .int .u16 a0_2] 54 (0, 0)) (by (with_reducible repeat (first | refine blk_drewN ?_ _ | refine blk_drew ?_ | refine blk_alloc ?_ _)); exact BK101.out) hb); have n1_ := Aside0.mk (blk_below (g := gb102) (o := .cells #[.int .u16 a1_0, .int .u16 a1_1, .int .u16 a1_2] 54 (0, 0)) (by (with_reducible repeat (first | refine blk_drewN ?_ _ | refine blk_drew ?_ | refine blk_alloc ?_ _)); exact BK102.out) hb); have n2_ := Aside0.mk (blk_below (g := gb103) (o := .cells #[.int .i64 (wrap64 (a0_0)), .int .i64 (wrap64 (a0_1)), .int .i64 (wrap64 (a0_2)), .int .i64 0] 56 (0, 0)) (by (with_reducible repeat (first | refine blk_drewN ?_ _ | refine blk_drew ?_ | refine blk_alloc ?_ _)); exact BK103.out) hb); have n3_ := Aside0.mk (blk_below (g := gb104) (o := .cells #[.int .i64 (wrap64 ((wrap64 (a0_0)) + (wrap64 (a1_0)))), .int .i64 (wrap64 ((wrap64 (a0_1)) + (wrap64 (a1_1)))), .int .i64 (wrap64 ((wrap64 (a0_2)) + (wrap64 (a1_2)))), .int .i64 0] 56 (0, 0)) (by (with_reducible repeat (first | refine blk_drewN ?_ _ | refine blk_drew ?_ | refine blk_alloc ?_ _)); exact BK104.out) hb); have n4_ := Aside0.mk (below_step (by repeat (first | (with_reducible first | exact HB.out | apply below_alloc | apply pw_below_drewN | apply below_drew1 | refine below_set ?_ GE101.out | refine below_set ?_ GE102.out | refine below_set ?_ GE103.out | refine below_set ?_ GE104.out) | exact HB.out)) hb); have n5_ := Aside0.mk (hbox); have n6_ := Aside0.mk ((by rw [hg]; exact (below_size (by repeat (first | (with_reducible first | exact HB.out | apply below_alloc | apply pw_below_drewN | apply below_drew1 | refine below_set ?_ GE101.out | refine below_set ?_ GE102.out | refine below_set ?_ GE103.out | refine below_set ?_ GE104.out) | exact HB.out))) : w.heap.size ≤ gb106)); have n7_ := Aside0.mk ((by rw [hg]; exact (below_size (by repeat (first | (with_reducible first | exact HB.out | apply below_alloc | apply pw_below_drewN | apply below_drew1 | refine below_set ?_ GE101.out | refine below_set ?_ GE102.out | refine below_set ?_ GE103.out | refine below_set ?_ GE104.out) | exact HB.out))) : w.heap.size ≤ gb106)); have n8_ := Aside0.mk ((by rw [hg]; exact Nat.ne_of_lt (blk_lt (g := gb101) (o := .cells #[.int .u16 a0_0, .int .u16 a0_1, .int .u16 a0_2] 54 (0, 0)) (by (with_reducible repeat (first | refine blk_drewN ?_ _ | refine blk_drew ?_ | refine blk_alloc ?_ _)); exact BK101.out)) : gb101 ≠ gb106)); have n9_ := Aside0.mk ((by rw [hg]; exact Nat.ne_of_gt (blk_lt (g := gb101) (o := .cells #[.int .u16 a0_0, .int .u16 a0_1, .int .u16 a0_2] 54 (0, 0)) (by (with_reducible repeat (first | refine blk_drewN ?_ _ | refine blk_drew ?_ | refine blk_alloc ?_ _)); exact BK101.out)) : gb106 ≠ gb101)); have n10_ := Aside0.mk ((by rw [hg]; exact Nat.ne_of_lt (blk_lt (g := gb102) (o := .cells #[.int .u16 a1_0, .int .u16 a1_1, .int .u16 a1_2] 54 (0, 0)) (by (with_reducible repeat (first | refine blk_drewN ?_ _ | refine blk_drew ?_ | refine blk_alloc ?_ _)); exact BK102.out)) : gb102 ≠ gb106)); have n11_ := Aside0.mk ((by rw [hg]; exact Nat.ne_of_gt (blk_lt (g := gb102) (o := .cells #[.int .u16 a1_0, .int .u16 a1_1, .int .u16 a1_2] 54 (0, 0)) (by (with_reducible repeat (first | refine blk_drewN ?_ _ | refine blk_drew ?_ | refine blk_alloc ?_ _)); exact BK102.out)) : gb106 ≠ gb102)); have n12_ := Aside0.mk ((by rw [hg]; exact Nat.ne_of_lt (blk_lt (g := gb103) (o := .cells #[.int .i64 (wrap64 (a0_0)), .int .i64 (wrap64 (a0_1)), .int .i64 (wrap64 (a0_2)), .int .i64 0] 56 (0, 0)) (by (with_reducible repeat (first | refine blk_drewN ?_ _ | refine blk_drew ?_ | refine blk_alloc ?_ _)); exact BK103.out)) : gb103 ≠ gb106)); have n13_ := Aside0.mk ((by rw [hg]; exact Nat.ne_of_gt (blk_lt (g := gb103) (o := .cells #[.int .i64 (wrap64 (a0_0)), .int .i64 (wrap64 (a0_1)), .int .i64 (wrap64 (a0_2)), .int .i64 0] 56 (0, 0)) (by (with_reducible repeat (first | refine blk_drewN ?_ _ | refine blk_drew ?_ | refine blk_alloc ?_ _)); exact BK103.out)) : gb106 ≠ gb103)); have n14_ := Aside0.mk ((by rw [hg]; exact Nat.ne_of_lt (blk_lt (g := gb104) (o := .cells #[.int .i64 (wrap64 ((wrap64 (a0_0)) + (wrap64 (a1_0)))), .int .i64 (wrap64 ((wrap64 (a0_1)) + (wrap64 (a1_1)))), .int .i64 (wrap64 ((wrap64 (a0_2)) + (wrap64 (a1_2)))), .int .i64 0] 56 (0, 0)) (by (with_reducible repeat (first | refine blk_drewN ?_ _ | refine blk_drew ?_ | refine blk_alloc ?_ _)); exact BK104.out)) : gb104 ≠ gb106)); have n15_ := Aside0.mk ((by rw [hg]; exact Nat.ne_of_gt (blk_lt (g := gb104) (o := .cells #[.int .i64 (wrap64 ((wrap64 (a0_0)) + (wrap64 (a1_0)))), .int .i64 (wrap64 ((wrap64 (a0_1)) + (wrap64 (a1_1)))), .int .i64 (wrap64 ((wrap64 (a0_2)) + (wrap64 (a1_2)))), .int .i64 0] 56 (0, 0)) (by (with_reducible repeat (first | refine blk_drewN ?_ _ | refine blk_drew ?_ | refine blk_alloc ?_ _)); exact BK104.out)) : gb106 ≠ gb104)); clear BK101; clear BK102; clear BK103; clear BK104; clear HB; have BK101 := n0_; have BK102 := n1_; have BK103 := n2_; have BK104 := n3_; have HB := n4_; have BK106 := n5_; have GW106 := n6_; have GE106 := n7_; have NB101_106 := n8_; have NB106_101 := n9_; have NB102_106 := n10_; have NB106_102 := n11_; have NB103_106 := n12_; have NB106_103 := n13_; have NB104_106 := n14_; have NB106_104 := n15_; clear n0_ n1_ n2_ n3_ n4_ n5_ n6_ n7_ n8_ n9_ n10_ n11_ n12_ n13_ n14_ n15_; clear hb hbox hg; have hnb37 := NB106_101.out; have hnc37 := NB101_106.out; have hnb38 := NB106_102.out; have hnc38 := NB102_106.out; have hnb39 := NB106_103.out; have hnc39 := NB103_106.out; have hnb40 := NB106_104.out; have hnc40 := NB104_106.out; have hcz41_0 : w36.cell? ⟨gb106, 0, none⟩ = some (.int .i64 0) := (blk_cell BK106.out 0).trans rfl; have hcz41_1 : w36.cell? ⟨gb106, 1, none⟩ = some (.int .i64 0) := (blk_cell BK106.out 1).trans rfl; have hfz41_0 := blk_frozen BK106.out 0; have hfz41_1 := blk_frozen BK106.out 1))
       have n0_ : Aside0 (((w36.setCell ⟨gb106, 0, none⟩ (.int .i64 x40_1)).setCell ⟨gb106, 1, none⟩ (.int .i64 (wrap64 (a2)))).heap[gb101]? = some (.cells #[.int .u16 a0_0, .int .u16 a0_1, .int .u16 a0_2] 54 (0, 0))) := ⟨by (with_reducible repeat (first | refine blk_drewN ?_ _ | refine blk_drew ?_ | refine blk_alloc ?_ _)); refine blk_far ?_ NB101_106.out _; (with_reducible repeat (first | refine blk_drewN ?_ _ | refine blk_drew ?_ | refine blk_alloc ?_ _)); refine blk_far ?_ NB101_106.out _; (with_reducible repeat (first | refine blk_drewN ?_ _ | refine blk_drew ?_ | refine blk_alloc ?_ _)); exact BK101.out⟩
       have n1_ : Aside0 (((w36.setCell ⟨gb106, 0, none⟩ (.int .i64 x40_1)).setCell ⟨gb106, 1, none⟩ (.int .i64 (wrap64 (a2)))).heap[gb102]? = some (.cells #[.int .u16 a1_0, .int .u16 a1_1, .int .u16 a1_2] 54 (0, 0))) := ⟨by (with_reducible repeat (first | refine blk_drewN ?_ _ | refine blk_drew ?_ | refine blk_alloc ?_ _)); refine blk_far ?_ NB102_106.out _; (with_reducible repeat (first | refine blk_drewN ?_ _ | refine blk_drew ?_ | refine blk_alloc ?_ _)); refine blk_far ?_ NB102_106.out _; (with_reducible repeat (first | refine blk_drewN ?_ _ | refine blk_drew ?_ | refine blk_alloc ?_ _)); exact BK102.out⟩
       have n2_ : Aside0 (((w36.setCell ⟨gb106, 0, none⟩ (.int .i64 x40_1)).setCell ⟨gb106, 1, none⟩ (.int .i64 (wrap64 (a2)))).heap[gb103]? = some (.cells #[.int .i64 (wrap64 (a0_0)), .int .i64 (wrap64 (a0_1)), .int .i64 (wrap64 (a0_2)), .int .i64 0] 56 (0, 0))) := ⟨by (with_reducible repeat (first | refine blk_drewN ?_ _ | refine blk_drew ?_ | refine blk_alloc ?_ _)); refine blk_far ?_ NB103_106.out _; (with_reducible repeat (first | refine blk_drewN ?_ _ | refine blk_drew ?_ | refine blk_alloc ?_ _)); refine blk_far ?_ NB103_106.out _; (with_reducible repeat (first | refine blk_drewN ?_ _ | refine blk_drew ?_ | refine blk_alloc ?_ _)); exact BK103.out⟩
       have n3_ : Aside0 (((w36.setCell ⟨gb106, 0, none⟩ (.int .i64 x40_1)).setCell ⟨gb106, 1, none⟩ (.int .i64 (wrap64 (a2)))).heap[gb104]? = some (.cells #[.int .i64 (wrap64 ((wrap64 (a0_0)) + (wrap64 (a1_0)))), .int .i64 (wrap64 ((wrap64 (a0_1)) + (wrap64 (a1_1)))), .int .i64 (wrap64 ((wrap64 (a0_2)) + (wrap64 (a1_2)))), .int .i64 0] 56 (0, 0))) := ⟨by (with_reducible repeat (first | refine blk_drewN ?_ _ | refine blk_drew ?_ | refine blk_alloc ?_ _)); refine blk_far ?_ NB104_106.out _; (with_reducible repeat (first | refine blk_drewN ?_ _ | refine blk_drew ?_ | refine blk_alloc ?_ _)); refine blk_far ?_ NB104_106.out _; (with_reducible repeat (first | refine blk_drewN ?_ _ | refine blk_drew ?_ | refine blk_alloc ?_ _)); exact BK104.out⟩
       have n4_ : Aside0 (((w36.setCell ⟨gb106, 0, none⟩ (.int .i64 x40_1)).setCell ⟨gb106, 1, none⟩ (.int .i64 (wrap64 (a2)))).heap[gb106]? = some (.cells #[.int .i64 x40_1, .int .i64 (wrap64 (a2))] 45 (0, 0))) := ⟨by (with_reducible repeat (first | refine blk_drewN ?_ _ | refine blk_drew ?_ | refine blk_alloc ?_ _)); refine blk_put (cs := #[.int .i64 x40_1, .int .i64 0]) ?_ 1 _ rfl; (with_reducible repeat (first | refine blk_drewN ?_ _ | refine blk_drew ?_ | refine blk_alloc ?_ _)); refine blk_put (cs := #[.int .i64 0, .int .i64 0]) ?_ 0 _ rfl; (with_reducible repeat (first | refine blk_drewN ?_ _ | refine blk_drew ?_ | refine blk_alloc ?_ _)); exact BK106.out⟩
       have n5_ : Aside0 (Below w.heap.size w ((w36.setCell ⟨gb106, 0, none⟩ (.int .i64 x40_1)).setCell ⟨gb106, 1, none⟩ (.int .i64 (wrap64 (a2))))) := ⟨by repeat (first | (with_reducible first | exact HB.out | apply below_alloc | apply pw_below_drewN | apply below_drew1 | refine below_set ?_ GE101.out | refine below_set ?_ GE102.out | refine below_set ?_ GE103.out | refine below_set ?_ GE104.out | refine below_set ?_ GE106.out) | exact HB.out)⟩
       (try clear BK101)
       (try clear BK102)
       (try clear BK103)
       (try clear BK104)
       (try clear BK106)
       (try clear HB)
       generalize ((w36.setCell ⟨gb106, 0, none⟩ (.int .i64 x40_1)).setCell ⟨gb106, 1, none⟩ (.int .i64 (wrap64 (a2)))) = w42 at n0_ n1_ n2_ n3_ n4_ n5_ ⊢
       have BK101 := n0_
       have BK102 := n1_
       have BK103 := n2_
       have BK104 := n3_
       have BK106 := n4_
       have HB := n5_
       clear n0_ n1_ n2_ n3_ n4_ n5_
       have n0_ := Aside0.mk (blk_drew BK101.out)
       have n1_ := Aside0.mk (blk_drew BK102.out)
       have n2_ := Aside0.mk (blk_drew BK103.out)
       have n3_ := Aside0.mk (blk_drew BK104.out)
       have n4_ := Aside0.mk (blk_drew BK106.out)
       have n5_ := Aside0.mk (below_drew1 HB.out)
       clear BK101
       clear BK102
       clear BK103
       clear BK104
       clear BK106
       clear HB
       have BK101 := n0_
       have BK102 := n1_
       have BK103 := n2_
       have BK104 := n3_
       have BK106 := n4_
       have HB := n5_
       clear n0_ n1_ n2_ n3_ n4_ n5_
       refine start_ (n := 23) (S := fun w' => w'.cell? ⟨gb103, 0, none⟩ = some (.int .i64 (wrap64 (a0_0))) ∧ w'.cell? ⟨gb103, 1, none⟩ = some (.int .i64 (wrap64 (a0_1))) ∧ w'.cell? ⟨gb103, 2, none⟩ = some (.int .i64 (wrap64 (a0_2))) ∧ w'.cell? ⟨gb103, 3, none⟩ = some (.int .i64 0) ∧ w'.cell? ⟨gb106, 0, none⟩ = some (.int .i64 x40_1) ∧ w'.cell? ⟨gb106, 1, none⟩ = some (.int .i64 (wrap64 (a2))) ∧ w'.cell? ⟨gb104, 0, none⟩ = some (.int .i64 (wrap64 ((wrap64 (a0_0)) + (wrap64 (a1_0))))) ∧ w'.cell? ⟨gb104, 1, none⟩ = some (.int .i64 (wrap64 ((wrap64 (a0_1)) + (wrap64 (a1_1))))) ∧ w'.cell? ⟨gb104, 2, none⟩ = some (.int .i64 (wrap64 ((wrap64 (a0_2)) + (wrap64 (a1_2))))) ∧ w'.cell? ⟨gb104, 3, none⟩ = some (.int .i64 0)) (ds := []) #[false, false, false, false, false, false, false, false, false, false, false, false, false, false, false, false, false, false, false, false, false, false, false] (by kernel_rfl) rfl rfl ⟨(blk_cell BK103.out 0).trans rfl, (blk_cell BK103.out 1).trans rfl, (blk_cell BK103.out 2).trans rfl, (blk_cell BK103.out 3).trans rfl, (blk_cell BK106.out 0).trans rfl, (blk_cell BK106.out 1).trans rfl, (blk_cell BK104.out 0).trans rfl, (blk_cell BK104.out 1).trans rfl, (blk_cell BK104.out 2).trans rfl, (blk_cell BK104.out 3).trans rfl⟩ (fun hHeld => ?_); refine with_tabW law01_AddrCheckIsMonotone.tab7 law01_AddrCheckIsMonotone.bits7 (fun HT_ HW_ => ?_)
       generalize w42.drew = w43 at BK101 BK102 BK103 BK104 BK106 HB hHeld ⊢
       refine pure_ (i := 4) (N := some 51) (v := ?_) (a' := ?_) #[false, false, false, false, true, false, false, false, false, false, false, false, false, false, false, false, false, false, false, false, false, false, false] rfl rfl (any_of HT_.out (by kernel_rfl)) (fun _ _ _ h => h) (Or.inl ⟨by rfl, ?_⟩) ?_ ?_
       rotate_left
       ·intro w'
        go_simp
        with_reducible rfl
       rotate_left
       ·simp only [Act.put, List.setIfInBounds_toArray, List.set_cons_zero, List.set_cons_succ, i64_w, i32_w]
        rfl
       refine pure_ (i := 5) (N := some 52) (v := ?_) (a' := ?_) #[false, false, false, false, true, true, false, false, false, false, false, false, false, false, false, false, false, false, false, false, false, false, false] rfl rfl (any_of HT_.out (by kernel_rfl)) (fun _ _ _ h => h) (Or.inl ⟨by rfl, ?_⟩) ?_ ?_
       rotate_left
       ·intro w'
        go_simp
        with_reducible rfl
       rotate_left
       ·simp only [Act.put, List.setIfInBounds_toArray, List.set_cons_zero, List.set_cons_succ, i64_w, i32_w]
        rfl
       refine pure_ (i := 7) (N := some 54) (v := ?_) (a' := ?_) #[false, false, false, false, true, true, false, true, false, false, false, false, false, false, false, false, false, false, false, false, false, false, false] rfl rfl (any_of HT_.out (by kernel_rfl)) (fun _ _ _ h => h) (Or.inl ⟨by rfl, ?_⟩) ?_ ?_
       rotate_left
       ·intro w'
        go_simp
        with_reducible rfl
       rotate_left
       ·simp only [Act.put, List.setIfInBounds_toArray, List.set_cons_zero, List.set_cons_succ, i64_w, i32_w]
        rfl
       refine take_ (i := 0) (N := some 47) (v := ?_) (a' := ?_) #[true, false, false, false, true, true, false, true, false, false, false, false, false, false, false, false, false, false, false, false, false, false, false] rfl rfl (take_ofW HT_.out HW_.out (by kernel_rfl)) (fun _ _ _ h => h) (Or.inl ⟨by rfl, ?_⟩) hHeld ?_ ?_
       rotate_left
       ·rintro w' ⟨s0, s1, s2, s3, s4, s5, s6, s7, s8, s9⟩
        go_simp
        with_reducible rfl
       rotate_left
       ·simp only [Act.put, List.setIfInBounds_toArray, List.set_cons_zero, List.set_cons_succ, i64_w, i32_w]
        rfl
       refine take_ (i := 1) (N := some 48) (v := ?_) (a' := ?_) #[true, true, false, false, true, true, false, true, false, false, false, false, false, false, false, false, false, false, false, false, false, false, false] rfl rfl (take_ofW HT_.out HW_.out (by kernel_rfl)) (fun _ _ _ h => h) (Or.inl ⟨by rfl, ?_⟩) hHeld ?_ ?_
       rotate_left
       ·rintro w' ⟨s0, s1, s2, s3, s4, s5, s6, s7, s8, s9⟩
        go_simp
        with_reducible rfl
       rotate_left
       ·simp only [Act.put, List.setIfInBounds_toArray, List.set_cons_zero, List.set_cons_succ, i64_w, i32_w]
        rfl
       refine take_ (i := 6) (N := some 53) (v := ?_) (a' := ?_) #[true, true, false, false, true, true, true, true, false, false, false, false, false, false, false, false, false, false, false, false, false, false, false] rfl rfl (take_ofW HT_.out HW_.out (by kernel_rfl)) (fun _ _ _ h => h) (Or.inl ⟨by rfl, ?_⟩) hHeld ?_ ?_
       rotate_left
       ·rintro w' ⟨s0, s1, s2, s3, s4, s5, s6, s7, s8, s9⟩
        go_simp
        with_reducible rfl
       rotate_left
       ·simp only [Act.put, List.setIfInBounds_toArray, List.set_cons_zero, List.set_cons_succ, i64_w, i32_w]
        rfl
       refine one_ (i := 2) (N := some 49) #[true, true, true, false, true, true, true, true, false, false, false, false, false, false, false, false, false, false, false, false, false, false, false] rfl rfl (one_of HT_.out (by kernel_rfl)) (by decide) (fun K hK => ?_)
       refine goes_ Tryd.func30 (by kernel_rfl) rfl #[.agg #[.int .i64 (wrap64 (a0_0)), .int .i64 (wrap64 (a0_1)), .int .i64 (wrap64 (a0_2)), .int .i64 0], .agg #[.int .i64 x40_1, .int .i64 (wrap64 (a2))]] (by rfl) rfl rfl (by (try simp only [List.map_toArray, List.map_cons, List.map_nil]); first | done | rfl | (simp only [List.length_drop, List.length_take]; rfl)) ?_
       with_reducible refine (addr_CheckAddr.calls (wrap64 (a0_0)) (wrap64 (a0_1)) (wrap64 (a0_2)) 0 x40_1 (wrap64 (a2)) t107 _ A19.out).mono ?_
       rintro e w44 ⟨rfl, hb⟩
       refine ⟨_, rfl, ?_⟩
       have n0_ := Aside0.mk (blk_below (g := gb101) (o := .cells #[.int .u16 a0_0, .int .u16 a0_1, .int .u16 a0_2] 54 (0, 0)) (by (with_reducible repeat (first | refine blk_drewN ?_ _ | refine blk_drew ?_ | refine blk_alloc ?_ _)); exact BK101.out) hb)
       have n1_ := Aside0.mk (blk_below (g := gb102) (o := .cells #[.int .u16 a1_0, .int .u16 a1_1, .int .u16 a1_2] 54 (0, 0)) (by (with_reducible repeat (first | refine blk_drewN ?_ _ | refine blk_drew ?_ | refine blk_alloc ?_ _)); exact BK102.out) hb)
       have n2_ := Aside0.mk (blk_below (g := gb103) (o := .cells #[.int .i64 (wrap64 (a0_0)), .int .i64 (wrap64 (a0_1)), .int .i64 (wrap64 (a0_2)), .int .i64 0] 56 (0, 0)) (by (with_reducible repeat (first | refine blk_drewN ?_ _ | refine blk_drew ?_ | refine blk_alloc ?_ _)); exact BK103.out) hb)
       have n3_ := Aside0.mk (blk_below (g := gb104) (o := .cells #[.int .i64 (wrap64 ((wrap64 (a0_0)) + (wrap64 (a1_0)))), .int .i64 (wrap64 ((wrap64 (a0_1)) + (wrap64 (a1_1)))), .int .i64 (wrap64 ((wrap64 (a0_2)) + (wrap64 (a1_2)))), .int .i64 0] 56 (0, 0)) (by (with_reducible repeat (first | refine blk_drewN ?_ _ | refine blk_drew ?_ | refine blk_alloc ?_ _)); exact BK104.out) hb)
       have n4_ := Aside0.mk (blk_below (g := gb106) (o := .cells #[.int .i64 x40_1, .int .i64 (wrap64 (a2))] 45 (0, 0)) (by (with_reducible repeat (first | refine blk_drewN ?_ _ | refine blk_drew ?_ | refine blk_alloc ?_ _)); exact BK106.out) hb)
       have n5_ := Aside0.mk (below_step (by repeat (first | (with_reducible first | exact HB.out | apply below_alloc | apply pw_below_drewN | apply below_drew1 | refine below_set ?_ GE101.out | refine below_set ?_ GE102.out | refine below_set ?_ GE103.out | refine below_set ?_ GE104.out | refine below_set ?_ GE106.out) | exact HB.out)) hb)
       clear BK101
       clear BK102
       clear BK103
       clear BK104
       clear BK106
       clear HB
       have BK101 := n0_
       have BK102 := n1_
       have BK103 := n2_
       have BK104 := n3_
       have BK106 := n4_
       have HB := n5_
       clear n0_ n1_ n2_ n3_ n4_ n5_
       (try clear hb)
       (try clear hb2)
       (try clear hk)
       (try clear hi)
       refine hK.out _ _ ⟨(blk_cell BK103.out 0).trans rfl, (blk_cell BK103.out 1).trans rfl, (blk_cell BK103.out 2).trans rfl, (blk_cell BK103.out 3).trans rfl, (blk_cell BK106.out 0).trans rfl, (blk_cell BK106.out 1).trans rfl, (blk_cell BK104.out 0).trans rfl, (blk_cell BK104.out 1).trans rfl, (blk_cell BK104.out 2).trans rfl, (blk_cell BK104.out 3).trans rfl⟩ (fun hHeld => ?_)
       clear hK K
       refine norm_ (a' := ?_) ?_ ?_
       rotate_left
       ·show Act.put _ (some 49) _ = _
        simp only [Act.put, List.setIfInBounds_toArray, List.set_cons_zero, List.set_cons_succ, i64_w, i32_w]
        rfl
       refine pure_ (i := 3) (N := some 50) (v := ?_) (a' := ?_) #[true, true, true, true, true, true, true, true, false, false, false, false, false, false, false, false, false, false, false, false, false, false, false] rfl rfl (any_of HT_.out (by kernel_rfl)) (fun _ _ _ h => h) (Or.inl ⟨by rfl, ?_⟩) ?_ ?_
       rotate_left
       ·intro w'
        go_simp
        with_reducible rfl
       rotate_left
       ·simp only [Act.put, List.setIfInBounds_toArray, List.set_cons_zero, List.set_cons_succ, i64_w, i32_w]
        rfl
       refine one_ (i := 8) (N := some 55) #[true, true, true, true, true, true, true, true, true, false, false, false, false, false, false, false, false, false, false, false, false, false, false] rfl rfl (one_of HT_.out (by kernel_rfl)) (by decide) (fun K hK => ?_)
       refine goes_ Tryd.func31 (by kernel_rfl) rfl #[.agg #[.int .i64 (wrap64 (a0_0)), .int .i64 (wrap64 (a0_1)), .int .i64 (wrap64 (a0_2)), .int .i64 0], .int .i64 x40_1] (by rfl) rfl rfl (by (try simp only [List.map_toArray, List.map_cons, List.map_nil]); first | done | rfl | (simp only [List.length_drop, List.length_take]; rfl)) ?_
       with_reducible refine (addr_Width.calls (wrap64 (a0_0)) (wrap64 (a0_1)) (wrap64 (a0_2)) 0 x40_1 t108 _ A20.out).mono ?_
       rintro e w45 ⟨rfl, hb⟩
       refine ⟨_, rfl, ?_⟩
       have n0_ := Aside0.mk (blk_below (g := gb101) (o := .cells #[.int .u16 a0_0, .int .u16 a0_1, .int .u16 a0_2] 54 (0, 0)) (by (with_reducible repeat (first | refine blk_drewN ?_ _ | refine blk_drew ?_ | refine blk_alloc ?_ _)); exact BK101.out) hb)
       have n1_ := Aside0.mk (blk_below (g := gb102) (o := .cells #[.int .u16 a1_0, .int .u16 a1_1, .int .u16 a1_2] 54 (0, 0)) (by (with_reducible repeat (first | refine blk_drewN ?_ _ | refine blk_drew ?_ | refine blk_alloc ?_ _)); exact BK102.out) hb)
       have n2_ := Aside0.mk (blk_below (g := gb103) (o := .cells #[.int .i64 (wrap64 (a0_0)), .int .i64 (wrap64 (a0_1)), .int .i64 (wrap64 (a0_2)), .int .i64 0] 56 (0, 0)) (by (with_reducible repeat (first | refine blk_drewN ?_ _ | refine blk_drew ?_ | refine blk_alloc ?_ _)); exact BK103.out) hb)
       have n3_ := Aside0.mk (blk_below (g := gb104) (o := .cells #[.int .i64 (wrap64 ((wrap64 (a0_0)) + (wrap64 (a1_0)))), .int .i64 (wrap64 ((wrap64 (a0_1)) + (wrap64 (a1_1)))), .int .i64 (wrap64 ((wrap64 (a0_2)) + (wrap64 (a1_2)))), .int .i64 0] 56 (0, 0)) (by (with_reducible repeat (first | refine blk_drewN ?_ _ | refine blk_drew ?_ | refine blk_alloc ?_ _)); exact BK104.out) hb)
       have n4_ := Aside0.mk (blk_below (g := gb106) (o := .cells #[.int .i64 x40_1, .int .i64 (wrap64 (a2))] 45 (0, 0)) (by (with_reducible repeat (first | refine blk_drewN ?_ _ | refine blk_drew ?_ | refine blk_alloc ?_ _)); exact BK106.out) hb)
       have n5_ := Aside0.mk (below_step (by repeat (first | (with_reducible first | exact HB.out | apply below_alloc | apply pw_below_drewN | apply below_drew1 | refine below_set ?_ GE101.out | refine below_set ?_ GE102.out | refine below_set ?_ GE103.out | refine below_set ?_ GE104.out | refine below_set ?_ GE106.out) | exact HB.out)) hb)
       clear BK101
       clear BK102
       clear BK103
       clear BK104
       clear BK106
       clear HB
       have BK101 := n0_
       have BK102 := n1_
       have BK103 := n2_
       have BK104 := n3_
       have BK106 := n4_
       have HB := n5_
       clear n0_ n1_ n2_ n3_ n4_ n5_
       (try clear hb)
       (try clear hb2)
       (try clear hk)
       (try clear hi)
       refine hK.out _ _ ⟨(blk_cell BK103.out 0).trans rfl, (blk_cell BK103.out 1).trans rfl, (blk_cell BK103.out 2).trans rfl, (blk_cell BK103.out 3).trans rfl, (blk_cell BK106.out 0).trans rfl, (blk_cell BK106.out 1).trans rfl, (blk_cell BK104.out 0).trans rfl, (blk_cell BK104.out 1).trans rfl, (blk_cell BK104.out 2).trans rfl, (blk_cell BK104.out 3).trans rfl⟩ (fun hHeld => ?_)
       clear hK K
       refine norm_ (a' := ?_) ?_ ?_
       rotate_left
       ·show Act.put _ (some 55) _ = _
        simp only [Act.put, List.setIfInBounds_toArray, List.set_cons_zero, List.set_cons_succ, i64_w, i32_w]
        rfl
       refine pure_ (i := 9) (N := some 56) (v := ?_) (a' := ?_) #[true, true, true, true, true, true, true, true, true, true, false, false, false, false, false, false, false, false, false, false, false, false, false] rfl rfl (any_of HT_.out (by kernel_rfl)) (fun _ _ _ h => h) (Or.inl ⟨by rfl, ?_⟩) ?_ ?_
       rotate_left
       ·intro w'
        go_simp
        with_reducible rfl
       rotate_left
       ·simp only [Act.put, List.setIfInBounds_toArray, List.set_cons_zero, List.set_cons_succ, i64_w, i32_w]
        rfl
       refine pure_ (i := 10) (N := some 57) (v := ?_) (a' := ?_) #[true, true, true, true, true, true, true, true, true, true, true, false, false, false, false, false, false, false, false, false, false, false, false] rfl rfl (any_of HT_.out (by kernel_rfl)) (fun _ _ _ h => h) (Or.inl ⟨by rfl, ?_⟩) ?_ ?_
       rotate_left
       ·intro w'
        go_simp
        with_reducible rfl
       rotate_left
       ·simp only [Act.put, List.setIfInBounds_toArray, List.set_cons_zero, List.set_cons_succ, i64_w, i32_w]
        rfl
       refine pure_ (i := 11) (N := some 58) (v := ?_) (a' := ?_) #[true, true, true, true, true, true, true, true, true, true, true, true, false, false, false, false, false, false, false, false, false, false, false] rfl rfl (any_of HT_.out (by kernel_rfl)) (fun _ _ _ h => h) (Or.inl ⟨by rfl, ?_⟩) ?_ ?_
       rotate_left
       ·intro w'
        go_simp
        with_reducible rfl
       rotate_left
       ·simp only [Act.put, List.setIfInBounds_toArray, List.set_cons_zero, List.set_cons_succ, i64_w, i32_w]
        rfl
       refine take_ (i := 12) (N := some 59) (v := ?_) (a' := ?_) #[true, true, true, true, true, true, true, true, true, true, true, true, true, false, false, false, false, false, false, false, false, false, false] rfl rfl (take_ofW HT_.out HW_.out (by kernel_rfl)) (fun _ _ _ h => h) (Or.inl ⟨by rfl, ?_⟩) hHeld ?_ ?_
       rotate_left
       ·rintro w' ⟨s0, s1, s2, s3, s4, s5, s6, s7, s8, s9⟩
        go_simp
        with_reducible rfl
       rotate_left
       ·simp only [Act.put, List.setIfInBounds_toArray, List.set_cons_zero, List.set_cons_succ, i64_w, i32_w]
        rfl
       refine take_ (i := 13) (N := some 60) (v := ?_) (a' := ?_) #[true, true, true, true, true, true, true, true, true, true, true, true, true, true, false, false, false, false, false, false, false, false, false] rfl rfl (take_ofW HT_.out HW_.out (by kernel_rfl)) (fun _ _ _ h => h) (Or.inl ⟨by rfl, ?_⟩) hHeld ?_ ?_
       rotate_left
       ·rintro w' ⟨s0, s1, s2, s3, s4, s5, s6, s7, s8, s9⟩
        go_simp
        with_reducible rfl
       rotate_left
       ·simp only [Act.put, List.setIfInBounds_toArray, List.set_cons_zero, List.set_cons_succ, i64_w, i32_w]
        rfl
       refine one_ (i := 14) (N := some 61) #[true, true, true, true, true, true, true, true, true, true, true, true, true, true, true, false, false, false, false, false, false, false, false] rfl rfl (one_of HT_.out (by kernel_rfl)) (by decide) (fun K hK => ?_)
       refine goes_ Tryd.func30 (by kernel_rfl) rfl #[.agg #[.int .i64 (wrap64 (a0_0)), .int .i64 (wrap64 (a0_1)), .int .i64 (wrap64 (a0_2)), .int .i64 0], .agg #[.int .i64 x40_1, .int .i64 (wrap64 (a2))]] (by rfl) rfl rfl (by (try simp only [List.map_toArray, List.map_cons, List.map_nil]); first | done | rfl | (simp only [List.length_drop, List.length_take]; rfl)) ?_
       with_reducible refine (addr_CheckAddr.calls (wrap64 (a0_0)) (wrap64 (a0_1)) (wrap64 (a0_2)) 0 x40_1 (wrap64 (a2)) t109 _ A32.out).mono ?_
       rintro e w46 ⟨rfl, hb⟩
       refine ⟨_, rfl, ?_⟩
       have n0_ := Aside0.mk (blk_below (g := gb101) (o := .cells #[.int .u16 a0_0, .int .u16 a0_1, .int .u16 a0_2] 54 (0, 0)) (by (with_reducible repeat (first | refine blk_drewN ?_ _ | refine blk_drew ?_ | refine blk_alloc ?_ _)); exact BK101.out) hb)
       have n1_ := Aside0.mk (blk_below (g := gb102) (o := .cells #[.int .u16 a1_0, .int .u16 a1_1, .int .u16 a1_2] 54 (0, 0)) (by (with_reducible repeat (first | refine blk_drewN ?_ _ | refine blk_drew ?_ | refine blk_alloc ?_ _)); exact BK102.out) hb)
       have n2_ := Aside0.mk (blk_below (g := gb103) (o := .cells #[.int .i64 (wrap64 (a0_0)), .int .i64 (wrap64 (a0_1)), .int .i64 (wrap64 (a0_2)), .int .i64 0] 56 (0, 0)) (by (with_reducible repeat (first | refine blk_drewN ?_ _ | refine blk_drew ?_ | refine blk_alloc ?_ _)); exact BK103.out) hb)
       have n3_ := Aside0.mk (blk_below (g := gb104) (o := .cells #[.int .i64 (wrap64 ((wrap64 (a0_0)) + (wrap64 (a1_0)))), .int .i64 (wrap64 ((wrap64 (a0_1)) + (wrap64 (a1_1)))), .int .i64 (wrap64 ((wrap64 (a0_2)) + (wrap64 (a1_2)))), .int .i64 0] 56 (0, 0)) (by (with_reducible repeat (first | refine blk_drewN ?_ _ | refine blk_drew ?_ | refine blk_alloc ?_ _)); exact BK104.out) hb)
       have n4_ := Aside0.mk (blk_below (g := gb106) (o := .cells #[.int .i64 x40_1, .int .i64 (wrap64 (a2))] 45 (0, 0)) (by (with_reducible repeat (first | refine blk_drewN ?_ _ | refine blk_drew ?_ | refine blk_alloc ?_ _)); exact BK106.out) hb)
       have n5_ := Aside0.mk (below_step (by repeat (first | (with_reducible first | exact HB.out | apply below_alloc | apply pw_below_drewN | apply below_drew1 | refine below_set ?_ GE101.out | refine below_set ?_ GE102.out | refine below_set ?_ GE103.out | refine below_set ?_ GE104.out | refine below_set ?_ GE106.out) | exact HB.out)) hb)
       clear BK101
       clear BK102
       clear BK103
       clear BK104
       clear BK106
       clear HB
       have BK101 := n0_
       have BK102 := n1_
       have BK103 := n2_
       have BK104 := n3_
       have BK106 := n4_
       have HB := n5_
       clear n0_ n1_ n2_ n3_ n4_ n5_
       (try clear hb)
       (try clear hb2)
       (try clear hk)
       (try clear hi)
       refine hK.out _ _ ⟨(blk_cell BK103.out 0).trans rfl, (blk_cell BK103.out 1).trans rfl, (blk_cell BK103.out 2).trans rfl, (blk_cell BK103.out 3).trans rfl, (blk_cell BK106.out 0).trans rfl, (blk_cell BK106.out 1).trans rfl, (blk_cell BK104.out 0).trans rfl, (blk_cell BK104.out 1).trans rfl, (blk_cell BK104.out 2).trans rfl, (blk_cell BK104.out 3).trans rfl⟩ (fun hHeld => ?_)
       clear hK K
       refine norm_ (a' := ?_) ?_ ?_
       rotate_left
       ·show Act.put _ (some 61) _ = _
        simp only [Act.put, List.setIfInBounds_toArray, List.set_cons_zero, List.set_cons_succ, i64_w, i32_w]
        rfl
       refine pure_ (i := 15) (N := some 62) (v := ?_) (a' := ?_) #[true, true, true, true, true, true, true, true, true, true, true, true, true, true, true, true, false, false, false, false, false, false, false] rfl rfl (any_of HT_.out (by kernel_rfl)) (fun _ _ _ h => h) (Or.inl ⟨by rfl, ?_⟩) ?_ ?_
       rotate_left
       ·intro w'
        go_simp
        with_reducible rfl
       rotate_left
       ·simp only [Act.put, List.setIfInBounds_toArray, List.set_cons_zero, List.set_cons_succ, i64_w, i32_w]
        rfl
       refine pure_ (i := 16) (N := some 63) (v := ?_) (a' := ?_) #[true, true, true, true, true, true, true, true, true, true, true, true, true, true, true, true, true, false, false, false, false, false, false] rfl rfl (any_of HT_.out (by kernel_rfl)) (fun _ _ _ h => h) (Or.inl ⟨by rfl, ?_⟩) ?_ ?_
       rotate_left
       ·intro w'
        go_simp
        with_reducible rfl
       rotate_left
       ·simp only [Act.put, List.setIfInBounds_toArray, List.set_cons_zero, List.set_cons_succ, i64_w, i32_w]
        rfl
       refine take_ (i := 17) (N := some 64) (v := ?_) (a' := ?_) #[true, true, true, true, true, true, true, true, true, true, true, true, true, true, true, true, true, true, false, false, false, false, false] rfl rfl (take_ofW HT_.out HW_.out (by kernel_rfl)) (fun _ _ _ h => h) (Or.inl ⟨by rfl, ?_⟩) hHeld ?_ ?_
       rotate_left
       ·rintro w' ⟨s0, s1, s2, s3, s4, s5, s6, s7, s8, s9⟩
        go_simp
        with_reducible rfl
       rotate_left
       ·simp only [Act.put, List.setIfInBounds_toArray, List.set_cons_zero, List.set_cons_succ, i64_w, i32_w]
        rfl
       refine take_ (i := 18) (N := some 65) (v := ?_) (a' := ?_) #[true, true, true, true, true, true, true, true, true, true, true, true, true, true, true, true, true, true, true, false, false, false, false] rfl rfl (take_ofW HT_.out HW_.out (by kernel_rfl)) (fun _ _ _ h => h) (Or.inl ⟨by rfl, ?_⟩) hHeld ?_ ?_
       rotate_left
       ·rintro w' ⟨s0, s1, s2, s3, s4, s5, s6, s7, s8, s9⟩
        go_simp
        with_reducible rfl
       rotate_left
       ·simp only [Act.put, List.setIfInBounds_toArray, List.set_cons_zero, List.set_cons_succ, i64_w, i32_w]
        rfl
       refine one_ (i := 19) (N := some 66) #[true, true, true, true, true, true, true, true, true, true, true, true, true, true, true, true, true, true, true, true, false, false, false] rfl rfl (one_of HT_.out (by kernel_rfl)) (by decide) (fun K hK => ?_)
       refine goes_ Tryd.func30 (by kernel_rfl) rfl #[.agg #[.int .i64 (wrap64 ((wrap64 (a0_0)) + (wrap64 (a1_0)))), .int .i64 (wrap64 ((wrap64 (a0_1)) + (wrap64 (a1_1)))), .int .i64 (wrap64 ((wrap64 (a0_2)) + (wrap64 (a1_2)))), .int .i64 0], .agg #[.int .i64 x40_1, .int .i64 (wrap64 (a2))]] (by rfl) rfl rfl (by (try simp only [List.map_toArray, List.map_cons, List.map_nil]); first | done | rfl | (simp only [List.length_drop, List.length_take]; rfl)) ?_
       with_reducible refine (addr_CheckAddr.calls (wrap64 ((wrap64 (a0_0)) + (wrap64 (a1_0)))) (wrap64 ((wrap64 (a0_1)) + (wrap64 (a1_1)))) (wrap64 ((wrap64 (a0_2)) + (wrap64 (a1_2)))) 0 x40_1 (wrap64 (a2)) t110 _ A34.out).mono ?_
       rintro e w47 ⟨rfl, hb⟩
       refine ⟨_, rfl, ?_⟩
       have n0_ := Aside0.mk (blk_below (g := gb101) (o := .cells #[.int .u16 a0_0, .int .u16 a0_1, .int .u16 a0_2] 54 (0, 0)) (by (with_reducible repeat (first | refine blk_drewN ?_ _ | refine blk_drew ?_ | refine blk_alloc ?_ _)); exact BK101.out) hb)
       have n1_ := Aside0.mk (blk_below (g := gb102) (o := .cells #[.int .u16 a1_0, .int .u16 a1_1, .int .u16 a1_2] 54 (0, 0)) (by (with_reducible repeat (first | refine blk_drewN ?_ _ | refine blk_drew ?_ | refine blk_alloc ?_ _)); exact BK102.out) hb)
       have n2_ := Aside0.mk (blk_below (g := gb103) (o := .cells #[.int .i64 (wrap64 (a0_0)), .int .i64 (wrap64 (a0_1)), .int .i64 (wrap64 (a0_2)), .int .i64 0] 56 (0, 0)) (by (with_reducible repeat (first | refine blk_drewN ?_ _ | refine blk_drew ?_ | refine blk_alloc ?_ _)); exact BK103.out) hb)
       have n3_ := Aside0.mk (blk_below (g := gb104) (o := .cells #[.int .i64 (wrap64 ((wrap64 (a0_0)) + (wrap64 (a1_0)))), .int .i64 (wrap64 ((wrap64 (a0_1)) + (wrap64 (a1_1)))), .int .i64 (wrap64 ((wrap64 (a0_2)) + (wrap64 (a1_2)))), .int .i64 0] 56 (0, 0)) (by (with_reducible repeat (first | refine blk_drewN ?_ _ | refine blk_drew ?_ | refine blk_alloc ?_ _)); exact BK104.out) hb)
       have n4_ := Aside0.mk (blk_below (g := gb106) (o := .cells #[.int .i64 x40_1, .int .i64 (wrap64 (a2))] 45 (0, 0)) (by (with_reducible repeat (first | refine blk_drewN ?_ _ | refine blk_drew ?_ | refine blk_alloc ?_ _)); exact BK106.out) hb)
       have n5_ := Aside0.mk (below_step (by repeat (first | (with_reducible first | exact HB.out | apply below_alloc | apply pw_below_drewN | apply below_drew1 | refine below_set ?_ GE101.out | refine below_set ?_ GE102.out | refine below_set ?_ GE103.out | refine below_set ?_ GE104.out | refine below_set ?_ GE106.out) | exact HB.out)) hb)
       clear BK101
       clear BK102
       clear BK103
       clear BK104
       clear BK106
       clear HB
       have BK101 := n0_
       have BK102 := n1_
       have BK103 := n2_
       have BK104 := n3_
       have BK106 := n4_
       have HB := n5_
       clear n0_ n1_ n2_ n3_ n4_ n5_
       (try clear hb)
       (try clear hb2)
       (try clear hk)
       (try clear hi)
       refine hK.out _ _ ⟨(blk_cell BK103.out 0).trans rfl, (blk_cell BK103.out 1).trans rfl, (blk_cell BK103.out 2).trans rfl, (blk_cell BK103.out 3).trans rfl, (blk_cell BK106.out 0).trans rfl, (blk_cell BK106.out 1).trans rfl, (blk_cell BK104.out 0).trans rfl, (blk_cell BK104.out 1).trans rfl, (blk_cell BK104.out 2).trans rfl, (blk_cell BK104.out 3).trans rfl⟩ (fun hHeld => ?_)
       clear hK K
       refine norm_ (a' := ?_) ?_ ?_
       rotate_left
       ·show Act.put _ (some 66) _ = _
        simp only [Act.put, List.setIfInBounds_toArray, List.set_cons_zero, List.set_cons_succ, i64_w, i32_w]
        rfl
       refine pure_ (i := 20) (N := some 67) (v := ?_) (a' := ?_) #[true, true, true, true, true, true, true, true, true, true, true, true, true, true, true, true, true, true, true, true, true, false, false] rfl rfl (any_of HT_.out (by kernel_rfl)) (fun _ _ _ h => h) (Or.inl ⟨by rfl, ?_⟩) ?_ ?_
       rotate_left
       ·intro w'
        go_simp
        with_reducible rfl
       rotate_left
       ·simp only [Act.put, List.setIfInBounds_toArray, List.set_cons_zero, List.set_cons_succ, i64_w, i32_w]
        rfl
       refine pure_ (i := 21) (N := some 68) (v := ?_) (a' := ?_) #[true, true, true, true, true, true, true, true, true, true, true, true, true, true, true, true, true, true, true, true, true, true, false] rfl rfl (any_of HT_.out (by kernel_rfl)) (fun _ _ _ h => h) (Or.inl ⟨by rfl, ?_⟩) ?_ ?_
       rotate_left
       ·intro w'
        go_simp
        with_reducible rfl
       rotate_left
       ·simp only [Act.put, List.setIfInBounds_toArray, List.set_cons_zero, List.set_cons_succ, i64_w, i32_w]
        rfl
       refine pure_ (i := 22) (N := some 69) (v := ?_) (a' := ?_) #[true, true, true, true, true, true, true, true, true, true, true, true, true, true, true, true, true, true, true, true, true, true, true] rfl rfl (any_of HT_.out (by kernel_rfl)) (fun _ _ _ h => h) (Or.inl ⟨by rfl, ?_⟩) ?_ ?_
       rotate_left
       ·intro w'
        go_simp
        with_reducible rfl
       rotate_left
       ·simp only [Act.put, List.setIfInBounds_toArray, List.set_cons_zero, List.set_cons_succ, i64_w, i32_w]
        rfl
       refine done_ (done_of HT_.out (by kernel_rfl)) ?_
       try go_wp2
       go_roundg k1
       case measure => have := HK1.out; omega
       case rel => exact ⟨(wrap64 (x40_1 + 1)), (by first | rfl | (simp; done) | (simp [*]; done)), H', ⟨by have := HK1.out; omega⟩, ⟨by (with_reducible repeat (first | refine blk_drewN ?_ _ | refine blk_drew ?_ | refine blk_alloc ?_ _)); exact BK101.out⟩, ⟨by (with_reducible repeat (first | refine blk_drewN ?_ _ | refine blk_drew ?_ | refine blk_alloc ?_ _)); exact BK102.out⟩, ⟨by (with_reducible repeat (first | refine blk_drewN ?_ _ | refine blk_drew ?_ | refine blk_alloc ?_ _)); exact BK103.out⟩, ⟨by (with_reducible repeat (first | refine blk_drewN ?_ _ | refine blk_drew ?_ | refine blk_alloc ?_ _)); exact BK104.out⟩, ⟨by repeat (first | (with_reducible first | exact HB.out | apply below_alloc | apply pw_below_drewN | apply below_drew1 | refine below_set ?_ GE101.out | refine below_set ?_ GE102.out | refine below_set ?_ GE103.out | refine below_set ?_ GE104.out | refine below_set ?_ GE106.out) | exact HB.out)⟩⟩
      ·rw [if_neg c35] at H
       have c35b0 : (t110 == 0) = false := beq_eq_false_iff_ne.mpr c35
       have c35b1 : (t110 != 0) = true := bne_iff_ne.mpr c35
       obtain rfl := Option.some.inj H
       try go_wp2_with (first | ((with_reducible refine gate_dst (N := 10) rfl ?_); refine box_event ?hg (N := 10) ?hd (cs := #[.int .i64 0, .int .i64 0]) (t := 45) ?hr ?_; (case hd => rfl); (case hg => rfl); (case hr => first | (go_simp; done) | (go_simp; rfl)); intro gb106 hg w48 hbox hb; have n0_ := Aside0.mk (blk_below (g := gb101) (o := .cells #[.int .u16 a0_0, .int .u16 a0_1, .int .u16 a0_2] 54 (0, 0)) (by (with_reducible repeat (first | refine blk_drewN ?_ _ | refine blk_drew ?_ | refine blk_alloc ?_ _)); exact BK101.out) hb); have n1_ := Aside0.mk (blk_below (g := gb102) (o := .cells #[.int .u16 a1_0, .int .u16 a1_1, .int .u16 a1_2] 54 (0, 0)) (by (with_reducible repeat (first | refine blk_drewN ?_ _ | refine blk_drew ?_ | refine blk_alloc ?_ _)); exact BK102.out) hb); have n2_ := Aside0.mk (blk_below (g := gb103) (o := .cells #[.int .i64 (wrap64 (a0_0)), .int .i64 (wrap64 (a0_1)), .int .i64 (wrap64 (a0_2)), .int .i64 0] 56 (0, 0)) (by (with_reducible repeat (first | refine blk_drewN ?_ _ | refine blk_drew ?_ | refine blk_alloc ?_ _)); exact BK103.out) hb); have n3_ := Aside0.mk (blk_below (g := gb104) (o := .cells #[.int .i64 (wrap64 ((wrap64 (a0_0)) + (wrap64 (a1_0)))), .int .i64 (wrap64 ((wrap64 (a0_1)) + (wrap64 (a1_1)))), .int .i64 (wrap64 ((wrap64 (a0_2)) + (wrap64 (a1_2)))), .int .i64 0] 56 (0, 0)) (by (with_reducible repeat (first | refine blk_drewN ?_ _ | refine blk_drew ?_ | refine blk_alloc ?_ _)); exact BK104.out) hb); have n4_ := Aside0.mk (below_step (by repeat (first | (with_reducible first | exact HB.out | apply below_alloc | apply pw_below_drewN | apply below_drew1 | refine below_set ?_ GE101.out | refine below_set ?_ GE102.out | refine below_set ?_ GE103.out | refine below_set ?_ GE104.out) | exact HB.out)) hb); have n5_ := Aside0.mk (hbox); have n6_ := Aside0.mk ((by rw [hg]; exact (below_size (by repeat (first | (with_reducible first | exact HB.out | apply below_alloc | apply pw_below_drewN | apply below_drew1 | refine below_set ?_ GE101.out | refine below_set ?_ GE102.out | refine below_set ?_ GE103.out | refine below_set ?_ GE104.out) | exact HB.out))) : w.heap.size ≤ gb106)); have n7_ := Aside0.mk ((by rw [hg]; exact (below_size (by repeat (first | (with_reducible first | exact HB.out | apply below_alloc | apply pw_below_drewN | apply below_drew1 | refine below_set ?_ GE101.out | refine below_set ?_ GE102.out | refine below_set ?_ GE103.out | refine below_set ?_ GE104.out) | exact HB.out))) : w.heap.size ≤ gb106)); have n8_ := Aside0.mk ((by rw [hg]; exact Nat.ne_of_lt (blk_lt (g := gb101) (o := .cells #[.int .u16 a0_0, .int .u16 a0_1, .int .u16 a0_2] 54 (0, 0)) (by (with_reducible repeat (first | refine blk_drewN ?_ _ | refine blk_drew ?_ | refine blk_alloc ?_ _)); exact BK101.out)) : gb101 ≠ gb106)); have n9_ := Aside0.mk ((by rw [hg]; exact Nat.ne_of_gt (blk_lt (g := gb101) (o := .cells #[.int .u16 a0_0, .int .u16 a0_1, .int .u16 a0_2] 54 (0, 0)) (by (with_reducible repeat (first | refine blk_drewN ?_ _ | refine blk_drew ?_ | refine blk_alloc ?_ _)); exact BK101.out)) : gb106 ≠ gb101)); have n10_ := Aside0.mk ((by rw [hg]; exact Nat.ne_of_lt (blk_lt (g := gb102) (o := .cells #[.int .u16 a1_0, .int .u16 a1_1, .int .u16 a1_2] 54 (0, 0)) (by (with_reducible repeat (first | refine blk_drewN ?_ _ | refine blk_drew ?_ | refine blk_alloc ?_ _)); exact BK102.out)) : gb102 ≠ gb106)); have n11_ := Aside0.mk ((by rw [hg]; exact Nat.ne_of_gt (blk_lt (g := gb102) (o := .cells #[.int .u16 a1_0, .int .u16 a1_1, .int .u16 a1_2] 54 (0, 0)) (by (with_reducible repeat (first | refine blk_drewN ?_ _ | refine blk_drew ?_ | refine blk_alloc ?_ _)); exact BK102.out)) : gb106 ≠ gb102)); have n12_ := Aside0.mk ((by rw [hg]; exact Nat.ne_of_lt (blk_lt (g := gb103) (o := .cells #[.int .i64 (wrap64 (a0_0)), .int .i64 (wrap64 (a0_1)), .int .i64 (wrap64 (a0_2)), .int .i64 0] 56 (0, 0)) (by (with_reducible repeat (first | refine blk_drewN ?_ _ | refine blk_drew ?_ | refine blk_alloc ?_ _)); exact BK103.out)) : gb103 ≠ gb106)); have n13_ := Aside0.mk ((by rw [hg]; exact Nat.ne_of_gt (blk_lt (g := gb103) (o := .cells #[.int .i64 (wrap64 (a0_0)), .int .i64 (wrap64 (a0_1)), .int .i64 (wrap64 (a0_2)), .int .i64 0] 56 (0, 0)) (by (with_reducible repeat (first | refine blk_drewN ?_ _ | refine blk_drew ?_ | refine blk_alloc ?_ _)); exact BK103.out)) : gb106 ≠ gb103)); have n14_ := Aside0.mk ((by rw [hg]; exact Nat.ne_of_lt (blk_lt (g := gb104) (o := .cells #[.int .i64 (wrap64 ((wrap64 (a0_0)) + (wrap64 (a1_0)))), .int .i64 (wrap64 ((wrap64 (a0_1)) + (wrap64 (a1_1)))), .int .i64 (wrap64 ((wrap64 (a0_2)) + (wrap64 (a1_2)))), .int .i64 0] 56 (0, 0)) (by (with_reducible repeat (first | refine blk_drewN ?_ _ | refine blk_drew ?_ | refine blk_alloc ?_ _)); exact BK104.out)) : gb104 ≠ gb106)); have n15_ := Aside0.mk ((by rw [hg]; exact Nat.ne_of_gt (blk_lt (g := gb104) (o := .cells #[.int .i64 (wrap64 ((wrap64 (a0_0)) + (wrap64 (a1_0)))), .int .i64 (wrap64 ((wrap64 (a0_1)) + (wrap64 (a1_1)))), .int .i64 (wrap64 ((wrap64 (a0_2)) + (wrap64 (a1_2)))), .int .i64 0] 56 (0, 0)) (by (with_reducible repeat (first | refine blk_drewN ?_ _ | refine blk_drew ?_ | refine blk_alloc ?_ _)); exact BK104.out)) : gb106 ≠ gb104)); clear BK101; clear BK102; clear BK103; clear BK104; clear HB; have BK101 := n0_; have BK102 := n1_; have BK103 := n2_; have BK104 := n3_; have HB := n4_; have BK106 := n5_; have GW106 := n6_; have GE106 := n7_; have NB101_106 := n8_; have NB106_101 := n9_; have NB102_106 := n10_; have NB106_102 := n11_; have NB103_106 := n12_; have NB106_103 := n13_; have NB104_106 := n14_; have NB106_104 := n15_; clear n0_ n1_ n2_ n3_ n4_ n5_ n6_ n7_ n8_ n9_ n10_ n11_ n12_ n13_ n14_ n15_; clear hb hbox hg; have hnb49 := NB106_101.out; have hnc49 := NB101_106.out; have hnb50 := NB106_102.out; have hnc50 := NB102_106.out; have hnb51 := NB106_103.out; have hnc51 := NB103_106.out; have hnb52 := NB106_104.out; have hnc52 := NB104_106.out; have hcz53_0 : w48.cell? ⟨gb106, 0, none⟩ = some (.int .i64 0) := (blk_cell BK106.out 0).trans rfl; have hcz53_1 : w48.cell? ⟨gb106, 1, none⟩ = some (.int .i64 0) := (blk_cell BK106.out 1).trans rfl; have hfz53_0 := blk_frozen BK106.out 0; have hfz53_1 := blk_frozen BK106.out 1))
       have n0_ : Aside0 (((w48.setCell ⟨gb106, 0, none⟩ (.int .i64 x40_1)).setCell ⟨gb106, 1, none⟩ (.int .i64 (wrap64 (a2)))).heap[gb101]? = some (.cells #[.int .u16 a0_0, .int .u16 a0_1, .int .u16 a0_2] 54 (0, 0))) := ⟨by (with_reducible repeat (first | refine blk_drewN ?_ _ | refine blk_drew ?_ | refine blk_alloc ?_ _)); refine blk_far ?_ NB101_106.out _; (with_reducible repeat (first | refine blk_drewN ?_ _ | refine blk_drew ?_ | refine blk_alloc ?_ _)); refine blk_far ?_ NB101_106.out _; (with_reducible repeat (first | refine blk_drewN ?_ _ | refine blk_drew ?_ | refine blk_alloc ?_ _)); exact BK101.out⟩
       have n1_ : Aside0 (((w48.setCell ⟨gb106, 0, none⟩ (.int .i64 x40_1)).setCell ⟨gb106, 1, none⟩ (.int .i64 (wrap64 (a2)))).heap[gb102]? = some (.cells #[.int .u16 a1_0, .int .u16 a1_1, .int .u16 a1_2] 54 (0, 0))) := ⟨by (with_reducible repeat (first | refine blk_drewN ?_ _ | refine blk_drew ?_ | refine blk_alloc ?_ _)); refine blk_far ?_ NB102_106.out _; (with_reducible repeat (first | refine blk_drewN ?_ _ | refine blk_drew ?_ | refine blk_alloc ?_ _)); refine blk_far ?_ NB102_106.out _; (with_reducible repeat (first | refine blk_drewN ?_ _ | refine blk_drew ?_ | refine blk_alloc ?_ _)); exact BK102.out⟩
       have n2_ : Aside0 (((w48.setCell ⟨gb106, 0, none⟩ (.int .i64 x40_1)).setCell ⟨gb106, 1, none⟩ (.int .i64 (wrap64 (a2)))).heap[gb103]? = some (.cells #[.int .i64 (wrap64 (a0_0)), .int .i64 (wrap64 (a0_1)), .int .i64 (wrap64 (a0_2)), .int .i64 0] 56 (0, 0))) := ⟨by (with_reducible repeat (first | refine blk_drewN ?_ _ | refine blk_drew ?_ | refine blk_alloc ?_ _)); refine blk_far ?_ NB103_106.out _; (with_reducible repeat (first | refine blk_drewN ?_ _ | refine blk_drew ?_ | refine blk_alloc ?_ _)); refine blk_far ?_ NB103_106.out _; (with_reducible repeat (first | refine blk_drewN ?_ _ | refine blk_drew ?_ | refine blk_alloc ?_ _)); exact BK103.out⟩
       have n3_ : Aside0 (((w48.setCell ⟨gb106, 0, none⟩ (.int .i64 x40_1)).setCell ⟨gb106, 1, none⟩ (.int .i64 (wrap64 (a2)))).heap[gb104]? = some (.cells #[.int .i64 (wrap64 ((wrap64 (a0_0)) + (wrap64 (a1_0)))), .int .i64 (wrap64 ((wrap64 (a0_1)) + (wrap64 (a1_1)))), .int .i64 (wrap64 ((wrap64 (a0_2)) + (wrap64 (a1_2)))), .int .i64 0] 56 (0, 0))) := ⟨by (with_reducible repeat (first | refine blk_drewN ?_ _ | refine blk_drew ?_ | refine blk_alloc ?_ _)); refine blk_far ?_ NB104_106.out _; (with_reducible repeat (first | refine blk_drewN ?_ _ | refine blk_drew ?_ | refine blk_alloc ?_ _)); refine blk_far ?_ NB104_106.out _; (with_reducible repeat (first | refine blk_drewN ?_ _ | refine blk_drew ?_ | refine blk_alloc ?_ _)); exact BK104.out⟩
       have n4_ : Aside0 (((w48.setCell ⟨gb106, 0, none⟩ (.int .i64 x40_1)).setCell ⟨gb106, 1, none⟩ (.int .i64 (wrap64 (a2)))).heap[gb106]? = some (.cells #[.int .i64 x40_1, .int .i64 (wrap64 (a2))] 45 (0, 0))) := ⟨by (with_reducible repeat (first | refine blk_drewN ?_ _ | refine blk_drew ?_ | refine blk_alloc ?_ _)); refine blk_put (cs := #[.int .i64 x40_1, .int .i64 0]) ?_ 1 _ rfl; (with_reducible repeat (first | refine blk_drewN ?_ _ | refine blk_drew ?_ | refine blk_alloc ?_ _)); refine blk_put (cs := #[.int .i64 0, .int .i64 0]) ?_ 0 _ rfl; (with_reducible repeat (first | refine blk_drewN ?_ _ | refine blk_drew ?_ | refine blk_alloc ?_ _)); exact BK106.out⟩
       have n5_ : Aside0 (Below w.heap.size w ((w48.setCell ⟨gb106, 0, none⟩ (.int .i64 x40_1)).setCell ⟨gb106, 1, none⟩ (.int .i64 (wrap64 (a2))))) := ⟨by repeat (first | (with_reducible first | exact HB.out | apply below_alloc | apply pw_below_drewN | apply below_drew1 | refine below_set ?_ GE101.out | refine below_set ?_ GE102.out | refine below_set ?_ GE103.out | refine below_set ?_ GE104.out | refine below_set ?_ GE106.out) | exact HB.out)⟩
       (try clear BK101)
       (try clear BK102)
       (try clear BK103)
       (try clear BK104)
       (try clear BK106)
       (try clear HB)
       generalize ((w48.setCell ⟨gb106, 0, none⟩ (.int .i64 x40_1)).setCell ⟨gb106, 1, none⟩ (.int .i64 (wrap64 (a2)))) = w54 at n0_ n1_ n2_ n3_ n4_ n5_ ⊢
       have BK101 := n0_
       have BK102 := n1_
       have BK103 := n2_
       have BK104 := n3_
       have BK106 := n4_
       have HB := n5_
       clear n0_ n1_ n2_ n3_ n4_ n5_
       have n0_ := Aside0.mk (blk_drew BK101.out)
       have n1_ := Aside0.mk (blk_drew BK102.out)
       have n2_ := Aside0.mk (blk_drew BK103.out)
       have n3_ := Aside0.mk (blk_drew BK104.out)
       have n4_ := Aside0.mk (blk_drew BK106.out)
       have n5_ := Aside0.mk (below_drew1 HB.out)
       clear BK101
       clear BK102
       clear BK103
       clear BK104
       clear BK106
       clear HB
       have BK101 := n0_
       have BK102 := n1_
       have BK103 := n2_
       have BK104 := n3_
       have BK106 := n4_
       have HB := n5_
       clear n0_ n1_ n2_ n3_ n4_ n5_
       refine start_ (n := 23) (S := fun w' => w'.cell? ⟨gb103, 0, none⟩ = some (.int .i64 (wrap64 (a0_0))) ∧ w'.cell? ⟨gb103, 1, none⟩ = some (.int .i64 (wrap64 (a0_1))) ∧ w'.cell? ⟨gb103, 2, none⟩ = some (.int .i64 (wrap64 (a0_2))) ∧ w'.cell? ⟨gb103, 3, none⟩ = some (.int .i64 0) ∧ w'.cell? ⟨gb106, 0, none⟩ = some (.int .i64 x40_1) ∧ w'.cell? ⟨gb106, 1, none⟩ = some (.int .i64 (wrap64 (a2))) ∧ w'.cell? ⟨gb104, 0, none⟩ = some (.int .i64 (wrap64 ((wrap64 (a0_0)) + (wrap64 (a1_0))))) ∧ w'.cell? ⟨gb104, 1, none⟩ = some (.int .i64 (wrap64 ((wrap64 (a0_1)) + (wrap64 (a1_1))))) ∧ w'.cell? ⟨gb104, 2, none⟩ = some (.int .i64 (wrap64 ((wrap64 (a0_2)) + (wrap64 (a1_2))))) ∧ w'.cell? ⟨gb104, 3, none⟩ = some (.int .i64 0)) (ds := []) #[false, false, false, false, false, false, false, false, false, false, false, false, false, false, false, false, false, false, false, false, false, false, false] (by kernel_rfl) rfl rfl ⟨(blk_cell BK103.out 0).trans rfl, (blk_cell BK103.out 1).trans rfl, (blk_cell BK103.out 2).trans rfl, (blk_cell BK103.out 3).trans rfl, (blk_cell BK106.out 0).trans rfl, (blk_cell BK106.out 1).trans rfl, (blk_cell BK104.out 0).trans rfl, (blk_cell BK104.out 1).trans rfl, (blk_cell BK104.out 2).trans rfl, (blk_cell BK104.out 3).trans rfl⟩ (fun hHeld => ?_); refine with_tabW law01_AddrCheckIsMonotone.tab7 law01_AddrCheckIsMonotone.bits7 (fun HT_ HW_ => ?_)
       generalize w54.drew = w55 at BK101 BK102 BK103 BK104 BK106 HB hHeld ⊢
       refine pure_ (i := 4) (N := some 51) (v := ?_) (a' := ?_) #[false, false, false, false, true, false, false, false, false, false, false, false, false, false, false, false, false, false, false, false, false, false, false] rfl rfl (any_of HT_.out (by kernel_rfl)) (fun _ _ _ h => h) (Or.inl ⟨by rfl, ?_⟩) ?_ ?_
       rotate_left
       ·intro w'
        go_simp
        with_reducible rfl
       rotate_left
       ·simp only [Act.put, List.setIfInBounds_toArray, List.set_cons_zero, List.set_cons_succ, i64_w, i32_w]
        rfl
       refine pure_ (i := 5) (N := some 52) (v := ?_) (a' := ?_) #[false, false, false, false, true, true, false, false, false, false, false, false, false, false, false, false, false, false, false, false, false, false, false] rfl rfl (any_of HT_.out (by kernel_rfl)) (fun _ _ _ h => h) (Or.inl ⟨by rfl, ?_⟩) ?_ ?_
       rotate_left
       ·intro w'
        go_simp
        with_reducible rfl
       rotate_left
       ·simp only [Act.put, List.setIfInBounds_toArray, List.set_cons_zero, List.set_cons_succ, i64_w, i32_w]
        rfl
       refine pure_ (i := 7) (N := some 54) (v := ?_) (a' := ?_) #[false, false, false, false, true, true, false, true, false, false, false, false, false, false, false, false, false, false, false, false, false, false, false] rfl rfl (any_of HT_.out (by kernel_rfl)) (fun _ _ _ h => h) (Or.inl ⟨by rfl, ?_⟩) ?_ ?_
       rotate_left
       ·intro w'
        go_simp
        with_reducible rfl
       rotate_left
       ·simp only [Act.put, List.setIfInBounds_toArray, List.set_cons_zero, List.set_cons_succ, i64_w, i32_w]
        rfl
       refine take_ (i := 0) (N := some 47) (v := ?_) (a' := ?_) #[true, false, false, false, true, true, false, true, false, false, false, false, false, false, false, false, false, false, false, false, false, false, false] rfl rfl (take_ofW HT_.out HW_.out (by kernel_rfl)) (fun _ _ _ h => h) (Or.inl ⟨by rfl, ?_⟩) hHeld ?_ ?_
       rotate_left
       ·rintro w' ⟨s0, s1, s2, s3, s4, s5, s6, s7, s8, s9⟩
        go_simp
        with_reducible rfl
       rotate_left
       ·simp only [Act.put, List.setIfInBounds_toArray, List.set_cons_zero, List.set_cons_succ, i64_w, i32_w]
        rfl
       refine take_ (i := 1) (N := some 48) (v := ?_) (a' := ?_) #[true, true, false, false, true, true, false, true, false, false, false, false, false, false, false, false, false, false, false, false, false, false, false] rfl rfl (take_ofW HT_.out HW_.out (by kernel_rfl)) (fun _ _ _ h => h) (Or.inl ⟨by rfl, ?_⟩) hHeld ?_ ?_
       rotate_left
       ·rintro w' ⟨s0, s1, s2, s3, s4, s5, s6, s7, s8, s9⟩
        go_simp
        with_reducible rfl
       rotate_left
       ·simp only [Act.put, List.setIfInBounds_toArray, List.set_cons_zero, List.set_cons_succ, i64_w, i32_w]
        rfl
       refine take_ (i := 6) (N := some 53) (v := ?_) (a' := ?_) #[true, true, false, false, true, true, true, true, false, false, false, false, false, false, false, false, false, false, false, false, false, false, false] rfl rfl (take_ofW HT_.out HW_.out (by kernel_rfl)) (fun _ _ _ h => h) (Or.inl ⟨by rfl, ?_⟩) hHeld ?_ ?_
       rotate_left
       ·rintro w' ⟨s0, s1, s2, s3, s4, s5, s6, s7, s8, s9⟩
        go_simp
        with_reducible rfl
       rotate_left
       ·simp only [Act.put, List.setIfInBounds_toArray, List.set_cons_zero, List.set_cons_succ, i64_w, i32_w]
        rfl
       refine one_ (i := 2) (N := some 49) #[true, true, true, false, true, true, true, true, false, false, false, false, false, false, false, false, false, false, false, false, false, false, false] rfl rfl (one_of HT_.out (by kernel_rfl)) (by decide) (fun K hK => ?_)
       refine goes_ Tryd.func30 (by kernel_rfl) rfl #[.agg #[.int .i64 (wrap64 (a0_0)), .int .i64 (wrap64 (a0_1)), .int .i64 (wrap64 (a0_2)), .int .i64 0], .agg #[.int .i64 x40_1, .int .i64 (wrap64 (a2))]] (by rfl) rfl rfl (by (try simp only [List.map_toArray, List.map_cons, List.map_nil]); first | done | rfl | (simp only [List.length_drop, List.length_take]; rfl)) ?_
       with_reducible refine (addr_CheckAddr.calls (wrap64 (a0_0)) (wrap64 (a0_1)) (wrap64 (a0_2)) 0 x40_1 (wrap64 (a2)) t107 _ A19.out).mono ?_
       rintro e w56 ⟨rfl, hb⟩
       refine ⟨_, rfl, ?_⟩
       have n0_ := Aside0.mk (blk_below (g := gb101) (o := .cells #[.int .u16 a0_0, .int .u16 a0_1, .int .u16 a0_2] 54 (0, 0)) (by (with_reducible repeat (first | refine blk_drewN ?_ _ | refine blk_drew ?_ | refine blk_alloc ?_ _)); exact BK101.out) hb)
       have n1_ := Aside0.mk (blk_below (g := gb102) (o := .cells #[.int .u16 a1_0, .int .u16 a1_1, .int .u16 a1_2] 54 (0, 0)) (by (with_reducible repeat (first | refine blk_drewN ?_ _ | refine blk_drew ?_ | refine blk_alloc ?_ _)); exact BK102.out) hb)
       have n2_ := Aside0.mk (blk_below (g := gb103) (o := .cells #[.int .i64 (wrap64 (a0_0)), .int .i64 (wrap64 (a0_1)), .int .i64 (wrap64 (a0_2)), .int .i64 0] 56 (0, 0)) (by (with_reducible repeat (first | refine blk_drewN ?_ _ | refine blk_drew ?_ | refine blk_alloc ?_ _)); exact BK103.out) hb)
       have n3_ := Aside0.mk (blk_below (g := gb104) (o := .cells #[.int .i64 (wrap64 ((wrap64 (a0_0)) + (wrap64 (a1_0)))), .int .i64 (wrap64 ((wrap64 (a0_1)) + (wrap64 (a1_1)))), .int .i64 (wrap64 ((wrap64 (a0_2)) + (wrap64 (a1_2)))), .int .i64 0] 56 (0, 0)) (by (with_reducible repeat (first | refine blk_drewN ?_ _ | refine blk_drew ?_ | refine blk_alloc ?_ _)); exact BK104.out) hb)
       have n4_ := Aside0.mk (blk_below (g := gb106) (o := .cells #[.int .i64 x40_1, .int .i64 (wrap64 (a2))] 45 (0, 0)) (by (with_reducible repeat (first | refine blk_drewN ?_ _ | refine blk_drew ?_ | refine blk_alloc ?_ _)); exact BK106.out) hb)
       have n5_ := Aside0.mk (below_step (by repeat (first | (with_reducible first | exact HB.out | apply below_alloc | apply pw_below_drewN | apply below_drew1 | refine below_set ?_ GE101.out | refine below_set ?_ GE102.out | refine below_set ?_ GE103.out | refine below_set ?_ GE104.out | refine below_set ?_ GE106.out) | exact HB.out)) hb)
       clear BK101
       clear BK102
       clear BK103
       clear BK104
       clear BK106
       clear HB
       have BK101 := n0_
       have BK102 := n1_
       have BK103 := n2_
       have BK104 := n3_
       have BK106 := n4_
       have HB := n5_
       clear n0_ n1_ n2_ n3_ n4_ n5_
       (try clear hb)
       (try clear hb2)
       (try clear hk)
       (try clear hi)
       refine hK.out _ _ ⟨(blk_cell BK103.out 0).trans rfl, (blk_cell BK103.out 1).trans rfl, (blk_cell BK103.out 2).trans rfl, (blk_cell BK103.out 3).trans rfl, (blk_cell BK106.out 0).trans rfl, (blk_cell BK106.out 1).trans rfl, (blk_cell BK104.out 0).trans rfl, (blk_cell BK104.out 1).trans rfl, (blk_cell BK104.out 2).trans rfl, (blk_cell BK104.out 3).trans rfl⟩ (fun hHeld => ?_)
       clear hK K
       refine norm_ (a' := ?_) ?_ ?_
       rotate_left
       ·show Act.put _ (some 49) _ = _
        simp only [Act.put, List.setIfInBounds_toArray, List.set_cons_zero, List.set_cons_succ, i64_w, i32_w]
        rfl
       refine pure_ (i := 3) (N := some 50) (v := ?_) (a' := ?_) #[true, true, true, true, true, true, true, true, false, false, false, false, false, false, false, false, false, false, false, false, false, false, false] rfl rfl (any_of HT_.out (by kernel_rfl)) (fun _ _ _ h => h) (Or.inl ⟨by rfl, ?_⟩) ?_ ?_
       rotate_left
       ·intro w'
        go_simp
        with_reducible rfl
       rotate_left
       ·simp only [Act.put, List.setIfInBounds_toArray, List.set_cons_zero, List.set_cons_succ, i64_w, i32_w]
        rfl
       refine one_ (i := 8) (N := some 55) #[true, true, true, true, true, true, true, true, true, false, false, false, false, false, false, false, false, false, false, false, false, false, false] rfl rfl (one_of HT_.out (by kernel_rfl)) (by decide) (fun K hK => ?_)
       refine goes_ Tryd.func31 (by kernel_rfl) rfl #[.agg #[.int .i64 (wrap64 (a0_0)), .int .i64 (wrap64 (a0_1)), .int .i64 (wrap64 (a0_2)), .int .i64 0], .int .i64 x40_1] (by rfl) rfl rfl (by (try simp only [List.map_toArray, List.map_cons, List.map_nil]); first | done | rfl | (simp only [List.length_drop, List.length_take]; rfl)) ?_
       with_reducible refine (addr_Width.calls (wrap64 (a0_0)) (wrap64 (a0_1)) (wrap64 (a0_2)) 0 x40_1 t108 _ A20.out).mono ?_
       rintro e w57 ⟨rfl, hb⟩
       refine ⟨_, rfl, ?_⟩
       have n0_ := Aside0.mk (blk_below (g := gb101) (o := .cells #[.int .u16 a0_0, .int .u16 a0_1, .int .u16 a0_2] 54 (0, 0)) (by (with_reducible repeat (first | refine blk_drewN ?_ _ | refine blk_drew ?_ | refine blk_alloc ?_ _)); exact BK101.out) hb)
       have n1_ := Aside0.mk (blk_below (g := gb102) (o := .cells #[.int .u16 a1_0, .int .u16 a1_1, .int .u16 a1_2] 54 (0, 0)) (by (with_reducible repeat (first | refine blk_drewN ?_ _ | refine blk_drew ?_ | refine blk_alloc ?_ _)); exact BK102.out) hb)
       have n2_ := Aside0.mk (blk_below (g := gb103) (o := .cells #[.int .i64 (wrap64 (a0_0)), .int .i64 (wrap64 (a0_1)), .int .i64 (wrap64 (a0_2)), .int .i64 0] 56 (0, 0)) (by (with_reducible repeat (first | refine blk_drewN ?_ _ | refine blk_drew ?_ | refine blk_alloc ?_ _)); exact BK103.out) hb)
       have n3_ := Aside0.mk (blk_below (g := gb104) (o := .cells #[.int .i64 (wrap64 ((wrap64 (a0_0)) + (wrap64 (a1_0)))), .int .i64 (wrap64 ((wrap64 (a0_1)) + (wrap64 (a1_1)))), .int .i64 (wrap64 ((wrap64 (a0_2)) + (wrap64 (a1_2)))), .int .i64 0] 56 (0, 0)) (by (with_reducible repeat (first | refine blk_drewN ?_ _ | refine blk_drew ?_ | refine blk_alloc ?_ _)); exact BK104.out) hb)
       have n4_ := Aside0.mk (blk_below (g := gb106) (o := .cells #[.int .i64 x40_1, .int .i64 (wrap64 (a2))] 45 (0, 0)) (by (with_reducible repeat (first | refine blk_drewN ?_ _ | refine blk_drew ?_ | refine blk_alloc ?_ _)); exact BK106.out) hb)
       have n5_ := Aside0.mk (below_step (by repeat (first | (with_reducible first | exact HB.out | apply below_alloc | apply pw_below_drewN | apply below_drew1 | refine below_set ?_ GE101.out | refine below_set ?_ GE102.out | refine below_set ?_ GE103.out | refine below_set ?_ GE104.out | refine below_set ?_ GE106.out) | exact HB.out)) hb)
       clear BK101
       clear BK102
       clear BK103
       clear BK104
       clear BK106
       clear HB
       have BK101 := n0_
       have BK102 := n1_
       have BK103 := n2_
       have BK104 := n3_
       have BK106 := n4_
       have HB := n5_
       clear n0_ n1_ n2_ n3_ n4_ n5_
       (try clear hb)
       (try clear hb2)
       (try clear hk)
       (try clear hi)
       refine hK.out _ _ ⟨(blk_cell BK103.out 0).trans rfl, (blk_cell BK103.out 1).trans rfl, (blk_cell BK103.out 2).trans rfl, (blk_cell BK103.out 3).trans rfl, (blk_cell BK106.out 0).trans rfl, (blk_cell BK106.out 1).trans rfl, (blk_cell BK104.out 0).trans rfl, (blk_cell BK104.out 1).trans rfl, (blk_cell BK104.out 2).trans rfl, (blk_cell BK104.out 3).trans rfl⟩ (fun hHeld => ?_)
       clear hK K
       refine norm_ (a' := ?_) ?_ ?_
       rotate_left
       ·show Act.put _ (some 55) _ = _
        simp only [Act.put, List.setIfInBounds_toArray, List.set_cons_zero, List.set_cons_succ, i64_w, i32_w]
        rfl
       refine pure_ (i := 9) (N := some 56) (v := ?_) (a' := ?_) #[true, true, true, true, true, true, true, true, true, true, false, false, false, false, false, false, false, false, false, false, false, false, false] rfl rfl (any_of HT_.out (by kernel_rfl)) (fun _ _ _ h => h) (Or.inl ⟨by rfl, ?_⟩) ?_ ?_
       rotate_left
       ·intro w'
        go_simp
        with_reducible rfl
       rotate_left
       ·simp only [Act.put, List.setIfInBounds_toArray, List.set_cons_zero, List.set_cons_succ, i64_w, i32_w]
        rfl
       refine pure_ (i := 10) (N := some 57) (v := ?_) (a' := ?_) #[true, true, true, true, true, true, true, true, true, true, true, false, false, false, false, false, false, false, false, false, false, false, false] rfl rfl (any_of HT_.out (by kernel_rfl)) (fun _ _ _ h => h) (Or.inl ⟨by rfl, ?_⟩) ?_ ?_
       rotate_left
       ·intro w'
        go_simp
        with_reducible rfl
       rotate_left
       ·simp only [Act.put, List.setIfInBounds_toArray, List.set_cons_zero, List.set_cons_succ, i64_w, i32_w]
        rfl
       refine pure_ (i := 11) (N := some 58) (v := ?_) (a' := ?_) #[true, true, true, true, true, true, true, true, true, true, true, true, false, false, false, false, false, false, false, false, false, false, false] rfl rfl (any_of HT_.out (by kernel_rfl)) (fun _ _ _ h => h) (Or.inl ⟨by rfl, ?_⟩) ?_ ?_
       rotate_left
       ·intro w'
        go_simp
        with_reducible rfl
       rotate_left
       ·simp only [Act.put, List.setIfInBounds_toArray, List.set_cons_zero, List.set_cons_succ, i64_w, i32_w]
        rfl
       refine take_ (i := 12) (N := some 59) (v := ?_) (a' := ?_) #[true, true, true, true, true, true, true, true, true, true, true, true, true, false, false, false, false, false, false, false, false, false, false] rfl rfl (take_ofW HT_.out HW_.out (by kernel_rfl)) (fun _ _ _ h => h) (Or.inl ⟨by rfl, ?_⟩) hHeld ?_ ?_
       rotate_left
       ·rintro w' ⟨s0, s1, s2, s3, s4, s5, s6, s7, s8, s9⟩
        go_simp
        with_reducible rfl
       rotate_left
       ·simp only [Act.put, List.setIfInBounds_toArray, List.set_cons_zero, List.set_cons_succ, i64_w, i32_w]
        rfl
       refine take_ (i := 13) (N := some 60) (v := ?_) (a' := ?_) #[true, true, true, true, true, true, true, true, true, true, true, true, true, true, false, false, false, false, false, false, false, false, false] rfl rfl (take_ofW HT_.out HW_.out (by kernel_rfl)) (fun _ _ _ h => h) (Or.inl ⟨by rfl, ?_⟩) hHeld ?_ ?_
       rotate_left
       ·rintro w' ⟨s0, s1, s2, s3, s4, s5, s6, s7, s8, s9⟩
        go_simp
        with_reducible rfl
       rotate_left
       ·simp only [Act.put, List.setIfInBounds_toArray, List.set_cons_zero, List.set_cons_succ, i64_w, i32_w]
        rfl
       refine one_ (i := 14) (N := some 61) #[true, true, true, true, true, true, true, true, true, true, true, true, true, true, true, false, false, false, false, false, false, false, false] rfl rfl (one_of HT_.out (by kernel_rfl)) (by decide) (fun K hK => ?_)
       refine goes_ Tryd.func30 (by kernel_rfl) rfl #[.agg #[.int .i64 (wrap64 (a0_0)), .int .i64 (wrap64 (a0_1)), .int .i64 (wrap64 (a0_2)), .int .i64 0], .agg #[.int .i64 x40_1, .int .i64 (wrap64 (a2))]] (by rfl) rfl rfl (by (try simp only [List.map_toArray, List.map_cons, List.map_nil]); first | done | rfl | (simp only [List.length_drop, List.length_take]; rfl)) ?_
       with_reducible refine (addr_CheckAddr.calls (wrap64 (a0_0)) (wrap64 (a0_1)) (wrap64 (a0_2)) 0 x40_1 (wrap64 (a2)) t109 _ A32.out).mono ?_
       rintro e w58 ⟨rfl, hb⟩
       refine ⟨_, rfl, ?_⟩
       have n0_ := Aside0.mk (blk_below (g := gb101) (o := .cells #[.int .u16 a0_0, .int .u16 a0_1, .int .u16 a0_2] 54 (0, 0)) (by (with_reducible repeat (first | refine blk_drewN ?_ _ | refine blk_drew ?_ | refine blk_alloc ?_ _)); exact BK101.out) hb)
       have n1_ := Aside0.mk (blk_below (g := gb102) (o := .cells #[.int .u16 a1_0, .int .u16 a1_1, .int .u16 a1_2] 54 (0, 0)) (by (with_reducible repeat (first | refine blk_drewN ?_ _ | refine blk_drew ?_ | refine blk_alloc ?_ _)); exact BK102.out) hb)
       have n2_ := Aside0.mk (blk_below (g := gb103) (o := .cells #[.int .i64 (wrap64 (a0_0)), .int .i64 (wrap64 (a0_1)), .int .i64 (wrap64 (a0_2)), .int .i64 0] 56 (0, 0)) (by (with_reducible repeat (first | refine blk_drewN ?_ _ | refine blk_drew ?_ | refine blk_alloc ?_ _)); exact BK103.out) hb)
       have n3_ := Aside0.mk (blk_below (g := gb104) (o := .cells #[.int .i64 (wrap64 ((wrap64 (a0_0)) + (wrap64 (a1_0)))), .int .i64 (wrap64 ((wrap64 (a0_1)) + (wrap64 (a1_1)))), .int .i64 (wrap64 ((wrap64 (a0_2)) + (wrap64 (a1_2)))), .int .i64 0] 56 (0, 0)) (by (with_reducible repeat (first | refine blk_drewN ?_ _ | refine blk_drew ?_ | refine blk_alloc ?_ _)); exact BK104.out) hb)
       have n4_ := Aside0.mk (blk_below (g := gb106) (o := .cells #[.int .i64 x40_1, .int .i64 (wrap64 (a2))] 45 (0, 0)) (by (with_reducible repeat (first | refine blk_drewN ?_ _ | refine blk_drew ?_ | refine blk_alloc ?_ _)); exact BK106.out) hb)
       have n5_ := Aside0.mk (below_step (by repeat (first | (with_reducible first | exact HB.out | apply below_alloc | apply pw_below_drewN | apply below_drew1 | refine below_set ?_ GE101.out | refine below_set ?_ GE102.out | refine below_set ?_ GE103.out | refine below_set ?_ GE104.out | refine below_set ?_ GE106.out) | exact HB.out)) hb)
       clear BK101
       clear BK102
       clear BK103
       clear BK104
       clear BK106
       clear HB
       have BK101 := n0_
       have BK102 := n1_
       have BK103 := n2_
       have BK104 := n3_
       have BK106 := n4_
       have HB := n5_
       clear n0_ n1_ n2_ n3_ n4_ n5_
       (try clear hb)
       (try clear hb2)
       (try clear hk)
       (try clear hi)
       refine hK.out _ _ ⟨(blk_cell BK103.out 0).trans rfl, (blk_cell BK103.out 1).trans rfl, (blk_cell BK103.out 2).trans rfl, (blk_cell BK103.out 3).trans rfl, (blk_cell BK106.out 0).trans rfl, (blk_cell BK106.out 1).trans rfl, (blk_cell BK104.out 0).trans rfl, (blk_cell BK104.out 1).trans rfl, (blk_cell BK104.out 2).trans rfl, (blk_cell BK104.out 3).trans rfl⟩ (fun hHeld => ?_)
       clear hK K
       refine norm_ (a' := ?_) ?_ ?_
       rotate_left
       ·show Act.put _ (some 61) _ = _
        simp only [Act.put, List.setIfInBounds_toArray, List.set_cons_zero, List.set_cons_succ, i64_w, i32_w]
        rfl
       refine pure_ (i := 15) (N := some 62) (v := ?_) (a' := ?_) #[true, true, true, true, true, true, true, true, true, true, true, true, true, true, true, true, false, false, false, false, false, false, false] rfl rfl (any_of HT_.out (by kernel_rfl)) (fun _ _ _ h => h) (Or.inl ⟨by rfl, ?_⟩) ?_ ?_
       rotate_left
       ·intro w'
        go_simp
        with_reducible rfl
       rotate_left
       ·simp only [Act.put, List.setIfInBounds_toArray, List.set_cons_zero, List.set_cons_succ, i64_w, i32_w]
        rfl
       refine pure_ (i := 16) (N := some 63) (v := ?_) (a' := ?_) #[true, true, true, true, true, true, true, true, true, true, true, true, true, true, true, true, true, false, false, false, false, false, false] rfl rfl (any_of HT_.out (by kernel_rfl)) (fun _ _ _ h => h) (Or.inl ⟨by rfl, ?_⟩) ?_ ?_
       rotate_left
       ·intro w'
        go_simp
        with_reducible rfl
       rotate_left
       ·simp only [Act.put, List.setIfInBounds_toArray, List.set_cons_zero, List.set_cons_succ, i64_w, i32_w]
        rfl
       refine take_ (i := 17) (N := some 64) (v := ?_) (a' := ?_) #[true, true, true, true, true, true, true, true, true, true, true, true, true, true, true, true, true, true, false, false, false, false, false] rfl rfl (take_ofW HT_.out HW_.out (by kernel_rfl)) (fun _ _ _ h => h) (Or.inl ⟨by rfl, ?_⟩) hHeld ?_ ?_
       rotate_left
       ·rintro w' ⟨s0, s1, s2, s3, s4, s5, s6, s7, s8, s9⟩
        go_simp
        with_reducible rfl
       rotate_left
       ·simp only [Act.put, List.setIfInBounds_toArray, List.set_cons_zero, List.set_cons_succ, i64_w, i32_w]
        rfl
       refine take_ (i := 18) (N := some 65) (v := ?_) (a' := ?_) #[true, true, true, true, true, true, true, true, true, true, true, true, true, true, true, true, true, true, true, false, false, false, false] rfl rfl (take_ofW HT_.out HW_.out (by kernel_rfl)) (fun _ _ _ h => h) (Or.inl ⟨by rfl, ?_⟩) hHeld ?_ ?_
       rotate_left
       ·rintro w' ⟨s0, s1, s2, s3, s4, s5, s6, s7, s8, s9⟩
        go_simp
        with_reducible rfl
       rotate_left
       ·simp only [Act.put, List.setIfInBounds_toArray, List.set_cons_zero, List.set_cons_succ, i64_w, i32_w]
        rfl
       refine one_ (i := 19) (N := some 66) #[true, true, true, true, true, true, true, true, true, true, true, true, true, true, true, true, true, true, true, true, false, false, false] rfl rfl (one_of HT_.out (by kernel_rfl)) (by decide) (fun K hK => ?_)
       refine goes_ Tryd.func30 (by kernel_rfl) rfl #[.agg #[.int .i64 (wrap64 ((wrap64 (a0_0)) + (wrap64 (a1_0)))), .int .i64 (wrap64 ((wrap64 (a0_1)) + (wrap64 (a1_1)))), .int .i64 (wrap64 ((wrap64 (a0_2)) + (wrap64 (a1_2)))), .int .i64 0], .agg #[.int .i64 x40_1, .int .i64 (wrap64 (a2))]] (by rfl) rfl rfl (by (try simp only [List.map_toArray, List.map_cons, List.map_nil]); first | done | rfl | (simp only [List.length_drop, List.length_take]; rfl)) ?_
       with_reducible refine (addr_CheckAddr.calls (wrap64 ((wrap64 (a0_0)) + (wrap64 (a1_0)))) (wrap64 ((wrap64 (a0_1)) + (wrap64 (a1_1)))) (wrap64 ((wrap64 (a0_2)) + (wrap64 (a1_2)))) 0 x40_1 (wrap64 (a2)) t110 _ A34.out).mono ?_
       rintro e w59 ⟨rfl, hb⟩
       refine ⟨_, rfl, ?_⟩
       have n0_ := Aside0.mk (blk_below (g := gb101) (o := .cells #[.int .u16 a0_0, .int .u16 a0_1, .int .u16 a0_2] 54 (0, 0)) (by (with_reducible repeat (first | refine blk_drewN ?_ _ | refine blk_drew ?_ | refine blk_alloc ?_ _)); exact BK101.out) hb)
       have n1_ := Aside0.mk (blk_below (g := gb102) (o := .cells #[.int .u16 a1_0, .int .u16 a1_1, .int .u16 a1_2] 54 (0, 0)) (by (with_reducible repeat (first | refine blk_drewN ?_ _ | refine blk_drew ?_ | refine blk_alloc ?_ _)); exact BK102.out) hb)
       have n2_ := Aside0.mk (blk_below (g := gb103) (o := .cells #[.int .i64 (wrap64 (a0_0)), .int .i64 (wrap64 (a0_1)), .int .i64 (wrap64 (a0_2)), .int .i64 0] 56 (0, 0)) (by (with_reducible repeat (first | refine blk_drewN ?_ _ | refine blk_drew ?_ | refine blk_alloc ?_ _)); exact BK103.out) hb)
       have n3_ := Aside0.mk (blk_below (g := gb104) (o := .cells #[.int .i64 (wrap64 ((wrap64 (a0_0)) + (wrap64 (a1_0)))), .int .i64 (wrap64 ((wrap64 (a0_1)) + (wrap64 (a1_1)))), .int .i64 (wrap64 ((wrap64 (a0_2)) + (wrap64 (a1_2)))), .int .i64 0] 56 (0, 0)) (by (with_reducible repeat (first | refine blk_drewN ?_ _ | refine blk_drew ?_ | refine blk_alloc ?_ _)); exact BK104.out) hb)
       have n4_ := Aside0.mk (blk_below (g := gb106) (o := .cells #[.int .i64 x40_1, .int .i64 (wrap64 (a2))] 45 (0, 0)) (by (with_reducible repeat (first | refine blk_drewN ?_ _ | refine blk_drew ?_ | refine blk_alloc ?_ _)); exact BK106.out) hb)
       have n5_ := Aside0.mk (below_step (by repeat (first | (with_reducible first | exact HB.out | apply below_alloc | apply pw_below_drewN | apply below_drew1 | refine below_set ?_ GE101.out | refine below_set ?_ GE102.out | refine below_set ?_ GE103.out | refine below_set ?_ GE104.out | refine below_set ?_ GE106.out) | exact HB.out)) hb)
       clear BK101
       clear BK102
       clear BK103
       clear BK104
       clear BK106
       clear HB
       have BK101 := n0_
       have BK102 := n1_
       have BK103 := n2_
       have BK104 := n3_
       have BK106 := n4_
       have HB := n5_
       clear n0_ n1_ n2_ n3_ n4_ n5_
       (try clear hb)
       (try clear hb2)
       (try clear hk)
       (try clear hi)
       refine hK.out _ _ ⟨(blk_cell BK103.out 0).trans rfl, (blk_cell BK103.out 1).trans rfl, (blk_cell BK103.out 2).trans rfl, (blk_cell BK103.out 3).trans rfl, (blk_cell BK106.out 0).trans rfl, (blk_cell BK106.out 1).trans rfl, (blk_cell BK104.out 0).trans rfl, (blk_cell BK104.out 1).trans rfl, (blk_cell BK104.out 2).trans rfl, (blk_cell BK104.out 3).trans rfl⟩ (fun hHeld => ?_)
       clear hK K
       refine norm_ (a' := ?_) ?_ ?_
       rotate_left
       ·show Act.put _ (some 66) _ = _
        simp only [Act.put, List.setIfInBounds_toArray, List.set_cons_zero, List.set_cons_succ, i64_w, i32_w]
        rfl
       refine pure_ (i := 20) (N := some 67) (v := ?_) (a' := ?_) #[true, true, true, true, true, true, true, true, true, true, true, true, true, true, true, true, true, true, true, true, true, false, false] rfl rfl (any_of HT_.out (by kernel_rfl)) (fun _ _ _ h => h) (Or.inl ⟨by rfl, ?_⟩) ?_ ?_
       rotate_left
       ·intro w'
        go_simp
        with_reducible rfl
       rotate_left
       ·simp only [Act.put, List.setIfInBounds_toArray, List.set_cons_zero, List.set_cons_succ, i64_w, i32_w]
        rfl
       refine pure_ (i := 21) (N := some 68) (v := ?_) (a' := ?_) #[true, true, true, true, true, true, true, true, true, true, true, true, true, true, true, true, true, true, true, true, true, true, false] rfl rfl (any_of HT_.out (by kernel_rfl)) (fun _ _ _ h => h) (Or.inl ⟨by rfl, ?_⟩) ?_ ?_
       rotate_left
       ·intro w'
        go_simp
        with_reducible rfl
       rotate_left
       ·simp only [Act.put, List.setIfInBounds_toArray, List.set_cons_zero, List.set_cons_succ, i64_w, i32_w]
        rfl
       refine pure_ (i := 22) (N := some 69) (v := ?_) (a' := ?_) #[true, true, true, true, true, true, true, true, true, true, true, true, true, true, true, true, true, true, true, true, true, true, true] rfl rfl (any_of HT_.out (by kernel_rfl)) (fun _ _ _ h => h) (Or.inl ⟨by rfl, ?_⟩) ?_ ?_
       rotate_left
       ·intro w'
        go_simp
        with_reducible rfl
       rotate_left
       ·simp only [Act.put, List.setIfInBounds_toArray, List.set_cons_zero, List.set_cons_succ, i64_w, i32_w]
        rfl
       refine done_ (done_of HT_.out (by kernel_rfl)) ?_
       try go_wp2
       go_ret
       exact ⟨by first | rfl | (simp [errW_none, errW_some] <;> rfl) | (simp [*, errW_none, errW_some] <;> rfl), by repeat (first | (with_reducible first | exact HB.out | apply below_alloc | apply pw_below_drewN | apply below_drew1 | refine below_set ?_ GE101.out | refine below_set ?_ GE102.out | refine below_set ?_ GE103.out | refine below_set ?_ GE104.out | refine below_set ?_ GE106.out) | exact HB.out)⟩
     ·rw [if_neg c33] at H
      have c33b0 : (t107 == 0) = false := beq_eq_false_iff_ne.mpr c33
      have hx4 : (t109 == 0) = false := by rw [Option.some.inj (A32.out.symm.trans A19.out)]; exact c33b0
      have c33b1 : (t107 != 0) = true := bne_iff_ne.mpr c33
      have hx5 : (t109 != 0) = true := by rw [Option.some.inj (A32.out.symm.trans A19.out)]; exact c33b1
      have hx6 : (decide ((wrap64 (a2)) < t108)) = false := by rw [c33b0] at c21b0; revert c21b0; generalize (decide ((wrap64 (a2)) < t108)) = z; cases z <;> simp
      have H' := Aside0.mk H
      clear H
      try go_wp2_with (first | ((with_reducible refine gate_dst (N := 10) rfl ?_); refine box_event ?hg (N := 10) ?hd (cs := #[.int .i64 0, .int .i64 0]) (t := 45) ?hr ?_; (case hd => rfl); (case hg => rfl); (case hr => first | (go_simp; done) | (go_simp; rfl)); intro gb106 hg w60 hbox hb; have n0_ := Aside0.mk (blk_below (g := gb101) (o := .cells #[.int .u16 a0_0, .int .u16 a0_1, .int .u16 a0_2] 54 (0, 0)) (by (with_reducible repeat (first | refine blk_drewN ?_ _ | refine blk_drew ?_ | refine blk_alloc ?_ _)); exact BK101.out) hb); have n1_ := Aside0.mk (blk_below (g := gb102) (o := .cells #[.int .u16 a1_0, .int .u16 a1_1, .int .u16 a1_2] 54 (0, 0)) (by (with_reducible repeat (first | refine blk_drewN ?_ _ | refine blk_drew ?_ | refine blk_alloc ?_ _)); exact BK102.out) hb); have n2_ := Aside0.mk (blk_below (g := gb103) (o := .cells #[.int .i64 (wrap64 (a0_0)), .int .i64 (wrap64 (a0_1)), .int .i64 (wrap64 (a0_2)), .int .i64 0] 56 (0, 0)) (by (with_reducible repeat (first | refine blk_drewN ?_ _ | refine blk_drew ?_ | refine blk_alloc ?_ _)); exact BK103.out) hb); have n3_ := Aside0.mk (blk_below (g := gb104) (o := .cells #[.int .i64 (wrap64 ((wrap64 (a0_0)) + (wrap64 (a1_0)))), .int .i64 (wrap64 ((wrap64 (a0_1)) + (wrap64 (a1_1)))), .int .i64 (wrap64 ((wrap64 (a0_2)) + (wrap64 (a1_2)))), .int .i64 0] 56 (0, 0)) (by (with_reducible repeat (first | refine blk_drewN ?_ _ | refine blk_drew ?_ | refine blk_alloc ?_ _)); exact BK104.out) hb); have n4_ := Aside0.mk (below_step (by repeat (first | (with_reducible first | exact HB.out | apply below_alloc | apply pw_below_drewN | apply below_drew1 | refine below_set ?_ GE101.out | refine below_set ?_ GE102.out | refine below_set ?_ GE103.out | refine below_set ?_ GE104.out) | exact HB.out)) hb); have n5_ := Aside0.mk (hbox); have n6_ := Aside0.mk ((by rw [hg]; exact (below_size (by repeat (first | (with_reducible first | exact HB.out | apply below_alloc | apply pw_below_drewN | apply below_drew1 | refine below_set ?_ GE101.out | refine below_set ?_ GE102.out | refine below_set ?_ GE103.out | refine below_set ?_ GE104.out) | exact HB.out))) : w.heap.size ≤ gb106)); have n7_ := Aside0.mk ((by rw [hg]; exact (below_size (by repeat (first | (with_reducible first | exact HB.out | apply below_alloc | apply pw_below_drewN | apply below_drew1 | refine below_set ?_ GE101.out | refine below_set ?_ GE102.out | refine below_set ?_ GE103.out | refine below_set ?_ GE104.out) | exact HB.out))) : w.heap.size ≤ gb106)); have n8_ := Aside0.mk ((by rw [hg]; exact Nat.ne_of_lt (blk_lt (g := gb101) (o := .cells #[.int .u16 a0_0, .int .u16 a0_1, .int .u16 a0_2] 54 (0, 0)) (by (with_reducible repeat (first | refine blk_drewN ?_ _ | refine blk_drew ?_ | refine blk_alloc ?_ _)); exact BK101.out)) : gb101 ≠ gb106)); have n9_ := Aside0.mk ((by rw [hg]; exact Nat.ne_of_gt (blk_lt (g := gb101) (o := .cells #[.int .u16 a0_0, .int .u16 a0_1, .int .u16 a0_2] 54 (0, 0)) (by (with_reducible repeat (first | refine blk_drewN ?_ _ | refine blk_drew ?_ | refine blk_alloc ?_ _)); exact BK101.out)) : gb106 ≠ gb101)); have n10_ := Aside0.mk ((by rw [hg]; exact Nat.ne_of_lt (blk_lt (g := gb102) (o := .cells #[.int .u16 a1_0, .int .u16 a1_1, .int .u16 a1_2] 54 (0, 0)) (by (with_reducible repeat (first | refine blk_drewN ?_ _ | refine blk_drew ?_ | refine blk_alloc ?_ _)); exact BK102.out)) : gb102 ≠ gb106)); have n11_ := Aside0.mk ((by rw [hg]; exact Nat.ne_of_gt (blk_lt (g := gb102) (o := .cells #[.int .u16 a1_0, .int .u16 a1_1, .int .u16 a1_2] 54 (0, 0)) (by (with_reducible repeat (first | refine blk_drewN ?_ _ | refine blk_drew ?_ | refine blk_alloc ?_ _)); exact BK102.out)) : gb106 ≠ gb102)); have n12_ := Aside0.mk ((by rw [hg]; exact Nat.ne_of_lt (blk_lt (g := gb103) (o := .cells #[.int .i64 (wrap64 (a0_0)), .int .i64 (wrap64 (a0_1)), .int .i64 (wrap64 (a0_2)), .int .i64 0] 56 (0, 0)) (by (with_reducible repeat (first | refine blk_drewN ?_ _ | refine blk_drew ?_ | refine blk_alloc ?_ _)); exact BK103.out)) : gb103 ≠ gb106)); have n13_ := Aside0.mk ((by rw [hg]; exact Nat.ne_of_gt (blk_lt (g := gb103) (o := .cells #[.int .i64 (wrap64 (a0_0)), .int .i64 (wrap64 (a0_1)), .int .i64 (wrap64 (a0_2)), .int .i64 0] 56 (0, 0)) (by (with_reducible repeat (first | refine blk_drewN ?_ _ | refine blk_drew ?_ | refine blk_alloc ?_ _)); exact BK103.out)) : gb106 ≠ gb103)); have n14_ := Aside0.mk ((by rw [hg]; exact Nat.ne_of_lt (blk_lt (g := gb104) (o := .cells #[.int .i64 (wrap64 ((wrap64 (a0_0)) + (wrap64 (a1_0)))), .int .i64 (wrap64 ((wrap64 (a0_1)) + (wrap64 (a1_1)))), .int .i64 (wrap64 ((wrap64 (a0_2)) + (wrap64 (a1_2)))), .int .i64 0] 56 (0, 0)) (by (with_reducible repeat (first | refine blk_drewN ?_ _ | refine blk_drew ?_ | refine blk_alloc ?_ _)); exact BK104.out)) : gb104 ≠ gb106)); have n15_ := Aside0.mk ((by rw [hg]; exact Nat.ne_of_gt (blk_lt (g := gb104) (o := .cells #[.int .i64 (wrap64 ((wrap64 (a0_0)) + (wrap64 (a1_0)))), .int .i64 (wrap64 ((wrap64 (a0_1)) + (wrap64 (a1_1)))), .int .i64 (wrap64 ((wrap64 (a0_2)) + (wrap64 (a1_2)))), .int .i64 0] 56 (0, 0)) (by (with_reducible repeat (first | refine blk_drewN ?_ _ | refine blk_drew ?_ | refine blk_alloc ?_ _)); exact BK104.out)) : gb106 ≠ gb104)); clear BK101; clear BK102; clear BK103; clear BK104; clear HB; have BK101 := n0_; have BK102 := n1_; have BK103 := n2_; have BK104 := n3_; have HB := n4_; have BK106 := n5_; have GW106 := n6_; have GE106 := n7_; have NB101_106 := n8_; have NB106_101 := n9_; have NB102_106 := n10_; have NB106_102 := n11_; have NB103_106 := n12_; have NB106_103 := n13_; have NB104_106 := n14_; have NB106_104 := n15_; clear n0_ n1_ n2_ n3_ n4_ n5_ n6_ n7_ n8_ n9_ n10_ n11_ n12_ n13_ n14_ n15_; clear hb hbox hg; have hnb61 := NB106_101.out; have hnc61 := NB101_106.out; have hnb62 := NB106_102.out; have hnc62 := NB102_106.out; have hnb63 := NB106_103.out; have hnc63 := NB103_106.out; have hnb64 := NB106_104.out; have hnc64 := NB104_106.out; have hcz65_0 : w60.cell? ⟨gb106, 0, none⟩ = some (.int .i64 0) := (blk_cell BK106.out 0).trans rfl; have hcz65_1 : w60.cell? ⟨gb106, 1, none⟩ = some (.int .i64 0) := (blk_cell BK106.out 1).trans rfl; have hfz65_0 := blk_frozen BK106.out 0; have hfz65_1 := blk_frozen BK106.out 1))
      have n0_ : Aside0 (((w60.setCell ⟨gb106, 0, none⟩ (.int .i64 x40_1)).setCell ⟨gb106, 1, none⟩ (.int .i64 (wrap64 (a2)))).heap[gb101]? = some (.cells #[.int .u16 a0_0, .int .u16 a0_1, .int .u16 a0_2] 54 (0, 0))) := ⟨by (with_reducible repeat (first | refine blk_drewN ?_ _ | refine blk_drew ?_ | refine blk_alloc ?_ _)); refine blk_far ?_ NB101_106.out _; (with_reducible repeat (first | refine blk_drewN ?_ _ | refine blk_drew ?_ | refine blk_alloc ?_ _)); refine blk_far ?_ NB101_106.out _; (with_reducible repeat (first | refine blk_drewN ?_ _ | refine blk_drew ?_ | refine blk_alloc ?_ _)); exact BK101.out⟩
      have n1_ : Aside0 (((w60.setCell ⟨gb106, 0, none⟩ (.int .i64 x40_1)).setCell ⟨gb106, 1, none⟩ (.int .i64 (wrap64 (a2)))).heap[gb102]? = some (.cells #[.int .u16 a1_0, .int .u16 a1_1, .int .u16 a1_2] 54 (0, 0))) := ⟨by (with_reducible repeat (first | refine blk_drewN ?_ _ | refine blk_drew ?_ | refine blk_alloc ?_ _)); refine blk_far ?_ NB102_106.out _; (with_reducible repeat (first | refine blk_drewN ?_ _ | refine blk_drew ?_ | refine blk_alloc ?_ _)); refine blk_far ?_ NB102_106.out _; (with_reducible repeat (first | refine blk_drewN ?_ _ | refine blk_drew ?_ | refine blk_alloc ?_ _)); exact BK102.out⟩
      have n2_ : Aside0 (((w60.setCell ⟨gb106, 0, none⟩ (.int .i64 x40_1)).setCell ⟨gb106, 1, none⟩ (.int .i64 (wrap64 (a2)))).heap[gb103]? = some (.cells #[.int .i64 (wrap64 (a0_0)), .int .i64 (wrap64 (a0_1)), .int .i64 (wrap64 (a0_2)), .int .i64 0] 56 (0, 0))) := ⟨by (with_reducible repeat (first | refine blk_drewN ?_ _ | refine blk_drew ?_ | refine blk_alloc ?_ _)); refine blk_far ?_ NB103_106.out _; (with_reducible repeat (first | refine blk_drewN ?_ _ | refine blk_drew ?_ | refine blk_alloc ?_ _)); refine blk_far ?_ NB103_106.out _; (with_reducible repeat (first | refine blk_drewN ?_ _ | refine blk_drew ?_ | refine blk_alloc ?_ _)); exact BK103.out⟩
      have n3_ : Aside0 (((w60.setCell ⟨gb106, 0, none⟩ (.int .i64 x40_1)).setCell ⟨gb106, 1, none⟩ (.int .i64 (wrap64 (a2)))).heap[gb104]? = some (.cells #[.int .i64 (wrap64 ((wrap64 (a0_0)) + (wrap64 (a1_0)))), .int .i64 (wrap64 ((wrap64 (a0_1)) + (wrap64 (a1_1)))), .int .i64 (wrap64 ((wrap64 (a0_2)) + (wrap64 (a1_2)))), .int .i64 0] 56 (0, 0))) := ⟨by (with_reducible repeat (first | refine blk_drewN ?_ _ | refine blk_drew ?_ | refine blk_alloc ?_ _)); refine blk_far ?_ NB104_106.out _; (with_reducible repeat (first | refine blk_drewN ?_ _ | refine blk_drew ?_ | refine blk_alloc ?_ _)); refine blk_far ?_ NB104_106.out _; (with_reducible repeat (first | refine blk_drewN ?_ _ | refine blk_drew ?_ | refine blk_alloc ?_ _)); exact BK104.out⟩
      have n4_ : Aside0 (((w60.setCell ⟨gb106, 0, none⟩ (.int .i64 x40_1)).setCell ⟨gb106, 1, none⟩ (.int .i64 (wrap64 (a2)))).heap[gb106]? = some (.cells #[.int .i64 x40_1, .int .i64 (wrap64 (a2))] 45 (0, 0))) := ⟨by (with_reducible repeat (first | refine blk_drewN ?_ _ | refine blk_drew ?_ | refine blk_alloc ?_ _)); refine blk_put (cs := #[.int .i64 x40_1, .int .i64 0]) ?_ 1 _ rfl; (with_reducible repeat (first | refine blk_drewN ?_ _ | refine blk_drew ?_ | refine blk_alloc ?_ _)); refine blk_put (cs := #[.int .i64 0, .int .i64 0]) ?_ 0 _ rfl; (with_reducible repeat (first | refine blk_drewN ?_ _ | refine blk_drew ?_ | refine blk_alloc ?_ _)); exact BK106.out⟩
      have n5_ : Aside0 (Below w.heap.size w ((w60.setCell ⟨gb106, 0, none⟩ (.int .i64 x40_1)).setCell ⟨gb106, 1, none⟩ (.int .i64 (wrap64 (a2))))) := ⟨by repeat (first | (with_reducible first | exact HB.out | apply below_alloc | apply pw_below_drewN | apply below_drew1 | refine below_set ?_ GE101.out | refine below_set ?_ GE102.out | refine below_set ?_ GE103.out | refine below_set ?_ GE104.out | refine below_set ?_ GE106.out) | exact HB.out)⟩
      (try clear BK101)
      (try clear BK102)
      (try clear BK103)
      (try clear BK104)
      (try clear BK106)
      (try clear HB)
      generalize ((w60.setCell ⟨gb106, 0, none⟩ (.int .i64 x40_1)).setCell ⟨gb106, 1, none⟩ (.int .i64 (wrap64 (a2)))) = w66 at n0_ n1_ n2_ n3_ n4_ n5_ ⊢
      have BK101 := n0_
      have BK102 := n1_
      have BK103 := n2_
      have BK104 := n3_
      have BK106 := n4_
      have HB := n5_
      clear n0_ n1_ n2_ n3_ n4_ n5_
      have n0_ := Aside0.mk (blk_drew BK101.out)
      have n1_ := Aside0.mk (blk_drew BK102.out)
      have n2_ := Aside0.mk (blk_drew BK103.out)
      have n3_ := Aside0.mk (blk_drew BK104.out)
      have n4_ := Aside0.mk (blk_drew BK106.out)
      have n5_ := Aside0.mk (below_drew1 HB.out)
      clear BK101
      clear BK102
      clear BK103
      clear BK104
      clear BK106
      clear HB
      have BK101 := n0_
      have BK102 := n1_
      have BK103 := n2_
      have BK104 := n3_
      have BK106 := n4_
      have HB := n5_
      clear n0_ n1_ n2_ n3_ n4_ n5_
      refine start_ (n := 23) (S := fun w' => w'.cell? ⟨gb103, 0, none⟩ = some (.int .i64 (wrap64 (a0_0))) ∧ w'.cell? ⟨gb103, 1, none⟩ = some (.int .i64 (wrap64 (a0_1))) ∧ w'.cell? ⟨gb103, 2, none⟩ = some (.int .i64 (wrap64 (a0_2))) ∧ w'.cell? ⟨gb103, 3, none⟩ = some (.int .i64 0) ∧ w'.cell? ⟨gb106, 0, none⟩ = some (.int .i64 x40_1) ∧ w'.cell? ⟨gb106, 1, none⟩ = some (.int .i64 (wrap64 (a2)))) (ds := []) #[false, false, false, false, false, false, false, false, false, false, false, false, false, false, false, false, false, false, false, false, false, false, false] (by kernel_rfl) rfl rfl ⟨(blk_cell BK103.out 0).trans rfl, (blk_cell BK103.out 1).trans rfl, (blk_cell BK103.out 2).trans rfl, (blk_cell BK103.out 3).trans rfl, (blk_cell BK106.out 0).trans rfl, (blk_cell BK106.out 1).trans rfl⟩ (fun hHeld => ?_); refine with_tabW law01_AddrCheckIsMonotone.tab7 law01_AddrCheckIsMonotone.bits7 (fun HT_ HW_ => ?_)
      generalize w66.drew = w67 at BK101 BK102 BK103 BK104 BK106 HB hHeld ⊢
      refine pure_ (i := 4) (N := some 51) (v := ?_) (a' := ?_) #[false, false, false, false, true, false, false, false, false, false, false, false, false, false, false, false, false, false, false, false, false, false, false] rfl rfl (any_of HT_.out (by kernel_rfl)) (fun _ _ _ h => h) (Or.inl ⟨by rfl, ?_⟩) ?_ ?_
      rotate_left
      ·intro w'
       go_simp
       with_reducible rfl
      rotate_left
      ·simp only [Act.put, List.setIfInBounds_toArray, List.set_cons_zero, List.set_cons_succ, i64_w, i32_w]
       rfl
      refine pure_ (i := 5) (N := some 52) (v := ?_) (a' := ?_) #[false, false, false, false, true, true, false, false, false, false, false, false, false, false, false, false, false, false, false, false, false, false, false] rfl rfl (any_of HT_.out (by kernel_rfl)) (fun _ _ _ h => h) (Or.inl ⟨by rfl, ?_⟩) ?_ ?_
      rotate_left
      ·intro w'
       go_simp
       with_reducible rfl
      rotate_left
      ·simp only [Act.put, List.setIfInBounds_toArray, List.set_cons_zero, List.set_cons_succ, i64_w, i32_w]
       rfl
      refine pure_ (i := 7) (N := some 54) (v := ?_) (a' := ?_) #[false, false, false, false, true, true, false, true, false, false, false, false, false, false, false, false, false, false, false, false, false, false, false] rfl rfl (any_of HT_.out (by kernel_rfl)) (fun _ _ _ h => h) (Or.inl ⟨by rfl, ?_⟩) ?_ ?_
      rotate_left
      ·intro w'
       go_simp
       with_reducible rfl
      rotate_left
      ·simp only [Act.put, List.setIfInBounds_toArray, List.set_cons_zero, List.set_cons_succ, i64_w, i32_w]
       rfl
      refine take_ (i := 0) (N := some 47) (v := ?_) (a' := ?_) #[true, false, false, false, true, true, false, true, false, false, false, false, false, false, false, false, false, false, false, false, false, false, false] rfl rfl (take_ofW HT_.out HW_.out (by kernel_rfl)) (fun _ _ _ h => h) (Or.inl ⟨by rfl, ?_⟩) hHeld ?_ ?_
      rotate_left
      ·rintro w' ⟨s0, s1, s2, s3, s4, s5⟩
       go_simp
       with_reducible rfl
      rotate_left
      ·simp only [Act.put, List.setIfInBounds_toArray, List.set_cons_zero, List.set_cons_succ, i64_w, i32_w]
       rfl
      refine take_ (i := 1) (N := some 48) (v := ?_) (a' := ?_) #[true, true, false, false, true, true, false, true, false, false, false, false, false, false, false, false, false, false, false, false, false, false, false] rfl rfl (take_ofW HT_.out HW_.out (by kernel_rfl)) (fun _ _ _ h => h) (Or.inl ⟨by rfl, ?_⟩) hHeld ?_ ?_
      rotate_left
      ·rintro w' ⟨s0, s1, s2, s3, s4, s5⟩
       go_simp
       with_reducible rfl
      rotate_left
      ·simp only [Act.put, List.setIfInBounds_toArray, List.set_cons_zero, List.set_cons_succ, i64_w, i32_w]
       rfl
      refine take_ (i := 6) (N := some 53) (v := ?_) (a' := ?_) #[true, true, false, false, true, true, true, true, false, false, false, false, false, false, false, false, false, false, false, false, false, false, false] rfl rfl (take_ofW HT_.out HW_.out (by kernel_rfl)) (fun _ _ _ h => h) (Or.inl ⟨by rfl, ?_⟩) hHeld ?_ ?_
      rotate_left
      ·rintro w' ⟨s0, s1, s2, s3, s4, s5⟩
       go_simp
       with_reducible rfl
      rotate_left
      ·simp only [Act.put, List.setIfInBounds_toArray, List.set_cons_zero, List.set_cons_succ, i64_w, i32_w]
       rfl
      refine one_ (i := 2) (N := some 49) #[true, true, true, false, true, true, true, true, false, false, false, false, false, false, false, false, false, false, false, false, false, false, false] rfl rfl (one_of HT_.out (by kernel_rfl)) (by decide) (fun K hK => ?_)
      refine goes_ Tryd.func30 (by kernel_rfl) rfl #[.agg #[.int .i64 (wrap64 (a0_0)), .int .i64 (wrap64 (a0_1)), .int .i64 (wrap64 (a0_2)), .int .i64 0], .agg #[.int .i64 x40_1, .int .i64 (wrap64 (a2))]] (by rfl) rfl rfl (by (try simp only [List.map_toArray, List.map_cons, List.map_nil]); first | done | rfl | (simp only [List.length_drop, List.length_take]; rfl)) ?_
      with_reducible refine (addr_CheckAddr.calls (wrap64 (a0_0)) (wrap64 (a0_1)) (wrap64 (a0_2)) 0 x40_1 (wrap64 (a2)) t107 _ A19.out).mono ?_
      rintro e w68 ⟨rfl, hb⟩
      refine ⟨_, rfl, ?_⟩
      have n0_ := Aside0.mk (blk_below (g := gb101) (o := .cells #[.int .u16 a0_0, .int .u16 a0_1, .int .u16 a0_2] 54 (0, 0)) (by (with_reducible repeat (first | refine blk_drewN ?_ _ | refine blk_drew ?_ | refine blk_alloc ?_ _)); exact BK101.out) hb)
      have n1_ := Aside0.mk (blk_below (g := gb102) (o := .cells #[.int .u16 a1_0, .int .u16 a1_1, .int .u16 a1_2] 54 (0, 0)) (by (with_reducible repeat (first | refine blk_drewN ?_ _ | refine blk_drew ?_ | refine blk_alloc ?_ _)); exact BK102.out) hb)
      have n2_ := Aside0.mk (blk_below (g := gb103) (o := .cells #[.int .i64 (wrap64 (a0_0)), .int .i64 (wrap64 (a0_1)), .int .i64 (wrap64 (a0_2)), .int .i64 0] 56 (0, 0)) (by (with_reducible repeat (first | refine blk_drewN ?_ _ | refine blk_drew ?_ | refine blk_alloc ?_ _)); exact BK103.out) hb)
      have n3_ := Aside0.mk (blk_below (g := gb104) (o := .cells #[.int .i64 (wrap64 ((wrap64 (a0_0)) + (wrap64 (a1_0)))), .int .i64 (wrap64 ((wrap64 (a0_1)) + (wrap64 (a1_1)))), .int .i64 (wrap64 ((wrap64 (a0_2)) + (wrap64 (a1_2)))), .int .i64 0] 56 (0, 0)) (by (with_reducible repeat (first | refine blk_drewN ?_ _ | refine blk_drew ?_ | refine blk_alloc ?_ _)); exact BK104.out) hb)
      have n4_ := Aside0.mk (blk_below (g := gb106) (o := .cells #[.int .i64 x40_1, .int .i64 (wrap64 (a2))] 45 (0, 0)) (by (with_reducible repeat (first | refine blk_drewN ?_ _ | refine blk_drew ?_ | refine blk_alloc ?_ _)); exact BK106.out) hb)
      have n5_ := Aside0.mk (below_step (by repeat (first | (with_reducible first | exact HB.out | apply below_alloc | apply pw_below_drewN | apply below_drew1 | refine below_set ?_ GE101.out | refine below_set ?_ GE102.out | refine below_set ?_ GE103.out | refine below_set ?_ GE104.out | refine below_set ?_ GE106.out) | exact HB.out)) hb)
      clear BK101
      clear BK102
      clear BK103
      clear BK104
      clear BK106
      clear HB
      have BK101 := n0_
      have BK102 := n1_
      have BK103 := n2_
      have BK104 := n3_
      have BK106 := n4_
      have HB := n5_
      clear n0_ n1_ n2_ n3_ n4_ n5_
      (try clear hb)
      (try clear hb2)
      (try clear hk)
      (try clear hi)
      refine hK.out _ _ ⟨(blk_cell BK103.out 0).trans rfl, (blk_cell BK103.out 1).trans rfl, (blk_cell BK103.out 2).trans rfl, (blk_cell BK103.out 3).trans rfl, (blk_cell BK106.out 0).trans rfl, (blk_cell BK106.out 1).trans rfl⟩ (fun hHeld => ?_)
      clear hK K
      refine norm_ (a' := ?_) ?_ ?_
      rotate_left
      ·show Act.put _ (some 49) _ = _
       simp only [Act.put, List.setIfInBounds_toArray, List.set_cons_zero, List.set_cons_succ, i64_w, i32_w]
       rfl
      refine pure_ (i := 3) (N := some 50) (v := ?_) (a' := ?_) #[true, true, true, true, true, true, true, true, false, false, false, false, false, false, false, false, false, false, false, false, false, false, false] rfl rfl (any_of HT_.out (by kernel_rfl)) (fun _ _ _ h => h) (Or.inl ⟨by rfl, ?_⟩) ?_ ?_
      rotate_left
      ·intro w'
       go_simp
       with_reducible rfl
      rotate_left
      ·simp only [Act.put, List.setIfInBounds_toArray, List.set_cons_zero, List.set_cons_succ, i64_w, i32_w]
       rfl
      refine one_ (i := 8) (N := some 55) #[true, true, true, true, true, true, true, true, true, false, false, false, false, false, false, false, false, false, false, false, false, false, false] rfl rfl (one_of HT_.out (by kernel_rfl)) (by decide) (fun K hK => ?_)
      refine goes_ Tryd.func31 (by kernel_rfl) rfl #[.agg #[.int .i64 (wrap64 (a0_0)), .int .i64 (wrap64 (a0_1)), .int .i64 (wrap64 (a0_2)), .int .i64 0], .int .i64 x40_1] (by rfl) rfl rfl (by (try simp only [List.map_toArray, List.map_cons, List.map_nil]); first | done | rfl | (simp only [List.length_drop, List.length_take]; rfl)) ?_
      with_reducible refine (addr_Width.calls (wrap64 (a0_0)) (wrap64 (a0_1)) (wrap64 (a0_2)) 0 x40_1 t108 _ A20.out).mono ?_
      rintro e w69 ⟨rfl, hb⟩
      refine ⟨_, rfl, ?_⟩
      have n0_ := Aside0.mk (blk_below (g := gb101) (o := .cells #[.int .u16 a0_0, .int .u16 a0_1, .int .u16 a0_2] 54 (0, 0)) (by (with_reducible repeat (first | refine blk_drewN ?_ _ | refine blk_drew ?_ | refine blk_alloc ?_ _)); exact BK101.out) hb)
      have n1_ := Aside0.mk (blk_below (g := gb102) (o := .cells #[.int .u16 a1_0, .int .u16 a1_1, .int .u16 a1_2] 54 (0, 0)) (by (with_reducible repeat (first | refine blk_drewN ?_ _ | refine blk_drew ?_ | refine blk_alloc ?_ _)); exact BK102.out) hb)
      have n2_ := Aside0.mk (blk_below (g := gb103) (o := .cells #[.int .i64 (wrap64 (a0_0)), .int .i64 (wrap64 (a0_1)), .int .i64 (wrap64 (a0_2)), .int .i64 0] 56 (0, 0)) (by (with_reducible repeat (first | refine blk_drewN ?_ _ | refine blk_drew ?_ | refine blk_alloc ?_ _)); exact BK103.out) hb)
      have n3_ := Aside0.mk (blk_below (g := gb104) (o := .cells #[.int .i64 (wrap64 ((wrap64 (a0_0)) + (wrap64 (a1_0)))), .int .i64 (wrap64 ((wrap64 (a0_1)) + (wrap64 (a1_1)))), .int .i64 (wrap64 ((wrap64 (a0_2)) + (wrap64 (a1_2)))), .int .i64 0] 56 (0, 0)) (by (with_reducible repeat (first | refine blk_drewN ?_ _ | refine blk_drew ?_ | refine blk_alloc ?_ _)); exact BK104.out) hb)
      have n4_ := Aside0.mk (blk_below (g := gb106) (o := .cells #[.int .i64 x40_1, .int .i64 (wrap64 (a2))] 45 (0, 0)) (by (with_reducible repeat (first | refine blk_drewN ?_ _ | refine blk_drew ?_ | refine blk_alloc ?_ _)); exact BK106.out) hb)
      have n5_ := Aside0.mk (below_step (by repeat (first | (with_reducible first | exact HB.out | apply below_alloc | apply pw_below_drewN | apply below_drew1 | refine below_set ?_ GE101.out | refine below_set ?_ GE102.out | refine below_set ?_ GE103.out | refine below_set ?_ GE104.out | refine below_set ?_ GE106.out) | exact HB.out)) hb)
      clear BK101
      clear BK102
      clear BK103
      clear BK104
      clear BK106
      clear HB
      have BK101 := n0_
      have BK102 := n1_
      have BK103 := n2_
      have BK104 := n3_
      have BK106 := n4_
      have HB := n5_
      clear n0_ n1_ n2_ n3_ n4_ n5_
      (try clear hb)
      (try clear hb2)
      (try clear hk)
      (try clear hi)
      refine hK.out _ _ ⟨(blk_cell BK103.out 0).trans rfl, (blk_cell BK103.out 1).trans rfl, (blk_cell BK103.out 2).trans rfl, (blk_cell BK103.out 3).trans rfl, (blk_cell BK106.out 0).trans rfl, (blk_cell BK106.out 1).trans rfl⟩ (fun hHeld => ?_)
      clear hK K
      refine norm_ (a' := ?_) ?_ ?_
      rotate_left
      ·show Act.put _ (some 55) _ = _
       simp only [Act.put, List.setIfInBounds_toArray, List.set_cons_zero, List.set_cons_succ, i64_w, i32_w]
       rfl
      refine pure_ (i := 9) (N := some 56) (v := ?_) (a' := ?_) #[true, true, true, true, true, true, true, true, true, true, false, false, false, false, false, false, false, false, false, false, false, false, false] rfl rfl (any_of HT_.out (by kernel_rfl)) (fun _ _ _ h => h) (Or.inl ⟨by rfl, ?_⟩) ?_ ?_
      rotate_left
      ·intro w'
       go_simp
       with_reducible rfl
      rotate_left
      ·simp only [Act.put, List.setIfInBounds_toArray, List.set_cons_zero, List.set_cons_succ, i64_w, i32_w]
       rfl
      refine pure_ (i := 10) (N := some 57) (v := ?_) (a' := ?_) #[true, true, true, true, true, true, true, true, true, true, true, false, false, false, false, false, false, false, false, false, false, false, false] rfl rfl (any_of HT_.out (by kernel_rfl)) (fun _ _ _ h => h) (Or.inl ⟨by rfl, ?_⟩) ?_ ?_
      rotate_left
      ·intro w'
       go_simp
       with_reducible rfl
      rotate_left
      ·simp only [Act.put, List.setIfInBounds_toArray, List.set_cons_zero, List.set_cons_succ, i64_w, i32_w]
       rfl
      refine pure_ (i := 11) (N := some 58) (v := ?_) (a' := ?_) #[true, true, true, true, true, true, true, true, true, true, true, true, false, false, false, false, false, false, false, false, false, false, false] rfl rfl (any_of HT_.out (by kernel_rfl)) (fun _ _ _ h => h) (Or.inl ⟨by rfl, ?_⟩) ?_ ?_
      rotate_left
      ·intro w'
       go_simp
       with_reducible rfl
      rotate_left
      ·simp only [Act.put, List.setIfInBounds_toArray, List.set_cons_zero, List.set_cons_succ, i64_w, i32_w]
       rfl
      refine take_ (i := 12) (N := some 59) (v := ?_) (a' := ?_) #[true, true, true, true, true, true, true, true, true, true, true, true, true, false, false, false, false, false, false, false, false, false, false] rfl rfl (take_ofW HT_.out HW_.out (by kernel_rfl)) (fun _ _ _ h => h) (Or.inl ⟨by rfl, ?_⟩) hHeld ?_ ?_
      rotate_left
      ·rintro w' ⟨s0, s1, s2, s3, s4, s5⟩
       go_simp
       with_reducible rfl
      rotate_left
      ·simp only [Act.put, List.setIfInBounds_toArray, List.set_cons_zero, List.set_cons_succ, i64_w, i32_w]
       rfl
      refine take_ (i := 13) (N := some 60) (v := ?_) (a' := ?_) #[true, true, true, true, true, true, true, true, true, true, true, true, true, true, false, false, false, false, false, false, false, false, false] rfl rfl (take_ofW HT_.out HW_.out (by kernel_rfl)) (fun _ _ _ h => h) (Or.inl ⟨by rfl, ?_⟩) hHeld ?_ ?_
      rotate_left
      ·rintro w' ⟨s0, s1, s2, s3, s4, s5⟩
       go_simp
       with_reducible rfl
      rotate_left
      ·simp only [Act.put, List.setIfInBounds_toArray, List.set_cons_zero, List.set_cons_succ, i64_w, i32_w]
       rfl
      refine one_ (i := 14) (N := some 61) #[true, true, true, true, true, true, true, true, true, true, true, true, true, true, true, false, false, false, false, false, false, false, false] rfl rfl (one_of HT_.out (by kernel_rfl)) (by decide) (fun K hK => ?_)
      refine goes_ Tryd.func30 (by kernel_rfl) rfl #[.agg #[.int .i64 (wrap64 (a0_0)), .int .i64 (wrap64 (a0_1)), .int .i64 (wrap64 (a0_2)), .int .i64 0], .agg #[.int .i64 x40_1, .int .i64 (wrap64 (a2))]] (by rfl) rfl rfl (by (try simp only [List.map_toArray, List.map_cons, List.map_nil]); first | done | rfl | (simp only [List.length_drop, List.length_take]; rfl)) ?_
      with_reducible refine (addr_CheckAddr.calls (wrap64 (a0_0)) (wrap64 (a0_1)) (wrap64 (a0_2)) 0 x40_1 (wrap64 (a2)) t109 _ A32.out).mono ?_
      rintro e w70 ⟨rfl, hb⟩
      refine ⟨_, rfl, ?_⟩
      have n0_ := Aside0.mk (blk_below (g := gb101) (o := .cells #[.int .u16 a0_0, .int .u16 a0_1, .int .u16 a0_2] 54 (0, 0)) (by (with_reducible repeat (first | refine blk_drewN ?_ _ | refine blk_drew ?_ | refine blk_alloc ?_ _)); exact BK101.out) hb)
      have n1_ := Aside0.mk (blk_below (g := gb102) (o := .cells #[.int .u16 a1_0, .int .u16 a1_1, .int .u16 a1_2] 54 (0, 0)) (by (with_reducible repeat (first | refine blk_drewN ?_ _ | refine blk_drew ?_ | refine blk_alloc ?_ _)); exact BK102.out) hb)
      have n2_ := Aside0.mk (blk_below (g := gb103) (o := .cells #[.int .i64 (wrap64 (a0_0)), .int .i64 (wrap64 (a0_1)), .int .i64 (wrap64 (a0_2)), .int .i64 0] 56 (0, 0)) (by (with_reducible repeat (first | refine blk_drewN ?_ _ | refine blk_drew ?_ | refine blk_alloc ?_ _)); exact BK103.out) hb)
      have n3_ := Aside0.mk (blk_below (g := gb104) (o := .cells #[.int .i64 (wrap64 ((wrap64 (a0_0)) + (wrap64 (a1_0)))), .int .i64 (wrap64 ((wrap64 (a0_1)) + (wrap64 (a1_1)))), .int .i64 (wrap64 ((wrap64 (a0_2)) + (wrap64 (a1_2)))), .int .i64 0] 56 (0, 0)) (by (with_reducible repeat (first | refine blk_drewN ?_ _ | refine blk_drew ?_ | refine blk_alloc ?_ _)); exact BK104.out) hb)
      have n4_ := Aside0.mk (blk_below (g := gb106) (o := .cells #[.int .i64 x40_1, .int .i64 (wrap64 (a2))] 45 (0, 0)) (by (with_reducible repeat (first | refine blk_drewN ?_ _ | refine blk_drew ?_ | refine blk_alloc ?_ _)); exact BK106.out) hb)
      have n5_ := Aside0.mk (below_step (by repeat (first | (with_reducible first | exact HB.out | apply below_alloc | apply pw_below_drewN | apply below_drew1 | refine below_set ?_ GE101.out | refine below_set ?_ GE102.out | refine below_set ?_ GE103.out | refine below_set ?_ GE104.out | refine below_set ?_ GE106.out) | exact HB.out)) hb)
      clear BK101
      clear BK102
      clear BK103
      clear BK104
      clear BK106
      clear HB
      have BK101 := n0_
      have BK102 := n1_
      have BK103 := n2_
      have BK104 := n3_
      have BK106 := n4_
      have HB := n5_
      clear n0_ n1_ n2_ n3_ n4_ n5_
      (try clear hb)
      (try clear hb2)
      (try clear hk)
      (try clear hi)
      refine hK.out _ _ ⟨(blk_cell BK103.out 0).trans rfl, (blk_cell BK103.out 1).trans rfl, (blk_cell BK103.out 2).trans rfl, (blk_cell BK103.out 3).trans rfl, (blk_cell BK106.out 0).trans rfl, (blk_cell BK106.out 1).trans rfl⟩ (fun hHeld => ?_)
      clear hK K
      refine norm_ (a' := ?_) ?_ ?_
      rotate_left
      ·show Act.put _ (some 61) _ = _
       simp only [Act.put, List.setIfInBounds_toArray, List.set_cons_zero, List.set_cons_succ, i64_w, i32_w]
       rfl
      refine pure_ (i := 15) (N := some 62) (v := ?_) (a' := ?_) #[true, true, true, true, true, true, true, true, true, true, true, true, true, true, true, true, false, false, false, false, false, false, false] rfl rfl (any_of HT_.out (by kernel_rfl)) (fun _ _ _ h => h) (Or.inl ⟨by rfl, ?_⟩) ?_ ?_
      rotate_left
      ·intro w'
       go_simp
       with_reducible rfl
      rotate_left
      ·simp only [Act.put, List.setIfInBounds_toArray, List.set_cons_zero, List.set_cons_succ, i64_w, i32_w]
       rfl
      refine pure_ (i := 16) (N := some 63) (v := ?_) (a' := ?_) #[true, true, true, true, true, true, true, true, true, true, true, true, true, true, true, true, true, false, false, false, false, false, false] rfl rfl (any_of HT_.out (by kernel_rfl)) (fun _ _ _ h => h) (Or.inl ⟨by rfl, ?_⟩) ?_ ?_
      rotate_left
      ·intro w'
       go_simp
       with_reducible rfl
      rotate_left
      ·simp only [Act.put, List.setIfInBounds_toArray, List.set_cons_zero, List.set_cons_succ, i64_w, i32_w]
       rfl
      refine pure_ (i := 17) (N := some 64) (v := undef) (a' := ?_) #[true, true, true, true, true, true, true, true, true, true, true, true, true, true, true, true, true, true, false, false, false, false, false] rfl rfl (any_of HT_.out (by kernel_rfl)) (fun _ _ _ h => h) (Or.inr ⟨by rfl, rfl⟩) ?_ ?_
      rotate_left
      ·simp only [Act.put, List.setIfInBounds_toArray, List.set_cons_zero, List.set_cons_succ, i64_w, i32_w]
       rfl
      refine pure_ (i := 18) (N := some 65) (v := undef) (a' := ?_) #[true, true, true, true, true, true, true, true, true, true, true, true, true, true, true, true, true, true, true, false, false, false, false] rfl rfl (any_of HT_.out (by kernel_rfl)) (fun _ _ _ h => h) (Or.inr ⟨by rfl, rfl⟩) ?_ ?_
      rotate_left
      ·simp only [Act.put, List.setIfInBounds_toArray, List.set_cons_zero, List.set_cons_succ, i64_w, i32_w]
       rfl
      refine pure_ (i := 19) (N := some 66) (v := undef) (a' := ?_) #[true, true, true, true, true, true, true, true, true, true, true, true, true, true, true, true, true, true, true, true, false, false, false] rfl rfl (any_of HT_.out (by kernel_rfl)) (fun _ _ _ h => h) (Or.inr ⟨by rfl, rfl⟩) ?_ ?_
      rotate_left
      ·simp only [Act.put, List.setIfInBounds_toArray, List.set_cons_zero, List.set_cons_succ, i64_w, i32_w]
       rfl
      refine pure_ (i := 20) (N := some 67) (v := undef) (a' := ?_) #[true, true, true, true, true, true, true, true, true, true, true, true, true, true, true, true, true, true, true, true, true, false, false] rfl rfl (any_of HT_.out (by kernel_rfl)) (fun _ _ _ h => h) (Or.inr ⟨by rfl, rfl⟩) ?_ ?_
      rotate_left
      ·simp only [Act.put, List.setIfInBounds_toArray, List.set_cons_zero, List.set_cons_succ, i64_w, i32_w]
       rfl
      refine pure_ (i := 21) (N := some 68) (v := ?_) (a' := ?_) #[true, true, true, true, true, true, true, true, true, true, true, true, true, true, true, true, true, true, true, true, true, true, false] rfl rfl (any_of HT_.out (by kernel_rfl)) (fun _ _ _ h => h) (Or.inl ⟨by rfl, ?_⟩) ?_ ?_
      rotate_left
      ·intro w'
       go_simp
       with_reducible rfl
      rotate_left
      ·simp only [Act.put, List.setIfInBounds_toArray, List.set_cons_zero, List.set_cons_succ, i64_w, i32_w]
       rfl
      refine pure_ (i := 22) (N := some 69) (v := ?_) (a' := ?_) #[true, true, true, true, true, true, true, true, true, true, true, true, true, true, true, true, true, true, true, true, true, true, true] rfl rfl (any_of HT_.out (by kernel_rfl)) (fun _ _ _ h => h) (Or.inl ⟨by rfl, ?_⟩) ?_ ?_
      rotate_left
      ·intro w'
       go_simp
       with_reducible rfl
      rotate_left
      ·simp only [Act.put, List.setIfInBounds_toArray, List.set_cons_zero, List.set_cons_succ, i64_w, i32_w]
       rfl
      refine done_ (done_of HT_.out (by kernel_rfl)) ?_
      try go_wp2
      go_roundg k1
      case measure => have := HK1.out; omega
      case rel => exact ⟨(wrap64 (x40_1 + 1)), (by first | rfl | (simp; done) | (simp [*]; done)), H', ⟨by have := HK1.out; omega⟩, ⟨by (with_reducible repeat (first | refine blk_drewN ?_ _ | refine blk_drew ?_ | refine blk_alloc ?_ _)); exact BK101.out⟩, ⟨by (with_reducible repeat (first | refine blk_drewN ?_ _ | refine blk_drew ?_ | refine blk_alloc ?_ _)); exact BK102.out⟩, ⟨by (with_reducible repeat (first | refine blk_drewN ?_ _ | refine blk_drew ?_ | refine blk_alloc ?_ _)); exact BK103.out⟩, ⟨by (with_reducible repeat (first | refine blk_drewN ?_ _ | refine blk_drew ?_ | refine blk_alloc ?_ _)); exact BK104.out⟩, ⟨by repeat (first | (with_reducible first | exact HB.out | apply below_alloc | apply pw_below_drewN | apply below_drew1 | refine below_set ?_ GE101.out | refine below_set ?_ GE102.out | refine below_set ?_ GE103.out | refine below_set ?_ GE104.out | refine below_set ?_ GE106.out) | exact HB.out)⟩⟩
   ·rw [if_neg c18] at H
    have c18b0 : decide (x40_1 < 3) = false := decide_eq_false c18
    clear c18
    replace H := Option.bind_eq_some_iff.mp H
    obtain ⟨t105, A710, H⟩ := H
    replace H : (some t105) = some r := H
    have A71 := Aside0.mk A710
    clear A710
    obtain rfl := Option.some.inj H
    go_wp2_with (first | ((with_reducible refine gate_callee (f := 25) rfl ?_); refine goesL_ (some 71) rfl rfl Tryd.func25 (by kernel_rfl) rfl #[] rfl (by (try simp only [List.map_toArray, List.map_cons, List.map_nil]); first | done | rfl | (simp only [List.length_drop, List.length_take]; rfl)) ?_; (with_reducible refine (law01_alive.calls  t105 _ (LaidW.below (m' := 22) hL rfl (by repeat (first | (with_reducible first | exact HB.out | apply below_alloc | apply pw_below_drewN | apply below_drew1 | refine below_set ?_ GE101.out | refine below_set ?_ GE102.out | refine below_set ?_ GE103.out | refine below_set ?_ GE104.out) | exact HB.out))) A71.out).mono ?_); rintro e w72 ⟨rfl, hb⟩; refine ⟨_, rfl, ?_⟩; have n0_ := Aside0.mk (blk_below (g := gb101) (o := .cells #[.int .u16 a0_0, .int .u16 a0_1, .int .u16 a0_2] 54 (0, 0)) (by (with_reducible repeat (first | refine blk_drewN ?_ _ | refine blk_drew ?_ | refine blk_alloc ?_ _)); exact BK101.out) hb); have n1_ := Aside0.mk (blk_below (g := gb102) (o := .cells #[.int .u16 a1_0, .int .u16 a1_1, .int .u16 a1_2] 54 (0, 0)) (by (with_reducible repeat (first | refine blk_drewN ?_ _ | refine blk_drew ?_ | refine blk_alloc ?_ _)); exact BK102.out) hb); have n2_ := Aside0.mk (blk_below (g := gb103) (o := .cells #[.int .i64 (wrap64 (a0_0)), .int .i64 (wrap64 (a0_1)), .int .i64 (wrap64 (a0_2)), .int .i64 0] 56 (0, 0)) (by (with_reducible repeat (first | refine blk_drewN ?_ _ | refine blk_drew ?_ | refine blk_alloc ?_ _)); exact BK103.out) hb); have n3_ := Aside0.mk (blk_below (g := gb104) (o := .cells #[.int .i64 (wrap64 ((wrap64 (a0_0)) + (wrap64 (a1_0)))), .int .i64 (wrap64 ((wrap64 (a0_1)) + (wrap64 (a1_1)))), .int .i64 (wrap64 ((wrap64 (a0_2)) + (wrap64 (a1_2)))), .int .i64 0] 56 (0, 0)) (by (with_reducible repeat (first | refine blk_drewN ?_ _ | refine blk_drew ?_ | refine blk_alloc ?_ _)); exact BK104.out) hb); have n4_ := Aside0.mk (below_step (by repeat (first | (with_reducible first | exact HB.out | apply below_alloc | apply pw_below_drewN | apply below_drew1 | refine below_set ?_ GE101.out | refine below_set ?_ GE102.out | refine below_set ?_ GE103.out | refine below_set ?_ GE104.out) | exact HB.out)) hb); clear BK101; clear BK102; clear BK103; clear BK104; clear HB; have BK101 := n0_; have BK102 := n1_; have BK103 := n2_; have BK104 := n3_; have HB := n4_; clear n0_ n1_ n2_ n3_ n4_; (try clear hb); (try clear hb2); (try clear hk); (try clear hi)))
    go_ret
    exact ⟨by first | rfl | (simp [errW_none, errW_some] <;> rfl) | (simp [*, errW_none, errW_some] <;> rfl), by repeat (first | (with_reducible first | exact HB.out | apply below_alloc | apply pw_below_drewN | apply below_drew1 | refine below_set ?_ GE101.out | refine below_set ?_ GE102.out | refine below_set ?_ GE103.out | refine below_set ?_ GE104.out) | exact HB.out)⟩

end Go.Proofs.YthidobgadndclaaDoor.P.M

-- Out of the translation's print, by a program. Lean checks it.
import Derived.Test.YtmcmpjkfdkogiaaDoorPQ0
import Derived.Test.YtmcmpjkfdkogiaaDoorPQ8
namespace Go.Proofs.YtmcmpjkfdkogiaaDoor.P
open Go.RowKit Go.Proofs.YtmcmpjkfdkogiaaDoorW.PrintWords Go.Proofs.YtmcmpjkfdkogiaaDoorW.PrintLast Go.Proofs.YtmcmpjkfdkogiaaDoorW.PrintMore
attribute [local go_sem] max2_int min2_int max_two min_two max_three min_three max_four min_four   -- for this text's walks alone
set_option linter.unusedVariables false
set_option linter.unusedSimpArgs false

/-! ### ref11_coils: function 59 -/
mutual
def ref11_coils.l0 : Nat → Int → Int → Int → Int → Int → ByteArray → List (S50) → List (S53) → ByteArray → Option (Int)
 | 0, _, _, _, _, _, _, _, _, _ => none
 | k + 1, x5, x170000, x170001, x170002, x170003, x171000, x171001, x171002, x171003 => if x5 < (x171002.length : Int) then (if 0 ≤ x5 then (if ((rd_T53 x171002 x5).f0) < 0 then (ref11_coils.j1 k x5 true x170000 x170001 x170002 x170003 x171000 x171001 x171002 x171003 ((rd_T53 x171002 x5).f0) ((rd_T53 x171002 x5).f1.f0) ((rd_T53 x171002 x5).f1.f1)) else (ref11_coils.j1 k x5 (decide (((rd_T53 x171002 x5).f0) > 3)) x170000 x170001 x170002 x170003 x171000 x171001 x171002 x171003 ((rd_T53 x171002 x5).f0) ((rd_T53 x171002 x5).f1.f0) ((rd_T53 x171002 x5).f1.f1))) else (none)) else (some 0)
def ref11_coils.j1 : Nat → Int → Bool → Int → Int → Int → Int → ByteArray → List (S50) → List (S53) → ByteArray → Int → Int → Int → Option (Int)
 | 0, _, _, _, _, _, _, _, _, _, _, _, _, _ => none
 | k + 1, x5, x31, x170000, x170001, x170002, x170003, x171000, x171001, x171002, x171003, x173000, x173001, x173002 => if x31 = true then (some 8) else ((ref01_CheckAddr.f k x170000 x170001 x170002 x170003 x173001 x173002).bind fun t173 => (if t173 = 0 then (if x173001 = 0 then (some 2) else (ref11_coils.l0 k (wrap64 (x5 + 1)) x170000 x170001 x170002 x170003 x171000 x171001 x171002 x171003)) else (some t173)))
end
def ref11_coils.f (k : Nat) (a0_0 : Int) (a0_1 : Int) (a0_2 : Int) (a0_3 : Int) (a1_0 : ByteArray) (l1_1 : List (S50)) (l1_2 : List (S53)) (a1_3 : ByteArray) : Option (Int) := if (l1_2.length : Int) > 16 then (some 10) else (ref11_coils.l0 k 0 a0_0 a0_1 a0_2 a0_3 a1_0 l1_1 l1_2 a1_3)
theorem ref11_coils.mono_l : ∀ k, (∀ y0 y1 y2 y3 y4 y5 y6 y7 y8, LeO (ref11_coils.l0 k y0 y1 y2 y3 y4 y5 y6 y7 y8) (ref11_coils.l0 (k + 1) y0 y1 y2 y3 y4 y5 y6 y7 y8)) ∧ (∀ y0 y1 y2 y3 y4 y5 y6 y7 y8 y9 y10 y11 y12, LeO (ref11_coils.j1 k y0 y1 y2 y3 y4 y5 y6 y7 y8 y9 y10 y11 y12) (ref11_coils.j1 (k + 1) y0 y1 y2 y3 y4 y5 y6 y7 y8 y9 y10 y11 y12))
 | 0 => ⟨fun _ _ _ _ _ _ _ _ _ r h => by simp [ref11_coils.l0] at h, fun _ _ _ _ _ _ _ _ _ _ _ _ _ r h => by simp [ref11_coils.j1] at h⟩
 | k + 1 => by
  obtain ⟨ih0, ih1⟩ := ref11_coils.mono_l k
  refine ⟨?_, ?_⟩
  ·intro y0 y1 y2 y3 y4 y5 y6 y7 y8
   unfold ref11_coils.l0
   repeat' first
   | (with_reducible exact ih0 _ _ _ _ _ _ _ _ _)
   | (with_reducible exact ih1 _ _ _ _ _ _ _ _ _ _ _ _ _)
   | (with_reducible exact ref01_CheckAddr.mono _ _ _ _ _ _ _)
   | (with_reducible exact LeO.refl _)
   | (with_reducible exact LeO.none _)
   | (with_reducible refine LeO.ite ?_ ?_)
   | (with_reducible refine LeO.bind ?_ (fun _ => ?_))
   | exact ih0 _ _ _ _ _ _ _ _ _
   | exact ih1 _ _ _ _ _ _ _ _ _ _ _ _ _
   | exact ref01_CheckAddr.mono _ _ _ _ _ _ _
   | exact LeO.none _
   | refine LeO.ite ?_ ?_
   | refine LeO.bind ?_ (fun _ => ?_)
  ·intro y0 y1 y2 y3 y4 y5 y6 y7 y8 y9 y10 y11 y12
   unfold ref11_coils.j1
   repeat' first
   | (with_reducible exact ih0 _ _ _ _ _ _ _ _ _)
   | (with_reducible exact ih1 _ _ _ _ _ _ _ _ _ _ _ _ _)
   | (with_reducible exact ref01_CheckAddr.mono _ _ _ _ _ _ _)
   | (with_reducible exact LeO.refl _)
   | (with_reducible exact LeO.none _)
   | (with_reducible refine LeO.ite ?_ ?_)
   | (with_reducible refine LeO.bind ?_ (fun _ => ?_))
   | exact ih0 _ _ _ _ _ _ _ _ _
   | exact ih1 _ _ _ _ _ _ _ _ _ _ _ _ _
   | exact ref01_CheckAddr.mono _ _ _ _ _ _ _
   | exact LeO.none _
   | refine LeO.ite ?_ ?_
   | refine LeO.bind ?_ (fun _ => ?_)
theorem ref11_coils.mono : ∀ a0 a1 a2 a3 a4 a5 a6 a7 k, LeO (ref11_coils.f k a0 a1 a2 a3 a4 a5 a6 a7) (ref11_coils.f (k + 1) a0 a1 a2 a3 a4 a5 a6 a7) := by
 intro a0 a1 a2 a3 a4 a5 a6 a7 k
 obtain ⟨ih0, ih1⟩ := ref11_coils.mono_l k
 unfold ref11_coils.f
 repeat' first
   | (with_reducible exact ih0 _ _ _ _ _ _ _ _ _)
   | (with_reducible exact ih1 _ _ _ _ _ _ _ _ _ _ _ _ _)
   | (with_reducible exact ref01_CheckAddr.mono _ _ _ _ _ _ _)
   | (with_reducible exact LeO.refl _)
   | (with_reducible exact LeO.none _)
   | (with_reducible refine LeO.ite ?_ ?_)
   | (with_reducible refine LeO.bind ?_ (fun _ => ?_))
   | exact ih0 _ _ _ _ _ _ _ _ _
   | exact ih1 _ _ _ _ _ _ _ _ _ _ _ _ _
   | exact ref01_CheckAddr.mono _ _ _ _ _ _ _
   | exact LeO.none _
   | refine LeO.ite ?_ ?_
   | refine LeO.bind ?_ (fun _ => ?_)
set_option maxHeartbeats 8000000 in
set_option maxRecDepth 100000 in
theorem ref11_coils.calls (k : Nat) (a0_0 : Int) (a0_1 : Int) (a0_2 : Int) (a0_3 : Int) (a1_0 : ByteArray) (A1_1 : Option Addr) (c1_1 : Nat) (l1_1 : List (S50)) (A1_2 : Option Addr) (c1_2 : Nat) (l1_2 : List (S53)) (a1_3 : ByteArray) (r : Int) (w : World) (hr1_1 : Kd.C k50 w A1_1 l1_1.length l1_1) (hc1_1 : l1_1.length ≤ c1_1) (hr1_2 : Kd.C k53 w A1_2 l1_2.length l1_2) (hc1_2 : l1_2.length ≤ c1_2) (h : ref11_coils.f k a0_0 a0_1 a0_2 a0_3 a1_0 l1_1 l1_2 a1_3 = some r) :
  Calls Tryd.prog 59 #[.agg #[.int .i64 a0_0, .int .i64 a0_1, .int .i64 a0_2, .int .i64 a0_3], .agg #[.string a1_0, .slice A1_1 l1_1.length c1_1, .slice A1_2 l1_2.length c1_2, .string a1_3]] w fun e w' => e = .returned (.int .i64 r) ∧ Below w.heap.size w w' := by
 have hu66 := Tryd.underlying66
 have hu40 := Tryd.underlying40
 have hu53 := Tryd.underlying53
 have hu48 := Tryd.underlying48
 have HR1_1 := Aside0.mk hr1_1
 have HC1_1 := Aside0.mk hc1_1
 clear hr1_1 hc1_1
 have HR1_2 := Aside0.mk hr1_2
 have HC1_2 := Aside0.mk hc1_2
 clear hr1_2 hc1_2
 have HB := Aside0.mk (Below.refl w.heap.size w)
 have H : (if (l1_2.length : Int) > 16 then (some 10) else (ref11_coils.l0 k 0 a0_0 a0_1 a0_2 a0_3 a1_0 l1_1 l1_2 a1_3)) = some r := h
 clear h
 by_cases c3 : (l1_2.length : Int) > 16
 ·rw [if_pos c3] at H
  have c3b0 : decide (16 < (l1_2.length : Int)) = true := decide_eq_true c3
  have c3b1 : decide (16 < l1_2.length) = true := decide_eq_true (by omega)
  clear c3
  obtain rfl := Option.some.inj H
  go_enter Tryd.func59, Tryd.ntmps59
  go_wp2_with (first | ((with_reducible refine gate_dst (N := 2) rfl ?_); refine box_event ?hg (N := 2) ?hd (cs := #[.int .i64 a0_0, .int .i64 a0_1, .int .i64 a0_2, .int .i64 a0_3]) (t := 66) ?hr ?_; (case hd => rfl); (case hg => rfl); (case hr => first | (go_simp; done) | (go_simp; rfl)); intro gb169 hg w4 hbox hb; have n0_ := Aside0.mk (below_step (by repeat (first | (with_reducible first | exact HB.out | apply below_alloc | apply pw_below_drewN | apply below_drew1) | exact HB.out)) hb); have n1_ := Aside0.mk (hbox); have n2_ := Aside0.mk ((by rw [hg]; exact (below_size (by repeat (first | (with_reducible first | exact HB.out | apply below_alloc | apply pw_below_drewN | apply below_drew1) | exact HB.out))) : w.heap.size ≤ gb169)); have n3_ := Aside0.mk ((by rw [hg]; exact (below_size (by repeat (first | (with_reducible first | exact HB.out | apply below_alloc | apply pw_below_drewN | apply below_drew1) | exact HB.out))) : w.heap.size ≤ gb169)); clear HB; have HB := n0_; have BK169 := n1_; have GW169 := n2_; have GE169 := n3_; clear n0_ n1_ n2_ n3_; clear hb hbox hg) | ((with_reducible refine gate_dst (N := 3) rfl ?_); refine box_event ?hg (N := 3) ?hd (cs := #[.string a1_0, .slice A1_1 l1_1.length c1_1, .slice A1_2 l1_2.length c1_2, .string a1_3]) (t := 40) ?hr ?_; (case hd => rfl); (case hg => rfl); (case hr => first | (go_simp; done) | (go_simp; rfl)); intro gb170 hg w5 hbox hb; have n0_ := Aside0.mk (blk_below (g := gb169) (o := .cells #[.int .i64 a0_0, .int .i64 a0_1, .int .i64 a0_2, .int .i64 a0_3] 66 (0, 0)) (by (with_reducible repeat (first | refine blk_drewN ?_ _ | refine blk_drew ?_ | refine blk_alloc ?_ _)); exact BK169.out) hb); have n1_ := Aside0.mk (below_step (by repeat (first | (with_reducible first | exact HB.out | apply below_alloc | apply pw_below_drewN | apply below_drew1 | refine below_set ?_ GE169.out) | exact HB.out)) hb); have n2_ := Aside0.mk (hbox); have n3_ := Aside0.mk ((by rw [hg]; exact (below_size (by repeat (first | (with_reducible first | exact HB.out | apply below_alloc | apply pw_below_drewN | apply below_drew1 | refine below_set ?_ GE169.out) | exact HB.out))) : w.heap.size ≤ gb170)); have n4_ := Aside0.mk ((by rw [hg]; exact (below_size (by repeat (first | (with_reducible first | exact HB.out | apply below_alloc | apply pw_below_drewN | apply below_drew1 | refine below_set ?_ GE169.out) | exact HB.out))) : w.heap.size ≤ gb170)); have n5_ := Aside0.mk ((by rw [hg]; exact Nat.ne_of_lt (blk_lt (g := gb169) (o := .cells #[.int .i64 a0_0, .int .i64 a0_1, .int .i64 a0_2, .int .i64 a0_3] 66 (0, 0)) (by (with_reducible repeat (first | refine blk_drewN ?_ _ | refine blk_drew ?_ | refine blk_alloc ?_ _)); exact BK169.out)) : gb169 ≠ gb170)); have n6_ := Aside0.mk ((by rw [hg]; exact Nat.ne_of_gt (blk_lt (g := gb169) (o := .cells #[.int .i64 a0_0, .int .i64 a0_1, .int .i64 a0_2, .int .i64 a0_3] 66 (0, 0)) (by (with_reducible repeat (first | refine blk_drewN ?_ _ | refine blk_drew ?_ | refine blk_alloc ?_ _)); exact BK169.out)) : gb170 ≠ gb169)); clear BK169; clear HB; have BK169 := n0_; have HB := n1_; have BK170 := n2_; have GW170 := n3_; have GE170 := n4_; have NB169_170 := n5_; have NB170_169 := n6_; clear n0_ n1_ n2_ n3_ n4_ n5_ n6_; clear hb hbox hg; have hnb6 := NB170_169.out; have hnc6 := NB169_170.out; have hcz7_0 : w5.cell? ⟨gb170, 0, none⟩ = some (.string a1_0) := (blk_cell BK170.out 0).trans rfl; have hcz7_1 : w5.cell? ⟨gb170, 1, none⟩ = some (.slice A1_1 l1_1.length c1_1) := (blk_cell BK170.out 1).trans rfl; have hcz7_2 : w5.cell? ⟨gb170, 2, none⟩ = some (.slice A1_2 l1_2.length c1_2) := (blk_cell BK170.out 2).trans rfl; have hcz7_3 : w5.cell? ⟨gb170, 3, none⟩ = some (.string a1_3) := (blk_cell BK170.out 3).trans rfl; have hfz7_0 := blk_frozen BK170.out 0; have hfz7_1 := blk_frozen BK170.out 1; have hfz7_2 := blk_frozen BK170.out 2; have hfz7_3 := blk_frozen BK170.out 3))
  go_ret
  exact ⟨by first | rfl | (simp [errW_none, errW_some] <;> rfl) | (simp [*, errW_none, errW_some] <;> rfl), by repeat (first | (with_reducible first | exact HB.out | apply below_alloc | apply pw_below_drewN | apply below_drew1 | refine below_set ?_ GE169.out | refine below_set ?_ GE170.out) | exact HB.out)⟩
 ·rw [if_neg c3] at H
  have c3b0 : decide (16 < (l1_2.length : Int)) = false := decide_eq_false c3
  have c3b1 : decide (16 < l1_2.length) = false := decide_eq_false (by omega)
  clear c3
  have H' := Aside0.mk H
  clear H
  go_enter Tryd.func59, Tryd.ntmps59
  go_wp2_with (first | ((with_reducible refine gate_dst (N := 2) rfl ?_); refine box_event ?hg (N := 2) ?hd (cs := #[.int .i64 a0_0, .int .i64 a0_1, .int .i64 a0_2, .int .i64 a0_3]) (t := 66) ?hr ?_; (case hd => rfl); (case hg => rfl); (case hr => first | (go_simp; done) | (go_simp; rfl)); intro gb169 hg w8 hbox hb; have n0_ := Aside0.mk (below_step (by repeat (first | (with_reducible first | exact HB.out | apply below_alloc | apply pw_below_drewN | apply below_drew1) | exact HB.out)) hb); have n1_ := Aside0.mk (hbox); have n2_ := Aside0.mk ((by rw [hg]; exact (below_size (by repeat (first | (with_reducible first | exact HB.out | apply below_alloc | apply pw_below_drewN | apply below_drew1) | exact HB.out))) : w.heap.size ≤ gb169)); have n3_ := Aside0.mk ((by rw [hg]; exact (below_size (by repeat (first | (with_reducible first | exact HB.out | apply below_alloc | apply pw_below_drewN | apply below_drew1) | exact HB.out))) : w.heap.size ≤ gb169)); clear HB; have HB := n0_; have BK169 := n1_; have GW169 := n2_; have GE169 := n3_; clear n0_ n1_ n2_ n3_; clear hb hbox hg) | ((with_reducible refine gate_dst (N := 3) rfl ?_); refine box_event ?hg (N := 3) ?hd (cs := #[.string a1_0, .slice A1_1 l1_1.length c1_1, .slice A1_2 l1_2.length c1_2, .string a1_3]) (t := 40) ?hr ?_; (case hd => rfl); (case hg => rfl); (case hr => first | (go_simp; done) | (go_simp; rfl)); intro gb170 hg w9 hbox hb; have n0_ := Aside0.mk (blk_below (g := gb169) (o := .cells #[.int .i64 a0_0, .int .i64 a0_1, .int .i64 a0_2, .int .i64 a0_3] 66 (0, 0)) (by (with_reducible repeat (first | refine blk_drewN ?_ _ | refine blk_drew ?_ | refine blk_alloc ?_ _)); exact BK169.out) hb); have n1_ := Aside0.mk (below_step (by repeat (first | (with_reducible first | exact HB.out | apply below_alloc | apply pw_below_drewN | apply below_drew1 | refine below_set ?_ GE169.out) | exact HB.out)) hb); have n2_ := Aside0.mk (hbox); have n3_ := Aside0.mk ((by rw [hg]; exact (below_size (by repeat (first | (with_reducible first | exact HB.out | apply below_alloc | apply pw_below_drewN | apply below_drew1 | refine below_set ?_ GE169.out) | exact HB.out))) : w.heap.size ≤ gb170)); have n4_ := Aside0.mk ((by rw [hg]; exact (below_size (by repeat (first | (with_reducible first | exact HB.out | apply below_alloc | apply pw_below_drewN | apply below_drew1 | refine below_set ?_ GE169.out) | exact HB.out))) : w.heap.size ≤ gb170)); have n5_ := Aside0.mk ((by rw [hg]; exact Nat.ne_of_lt (blk_lt (g := gb169) (o := .cells #[.int .i64 a0_0, .int .i64 a0_1, .int .i64 a0_2, .int .i64 a0_3] 66 (0, 0)) (by (with_reducible repeat (first | refine blk_drewN ?_ _ | refine blk_drew ?_ | refine blk_alloc ?_ _)); exact BK169.out)) : gb169 ≠ gb170)); have n6_ := Aside0.mk ((by rw [hg]; exact Nat.ne_of_gt (blk_lt (g := gb169) (o := .cells #[.int .i64 a0_0, .int .i64 a0_1, .int .i64 a0_2, .int .i64 a0_3] 66 (0, 0)) (by (with_reducible repeat (first | refine blk_drewN ?_ _ | refine blk_drew ?_ | refine blk_alloc ?_ _)); exact BK169.out)) : gb170 ≠ gb169)); clear BK169; clear HB; have BK169 := n0_; have HB := n1_; have BK170 := n2_; have GW170 := n3_; have GE170 := n4_; have NB169_170 := n5_; have NB170_169 := n6_; clear n0_ n1_ n2_ n3_ n4_ n5_ n6_; clear hb hbox hg; have hnb10 := NB170_169.out; have hnc10 := NB169_170.out; have hcz11_0 : w9.cell? ⟨gb170, 0, none⟩ = some (.string a1_0) := (blk_cell BK170.out 0).trans rfl; have hcz11_1 : w9.cell? ⟨gb170, 1, none⟩ = some (.slice A1_1 l1_1.length c1_1) := (blk_cell BK170.out 1).trans rfl; have hcz11_2 : w9.cell? ⟨gb170, 2, none⟩ = some (.slice A1_2 l1_2.length c1_2) := (blk_cell BK170.out 2).trans rfl; have hcz11_3 : w9.cell? ⟨gb170, 3, none⟩ = some (.string a1_3) := (blk_cell BK170.out 3).trans rfl; have hfz11_0 := blk_frozen BK170.out 0; have hfz11_1 := blk_frozen BK170.out 1; have hfz11_2 := blk_frozen BK170.out 2; have hfz11_3 := blk_frozen BK170.out 3))
  go_loopg [5] k (fun kq v5 w' => ∃ (x5_1 : Int), v5 = .int .i64 x5_1 ∧ Aside0 (ref11_coils.l0 kq x5_1 a0_0 a0_1 a0_2 a0_3 a1_0 l1_1 l1_2 a1_3 = some r) ∧ Aside0 (kq ≤ k) ∧ Aside0 (w'.heap[gb169]? = some (.cells #[.int .i64 a0_0, .int .i64 a0_1, .int .i64 a0_2, .int .i64 a0_3] 66 (0, 0))) ∧ Aside0 (w'.heap[gb170]? = some (.cells #[.string a1_0, (.slice A1_1 l1_1.length c1_1), (.slice A1_2 l1_2.length c1_2), .string a1_3] 40 (0, 0))) ∧ Aside0 (Below w.heap.size w w'))
  case atStart => exact ⟨(0), (by first | rfl | (simp; done) | (simp [*]; done)), H', ⟨Nat.le_refl _⟩, ⟨by (with_reducible repeat (first | refine blk_drewN ?_ _ | refine blk_drew ?_ | refine blk_alloc ?_ _)); exact BK169.out⟩, ⟨by (with_reducible repeat (first | refine blk_drewN ?_ _ | refine blk_drew ?_ | refine blk_alloc ?_ _)); exact BK170.out⟩, ⟨by repeat (first | (with_reducible first | exact HB.out | apply below_alloc | apply pw_below_drewN | apply below_drew1 | refine below_set ?_ GE169.out | refine below_set ?_ GE170.out) | exact HB.out)⟩⟩
  case round =>
   clear H'
   try clear c1
   try clear p2
   try clear c3
   try clear c3b0
   try clear c3b1
   try clear c5
   try clear c6
   try clear c10
   try clear hcz11_0
   try clear hcz11_1
   try clear hcz11_2
   try clear hcz11_3
   try clear hcz7_0
   try clear hcz7_1
   try clear hcz7_2
   try clear hcz7_3
   try clear hfz11_0
   try clear hfz11_1
   try clear hfz11_2
   try clear hfz11_3
   try clear hfz7_0
   try clear hfz7_1
   try clear hfz7_2
   try clear hfz7_3
   obtain ⟨x5_1, rfl, HA, HK1, BK169, BK170, HB⟩ := hrel
   cases gk with
   | zero => exact absurd HA.out (by simp [ref11_coils.l0])
   | succ k1 =>
    have H := HA.out
    clear HA
    simp only [ref11_coils.l0] at H
    by_cases c12 : x5_1 < (l1_2.length : Int)
    ·rw [if_pos c12] at H
     have c12b0 : decide (x5_1 < (l1_2.length : Int)) = true := decide_eq_true c12
     clear c12
     by_cases c13 : 0 ≤ x5_1
     ·rw [if_pos c13] at H
      have c13b0 : decide (0 ≤ x5_1) = true := decide_eq_true c13
      clear c13
      have HC14 := Aside0.mk H
      clear H
      have hnb15 := NB170_169.out
      have hnc15 := NB169_170.out
      have hcz16_0 : wr.cell? ⟨gb170, 0, none⟩ = some (.string a1_0) := (blk_cell BK170.out 0).trans rfl
      have hcz16_1 : wr.cell? ⟨gb170, 1, none⟩ = some (.slice A1_1 l1_1.length c1_1) := (blk_cell BK170.out 1).trans rfl
      have hcz16_2 : wr.cell? ⟨gb170, 2, none⟩ = some (.slice A1_2 l1_2.length c1_2) := (blk_cell BK170.out 2).trans rfl
      have hcz16_3 : wr.cell? ⟨gb170, 3, none⟩ = some (.string a1_3) := (blk_cell BK170.out 3).trans rfl
      have hfz16_0 := blk_frozen BK170.out 0
      have hfz16_1 := blk_frozen BK170.out 1
      have hfz16_2 := blk_frozen BK170.out 2
      have hfz16_3 := blk_frozen BK170.out 3
      have p171 : 0 ≤ (x5_1 : Int) := of_decide_eq_true (by first | (with_reducible assumption) | assumption)
      have q171 : x5_1 < (l1_2.length : Int) := of_decide_eq_true (by first | (with_reducible assumption) | assumption)
      obtain ⟨ad171, e171, hx171_0, hx171_1, hx171_2⟩ := at_T53 HR1_2.out x5_1 p171 q171
      cases e171
      replace hx171_0 := (HB.out.cell (World.block_lt_of_cell? w _ hx171_0)).trans hx171_0
      replace hx171_1 := (HB.out.cell (World.block_lt_of_cell? w _ hx171_1)).trans hx171_1
      replace hx171_2 := (HB.out.cell (World.block_lt_of_cell? w _ hx171_2)).trans hx171_2
      replace p171 := eq_true p171
      replace q171 := eq_true q171
      go_upto_region 7 with (first | ((with_reducible refine gate_dst (N := 6) rfl ?_); refine box_event ?hg (N := 6) ?hd (cs := #[.int .i64 0, .int .i64 0, .int .i64 0]) (t := 53) ?hr ?_; (case hd => rfl); (case hg => rfl); (case hr => first | (go_simp; done) | (go_simp; rfl)); intro gb172 hg w17 hbox hb; have n0_ := Aside0.mk (blk_below (g := gb169) (o := .cells #[.int .i64 a0_0, .int .i64 a0_1, .int .i64 a0_2, .int .i64 a0_3] 66 (0, 0)) (by (with_reducible repeat (first | refine blk_drewN ?_ _ | refine blk_drew ?_ | refine blk_alloc ?_ _)); exact BK169.out) hb); have n1_ := Aside0.mk (blk_below (g := gb170) (o := .cells #[.string a1_0, .slice A1_1 l1_1.length c1_1, .slice (some ad171) l1_2.length c1_2, .string a1_3] 40 (0, 0)) (by (with_reducible repeat (first | refine blk_drewN ?_ _ | refine blk_drew ?_ | refine blk_alloc ?_ _)); exact BK170.out) hb); have n2_ := Aside0.mk (below_step (by repeat (first | (with_reducible first | exact HB.out | apply below_alloc | apply pw_below_drewN | apply below_drew1 | refine below_set ?_ GE169.out | refine below_set ?_ GE170.out) | exact HB.out)) hb); have n3_ := Aside0.mk (hbox); have n4_ := Aside0.mk ((by rw [hg]; exact (below_size (by repeat (first | (with_reducible first | exact HB.out | apply below_alloc | apply pw_below_drewN | apply below_drew1 | refine below_set ?_ GE169.out | refine below_set ?_ GE170.out) | exact HB.out))) : w.heap.size ≤ gb172)); have n5_ := Aside0.mk ((by rw [hg]; exact (below_size (by repeat (first | (with_reducible first | exact HB.out | apply below_alloc | apply pw_below_drewN | apply below_drew1 | refine below_set ?_ GE169.out | refine below_set ?_ GE170.out) | exact HB.out))) : w.heap.size ≤ gb172)); have n6_ := Aside0.mk ((by rw [hg]; exact Nat.ne_of_lt (blk_lt (g := gb169) (o := .cells #[.int .i64 a0_0, .int .i64 a0_1, .int .i64 a0_2, .int .i64 a0_3] 66 (0, 0)) (by (with_reducible repeat (first | refine blk_drewN ?_ _ | refine blk_drew ?_ | refine blk_alloc ?_ _)); exact BK169.out)) : gb169 ≠ gb172)); have n7_ := Aside0.mk ((by rw [hg]; exact Nat.ne_of_gt (blk_lt (g := gb169) (o := .cells #[.int .i64 a0_0, .int .i64 a0_1, .int .i64 a0_2, .int .i64 a0_3] 66 (0, 0)) (by (with_reducible repeat (first | refine blk_drewN ?_ _ | refine blk_drew ?_ | refine blk_alloc ?_ _)); exact BK169.out)) : gb172 ≠ gb169)); have n8_ := Aside0.mk ((by rw [hg]; exact Nat.ne_of_lt (blk_lt (g := gb170) (o := .cells #[.string a1_0, .slice A1_1 l1_1.length c1_1, .slice (some ad171) l1_2.length c1_2, .string a1_3] 40 (0, 0)) (by (with_reducible repeat (first | refine blk_drewN ?_ _ | refine blk_drew ?_ | refine blk_alloc ?_ _)); exact BK170.out)) : gb170 ≠ gb172)); have n9_ := Aside0.mk ((by rw [hg]; exact Nat.ne_of_gt (blk_lt (g := gb170) (o := .cells #[.string a1_0, .slice A1_1 l1_1.length c1_1, .slice (some ad171) l1_2.length c1_2, .string a1_3] 40 (0, 0)) (by (with_reducible repeat (first | refine blk_drewN ?_ _ | refine blk_drew ?_ | refine blk_alloc ?_ _)); exact BK170.out)) : gb172 ≠ gb170)); clear BK169; clear BK170; clear HB; have BK169 := n0_; have BK170 := n1_; have HB := n2_; have BK172 := n3_; have GW172 := n4_; have GE172 := n5_; have NB169_172 := n6_; have NB172_169 := n7_; have NB170_172 := n8_; have NB172_170 := n9_; clear n0_ n1_ n2_ n3_ n4_ n5_ n6_ n7_ n8_ n9_; clear hb hbox hg; have hnb18 := NB172_169.out; have hnc18 := NB169_172.out; have hnb19 := NB172_170.out; have hnc19 := NB170_172.out; have hcz20_0 : w17.cell? ⟨gb172, 0, none⟩ = some (.int .i64 0) := (blk_cell BK172.out 0).trans rfl; have hcz20_1 : w17.cell? ⟨gb172, 1, none⟩ = some (.int .i64 0) := (blk_cell BK172.out 1).trans rfl; have hcz20_2 : w17.cell? ⟨gb172, 2, none⟩ = some (.int .i64 0) := (blk_cell BK172.out 2).trans rfl; have hfz20_0 := blk_frozen BK172.out 0; have hfz20_1 := blk_frozen BK172.out 1; have hfz20_2 := blk_frozen BK172.out 2))
      (try simp only [Act.put, List.setIfInBounds_toArray, List.set_cons_zero, List.set_cons_succ])
      go_cut [31] (fun v31 wc => ∃ (kq : Nat) (x31_13 : Bool), v31 = .bool x31_13 ∧ Aside0 (ref11_coils.j1 kq x5_1 x31_13 a0_0 a0_1 a0_2 a0_3 a1_0 l1_1 l1_2 a1_3 ((rd_T53 l1_2 x5_1).f0) ((rd_T53 l1_2 x5_1).f1.f0) ((rd_T53 l1_2 x5_1).f1.f1) = some r) ∧ Aside0 (kq ≤ k1) ∧ Aside0 (wc.heap[gb169]? = some (.cells #[.int .i64 a0_0, .int .i64 a0_1, .int .i64 a0_2, .int .i64 a0_3] 66 (0, 0))) ∧ Aside0 (wc.heap[gb170]? = some (.cells #[.string a1_0, (.slice A1_1 l1_1.length c1_1), (.slice (some ad171) l1_2.length c1_2), .string a1_3] 40 (0, 0))) ∧ Aside0 (wc.heap[gb172]? = some (.cells #[.int .i64 ((rd_T53 l1_2 x5_1).f0), .int .i64 ((rd_T53 l1_2 x5_1).f1.f0), .int .i64 ((rd_T53 l1_2 x5_1).f1.f1)] 53 (0, 0))) ∧ Aside0 (Below w.heap.size w wc))
      case first =>
       have H := HC14.out
       clear HC14
       by_cases c21 : ((rd_T53 l1_2 x5_1).f0) < 0
       ·rw [if_pos c21] at H
        have c21b0 : decide (((rd_T53 l1_2 x5_1).f0) < 0) = true := decide_eq_true c21
        clear c21
        (first | rw [c21b0] | (simp only [i64_w, i32_w]; rw [c21b0]) | rw [c21b3] | rw [c21b2] | skip)
        have H' := Aside0.mk H
        clear H
        have hnb22 := NB172_169.out
        have hnc22 := NB169_172.out
        have hnb23 := NB172_170.out
        have hnc23 := NB170_172.out
        have hcz24_0 : w17.cell? ⟨gb172, 0, none⟩ = some (.int .i64 0) := (blk_cell BK172.out 0).trans rfl
        have hcz24_1 : w17.cell? ⟨gb172, 1, none⟩ = some (.int .i64 0) := (blk_cell BK172.out 1).trans rfl
        have hcz24_2 : w17.cell? ⟨gb172, 2, none⟩ = some (.int .i64 0) := (blk_cell BK172.out 2).trans rfl
        have hfz24_0 := blk_frozen BK172.out 0
        have hfz24_1 := blk_frozen BK172.out 1
        have hfz24_2 := blk_frozen BK172.out 2
        go_wp2
        go_meet
        case rel => exact ⟨_, (true), (by first | rfl | (simp; done) | (simp [*]; done)), H', ⟨by have := HK1.out; first | omega | exact Nat.le_refl _⟩, ⟨by (with_reducible repeat (first | refine blk_drewN ?_ _ | refine blk_drew ?_ | refine blk_alloc ?_ _)); refine blk_far ?_ NB169_172.out _; (with_reducible repeat (first | refine blk_drewN ?_ _ | refine blk_drew ?_ | refine blk_alloc ?_ _)); refine blk_far ?_ NB169_172.out _; (with_reducible repeat (first | refine blk_drewN ?_ _ | refine blk_drew ?_ | refine blk_alloc ?_ _)); refine blk_far ?_ NB169_172.out _; (with_reducible repeat (first | refine blk_drewN ?_ _ | refine blk_drew ?_ | refine blk_alloc ?_ _)); exact BK169.out⟩, ⟨by (with_reducible repeat (first | refine blk_drewN ?_ _ | refine blk_drew ?_ | refine blk_alloc ?_ _)); refine blk_far ?_ NB170_172.out _; (with_reducible repeat (first | refine blk_drewN ?_ _ | refine blk_drew ?_ | refine blk_alloc ?_ _)); refine blk_far ?_ NB170_172.out _; (with_reducible repeat (first | refine blk_drewN ?_ _ | refine blk_drew ?_ | refine blk_alloc ?_ _)); refine blk_far ?_ NB170_172.out _; (with_reducible repeat (first | refine blk_drewN ?_ _ | refine blk_drew ?_ | refine blk_alloc ?_ _)); exact BK170.out⟩, ⟨by (with_reducible repeat (first | refine blk_drewN ?_ _ | refine blk_drew ?_ | refine blk_alloc ?_ _)); refine blk_put (cs := #[.int .i64 ((rd_T53 l1_2 x5_1).f0), .int .i64 ((rd_T53 l1_2 x5_1).f1.f0), .int .i64 0]) ?_ 2 _ rfl; (with_reducible repeat (first | refine blk_drewN ?_ _ | refine blk_drew ?_ | refine blk_alloc ?_ _)); refine blk_put (cs := #[.int .i64 ((rd_T53 l1_2 x5_1).f0), .int .i64 0, .int .i64 0]) ?_ 1 _ rfl; (with_reducible repeat (first | refine blk_drewN ?_ _ | refine blk_drew ?_ | refine blk_alloc ?_ _)); refine blk_put (cs := #[.int .i64 0, .int .i64 0, .int .i64 0]) ?_ 0 _ rfl; (with_reducible repeat (first | refine blk_drewN ?_ _ | refine blk_drew ?_ | refine blk_alloc ?_ _)); exact BK172.out⟩, ⟨by repeat (first | (with_reducible first | exact HB.out | apply below_alloc | apply pw_below_drewN | apply below_drew1 | refine below_set ?_ GE169.out | refine below_set ?_ GE170.out | refine below_set ?_ GE172.out) | exact HB.out)⟩⟩
       ·rw [if_neg c21] at H
        have c21b0 : decide (((rd_T53 l1_2 x5_1).f0) < 0) = false := decide_eq_false c21
        clear c21
        (first | rw [c21b0] | (simp only [i64_w, i32_w]; rw [c21b0]) | rw [c21b3] | rw [c21b2] | skip)
        have H' := Aside0.mk H
        clear H
        have hnb25 := NB172_169.out
        have hnc25 := NB169_172.out
        have hnb26 := NB172_170.out
        have hnc26 := NB170_172.out
        have hcz27_0 : w17.cell? ⟨gb172, 0, none⟩ = some (.int .i64 0) := (blk_cell BK172.out 0).trans rfl
        have hcz27_1 : w17.cell? ⟨gb172, 1, none⟩ = some (.int .i64 0) := (blk_cell BK172.out 1).trans rfl
        have hcz27_2 : w17.cell? ⟨gb172, 2, none⟩ = some (.int .i64 0) := (blk_cell BK172.out 2).trans rfl
        have hfz27_0 := blk_frozen BK172.out 0
        have hfz27_1 := blk_frozen BK172.out 1
        have hfz27_2 := blk_frozen BK172.out 2
        go_wp2
        go_meet
        case rel => exact ⟨_, (decide (((rd_T53 l1_2 x5_1).f0) > 3)), (by first | rfl | (simp; done) | (simp [*]; done)), H', ⟨by have := HK1.out; first | omega | exact Nat.le_refl _⟩, ⟨by (with_reducible repeat (first | refine blk_drewN ?_ _ | refine blk_drew ?_ | refine blk_alloc ?_ _)); refine blk_far ?_ NB169_172.out _; (with_reducible repeat (first | refine blk_drewN ?_ _ | refine blk_drew ?_ | refine blk_alloc ?_ _)); refine blk_far ?_ NB169_172.out _; (with_reducible repeat (first | refine blk_drewN ?_ _ | refine blk_drew ?_ | refine blk_alloc ?_ _)); refine blk_far ?_ NB169_172.out _; (with_reducible repeat (first | refine blk_drewN ?_ _ | refine blk_drew ?_ | refine blk_alloc ?_ _)); exact BK169.out⟩, ⟨by (with_reducible repeat (first | refine blk_drewN ?_ _ | refine blk_drew ?_ | refine blk_alloc ?_ _)); refine blk_far ?_ NB170_172.out _; (with_reducible repeat (first | refine blk_drewN ?_ _ | refine blk_drew ?_ | refine blk_alloc ?_ _)); refine blk_far ?_ NB170_172.out _; (with_reducible repeat (first | refine blk_drewN ?_ _ | refine blk_drew ?_ | refine blk_alloc ?_ _)); refine blk_far ?_ NB170_172.out _; (with_reducible repeat (first | refine blk_drewN ?_ _ | refine blk_drew ?_ | refine blk_alloc ?_ _)); exact BK170.out⟩, ⟨by (with_reducible repeat (first | refine blk_drewN ?_ _ | refine blk_drew ?_ | refine blk_alloc ?_ _)); refine blk_put (cs := #[.int .i64 ((rd_T53 l1_2 x5_1).f0), .int .i64 ((rd_T53 l1_2 x5_1).f1.f0), .int .i64 0]) ?_ 2 _ rfl; (with_reducible repeat (first | refine blk_drewN ?_ _ | refine blk_drew ?_ | refine blk_alloc ?_ _)); refine blk_put (cs := #[.int .i64 ((rd_T53 l1_2 x5_1).f0), .int .i64 0, .int .i64 0]) ?_ 1 _ rfl; (with_reducible repeat (first | refine blk_drewN ?_ _ | refine blk_drew ?_ | refine blk_alloc ?_ _)); refine blk_put (cs := #[.int .i64 0, .int .i64 0, .int .i64 0]) ?_ 0 _ rfl; (with_reducible repeat (first | refine blk_drewN ?_ _ | refine blk_drew ?_ | refine blk_alloc ?_ _)); exact BK172.out⟩, ⟨by repeat (first | (with_reducible first | exact HB.out | apply below_alloc | apply pw_below_drewN | apply below_drew1 | refine below_set ?_ GE169.out | refine below_set ?_ GE170.out | refine below_set ?_ GE172.out) | exact HB.out)⟩⟩
      case rest =>
       clear HC14
       try clear c1
       try clear p1
       try clear q1
       try clear hx1
       try clear c2
       try clear p2
       try clear c3
       try clear c3b0
       try clear c3b1
       try clear c5
       try clear c6
       try clear c10
       try clear c12
       try clear c12b0
       try clear c13
       try clear c13b0
       try clear c15
       try clear p17
       try clear q17
       try clear hx17
       try clear c18
       try clear c19
       try clear c21
       try clear c21b0
       try clear c21b2
       try clear c22
       try clear c23
       try clear c25
       try clear c26
       try clear hcz11_0
       try clear hcz11_1
       try clear hcz11_2
       try clear hcz11_3
       try clear hcz16_0
       try clear hcz16_1
       try clear hcz16_2
       try clear hcz16_3
       try clear hcz20_0
       try clear hcz20_1
       try clear hcz20_2
       try clear hcz24_0
       try clear hcz24_1
       try clear hcz24_2
       try clear hcz27_0
       try clear hcz27_1
       try clear hcz27_2
       try clear hcz7_0
       try clear hcz7_1
       try clear hcz7_2
       try clear hcz7_3
       try clear hfz11_0
       try clear hfz11_1
       try clear hfz11_2
       try clear hfz11_3
       try clear hfz16_0
       try clear hfz16_1
       try clear hfz16_2
       try clear hfz16_3
       try clear hfz20_0
       try clear hfz20_1
       try clear hfz20_2
       try clear hfz24_0
       try clear hfz24_1
       try clear hfz24_2
       try clear hfz27_0
       try clear hfz27_1
       try clear hfz27_2
       try clear hfz7_0
       try clear hfz7_1
       try clear hfz7_2
       try clear hfz7_3
       try clear hx171_0
       try clear hx171_1
       try clear hx171_2
       try clear p171
       try clear p2
       try clear q171
       obtain ⟨kq, x31_13, rfl, HA, HJ13, BK169, BK170, BK172, HB⟩ := hcut
       cases kq with
       | zero => exact absurd HA.out (by simp [ref11_coils.j1])
       | succ kj13 =>
        have H := HA.out
        clear HA
        simp only [ref11_coils.j1] at H
        by_cases c28 : x31_13 = true
        ·subst c28
         have H1 : (some 8) = some r := by rw [if_pos rfl] at H; exact H
         clear H
         have H := H1
         clear H1
         obtain rfl := Option.some.inj H
         go_wp2
         go_ret
         exact ⟨by first | rfl | (simp [errW_none, errW_some] <;> rfl) | (simp [*, errW_none, errW_some] <;> rfl), by repeat (first | (with_reducible first | exact HB.out | apply below_alloc | apply pw_below_drewN | apply below_drew1 | refine below_set ?_ GE169.out | refine below_set ?_ GE170.out | refine below_set ?_ GE172.out) | exact HB.out)⟩
        ·replace c28 := Bool.eq_false_iff.mpr c28
         subst c28
         have H1 : ((ref01_CheckAddr.f kj13 a0_0 a0_1 a0_2 a0_3 ((rd_T53 l1_2 x5_1).f1.f0) ((rd_T53 l1_2 x5_1).f1.f1)).bind fun t173 => (if t173 = 0 then (if ((rd_T53 l1_2 x5_1).f1.f0) = 0 then (some 2) else (ref11_coils.l0 kj13 (wrap64 (x5_1 + 1)) a0_0 a0_1 a0_2 a0_3 a1_0 l1_1 l1_2 a1_3)) else (some t173))) = some r := by rw [if_neg (show ¬ (false = true) by decide)] at H; exact H
         clear H
         have H := H1
         clear H1
         replace H := Option.bind_eq_some_iff.mp H
         obtain ⟨t173, A290, H⟩ := H
         replace H : (if t173 = 0 then (if ((rd_T53 l1_2 x5_1).f1.f0) = 0 then (some 2) else (ref11_coils.l0 kj13 (wrap64 (x5_1 + 1)) a0_0 a0_1 a0_2 a0_3 a1_0 l1_1 l1_2 a1_3)) else (some t173)) = some r := H
         have A29 := Aside0.mk A290
         clear A290
         by_cases c30 : t173 = 0
         ·rw [if_pos c30] at H
          have c30b0 : (t173 == 0) = true := beq_iff_eq.mpr c30
          have c30b1 : (t173 != 0) = false := bne_eq_false_iff_eq.mpr c30
          clear c30
          by_cases c31 : ((rd_T53 l1_2 x5_1).f1.f0) = 0
          ·rw [if_pos c31] at H
           have c31b0 : (((rd_T53 l1_2 x5_1).f1.f0) == 0) = true := beq_iff_eq.mpr c31
           have c31b1 : (((rd_T53 l1_2 x5_1).f1.f0) != 0) = false := bne_eq_false_iff_eq.mpr c31
           clear c31
           obtain rfl := Option.some.inj H
           have hnb32 := NB169_170.out
           have hnc32 := NB170_169.out
           have hnb33 := NB169_172.out
           have hnc33 := NB172_169.out
           have hcz34_0 : wc.cell? ⟨gb169, 0, none⟩ = some (.int .i64 a0_0) := (blk_cell BK169.out 0).trans rfl
           have hcz34_1 : wc.cell? ⟨gb169, 1, none⟩ = some (.int .i64 a0_1) := (blk_cell BK169.out 1).trans rfl
           have hcz34_2 : wc.cell? ⟨gb169, 2, none⟩ = some (.int .i64 a0_2) := (blk_cell BK169.out 2).trans rfl
           have hcz34_3 : wc.cell? ⟨gb169, 3, none⟩ = some (.int .i64 a0_3) := (blk_cell BK169.out 3).trans rfl
           have hfz34_0 := blk_frozen BK169.out 0
           have hfz34_1 := blk_frozen BK169.out 1
           have hfz34_2 := blk_frozen BK169.out 2
           have hfz34_3 := blk_frozen BK169.out 3
           have hnb35 := NB172_170.out
           have hnc35 := NB170_172.out
           have hcz36_0 : wc.cell? ⟨gb172, 0, none⟩ = some (.int .i64 ((rd_T53 l1_2 x5_1).f0)) := (blk_cell BK172.out 0).trans rfl
           have hcz36_1 : wc.cell? ⟨gb172, 1, none⟩ = some (.int .i64 ((rd_T53 l1_2 x5_1).f1.f0)) := (blk_cell BK172.out 1).trans rfl
           have hcz36_2 : wc.cell? ⟨gb172, 2, none⟩ = some (.int .i64 ((rd_T53 l1_2 x5_1).f1.f1)) := (blk_cell BK172.out 2).trans rfl
           have hfz36_0 := blk_frozen BK172.out 0
           have hfz36_1 := blk_frozen BK172.out 1
           have hfz36_2 := blk_frozen BK172.out 2
           go_wp2_with (first | ((with_reducible refine gate_callee (f := 75) rfl ?_); refine goesL_ (some 35) rfl rfl Tryd.func75 (by kernel_rfl) rfl #[.agg #[.int .i64 a0_0, .int .i64 a0_1, .int .i64 a0_2, .int .i64 a0_3], .agg #[.int .i64 ((rd_T53 l1_2 x5_1).f1.f0), .int .i64 ((rd_T53 l1_2 x5_1).f1.f1)]] rfl (by (try simp only [List.map_toArray, List.map_cons, List.map_nil]); first | done | rfl | (simp only [List.length_drop, List.length_take]; rfl)) ?_; (with_reducible refine (ref01_CheckAddr.calls kj13 a0_0 a0_1 a0_2 a0_3 ((rd_T53 l1_2 x5_1).f1.f0) ((rd_T53 l1_2 x5_1).f1.f1) t173 _ A29.out).mono ?_); rintro e w37 ⟨rfl, hb⟩; refine ⟨_, rfl, ?_⟩; have n0_ := Aside0.mk (blk_below (g := gb169) (o := .cells #[.int .i64 a0_0, .int .i64 a0_1, .int .i64 a0_2, .int .i64 a0_3] 66 (0, 0)) (by (with_reducible repeat (first | refine blk_drewN ?_ _ | refine blk_drew ?_ | refine blk_alloc ?_ _)); exact BK169.out) hb); have n1_ := Aside0.mk (blk_below (g := gb170) (o := .cells #[.string a1_0, .slice A1_1 l1_1.length c1_1, .slice (some ad171) l1_2.length c1_2, .string a1_3] 40 (0, 0)) (by (with_reducible repeat (first | refine blk_drewN ?_ _ | refine blk_drew ?_ | refine blk_alloc ?_ _)); exact BK170.out) hb); have n2_ := Aside0.mk (blk_below (g := gb172) (o := .cells #[.int .i64 ((rd_T53 l1_2 x5_1).f0), .int .i64 ((rd_T53 l1_2 x5_1).f1.f0), .int .i64 ((rd_T53 l1_2 x5_1).f1.f1)] 53 (0, 0)) (by (with_reducible repeat (first | refine blk_drewN ?_ _ | refine blk_drew ?_ | refine blk_alloc ?_ _)); exact BK172.out) hb); have n3_ := Aside0.mk (below_step (by repeat (first | (with_reducible first | exact HB.out | apply below_alloc | apply pw_below_drewN | apply below_drew1 | refine below_set ?_ GE169.out | refine below_set ?_ GE170.out | refine below_set ?_ GE172.out) | exact HB.out)) hb); clear BK169; clear BK170; clear BK172; clear HB; have BK169 := n0_; have BK170 := n1_; have BK172 := n2_; have HB := n3_; clear n0_ n1_ n2_ n3_; (try clear hb); (try clear hb2); (try clear hk); (try clear hi); have hcz38_0 : w37.cell? ⟨gb172, 0, none⟩ = some (.int .i64 ((rd_T53 l1_2 x5_1).f0)) := (blk_cell BK172.out 0).trans rfl; have hcz38_1 : w37.cell? ⟨gb172, 1, none⟩ = some (.int .i64 ((rd_T53 l1_2 x5_1).f1.f0)) := (blk_cell BK172.out 1).trans rfl; have hcz38_2 : w37.cell? ⟨gb172, 2, none⟩ = some (.int .i64 ((rd_T53 l1_2 x5_1).f1.f1)) := (blk_cell BK172.out 2).trans rfl; have hfz38_0 := blk_frozen BK172.out 0; have hfz38_1 := blk_frozen BK172.out 1; have hfz38_2 := blk_frozen BK172.out 2))
           go_ret
           exact ⟨by first | rfl | (simp [errW_none, errW_some] <;> rfl) | (simp [*, errW_none, errW_some] <;> rfl), by repeat (first | (with_reducible first | exact HB.out | apply below_alloc | apply pw_below_drewN | apply below_drew1 | refine below_set ?_ GE169.out | refine below_set ?_ GE170.out | refine below_set ?_ GE172.out) | exact HB.out)⟩
          ·rw [if_neg c31] at H
           have c31b0 : (((rd_T53 l1_2 x5_1).f1.f0) == 0) = false := beq_eq_false_iff_ne.mpr c31
           have c31b1 : (((rd_T53 l1_2 x5_1).f1.f0) != 0) = true := bne_iff_ne.mpr c31
           have H' := Aside0.mk H
           clear H
           have hnb39 := NB169_170.out
           have hnc39 := NB170_169.out
           have hnb40 := NB169_172.out
           have hnc40 := NB172_169.out
           have hcz41_0 : wc.cell? ⟨gb169, 0, none⟩ = some (.int .i64 a0_0) := (blk_cell BK169.out 0).trans rfl
           have hcz41_1 : wc.cell? ⟨gb169, 1, none⟩ = some (.int .i64 a0_1) := (blk_cell BK169.out 1).trans rfl
           have hcz41_2 : wc.cell? ⟨gb169, 2, none⟩ = some (.int .i64 a0_2) := (blk_cell BK169.out 2).trans rfl
           have hcz41_3 : wc.cell? ⟨gb169, 3, none⟩ = some (.int .i64 a0_3) := (blk_cell BK169.out 3).trans rfl
           have hfz41_0 := blk_frozen BK169.out 0
           have hfz41_1 := blk_frozen BK169.out 1
           have hfz41_2 := blk_frozen BK169.out 2
           have hfz41_3 := blk_frozen BK169.out 3
           have hnb42 := NB172_170.out
           have hnc42 := NB170_172.out
           have hcz43_0 : wc.cell? ⟨gb172, 0, none⟩ = some (.int .i64 ((rd_T53 l1_2 x5_1).f0)) := (blk_cell BK172.out 0).trans rfl
           have hcz43_1 : wc.cell? ⟨gb172, 1, none⟩ = some (.int .i64 ((rd_T53 l1_2 x5_1).f1.f0)) := (blk_cell BK172.out 1).trans rfl
           have hcz43_2 : wc.cell? ⟨gb172, 2, none⟩ = some (.int .i64 ((rd_T53 l1_2 x5_1).f1.f1)) := (blk_cell BK172.out 2).trans rfl
           have hfz43_0 := blk_frozen BK172.out 0
           have hfz43_1 := blk_frozen BK172.out 1
           have hfz43_2 := blk_frozen BK172.out 2
           go_wp2_with (first | ((with_reducible refine gate_callee (f := 75) rfl ?_); refine goesL_ (some 35) rfl rfl Tryd.func75 (by kernel_rfl) rfl #[.agg #[.int .i64 a0_0, .int .i64 a0_1, .int .i64 a0_2, .int .i64 a0_3], .agg #[.int .i64 ((rd_T53 l1_2 x5_1).f1.f0), .int .i64 ((rd_T53 l1_2 x5_1).f1.f1)]] rfl (by (try simp only [List.map_toArray, List.map_cons, List.map_nil]); first | done | rfl | (simp only [List.length_drop, List.length_take]; rfl)) ?_; (with_reducible refine (ref01_CheckAddr.calls kj13 a0_0 a0_1 a0_2 a0_3 ((rd_T53 l1_2 x5_1).f1.f0) ((rd_T53 l1_2 x5_1).f1.f1) t173 _ A29.out).mono ?_); rintro e w44 ⟨rfl, hb⟩; refine ⟨_, rfl, ?_⟩; have n0_ := Aside0.mk (blk_below (g := gb169) (o := .cells #[.int .i64 a0_0, .int .i64 a0_1, .int .i64 a0_2, .int .i64 a0_3] 66 (0, 0)) (by (with_reducible repeat (first | refine blk_drewN ?_ _ | refine blk_drew ?_ | refine blk_alloc ?_ _)); exact BK169.out) hb); have n1_ := Aside0.mk (blk_below (g := gb170) (o := .cells #[.string a1_0, .slice A1_1 l1_1.length c1_1, .slice (some ad171) l1_2.length c1_2, .string a1_3] 40 (0, 0)) (by (with_reducible repeat (first | refine blk_drewN ?_ _ | refine blk_drew ?_ | refine blk_alloc ?_ _)); exact BK170.out) hb); have n2_ := Aside0.mk (blk_below (g := gb172) (o := .cells #[.int .i64 ((rd_T53 l1_2 x5_1).f0), .int .i64 ((rd_T53 l1_2 x5_1).f1.f0), .int .i64 ((rd_T53 l1_2 x5_1).f1.f1)] 53 (0, 0)) (by (with_reducible repeat (first | refine blk_drewN ?_ _ | refine blk_drew ?_ | refine blk_alloc ?_ _)); exact BK172.out) hb); have n3_ := Aside0.mk (below_step (by repeat (first | (with_reducible first | exact HB.out | apply below_alloc | apply pw_below_drewN | apply below_drew1 | refine below_set ?_ GE169.out | refine below_set ?_ GE170.out | refine below_set ?_ GE172.out) | exact HB.out)) hb); clear BK169; clear BK170; clear BK172; clear HB; have BK169 := n0_; have BK170 := n1_; have BK172 := n2_; have HB := n3_; clear n0_ n1_ n2_ n3_; (try clear hb); (try clear hb2); (try clear hk); (try clear hi); have hcz45_0 : w44.cell? ⟨gb172, 0, none⟩ = some (.int .i64 ((rd_T53 l1_2 x5_1).f0)) := (blk_cell BK172.out 0).trans rfl; have hcz45_1 : w44.cell? ⟨gb172, 1, none⟩ = some (.int .i64 ((rd_T53 l1_2 x5_1).f1.f0)) := (blk_cell BK172.out 1).trans rfl; have hcz45_2 : w44.cell? ⟨gb172, 2, none⟩ = some (.int .i64 ((rd_T53 l1_2 x5_1).f1.f1)) := (blk_cell BK172.out 2).trans rfl; have hfz45_0 := blk_frozen BK172.out 0; have hfz45_1 := blk_frozen BK172.out 1; have hfz45_2 := blk_frozen BK172.out 2))
           go_roundg kj13
           case measure => have := HK1.out; have := HJ13.out; omega
           case rel => exact ⟨(wrap64 (x5_1 + 1)), (by first | rfl | (simp; done) | (simp [*]; done)), H', ⟨by have := HK1.out; have := HJ13.out; omega⟩, ⟨by (with_reducible repeat (first | refine blk_drewN ?_ _ | refine blk_drew ?_ | refine blk_alloc ?_ _)); exact BK169.out⟩, ⟨by (with_reducible repeat (first | refine blk_drewN ?_ _ | refine blk_drew ?_ | refine blk_alloc ?_ _)); exact BK170.out⟩, ⟨by repeat (first | (with_reducible first | exact HB.out | apply below_alloc | apply pw_below_drewN | apply below_drew1 | refine below_set ?_ GE169.out | refine below_set ?_ GE170.out | refine below_set ?_ GE172.out) | exact HB.out)⟩⟩
         ·rw [if_neg c30] at H
          have c30b0 : (t173 == 0) = false := beq_eq_false_iff_ne.mpr c30
          have c30b1 : (t173 != 0) = true := bne_iff_ne.mpr c30
          obtain rfl := Option.some.inj H
          have hnb46 := NB169_170.out
          have hnc46 := NB170_169.out
          have hnb47 := NB169_172.out
          have hnc47 := NB172_169.out
          have hcz48_0 : wc.cell? ⟨gb169, 0, none⟩ = some (.int .i64 a0_0) := (blk_cell BK169.out 0).trans rfl
          have hcz48_1 : wc.cell? ⟨gb169, 1, none⟩ = some (.int .i64 a0_1) := (blk_cell BK169.out 1).trans rfl
          have hcz48_2 : wc.cell? ⟨gb169, 2, none⟩ = some (.int .i64 a0_2) := (blk_cell BK169.out 2).trans rfl
          have hcz48_3 : wc.cell? ⟨gb169, 3, none⟩ = some (.int .i64 a0_3) := (blk_cell BK169.out 3).trans rfl
          have hfz48_0 := blk_frozen BK169.out 0
          have hfz48_1 := blk_frozen BK169.out 1
          have hfz48_2 := blk_frozen BK169.out 2
          have hfz48_3 := blk_frozen BK169.out 3
          have hnb49 := NB172_170.out
          have hnc49 := NB170_172.out
          have hcz50_0 : wc.cell? ⟨gb172, 0, none⟩ = some (.int .i64 ((rd_T53 l1_2 x5_1).f0)) := (blk_cell BK172.out 0).trans rfl
          have hcz50_1 : wc.cell? ⟨gb172, 1, none⟩ = some (.int .i64 ((rd_T53 l1_2 x5_1).f1.f0)) := (blk_cell BK172.out 1).trans rfl
          have hcz50_2 : wc.cell? ⟨gb172, 2, none⟩ = some (.int .i64 ((rd_T53 l1_2 x5_1).f1.f1)) := (blk_cell BK172.out 2).trans rfl
          have hfz50_0 := blk_frozen BK172.out 0
          have hfz50_1 := blk_frozen BK172.out 1
          have hfz50_2 := blk_frozen BK172.out 2
          go_wp2_with (first | ((with_reducible refine gate_callee (f := 75) rfl ?_); refine goesL_ (some 35) rfl rfl Tryd.func75 (by kernel_rfl) rfl #[.agg #[.int .i64 a0_0, .int .i64 a0_1, .int .i64 a0_2, .int .i64 a0_3], .agg #[.int .i64 ((rd_T53 l1_2 x5_1).f1.f0), .int .i64 ((rd_T53 l1_2 x5_1).f1.f1)]] rfl (by (try simp only [List.map_toArray, List.map_cons, List.map_nil]); first | done | rfl | (simp only [List.length_drop, List.length_take]; rfl)) ?_; (with_reducible refine (ref01_CheckAddr.calls kj13 a0_0 a0_1 a0_2 a0_3 ((rd_T53 l1_2 x5_1).f1.f0) ((rd_T53 l1_2 x5_1).f1.f1) t173 _ A29.out).mono ?_); rintro e w51 ⟨rfl, hb⟩; refine ⟨_, rfl, ?_⟩; have n0_ := Aside0.mk (blk_below (g := gb169) (o := .cells #[.int .i64 a0_0, .int .i64 a0_1, .int .i64 a0_2, .int .i64 a0_3] 66 (0, 0)) (by (with_reducible repeat (first | refine blk_drewN ?_ _ | refine blk_drew ?_ | refine blk_alloc ?_ _)); exact BK169.out) hb); have n1_ := Aside0.mk (blk_below (g := gb170) (o := .cells #[.string a1_0, .slice A1_1 l1_1.length c1_1, .slice (some ad171) l1_2.length c1_2, .string a1_3] 40 (0, 0)) (by (with_reducible repeat (first | refine blk_drewN ?_ _ | refine blk_drew ?_ | refine blk_alloc ?_ _)); exact BK170.out) hb); have n2_ := Aside0.mk (blk_below (g := gb172) (o := .cells #[.int .i64 ((rd_T53 l1_2 x5_1).f0), .int .i64 ((rd_T53 l1_2 x5_1).f1.f0), .int .i64 ((rd_T53 l1_2 x5_1).f1.f1)] 53 (0, 0)) (by (with_reducible repeat (first | refine blk_drewN ?_ _ | refine blk_drew ?_ | refine blk_alloc ?_ _)); exact BK172.out) hb); have n3_ := Aside0.mk (below_step (by repeat (first | (with_reducible first | exact HB.out | apply below_alloc | apply pw_below_drewN | apply below_drew1 | refine below_set ?_ GE169.out | refine below_set ?_ GE170.out | refine below_set ?_ GE172.out) | exact HB.out)) hb); clear BK169; clear BK170; clear BK172; clear HB; have BK169 := n0_; have BK170 := n1_; have BK172 := n2_; have HB := n3_; clear n0_ n1_ n2_ n3_; (try clear hb); (try clear hb2); (try clear hk); (try clear hi)))
          go_ret
          exact ⟨by first | rfl | (simp [errW_none, errW_some] <;> rfl) | (simp [*, errW_none, errW_some] <;> rfl), by repeat (first | (with_reducible first | exact HB.out | apply below_alloc | apply pw_below_drewN | apply below_drew1 | refine below_set ?_ GE169.out | refine below_set ?_ GE170.out | refine below_set ?_ GE172.out) | exact HB.out)⟩
     ·rw [if_neg c13] at H
      exact absurd H (by simp)
    ·rw [if_neg c12] at H
     have c12b0 : decide (x5_1 < (l1_2.length : Int)) = false := decide_eq_false c12
     clear c12
     obtain rfl := Option.some.inj H
     have hnb52 := NB170_169.out
     have hnc52 := NB169_170.out
     have hcz53_0 : wr.cell? ⟨gb170, 0, none⟩ = some (.string a1_0) := (blk_cell BK170.out 0).trans rfl
     have hcz53_1 : wr.cell? ⟨gb170, 1, none⟩ = some (.slice A1_1 l1_1.length c1_1) := (blk_cell BK170.out 1).trans rfl
     have hcz53_2 : wr.cell? ⟨gb170, 2, none⟩ = some (.slice A1_2 l1_2.length c1_2) := (blk_cell BK170.out 2).trans rfl
     have hcz53_3 : wr.cell? ⟨gb170, 3, none⟩ = some (.string a1_3) := (blk_cell BK170.out 3).trans rfl
     have hfz53_0 := blk_frozen BK170.out 0
     have hfz53_1 := blk_frozen BK170.out 1
     have hfz53_2 := blk_frozen BK170.out 2
     have hfz53_3 := blk_frozen BK170.out 3
     go_wp2
     go_ret
     exact ⟨by first | rfl | (simp [errW_none, errW_some] <;> rfl) | (simp [*, errW_none, errW_some] <;> rfl), by repeat (first | (with_reducible first | exact HB.out | apply below_alloc | apply pw_below_drewN | apply below_drew1 | refine below_set ?_ GE169.out | refine below_set ?_ GE170.out) | exact HB.out)⟩

end Go.Proofs.YtmcmpjkfdkogiaaDoor.P

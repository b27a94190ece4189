-- Out of the translation's print, by a program. Lean checks it.
import Derived.Test.YtmcmpjkfdkogiaaDoorPQ0
import Derived.Test.YtmcmpjkfdkogiaaDoorPQ7
import Derived.Test.YtmcmpjkfdkogiaaDoorPQ8
namespace Go.Proofs.YtmcmpjkfdkogiaaDoor.P
open Go.RowKit Go.Proofs.YtmcmpjkfdkogiaaDoorW.PrintWords Go.Proofs.YtmcmpjkfdkogiaaDoorW.PrintLast Go.Proofs.YtmcmpjkfdkogiaaDoorW.PrintMore
attribute [local go_sem] max2_int min2_int max_two min_two max_three min_three max_four min_four   -- for this text's walks alone
set_option linter.unusedVariables false
set_option linter.unusedSimpArgs false

/-! ### ref11_contacts: function 58 -/
mutual
def ref11_contacts.l0 : Nat → Int → Int → Int → Int → Int → ByteArray → List (S50) → List (S53) → ByteArray → Option (Int)
 | 0, _, _, _, _, _, _, _, _, _ => none
 | k + 1, x5, x163000, x163001, x163002, x163003, x164000, x164001, x164002, x164003 => if x5 < (x164001.length : Int) then (if 0 ≤ x5 then (if ((rd_T50 x164001 x5).f0) < 0 then (ref11_contacts.j1 k x5 true x163000 x163001 x163002 x163003 x164000 x164001 x164002 x164003 ((rd_T50 x164001 x5).f0) ((rd_T50 x164001 x5).f1.f0) ((rd_T50 x164001 x5).f1.f1) ((rd_T50 x164001 x5).f2) ((rd_T50 x164001 x5).f3)) else (ref11_contacts.j1 k x5 (decide (((rd_T50 x164001 x5).f0) > 3)) x163000 x163001 x163002 x163003 x164000 x164001 x164002 x164003 ((rd_T50 x164001 x5).f0) ((rd_T50 x164001 x5).f1.f0) ((rd_T50 x164001 x5).f1.f1) ((rd_T50 x164001 x5).f2) ((rd_T50 x164001 x5).f3))) else (none)) else (some 0)
def ref11_contacts.j1 : Nat → Int → Bool → Int → Int → Int → Int → ByteArray → List (S50) → List (S53) → ByteArray → Int → Int → Int → ByteArray → ByteArray → Option (Int)
 | 0, _, _, _, _, _, _, _, _, _, _, _, _, _, _, _ => none
 | k + 1, x5, x31, x163000, x163001, x163002, x163003, x164000, x164001, x164002, x164003, x166000, x166001, x166002, x166003, x166004 => if x31 = true then (some 8) else ((ref01_CheckAddr.f k x163000 x163001 x163002 x163003 x166001 x166002).bind fun t166 => (if t166 = 0 then ((ref09_IsName.f k x166003).bind fun t167 => (if t167 = true then ((ref09_IsName.f k x166004).bind fun t168 => (if t168 = true then (ref11_contacts.l0 k (wrap64 (x5 + 1)) x163000 x163001 x163002 x163003 x164000 x164001 x164002 x164003) else (some 6))) else (some 6))) else (some t166)))
end
def ref11_contacts.f (k : Nat) (a0_0 : Int) (a0_1 : Int) (a0_2 : Int) (a0_3 : Int) (a1_0 : ByteArray) (l1_1 : List (S50)) (l1_2 : List (S53)) (a1_3 : ByteArray) : Option (Int) := if (l1_1.length : Int) > 256 then (some 10) else (ref11_contacts.l0 k 0 a0_0 a0_1 a0_2 a0_3 a1_0 l1_1 l1_2 a1_3)
theorem ref11_contacts.mono_l : ∀ k, (∀ y0 y1 y2 y3 y4 y5 y6 y7 y8, LeO (ref11_contacts.l0 k y0 y1 y2 y3 y4 y5 y6 y7 y8) (ref11_contacts.l0 (k + 1) y0 y1 y2 y3 y4 y5 y6 y7 y8)) ∧ (∀ y0 y1 y2 y3 y4 y5 y6 y7 y8 y9 y10 y11 y12 y13 y14, LeO (ref11_contacts.j1 k y0 y1 y2 y3 y4 y5 y6 y7 y8 y9 y10 y11 y12 y13 y14) (ref11_contacts.j1 (k + 1) y0 y1 y2 y3 y4 y5 y6 y7 y8 y9 y10 y11 y12 y13 y14))
 | 0 => ⟨fun _ _ _ _ _ _ _ _ _ r h => by simp [ref11_contacts.l0] at h, fun _ _ _ _ _ _ _ _ _ _ _ _ _ _ _ r h => by simp [ref11_contacts.j1] at h⟩
 | k + 1 => by
  obtain ⟨ih0, ih1⟩ := ref11_contacts.mono_l k
  refine ⟨?_, ?_⟩
  ·intro y0 y1 y2 y3 y4 y5 y6 y7 y8
   unfold ref11_contacts.l0
   repeat' first
   | (with_reducible exact ih0 _ _ _ _ _ _ _ _ _)
   | (with_reducible exact ih1 _ _ _ _ _ _ _ _ _ _ _ _ _ _ _)
   | (with_reducible exact ref01_CheckAddr.mono _ _ _ _ _ _ _)
   | (with_reducible exact ref09_IsName.mono _ _)
   | (with_reducible exact LeO.refl _)
   | (with_reducible exact LeO.none _)
   | (with_reducible refine LeO.ite ?_ ?_)
   | (with_reducible refine LeO.bind ?_ (fun _ => ?_))
   | exact ih0 _ _ _ _ _ _ _ _ _
   | exact ih1 _ _ _ _ _ _ _ _ _ _ _ _ _ _ _
   | exact ref01_CheckAddr.mono _ _ _ _ _ _ _
   | exact ref09_IsName.mono _ _
   | exact LeO.none _
   | refine LeO.ite ?_ ?_
   | refine LeO.bind ?_ (fun _ => ?_)
  ·intro y0 y1 y2 y3 y4 y5 y6 y7 y8 y9 y10 y11 y12 y13 y14
   unfold ref11_contacts.j1
   repeat' first
   | (with_reducible exact ih0 _ _ _ _ _ _ _ _ _)
   | (with_reducible exact ih1 _ _ _ _ _ _ _ _ _ _ _ _ _ _ _)
   | (with_reducible exact ref01_CheckAddr.mono _ _ _ _ _ _ _)
   | (with_reducible exact ref09_IsName.mono _ _)
   | (with_reducible exact LeO.refl _)
   | (with_reducible exact LeO.none _)
   | (with_reducible refine LeO.ite ?_ ?_)
   | (with_reducible refine LeO.bind ?_ (fun _ => ?_))
   | exact ih0 _ _ _ _ _ _ _ _ _
   | exact ih1 _ _ _ _ _ _ _ _ _ _ _ _ _ _ _
   | exact ref01_CheckAddr.mono _ _ _ _ _ _ _
   | exact ref09_IsName.mono _ _
   | exact LeO.none _
   | refine LeO.ite ?_ ?_
   | refine LeO.bind ?_ (fun _ => ?_)
theorem ref11_contacts.mono : ∀ a0 a1 a2 a3 a4 a5 a6 a7 k, LeO (ref11_contacts.f k a0 a1 a2 a3 a4 a5 a6 a7) (ref11_contacts.f (k + 1) a0 a1 a2 a3 a4 a5 a6 a7) := by
 intro a0 a1 a2 a3 a4 a5 a6 a7 k
 obtain ⟨ih0, ih1⟩ := ref11_contacts.mono_l k
 unfold ref11_contacts.f
 repeat' first
   | (with_reducible exact ih0 _ _ _ _ _ _ _ _ _)
   | (with_reducible exact ih1 _ _ _ _ _ _ _ _ _ _ _ _ _ _ _)
   | (with_reducible exact ref01_CheckAddr.mono _ _ _ _ _ _ _)
   | (with_reducible exact ref09_IsName.mono _ _)
   | (with_reducible exact LeO.refl _)
   | (with_reducible exact LeO.none _)
   | (with_reducible refine LeO.ite ?_ ?_)
   | (with_reducible refine LeO.bind ?_ (fun _ => ?_))
   | exact ih0 _ _ _ _ _ _ _ _ _
   | exact ih1 _ _ _ _ _ _ _ _ _ _ _ _ _ _ _
   | exact ref01_CheckAddr.mono _ _ _ _ _ _ _
   | exact ref09_IsName.mono _ _
   | exact LeO.none _
   | refine LeO.ite ?_ ?_
   | refine LeO.bind ?_ (fun _ => ?_)
set_option maxHeartbeats 8000000 in
set_option maxRecDepth 100000 in
theorem ref11_contacts.calls (k : Nat) (a0_0 : Int) (a0_1 : Int) (a0_2 : Int) (a0_3 : Int) (a1_0 : ByteArray) (A1_1 : Option Addr) (c1_1 : Nat) (l1_1 : List (S50)) (A1_2 : Option Addr) (c1_2 : Nat) (l1_2 : List (S53)) (a1_3 : ByteArray) (r : Int) (w : World) (hr1_1 : Kd.C k50 w A1_1 l1_1.length l1_1) (hc1_1 : l1_1.length ≤ c1_1) (hr1_2 : Kd.C k53 w A1_2 l1_2.length l1_2) (hc1_2 : l1_2.length ≤ c1_2) (h : ref11_contacts.f k a0_0 a0_1 a0_2 a0_3 a1_0 l1_1 l1_2 a1_3 = some r) :
  Calls Tryd.prog 58 #[.agg #[.int .i64 a0_0, .int .i64 a0_1, .int .i64 a0_2, .int .i64 a0_3], .agg #[.string a1_0, .slice A1_1 l1_1.length c1_1, .slice A1_2 l1_2.length c1_2, .string a1_3]] w fun e w' => e = .returned (.int .i64 r) ∧ Below w.heap.size w w' := by
 have hu66 := Tryd.underlying66
 have hu40 := Tryd.underlying40
 have hu50 := Tryd.underlying50
 have hu48 := Tryd.underlying48
 have HR1_1 := Aside0.mk hr1_1
 have HC1_1 := Aside0.mk hc1_1
 clear hr1_1 hc1_1
 have HR1_2 := Aside0.mk hr1_2
 have HC1_2 := Aside0.mk hc1_2
 clear hr1_2 hc1_2
 have HB := Aside0.mk (Below.refl w.heap.size w)
 have H : (if (l1_1.length : Int) > 256 then (some 10) else (ref11_contacts.l0 k 0 a0_0 a0_1 a0_2 a0_3 a1_0 l1_1 l1_2 a1_3)) = some r := h
 clear h
 by_cases c3 : (l1_1.length : Int) > 256
 ·rw [if_pos c3] at H
  have c3b0 : decide (256 < (l1_1.length : Int)) = true := decide_eq_true c3
  have c3b1 : decide (256 < l1_1.length) = true := decide_eq_true (by omega)
  clear c3
  obtain rfl := Option.some.inj H
  go_enter Tryd.func58, Tryd.ntmps58
  go_wp2_with (first | ((with_reducible refine gate_dst (N := 2) rfl ?_); refine box_event ?hg (N := 2) ?hd (cs := #[.int .i64 a0_0, .int .i64 a0_1, .int .i64 a0_2, .int .i64 a0_3]) (t := 66) ?hr ?_; (case hd => rfl); (case hg => rfl); (case hr => first | (go_simp; done) | (go_simp; rfl)); intro gb162 hg w4 hbox hb; have n0_ := Aside0.mk (below_step (by repeat (first | (with_reducible first | exact HB.out | apply below_alloc | apply pw_below_drewN | apply below_drew1) | exact HB.out)) hb); have n1_ := Aside0.mk (hbox); have n2_ := Aside0.mk ((by rw [hg]; exact (below_size (by repeat (first | (with_reducible first | exact HB.out | apply below_alloc | apply pw_below_drewN | apply below_drew1) | exact HB.out))) : w.heap.size ≤ gb162)); have n3_ := Aside0.mk ((by rw [hg]; exact (below_size (by repeat (first | (with_reducible first | exact HB.out | apply below_alloc | apply pw_below_drewN | apply below_drew1) | exact HB.out))) : w.heap.size ≤ gb162)); clear HB; have HB := n0_; have BK162 := n1_; have GW162 := n2_; have GE162 := n3_; clear n0_ n1_ n2_ n3_; clear hb hbox hg) | ((with_reducible refine gate_dst (N := 3) rfl ?_); refine box_event ?hg (N := 3) ?hd (cs := #[.string a1_0, .slice A1_1 l1_1.length c1_1, .slice A1_2 l1_2.length c1_2, .string a1_3]) (t := 40) ?hr ?_; (case hd => rfl); (case hg => rfl); (case hr => first | (go_simp; done) | (go_simp; rfl)); intro gb163 hg w5 hbox hb; have n0_ := Aside0.mk (blk_below (g := gb162) (o := .cells #[.int .i64 a0_0, .int .i64 a0_1, .int .i64 a0_2, .int .i64 a0_3] 66 (0, 0)) (by (with_reducible repeat (first | refine blk_drewN ?_ _ | refine blk_drew ?_ | refine blk_alloc ?_ _)); exact BK162.out) hb); have n1_ := Aside0.mk (below_step (by repeat (first | (with_reducible first | exact HB.out | apply below_alloc | apply pw_below_drewN | apply below_drew1 | refine below_set ?_ GE162.out) | exact HB.out)) hb); have n2_ := Aside0.mk (hbox); have n3_ := Aside0.mk ((by rw [hg]; exact (below_size (by repeat (first | (with_reducible first | exact HB.out | apply below_alloc | apply pw_below_drewN | apply below_drew1 | refine below_set ?_ GE162.out) | exact HB.out))) : w.heap.size ≤ gb163)); have n4_ := Aside0.mk ((by rw [hg]; exact (below_size (by repeat (first | (with_reducible first | exact HB.out | apply below_alloc | apply pw_below_drewN | apply below_drew1 | refine below_set ?_ GE162.out) | exact HB.out))) : w.heap.size ≤ gb163)); have n5_ := Aside0.mk ((by rw [hg]; exact Nat.ne_of_lt (blk_lt (g := gb162) (o := .cells #[.int .i64 a0_0, .int .i64 a0_1, .int .i64 a0_2, .int .i64 a0_3] 66 (0, 0)) (by (with_reducible repeat (first | refine blk_drewN ?_ _ | refine blk_drew ?_ | refine blk_alloc ?_ _)); exact BK162.out)) : gb162 ≠ gb163)); have n6_ := Aside0.mk ((by rw [hg]; exact Nat.ne_of_gt (blk_lt (g := gb162) (o := .cells #[.int .i64 a0_0, .int .i64 a0_1, .int .i64 a0_2, .int .i64 a0_3] 66 (0, 0)) (by (with_reducible repeat (first | refine blk_drewN ?_ _ | refine blk_drew ?_ | refine blk_alloc ?_ _)); exact BK162.out)) : gb163 ≠ gb162)); clear BK162; clear HB; have BK162 := n0_; have HB := n1_; have BK163 := n2_; have GW163 := n3_; have GE163 := n4_; have NB162_163 := n5_; have NB163_162 := n6_; clear n0_ n1_ n2_ n3_ n4_ n5_ n6_; clear hb hbox hg; have hnb6 := NB163_162.out; have hnc6 := NB162_163.out; have hcz7_0 : w5.cell? ⟨gb163, 0, none⟩ = some (.string a1_0) := (blk_cell BK163.out 0).trans rfl; have hcz7_1 : w5.cell? ⟨gb163, 1, none⟩ = some (.slice A1_1 l1_1.length c1_1) := (blk_cell BK163.out 1).trans rfl; have hcz7_2 : w5.cell? ⟨gb163, 2, none⟩ = some (.slice A1_2 l1_2.length c1_2) := (blk_cell BK163.out 2).trans rfl; have hcz7_3 : w5.cell? ⟨gb163, 3, none⟩ = some (.string a1_3) := (blk_cell BK163.out 3).trans rfl; have hfz7_0 := blk_frozen BK163.out 0; have hfz7_1 := blk_frozen BK163.out 1; have hfz7_2 := blk_frozen BK163.out 2; have hfz7_3 := blk_frozen BK163.out 3))
  go_ret
  exact ⟨by first | rfl | (simp [errW_none, errW_some] <;> rfl) | (simp [*, errW_none, errW_some] <;> rfl), by repeat (first | (with_reducible first | exact HB.out | apply below_alloc | apply pw_below_drewN | apply below_drew1 | refine below_set ?_ GE162.out | refine below_set ?_ GE163.out) | exact HB.out)⟩
 ·rw [if_neg c3] at H
  have c3b0 : decide (256 < (l1_1.length : Int)) = false := decide_eq_false c3
  have c3b1 : decide (256 < l1_1.length) = false := decide_eq_false (by omega)
  clear c3
  have H' := Aside0.mk H
  clear H
  go_enter Tryd.func58, Tryd.ntmps58
  go_wp2_with (first | ((with_reducible refine gate_dst (N := 2) rfl ?_); refine box_event ?hg (N := 2) ?hd (cs := #[.int .i64 a0_0, .int .i64 a0_1, .int .i64 a0_2, .int .i64 a0_3]) (t := 66) ?hr ?_; (case hd => rfl); (case hg => rfl); (case hr => first | (go_simp; done) | (go_simp; rfl)); intro gb162 hg w8 hbox hb; have n0_ := Aside0.mk (below_step (by repeat (first | (with_reducible first | exact HB.out | apply below_alloc | apply pw_below_drewN | apply below_drew1) | exact HB.out)) hb); have n1_ := Aside0.mk (hbox); have n2_ := Aside0.mk ((by rw [hg]; exact (below_size (by repeat (first | (with_reducible first | exact HB.out | apply below_alloc | apply pw_below_drewN | apply below_drew1) | exact HB.out))) : w.heap.size ≤ gb162)); have n3_ := Aside0.mk ((by rw [hg]; exact (below_size (by repeat (first | (with_reducible first | exact HB.out | apply below_alloc | apply pw_below_drewN | apply below_drew1) | exact HB.out))) : w.heap.size ≤ gb162)); clear HB; have HB := n0_; have BK162 := n1_; have GW162 := n2_; have GE162 := n3_; clear n0_ n1_ n2_ n3_; clear hb hbox hg) | ((with_reducible refine gate_dst (N := 3) rfl ?_); refine box_event ?hg (N := 3) ?hd (cs := #[.string a1_0, .slice A1_1 l1_1.length c1_1, .slice A1_2 l1_2.length c1_2, .string a1_3]) (t := 40) ?hr ?_; (case hd => rfl); (case hg => rfl); (case hr => first | (go_simp; done) | (go_simp; rfl)); intro gb163 hg w9 hbox hb; have n0_ := Aside0.mk (blk_below (g := gb162) (o := .cells #[.int .i64 a0_0, .int .i64 a0_1, .int .i64 a0_2, .int .i64 a0_3] 66 (0, 0)) (by (with_reducible repeat (first | refine blk_drewN ?_ _ | refine blk_drew ?_ | refine blk_alloc ?_ _)); exact BK162.out) hb); have n1_ := Aside0.mk (below_step (by repeat (first | (with_reducible first | exact HB.out | apply below_alloc | apply pw_below_drewN | apply below_drew1 | refine below_set ?_ GE162.out) | exact HB.out)) hb); have n2_ := Aside0.mk (hbox); have n3_ := Aside0.mk ((by rw [hg]; exact (below_size (by repeat (first | (with_reducible first | exact HB.out | apply below_alloc | apply pw_below_drewN | apply below_drew1 | refine below_set ?_ GE162.out) | exact HB.out))) : w.heap.size ≤ gb163)); have n4_ := Aside0.mk ((by rw [hg]; exact (below_size (by repeat (first | (with_reducible first | exact HB.out | apply below_alloc | apply pw_below_drewN | apply below_drew1 | refine below_set ?_ GE162.out) | exact HB.out))) : w.heap.size ≤ gb163)); have n5_ := Aside0.mk ((by rw [hg]; exact Nat.ne_of_lt (blk_lt (g := gb162) (o := .cells #[.int .i64 a0_0, .int .i64 a0_1, .int .i64 a0_2, .int .i64 a0_3] 66 (0, 0)) (by (with_reducible repeat (first | refine blk_drewN ?_ _ | refine blk_drew ?_ | refine blk_alloc ?_ _)); exact BK162.out)) : gb162 ≠ gb163)); have n6_ := Aside0.mk ((by rw [hg]; exact Nat.ne_of_gt (blk_lt (g := gb162) (o := .cells #[.int .i64 a0_0, .int .i64 a0_1, .int .i64 a0_2, .int .i64 a0_3] 66 (0, 0)) (by (with_reducible repeat (first | refine blk_drewN ?_ _ | refine blk_drew ?_ | refine blk_alloc ?_ _)); exact BK162.out)) : gb163 ≠ gb162)); clear BK162; clear HB; have BK162 := n0_; have HB := n1_; have BK163 := n2_; have GW163 := n3_; have GE163 := n4_; have NB162_163 := n5_; have NB163_162 := n6_; clear n0_ n1_ n2_ n3_ n4_ n5_ n6_; clear hb hbox hg; have hnb10 := NB163_162.out; have hnc10 := NB162_163.out; have hcz11_0 : w9.cell? ⟨gb163, 0, none⟩ = some (.string a1_0) := (blk_cell BK163.out 0).trans rfl; have hcz11_1 : w9.cell? ⟨gb163, 1, none⟩ = some (.slice A1_1 l1_1.length c1_1) := (blk_cell BK163.out 1).trans rfl; have hcz11_2 : w9.cell? ⟨gb163, 2, none⟩ = some (.slice A1_2 l1_2.length c1_2) := (blk_cell BK163.out 2).trans rfl; have hcz11_3 : w9.cell? ⟨gb163, 3, none⟩ = some (.string a1_3) := (blk_cell BK163.out 3).trans rfl; have hfz11_0 := blk_frozen BK163.out 0; have hfz11_1 := blk_frozen BK163.out 1; have hfz11_2 := blk_frozen BK163.out 2; have hfz11_3 := blk_frozen BK163.out 3))
  go_loopg [5] k (fun kq v5 w' => ∃ (x5_1 : Int), v5 = .int .i64 x5_1 ∧ Aside0 (ref11_contacts.l0 kq x5_1 a0_0 a0_1 a0_2 a0_3 a1_0 l1_1 l1_2 a1_3 = some r) ∧ Aside0 (kq ≤ k) ∧ Aside0 (w'.heap[gb162]? = some (.cells #[.int .i64 a0_0, .int .i64 a0_1, .int .i64 a0_2, .int .i64 a0_3] 66 (0, 0))) ∧ Aside0 (w'.heap[gb163]? = some (.cells #[.string a1_0, (.slice A1_1 l1_1.length c1_1), (.slice A1_2 l1_2.length c1_2), .string a1_3] 40 (0, 0))) ∧ Aside0 (Below w.heap.size w w'))
  case atStart => exact ⟨(0), (by first | rfl | (simp; done) | (simp [*]; done)), H', ⟨Nat.le_refl _⟩, ⟨by (with_reducible repeat (first | refine blk_drewN ?_ _ | refine blk_drew ?_ | refine blk_alloc ?_ _)); exact BK162.out⟩, ⟨by (with_reducible repeat (first | refine blk_drewN ?_ _ | refine blk_drew ?_ | refine blk_alloc ?_ _)); exact BK163.out⟩, ⟨by repeat (first | (with_reducible first | exact HB.out | apply below_alloc | apply pw_below_drewN | apply below_drew1 | refine below_set ?_ GE162.out | refine below_set ?_ GE163.out) | exact HB.out)⟩⟩
  case round =>
   clear H'
   try clear c1
   try clear p2
   try clear c3
   try clear c3b0
   try clear c3b1
   try clear c5
   try clear c6
   try clear c10
   try clear hcz11_0
   try clear hcz11_1
   try clear hcz11_2
   try clear hcz11_3
   try clear hcz7_0
   try clear hcz7_1
   try clear hcz7_2
   try clear hcz7_3
   try clear hfz11_0
   try clear hfz11_1
   try clear hfz11_2
   try clear hfz11_3
   try clear hfz7_0
   try clear hfz7_1
   try clear hfz7_2
   try clear hfz7_3
   obtain ⟨x5_1, rfl, HA, HK1, BK162, BK163, HB⟩ := hrel
   cases gk with
   | zero => exact absurd HA.out (by simp [ref11_contacts.l0])
   | succ k1 =>
    have H := HA.out
    clear HA
    simp only [ref11_contacts.l0] at H
    by_cases c12 : x5_1 < (l1_1.length : Int)
    ·rw [if_pos c12] at H
     have c12b0 : decide (x5_1 < (l1_1.length : Int)) = true := decide_eq_true c12
     clear c12
     by_cases c13 : 0 ≤ x5_1
     ·rw [if_pos c13] at H
      have c13b0 : decide (0 ≤ x5_1) = true := decide_eq_true c13
      clear c13
      have HC14 := Aside0.mk H
      clear H
      have hnb15 := NB163_162.out
      have hnc15 := NB162_163.out
      have hcz16_0 : wr.cell? ⟨gb163, 0, none⟩ = some (.string a1_0) := (blk_cell BK163.out 0).trans rfl
      have hcz16_1 : wr.cell? ⟨gb163, 1, none⟩ = some (.slice A1_1 l1_1.length c1_1) := (blk_cell BK163.out 1).trans rfl
      have hcz16_2 : wr.cell? ⟨gb163, 2, none⟩ = some (.slice A1_2 l1_2.length c1_2) := (blk_cell BK163.out 2).trans rfl
      have hcz16_3 : wr.cell? ⟨gb163, 3, none⟩ = some (.string a1_3) := (blk_cell BK163.out 3).trans rfl
      have hfz16_0 := blk_frozen BK163.out 0
      have hfz16_1 := blk_frozen BK163.out 1
      have hfz16_2 := blk_frozen BK163.out 2
      have hfz16_3 := blk_frozen BK163.out 3
      have p164 : 0 ≤ (x5_1 : Int) := of_decide_eq_true (by first | (with_reducible assumption) | assumption)
      have q164 : x5_1 < (l1_1.length : Int) := of_decide_eq_true (by first | (with_reducible assumption) | assumption)
      obtain ⟨ad164, e164, hx164_0, hx164_1, hx164_2, hx164_3, hx164_4⟩ := at_T50 HR1_1.out x5_1 p164 q164
      cases e164
      replace hx164_0 := (HB.out.cell (World.block_lt_of_cell? w _ hx164_0)).trans hx164_0
      replace hx164_1 := (HB.out.cell (World.block_lt_of_cell? w _ hx164_1)).trans hx164_1
      replace hx164_2 := (HB.out.cell (World.block_lt_of_cell? w _ hx164_2)).trans hx164_2
      replace hx164_3 := (HB.out.cell (World.block_lt_of_cell? w _ hx164_3)).trans hx164_3
      replace hx164_4 := (HB.out.cell (World.block_lt_of_cell? w _ hx164_4)).trans hx164_4
      replace p164 := eq_true p164
      replace q164 := eq_true q164
      go_upto_region 7 with (first | ((with_reducible refine gate_dst (N := 6) rfl ?_); refine box_event ?hg (N := 6) ?hd (cs := #[.int .i64 0, .int .i64 0, .int .i64 0, .string (⟨#[]⟩ : ByteArray), .string (⟨#[]⟩ : ByteArray)]) (t := 50) ?hr ?_; (case hd => rfl); (case hg => rfl); (case hr => first | (go_simp; done) | (go_simp; rfl)); intro gb165 hg w17 hbox hb; have n0_ := Aside0.mk (blk_below (g := gb162) (o := .cells #[.int .i64 a0_0, .int .i64 a0_1, .int .i64 a0_2, .int .i64 a0_3] 66 (0, 0)) (by (with_reducible repeat (first | refine blk_drewN ?_ _ | refine blk_drew ?_ | refine blk_alloc ?_ _)); exact BK162.out) hb); have n1_ := Aside0.mk (blk_below (g := gb163) (o := .cells #[.string a1_0, .slice (some ad164) l1_1.length c1_1, .slice A1_2 l1_2.length c1_2, .string a1_3] 40 (0, 0)) (by (with_reducible repeat (first | refine blk_drewN ?_ _ | refine blk_drew ?_ | refine blk_alloc ?_ _)); exact BK163.out) hb); have n2_ := Aside0.mk (below_step (by repeat (first | (with_reducible first | exact HB.out | apply below_alloc | apply pw_below_drewN | apply below_drew1 | refine below_set ?_ GE162.out | refine below_set ?_ GE163.out) | exact HB.out)) hb); have n3_ := Aside0.mk (hbox); have n4_ := Aside0.mk ((by rw [hg]; exact (below_size (by repeat (first | (with_reducible first | exact HB.out | apply below_alloc | apply pw_below_drewN | apply below_drew1 | refine below_set ?_ GE162.out | refine below_set ?_ GE163.out) | exact HB.out))) : w.heap.size ≤ gb165)); have n5_ := Aside0.mk ((by rw [hg]; exact (below_size (by repeat (first | (with_reducible first | exact HB.out | apply below_alloc | apply pw_below_drewN | apply below_drew1 | refine below_set ?_ GE162.out | refine below_set ?_ GE163.out) | exact HB.out))) : w.heap.size ≤ gb165)); have n6_ := Aside0.mk ((by rw [hg]; exact Nat.ne_of_lt (blk_lt (g := gb162) (o := .cells #[.int .i64 a0_0, .int .i64 a0_1, .int .i64 a0_2, .int .i64 a0_3] 66 (0, 0)) (by (with_reducible repeat (first | refine blk_drewN ?_ _ | refine blk_drew ?_ | refine blk_alloc ?_ _)); exact BK162.out)) : gb162 ≠ gb165)); have n7_ := Aside0.mk ((by rw [hg]; exact Nat.ne_of_gt (blk_lt (g := gb162) (o := .cells #[.int .i64 a0_0, .int .i64 a0_1, .int .i64 a0_2, .int .i64 a0_3] 66 (0, 0)) (by (with_reducible repeat (first | refine blk_drewN ?_ _ | refine blk_drew ?_ | refine blk_alloc ?_ _)); exact BK162.out)) : gb165 ≠ gb162)); have n8_ := Aside0.mk ((by rw [hg]; exact Nat.ne_of_lt (blk_lt (g := gb163) (o := .cells #[.string a1_0, .slice (some ad164) l1_1.length c1_1, .slice A1_2 l1_2.length c1_2, .string a1_3] 40 (0, 0)) (by (with_reducible repeat (first | refine blk_drewN ?_ _ | refine blk_drew ?_ | refine blk_alloc ?_ _)); exact BK163.out)) : gb163 ≠ gb165)); have n9_ := Aside0.mk ((by rw [hg]; exact Nat.ne_of_gt (blk_lt (g := gb163) (o := .cells #[.string a1_0, .slice (some ad164) l1_1.length c1_1, .slice A1_2 l1_2.length c1_2, .string a1_3] 40 (0, 0)) (by (with_reducible repeat (first | refine blk_drewN ?_ _ | refine blk_drew ?_ | refine blk_alloc ?_ _)); exact BK163.out)) : gb165 ≠ gb163)); clear BK162; clear BK163; clear HB; have BK162 := n0_; have BK163 := n1_; have HB := n2_; have BK165 := n3_; have GW165 := n4_; have GE165 := n5_; have NB162_165 := n6_; have NB165_162 := n7_; have NB163_165 := n8_; have NB165_163 := n9_; clear n0_ n1_ n2_ n3_ n4_ n5_ n6_ n7_ n8_ n9_; clear hb hbox hg; have hnb18 := NB165_162.out; have hnc18 := NB162_165.out; have hnb19 := NB165_163.out; have hnc19 := NB163_165.out; have hcz20_0 : w17.cell? ⟨gb165, 0, none⟩ = some (.int .i64 0) := (blk_cell BK165.out 0).trans rfl; have hcz20_1 : w17.cell? ⟨gb165, 1, none⟩ = some (.int .i64 0) := (blk_cell BK165.out 1).trans rfl; have hcz20_2 : w17.cell? ⟨gb165, 2, none⟩ = some (.int .i64 0) := (blk_cell BK165.out 2).trans rfl; have hcz20_3 : w17.cell? ⟨gb165, 3, none⟩ = some (.string (⟨#[]⟩ : ByteArray)) := (blk_cell BK165.out 3).trans rfl; have hcz20_4 : w17.cell? ⟨gb165, 4, none⟩ = some (.string (⟨#[]⟩ : ByteArray)) := (blk_cell BK165.out 4).trans rfl; have hfz20_0 := blk_frozen BK165.out 0; have hfz20_1 := blk_frozen BK165.out 1; have hfz20_2 := blk_frozen BK165.out 2; have hfz20_3 := blk_frozen BK165.out 3; have hfz20_4 := blk_frozen BK165.out 4))
      (try simp only [Act.put, List.setIfInBounds_toArray, List.set_cons_zero, List.set_cons_succ])
      go_cut [31] (fun v31 wc => ∃ (kq : Nat) (x31_13 : Bool), v31 = .bool x31_13 ∧ Aside0 (ref11_contacts.j1 kq x5_1 x31_13 a0_0 a0_1 a0_2 a0_3 a1_0 l1_1 l1_2 a1_3 ((rd_T50 l1_1 x5_1).f0) ((rd_T50 l1_1 x5_1).f1.f0) ((rd_T50 l1_1 x5_1).f1.f1) ((rd_T50 l1_1 x5_1).f2) ((rd_T50 l1_1 x5_1).f3) = some r) ∧ Aside0 (kq ≤ k1) ∧ Aside0 (wc.heap[gb162]? = some (.cells #[.int .i64 a0_0, .int .i64 a0_1, .int .i64 a0_2, .int .i64 a0_3] 66 (0, 0))) ∧ Aside0 (wc.heap[gb163]? = some (.cells #[.string a1_0, (.slice (some ad164) l1_1.length c1_1), (.slice A1_2 l1_2.length c1_2), .string a1_3] 40 (0, 0))) ∧ Aside0 (wc.heap[gb165]? = some (.cells #[.int .i64 ((rd_T50 l1_1 x5_1).f0), .int .i64 ((rd_T50 l1_1 x5_1).f1.f0), .int .i64 ((rd_T50 l1_1 x5_1).f1.f1), .string ((rd_T50 l1_1 x5_1).f2), .string ((rd_T50 l1_1 x5_1).f3)] 50 (0, 0))) ∧ Aside0 (Below w.heap.size w wc))
      case first =>
       have H := HC14.out
       clear HC14
       by_cases c21 : ((rd_T50 l1_1 x5_1).f0) < 0
       ·rw [if_pos c21] at H
        have c21b0 : decide (((rd_T50 l1_1 x5_1).f0) < 0) = true := decide_eq_true c21
        clear c21
        (first | rw [c21b0] | (simp only [i64_w, i32_w]; rw [c21b0]) | rw [c21b3] | rw [c21b2] | skip)
        have H' := Aside0.mk H
        clear H
        have hnb22 := NB165_162.out
        have hnc22 := NB162_165.out
        have hnb23 := NB165_163.out
        have hnc23 := NB163_165.out
        have hcz24_0 : w17.cell? ⟨gb165, 0, none⟩ = some (.int .i64 0) := (blk_cell BK165.out 0).trans rfl
        have hcz24_1 : w17.cell? ⟨gb165, 1, none⟩ = some (.int .i64 0) := (blk_cell BK165.out 1).trans rfl
        have hcz24_2 : w17.cell? ⟨gb165, 2, none⟩ = some (.int .i64 0) := (blk_cell BK165.out 2).trans rfl
        have hcz24_3 : w17.cell? ⟨gb165, 3, none⟩ = some (.string (⟨#[]⟩ : ByteArray)) := (blk_cell BK165.out 3).trans rfl
        have hcz24_4 : w17.cell? ⟨gb165, 4, none⟩ = some (.string (⟨#[]⟩ : ByteArray)) := (blk_cell BK165.out 4).trans rfl
        have hfz24_0 := blk_frozen BK165.out 0
        have hfz24_1 := blk_frozen BK165.out 1
        have hfz24_2 := blk_frozen BK165.out 2
        have hfz24_3 := blk_frozen BK165.out 3
        have hfz24_4 := blk_frozen BK165.out 4
        go_wp2
        go_meet
        case rel => exact ⟨_, (true), (by first | rfl | (simp; done) | (simp [*]; done)), H', ⟨by have := HK1.out; first | omega | exact Nat.le_refl _⟩, ⟨by (with_reducible repeat (first | refine blk_drewN ?_ _ | refine blk_drew ?_ | refine blk_alloc ?_ _)); refine blk_far ?_ NB162_165.out _; (with_reducible repeat (first | refine blk_drewN ?_ _ | refine blk_drew ?_ | refine blk_alloc ?_ _)); refine blk_far ?_ NB162_165.out _; (with_reducible repeat (first | refine blk_drewN ?_ _ | refine blk_drew ?_ | refine blk_alloc ?_ _)); refine blk_far ?_ NB162_165.out _; (with_reducible repeat (first | refine blk_drewN ?_ _ | refine blk_drew ?_ | refine blk_alloc ?_ _)); refine blk_far ?_ NB162_165.out _; (with_reducible repeat (first | refine blk_drewN ?_ _ | refine blk_drew ?_ | refine blk_alloc ?_ _)); refine blk_far ?_ NB162_165.out _; (with_reducible repeat (first | refine blk_drewN ?_ _ | refine blk_drew ?_ | refine blk_alloc ?_ _)); exact BK162.out⟩, ⟨by (with_reducible repeat (first | refine blk_drewN ?_ _ | refine blk_drew ?_ | refine blk_alloc ?_ _)); refine blk_far ?_ NB163_165.out _; (with_reducible repeat (first | refine blk_drewN ?_ _ | refine blk_drew ?_ | refine blk_alloc ?_ _)); refine blk_far ?_ NB163_165.out _; (with_reducible repeat (first | refine blk_drewN ?_ _ | refine blk_drew ?_ | refine blk_alloc ?_ _)); refine blk_far ?_ NB163_165.out _; (with_reducible repeat (first | refine blk_drewN ?_ _ | refine blk_drew ?_ | refine blk_alloc ?_ _)); refine blk_far ?_ NB163_165.out _; (with_reducible repeat (first | refine blk_drewN ?_ _ | refine blk_drew ?_ | refine blk_alloc ?_ _)); refine blk_far ?_ NB163_165.out _; (with_reducible repeat (first | refine blk_drewN ?_ _ | refine blk_drew ?_ | refine blk_alloc ?_ _)); exact BK163.out⟩, ⟨by (with_reducible repeat (first | refine blk_drewN ?_ _ | refine blk_drew ?_ | refine blk_alloc ?_ _)); refine blk_put (cs := #[.int .i64 ((rd_T50 l1_1 x5_1).f0), .int .i64 ((rd_T50 l1_1 x5_1).f1.f0), .int .i64 ((rd_T50 l1_1 x5_1).f1.f1), .string ((rd_T50 l1_1 x5_1).f2), .string (⟨#[]⟩ : ByteArray)]) ?_ 4 _ rfl; (with_reducible repeat (first | refine blk_drewN ?_ _ | refine blk_drew ?_ | refine blk_alloc ?_ _)); refine blk_put (cs := #[.int .i64 ((rd_T50 l1_1 x5_1).f0), .int .i64 ((rd_T50 l1_1 x5_1).f1.f0), .int .i64 ((rd_T50 l1_1 x5_1).f1.f1), .string (⟨#[]⟩ : ByteArray), .string (⟨#[]⟩ : ByteArray)]) ?_ 3 _ rfl; (with_reducible repeat (first | refine blk_drewN ?_ _ | refine blk_drew ?_ | refine blk_alloc ?_ _)); refine blk_put (cs := #[.int .i64 ((rd_T50 l1_1 x5_1).f0), .int .i64 ((rd_T50 l1_1 x5_1).f1.f0), .int .i64 0, .string (⟨#[]⟩ : ByteArray), .string (⟨#[]⟩ : ByteArray)]) ?_ 2 _ rfl; (with_reducible repeat (first | refine blk_drewN ?_ _ | refine blk_drew ?_ | refine blk_alloc ?_ _)); refine blk_put (cs := #[.int .i64 ((rd_T50 l1_1 x5_1).f0), .int .i64 0, .int .i64 0, .string (⟨#[]⟩ : ByteArray), .string (⟨#[]⟩ : ByteArray)]) ?_ 1 _ rfl; (with_reducible repeat (first | refine blk_drewN ?_ _ | refine blk_drew ?_ | refine blk_alloc ?_ _)); refine blk_put (cs := #[.int .i64 0, .int .i64 0, .int .i64 0, .string (⟨#[]⟩ : ByteArray), .string (⟨#[]⟩ : ByteArray)]) ?_ 0 _ rfl; (with_reducible repeat (first | refine blk_drewN ?_ _ | refine blk_drew ?_ | refine blk_alloc ?_ _)); exact BK165.out⟩, ⟨by repeat (first | (with_reducible first | exact HB.out | apply below_alloc | apply pw_below_drewN | apply below_drew1 | refine below_set ?_ GE162.out | refine below_set ?_ GE163.out | refine below_set ?_ GE165.out) | exact HB.out)⟩⟩
       ·rw [if_neg c21] at H
        have c21b0 : decide (((rd_T50 l1_1 x5_1).f0) < 0) = false := decide_eq_false c21
        clear c21
        (first | rw [c21b0] | (simp only [i64_w, i32_w]; rw [c21b0]) | rw [c21b3] | rw [c21b2] | skip)
        have H' := Aside0.mk H
        clear H
        have hnb25 := NB165_162.out
        have hnc25 := NB162_165.out
        have hnb26 := NB165_163.out
        have hnc26 := NB163_165.out
        have hcz27_0 : w17.cell? ⟨gb165, 0, none⟩ = some (.int .i64 0) := (blk_cell BK165.out 0).trans rfl
        have hcz27_1 : w17.cell? ⟨gb165, 1, none⟩ = some (.int .i64 0) := (blk_cell BK165.out 1).trans rfl
        have hcz27_2 : w17.cell? ⟨gb165, 2, none⟩ = some (.int .i64 0) := (blk_cell BK165.out 2).trans rfl
        have hcz27_3 : w17.cell? ⟨gb165, 3, none⟩ = some (.string (⟨#[]⟩ : ByteArray)) := (blk_cell BK165.out 3).trans rfl
        have hcz27_4 : w17.cell? ⟨gb165, 4, none⟩ = some (.string (⟨#[]⟩ : ByteArray)) := (blk_cell BK165.out 4).trans rfl
        have hfz27_0 := blk_frozen BK165.out 0
        have hfz27_1 := blk_frozen BK165.out 1
        have hfz27_2 := blk_frozen BK165.out 2
        have hfz27_3 := blk_frozen BK165.out 3
        have hfz27_4 := blk_frozen BK165.out 4
        go_wp2
        go_meet
        case rel => exact ⟨_, (decide (((rd_T50 l1_1 x5_1).f0) > 3)), (by first | rfl | (simp; done) | (simp [*]; done)), H', ⟨by have := HK1.out; first | omega | exact Nat.le_refl _⟩, ⟨by (with_reducible repeat (first | refine blk_drewN ?_ _ | refine blk_drew ?_ | refine blk_alloc ?_ _)); refine blk_far ?_ NB162_165.out _; (with_reducible repeat (first | refine blk_drewN ?_ _ | refine blk_drew ?_ | refine blk_alloc ?_ _)); refine blk_far ?_ NB162_165.out _; (with_reducible repeat (first | refine blk_drewN ?_ _ | refine blk_drew ?_ | refine blk_alloc ?_ _)); refine blk_far ?_ NB162_165.out _; (with_reducible repeat (first | refine blk_drewN ?_ _ | refine blk_drew ?_ | refine blk_alloc ?_ _)); refine blk_far ?_ NB162_165.out _; (with_reducible repeat (first | refine blk_drewN ?_ _ | refine blk_drew ?_ | refine blk_alloc ?_ _)); refine blk_far ?_ NB162_165.out _; (with_reducible repeat (first | refine blk_drewN ?_ _ | refine blk_drew ?_ | refine blk_alloc ?_ _)); exact BK162.out⟩, ⟨by (with_reducible repeat (first | refine blk_drewN ?_ _ | refine blk_drew ?_ | refine blk_alloc ?_ _)); refine blk_far ?_ NB163_165.out _; (with_reducible repeat (first | refine blk_drewN ?_ _ | refine blk_drew ?_ | refine blk_alloc ?_ _)); refine blk_far ?_ NB163_165.out _; (with_reducible repeat (first | refine blk_drewN ?_ _ | refine blk_drew ?_ | refine blk_alloc ?_ _)); refine blk_far ?_ NB163_165.out _; (with_reducible repeat (first | refine blk_drewN ?_ _ | refine blk_drew ?_ | refine blk_alloc ?_ _)); refine blk_far ?_ NB163_165.out _; (with_reducible repeat (first | refine blk_drewN ?_ _ | refine blk_drew ?_ | refine blk_alloc ?_ _)); refine blk_far ?_ NB163_165.out _; (with_reducible repeat (first | refine blk_drewN ?_ _ | refine blk_drew ?_ | refine blk_alloc ?_ _)); exact BK163.out⟩, ⟨by (with_reducible repeat (first | refine blk_drewN ?_ _ | refine blk_drew ?_ | refine blk_alloc ?_ _)); refine blk_put (cs := #[.int .i64 ((rd_T50 l1_1 x5_1).f0), .int .i64 ((rd_T50 l1_1 x5_1).f1.f0), .int .i64 ((rd_T50 l1_1 x5_1).f1.f1), .string ((rd_T50 l1_1 x5_1).f2), .string (⟨#[]⟩ : ByteArray)]) ?_ 4 _ rfl; (with_reducible repeat (first | refine blk_drewN ?_ _ | refine blk_drew ?_ | refine blk_alloc ?_ _)); refine blk_put (cs := #[.int .i64 ((rd_T50 l1_1 x5_1).f0), .int .i64 ((rd_T50 l1_1 x5_1).f1.f0), .int .i64 ((rd_T50 l1_1 x5_1).f1.f1), .string (⟨#[]⟩ : ByteArray), .string (⟨#[]⟩ : ByteArray)]) ?_ 3 _ rfl; (with_reducible repeat (first | refine blk_drewN ?_ _ | refine blk_drew ?_ | refine blk_alloc ?_ _)); refine blk_put (cs := #[.int .i64 ((rd_T50 l1_1 x5_1).f0), .int .i64 ((rd_T50 l1_1 x5_1).f1.f0), .int .i64 0, .string (⟨#[]⟩ : ByteArray), .string (⟨#[]⟩ : ByteArray)]) ?_ 2 _ rfl; (with_reducible repeat (first | refine blk_drewN ?_ _ | refine blk_drew ?_ | refine blk_alloc ?_ _)); refine blk_put (cs := #[.int .i64 ((rd_T50 l1_1 x5_1).f0), .int .i64 0, .int .i64 0, .string (⟨#[]⟩ : ByteArray), .string (⟨#[]⟩ : ByteArray)]) ?_ 1 _ rfl; (with_reducible repeat (first | refine blk_drewN ?_ _ | refine blk_drew ?_ | refine blk_alloc ?_ _)); refine blk_put (cs := #[.int .i64 0, .int .i64 0, .int .i64 0, .string (⟨#[]⟩ : ByteArray), .string (⟨#[]⟩ : ByteArray)]) ?_ 0 _ rfl; (with_reducible repeat (first | refine blk_drewN ?_ _ | refine blk_drew ?_ | refine blk_alloc ?_ _)); exact BK165.out⟩, ⟨by repeat (first | (with_reducible first | exact HB.out | apply below_alloc | apply pw_below_drewN | apply below_drew1 | refine below_set ?_ GE162.out | refine below_set ?_ GE163.out | refine below_set ?_ GE165.out) | exact HB.out)⟩⟩
      case rest =>
       clear HC14
       try clear c1
       try clear p1
       try clear q1
       try clear hx1
       try clear c2
       try clear p2
       try clear c3
       try clear c3b0
       try clear c3b1
       try clear c5
       try clear c6
       try clear c10
       try clear c12
       try clear c12b0
       try clear c13
       try clear c13b0
       try clear c15
       try clear p16
       try clear q16
       try clear hx16
       try clear c18
       try clear c19
       try clear c21
       try clear c21b0
       try clear c21b2
       try clear c22
       try clear c23
       try clear c25
       try clear c26
       try clear hcz11_0
       try clear hcz11_1
       try clear hcz11_2
       try clear hcz11_3
       try clear hcz16_0
       try clear hcz16_1
       try clear hcz16_2
       try clear hcz16_3
       try clear hcz20_0
       try clear hcz20_1
       try clear hcz20_2
       try clear hcz20_3
       try clear hcz20_4
       try clear hcz24_0
       try clear hcz24_1
       try clear hcz24_2
       try clear hcz24_3
       try clear hcz24_4
       try clear hcz27_0
       try clear hcz27_1
       try clear hcz27_2
       try clear hcz27_3
       try clear hcz27_4
       try clear hcz7_0
       try clear hcz7_1
       try clear hcz7_2
       try clear hcz7_3
       try clear hfz11_0
       try clear hfz11_1
       try clear hfz11_2
       try clear hfz11_3
       try clear hfz16_0
       try clear hfz16_1
       try clear hfz16_2
       try clear hfz16_3
       try clear hfz20_0
       try clear hfz20_1
       try clear hfz20_2
       try clear hfz20_3
       try clear hfz20_4
       try clear hfz24_0
       try clear hfz24_1
       try clear hfz24_2
       try clear hfz24_3
       try clear hfz24_4
       try clear hfz27_0
       try clear hfz27_1
       try clear hfz27_2
       try clear hfz27_3
       try clear hfz27_4
       try clear hfz7_0
       try clear hfz7_1
       try clear hfz7_2
       try clear hfz7_3
       try clear hx164_0
       try clear hx164_1
       try clear hx164_2
       try clear hx164_3
       try clear hx164_4
       try clear p164
       try clear p2
       try clear q164
       obtain ⟨kq, x31_13, rfl, HA, HJ13, BK162, BK163, BK165, HB⟩ := hcut
       cases kq with
       | zero => exact absurd HA.out (by simp [ref11_contacts.j1])
       | succ kj13 =>
        have H := HA.out
        clear HA
        simp only [ref11_contacts.j1] at H
        by_cases c28 : x31_13 = true
        ·subst c28
         have H1 : (some 8) = some r := by rw [if_pos rfl] at H; exact H
         clear H
         have H := H1
         clear H1
         obtain rfl := Option.some.inj H
         go_wp2
         go_ret
         exact ⟨by first | rfl | (simp [errW_none, errW_some] <;> rfl) | (simp [*, errW_none, errW_some] <;> rfl), by repeat (first | (with_reducible first | exact HB.out | apply below_alloc | apply pw_below_drewN | apply below_drew1 | refine below_set ?_ GE162.out | refine below_set ?_ GE163.out | refine below_set ?_ GE165.out) | exact HB.out)⟩
        ·replace c28 := Bool.eq_false_iff.mpr c28
         subst c28
         have H1 : ((ref01_CheckAddr.f kj13 a0_0 a0_1 a0_2 a0_3 ((rd_T50 l1_1 x5_1).f1.f0) ((rd_T50 l1_1 x5_1).f1.f1)).bind fun t166 => (if t166 = 0 then ((ref09_IsName.f kj13 ((rd_T50 l1_1 x5_1).f2)).bind fun t167 => (if t167 = true then ((ref09_IsName.f kj13 ((rd_T50 l1_1 x5_1).f3)).bind fun t168 => (if t168 = true then (ref11_contacts.l0 kj13 (wrap64 (x5_1 + 1)) a0_0 a0_1 a0_2 a0_3 a1_0 l1_1 l1_2 a1_3) else (some 6))) else (some 6))) else (some t166))) = some r := by rw [if_neg (show ¬ (false = true) by decide)] at H; exact H
         clear H
         have H := H1
         clear H1
         replace H := Option.bind_eq_some_iff.mp H
         obtain ⟨t166, A290, H⟩ := H
         replace H : (if t166 = 0 then ((ref09_IsName.f kj13 ((rd_T50 l1_1 x5_1).f2)).bind fun t167 => (if t167 = true then ((ref09_IsName.f kj13 ((rd_T50 l1_1 x5_1).f3)).bind fun t168 => (if t168 = true then (ref11_contacts.l0 kj13 (wrap64 (x5_1 + 1)) a0_0 a0_1 a0_2 a0_3 a1_0 l1_1 l1_2 a1_3) else (some 6))) else (some 6))) else (some t166)) = some r := H
         have A29 := Aside0.mk A290
         clear A290
         by_cases c30 : t166 = 0
         ·rw [if_pos c30] at H
          have c30b0 : (t166 == 0) = true := beq_iff_eq.mpr c30
          have c30b1 : (t166 != 0) = false := bne_eq_false_iff_eq.mpr c30
          clear c30
          replace H := Option.bind_eq_some_iff.mp H
          obtain ⟨t167, A310, H⟩ := H
          replace H : (if t167 = true then ((ref09_IsName.f kj13 ((rd_T50 l1_1 x5_1).f3)).bind fun t168 => (if t168 = true then (ref11_contacts.l0 kj13 (wrap64 (x5_1 + 1)) a0_0 a0_1 a0_2 a0_3 a1_0 l1_1 l1_2 a1_3) else (some 6))) else (some 6)) = some r := H
          have A31 := Aside0.mk A310
          clear A310
          by_cases c32 : t167 = true
          ·subst c32
           have H1 : ((ref09_IsName.f kj13 ((rd_T50 l1_1 x5_1).f3)).bind fun t168 => (if t168 = true then (ref11_contacts.l0 kj13 (wrap64 (x5_1 + 1)) a0_0 a0_1 a0_2 a0_3 a1_0 l1_1 l1_2 a1_3) else (some 6))) = some r := by rw [if_pos rfl] at H; exact H
           clear H
           have H := H1
           clear H1
           replace H := Option.bind_eq_some_iff.mp H
           obtain ⟨t168, A330, H⟩ := H
           replace H : (if t168 = true then (ref11_contacts.l0 kj13 (wrap64 (x5_1 + 1)) a0_0 a0_1 a0_2 a0_3 a1_0 l1_1 l1_2 a1_3) else (some 6)) = some r := H
           have A33 := Aside0.mk A330
           clear A330
           by_cases c34 : t168 = true
           ·subst c34
            have H1 : (ref11_contacts.l0 kj13 (wrap64 (x5_1 + 1)) a0_0 a0_1 a0_2 a0_3 a1_0 l1_1 l1_2 a1_3) = some r := by rw [if_pos rfl] at H; exact H
            clear H
            have H := H1
            clear H1
            have H' := Aside0.mk H
            clear H
            have hnb35 := NB162_163.out
            have hnc35 := NB163_162.out
            have hnb36 := NB162_165.out
            have hnc36 := NB165_162.out
            have hcz37_0 : wc.cell? ⟨gb162, 0, none⟩ = some (.int .i64 a0_0) := (blk_cell BK162.out 0).trans rfl
            have hcz37_1 : wc.cell? ⟨gb162, 1, none⟩ = some (.int .i64 a0_1) := (blk_cell BK162.out 1).trans rfl
            have hcz37_2 : wc.cell? ⟨gb162, 2, none⟩ = some (.int .i64 a0_2) := (blk_cell BK162.out 2).trans rfl
            have hcz37_3 : wc.cell? ⟨gb162, 3, none⟩ = some (.int .i64 a0_3) := (blk_cell BK162.out 3).trans rfl
            have hfz37_0 := blk_frozen BK162.out 0
            have hfz37_1 := blk_frozen BK162.out 1
            have hfz37_2 := blk_frozen BK162.out 2
            have hfz37_3 := blk_frozen BK162.out 3
            have hnb38 := NB165_163.out
            have hnc38 := NB163_165.out
            have hcz39_0 : wc.cell? ⟨gb165, 0, none⟩ = some (.int .i64 ((rd_T50 l1_1 x5_1).f0)) := (blk_cell BK165.out 0).trans rfl
            have hcz39_1 : wc.cell? ⟨gb165, 1, none⟩ = some (.int .i64 ((rd_T50 l1_1 x5_1).f1.f0)) := (blk_cell BK165.out 1).trans rfl
            have hcz39_2 : wc.cell? ⟨gb165, 2, none⟩ = some (.int .i64 ((rd_T50 l1_1 x5_1).f1.f1)) := (blk_cell BK165.out 2).trans rfl
            have hcz39_3 : wc.cell? ⟨gb165, 3, none⟩ = some (.string ((rd_T50 l1_1 x5_1).f2)) := (blk_cell BK165.out 3).trans rfl
            have hcz39_4 : wc.cell? ⟨gb165, 4, none⟩ = some (.string ((rd_T50 l1_1 x5_1).f3)) := (blk_cell BK165.out 4).trans rfl
            have hfz39_0 := blk_frozen BK165.out 0
            have hfz39_1 := blk_frozen BK165.out 1
            have hfz39_2 := blk_frozen BK165.out 2
            have hfz39_3 := blk_frozen BK165.out 3
            have hfz39_4 := blk_frozen BK165.out 4
            go_wp2_with (first | ((with_reducible refine gate_callee (f := 75) rfl ?_); refine goesL_ (some 35) rfl rfl Tryd.func75 (by kernel_rfl) rfl #[.agg #[.int .i64 a0_0, .int .i64 a0_1, .int .i64 a0_2, .int .i64 a0_3], .agg #[.int .i64 ((rd_T50 l1_1 x5_1).f1.f0), .int .i64 ((rd_T50 l1_1 x5_1).f1.f1)]] rfl (by (try simp only [List.map_toArray, List.map_cons, List.map_nil]); first | done | rfl | (simp only [List.length_drop, List.length_take]; rfl)) ?_; (with_reducible refine (ref01_CheckAddr.calls kj13 a0_0 a0_1 a0_2 a0_3 ((rd_T50 l1_1 x5_1).f1.f0) ((rd_T50 l1_1 x5_1).f1.f1) t166 _ A29.out).mono ?_); rintro e w40 ⟨rfl, hb⟩; refine ⟨_, rfl, ?_⟩; have n0_ := Aside0.mk (blk_below (g := gb162) (o := .cells #[.int .i64 a0_0, .int .i64 a0_1, .int .i64 a0_2, .int .i64 a0_3] 66 (0, 0)) (by (with_reducible repeat (first | refine blk_drewN ?_ _ | refine blk_drew ?_ | refine blk_alloc ?_ _)); exact BK162.out) hb); have n1_ := Aside0.mk (blk_below (g := gb163) (o := .cells #[.string a1_0, .slice (some ad164) l1_1.length c1_1, .slice A1_2 l1_2.length c1_2, .string a1_3] 40 (0, 0)) (by (with_reducible repeat (first | refine blk_drewN ?_ _ | refine blk_drew ?_ | refine blk_alloc ?_ _)); exact BK163.out) hb); have n2_ := Aside0.mk (blk_below (g := gb165) (o := .cells #[.int .i64 ((rd_T50 l1_1 x5_1).f0), .int .i64 ((rd_T50 l1_1 x5_1).f1.f0), .int .i64 ((rd_T50 l1_1 x5_1).f1.f1), .string ((rd_T50 l1_1 x5_1).f2), .string ((rd_T50 l1_1 x5_1).f3)] 50 (0, 0)) (by (with_reducible repeat (first | refine blk_drewN ?_ _ | refine blk_drew ?_ | refine blk_alloc ?_ _)); exact BK165.out) hb); have n3_ := Aside0.mk (below_step (by repeat (first | (with_reducible first | exact HB.out | apply below_alloc | apply pw_below_drewN | apply below_drew1 | refine below_set ?_ GE162.out | refine below_set ?_ GE163.out | refine below_set ?_ GE165.out) | exact HB.out)) hb); clear BK162; clear BK163; clear BK165; clear HB; have BK162 := n0_; have BK163 := n1_; have BK165 := n2_; have HB := n3_; clear n0_ n1_ n2_ n3_; (try clear hb); (try clear hb2); (try clear hk); (try clear hi); have hcz41_0 : w40.cell? ⟨gb165, 0, none⟩ = some (.int .i64 ((rd_T50 l1_1 x5_1).f0)) := (blk_cell BK165.out 0).trans rfl; have hcz41_1 : w40.cell? ⟨gb165, 1, none⟩ = some (.int .i64 ((rd_T50 l1_1 x5_1).f1.f0)) := (blk_cell BK165.out 1).trans rfl; have hcz41_2 : w40.cell? ⟨gb165, 2, none⟩ = some (.int .i64 ((rd_T50 l1_1 x5_1).f1.f1)) := (blk_cell BK165.out 2).trans rfl; have hcz41_3 : w40.cell? ⟨gb165, 3, none⟩ = some (.string ((rd_T50 l1_1 x5_1).f2)) := (blk_cell BK165.out 3).trans rfl; have hcz41_4 : w40.cell? ⟨gb165, 4, none⟩ = some (.string ((rd_T50 l1_1 x5_1).f3)) := (blk_cell BK165.out 4).trans rfl; have hfz41_0 := blk_frozen BK165.out 0; have hfz41_1 := blk_frozen BK165.out 1; have hfz41_2 := blk_frozen BK165.out 2; have hfz41_3 := blk_frozen BK165.out 3; have hfz41_4 := blk_frozen BK165.out 4) | ((with_reducible refine gate_callee (f := 57) rfl ?_); refine goesL_ (some 41) rfl rfl Tryd.func57 (by kernel_rfl) rfl #[.string ((rd_T50 l1_1 x5_1).f2)] rfl (by (try simp only [List.map_toArray, List.map_cons, List.map_nil]); first | done | rfl | (simp only [List.length_drop, List.length_take]; rfl)) ?_; (with_reducible refine (ref09_IsName.calls kj13 ((rd_T50 l1_1 x5_1).f2) true _ A31.out).mono ?_); rintro e w' ⟨rfl, ⟨nd, rfl⟩⟩; refine ⟨_, rfl, ?_⟩) | (go_at_call 57; (with_reducible refine (ref09_IsName.calls kj13 ((rd_T50 l1_1 x5_1).f3) true _ A33.out).mono ?_); rintro e w' ⟨rfl, ⟨nd, rfl⟩⟩))
            go_roundg kj13
            case measure => have := HK1.out; have := HJ13.out; omega
            case rel => exact ⟨(wrap64 (x5_1 + 1)), (by first | rfl | (simp; done) | (simp [*]; done)), H', ⟨by have := HK1.out; have := HJ13.out; omega⟩, ⟨by (with_reducible repeat (first | refine blk_drewN ?_ _ | refine blk_drew ?_ | refine blk_alloc ?_ _)); exact BK162.out⟩, ⟨by (with_reducible repeat (first | refine blk_drewN ?_ _ | refine blk_drew ?_ | refine blk_alloc ?_ _)); exact BK163.out⟩, ⟨by repeat (first | (with_reducible first | exact HB.out | apply below_alloc | apply pw_below_drewN | apply below_drew1 | refine below_set ?_ GE162.out | refine below_set ?_ GE163.out | refine below_set ?_ GE165.out) | exact HB.out)⟩⟩
           ·replace c34 := Bool.eq_false_iff.mpr c34
            subst c34
            have H1 : (some 6) = some r := by rw [if_neg (show ¬ (false = true) by decide)] at H; exact H
            clear H
            have H := H1
            clear H1
            obtain rfl := Option.some.inj H
            have hnb42 := NB162_163.out
            have hnc42 := NB163_162.out
            have hnb43 := NB162_165.out
            have hnc43 := NB165_162.out
            have hcz44_0 : wc.cell? ⟨gb162, 0, none⟩ = some (.int .i64 a0_0) := (blk_cell BK162.out 0).trans rfl
            have hcz44_1 : wc.cell? ⟨gb162, 1, none⟩ = some (.int .i64 a0_1) := (blk_cell BK162.out 1).trans rfl
            have hcz44_2 : wc.cell? ⟨gb162, 2, none⟩ = some (.int .i64 a0_2) := (blk_cell BK162.out 2).trans rfl
            have hcz44_3 : wc.cell? ⟨gb162, 3, none⟩ = some (.int .i64 a0_3) := (blk_cell BK162.out 3).trans rfl
            have hfz44_0 := blk_frozen BK162.out 0
            have hfz44_1 := blk_frozen BK162.out 1
            have hfz44_2 := blk_frozen BK162.out 2
            have hfz44_3 := blk_frozen BK162.out 3
            have hnb45 := NB165_163.out
            have hnc45 := NB163_165.out
            have hcz46_0 : wc.cell? ⟨gb165, 0, none⟩ = some (.int .i64 ((rd_T50 l1_1 x5_1).f0)) := (blk_cell BK165.out 0).trans rfl
            have hcz46_1 : wc.cell? ⟨gb165, 1, none⟩ = some (.int .i64 ((rd_T50 l1_1 x5_1).f1.f0)) := (blk_cell BK165.out 1).trans rfl
            have hcz46_2 : wc.cell? ⟨gb165, 2, none⟩ = some (.int .i64 ((rd_T50 l1_1 x5_1).f1.f1)) := (blk_cell BK165.out 2).trans rfl
            have hcz46_3 : wc.cell? ⟨gb165, 3, none⟩ = some (.string ((rd_T50 l1_1 x5_1).f2)) := (blk_cell BK165.out 3).trans rfl
            have hcz46_4 : wc.cell? ⟨gb165, 4, none⟩ = some (.string ((rd_T50 l1_1 x5_1).f3)) := (blk_cell BK165.out 4).trans rfl
            have hfz46_0 := blk_frozen BK165.out 0
            have hfz46_1 := blk_frozen BK165.out 1
            have hfz46_2 := blk_frozen BK165.out 2
            have hfz46_3 := blk_frozen BK165.out 3
            have hfz46_4 := blk_frozen BK165.out 4
            go_wp2_with (first | ((with_reducible refine gate_callee (f := 75) rfl ?_); refine goesL_ (some 35) rfl rfl Tryd.func75 (by kernel_rfl) rfl #[.agg #[.int .i64 a0_0, .int .i64 a0_1, .int .i64 a0_2, .int .i64 a0_3], .agg #[.int .i64 ((rd_T50 l1_1 x5_1).f1.f0), .int .i64 ((rd_T50 l1_1 x5_1).f1.f1)]] rfl (by (try simp only [List.map_toArray, List.map_cons, List.map_nil]); first | done | rfl | (simp only [List.length_drop, List.length_take]; rfl)) ?_; (with_reducible refine (ref01_CheckAddr.calls kj13 a0_0 a0_1 a0_2 a0_3 ((rd_T50 l1_1 x5_1).f1.f0) ((rd_T50 l1_1 x5_1).f1.f1) t166 _ A29.out).mono ?_); rintro e w47 ⟨rfl, hb⟩; refine ⟨_, rfl, ?_⟩; have n0_ := Aside0.mk (blk_below (g := gb162) (o := .cells #[.int .i64 a0_0, .int .i64 a0_1, .int .i64 a0_2, .int .i64 a0_3] 66 (0, 0)) (by (with_reducible repeat (first | refine blk_drewN ?_ _ | refine blk_drew ?_ | refine blk_alloc ?_ _)); exact BK162.out) hb); have n1_ := Aside0.mk (blk_below (g := gb163) (o := .cells #[.string a1_0, .slice (some ad164) l1_1.length c1_1, .slice A1_2 l1_2.length c1_2, .string a1_3] 40 (0, 0)) (by (with_reducible repeat (first | refine blk_drewN ?_ _ | refine blk_drew ?_ | refine blk_alloc ?_ _)); exact BK163.out) hb); have n2_ := Aside0.mk (blk_below (g := gb165) (o := .cells #[.int .i64 ((rd_T50 l1_1 x5_1).f0), .int .i64 ((rd_T50 l1_1 x5_1).f1.f0), .int .i64 ((rd_T50 l1_1 x5_1).f1.f1), .string ((rd_T50 l1_1 x5_1).f2), .string ((rd_T50 l1_1 x5_1).f3)] 50 (0, 0)) (by (with_reducible repeat (first | refine blk_drewN ?_ _ | refine blk_drew ?_ | refine blk_alloc ?_ _)); exact BK165.out) hb); have n3_ := Aside0.mk (below_step (by repeat (first | (with_reducible first | exact HB.out | apply below_alloc | apply pw_below_drewN | apply below_drew1 | refine below_set ?_ GE162.out | refine below_set ?_ GE163.out | refine below_set ?_ GE165.out) | exact HB.out)) hb); clear BK162; clear BK163; clear BK165; clear HB; have BK162 := n0_; have BK163 := n1_; have BK165 := n2_; have HB := n3_; clear n0_ n1_ n2_ n3_; (try clear hb); (try clear hb2); (try clear hk); (try clear hi); have hcz48_0 : w47.cell? ⟨gb165, 0, none⟩ = some (.int .i64 ((rd_T50 l1_1 x5_1).f0)) := (blk_cell BK165.out 0).trans rfl; have hcz48_1 : w47.cell? ⟨gb165, 1, none⟩ = some (.int .i64 ((rd_T50 l1_1 x5_1).f1.f0)) := (blk_cell BK165.out 1).trans rfl; have hcz48_2 : w47.cell? ⟨gb165, 2, none⟩ = some (.int .i64 ((rd_T50 l1_1 x5_1).f1.f1)) := (blk_cell BK165.out 2).trans rfl; have hcz48_3 : w47.cell? ⟨gb165, 3, none⟩ = some (.string ((rd_T50 l1_1 x5_1).f2)) := (blk_cell BK165.out 3).trans rfl; have hcz48_4 : w47.cell? ⟨gb165, 4, none⟩ = some (.string ((rd_T50 l1_1 x5_1).f3)) := (blk_cell BK165.out 4).trans rfl; have hfz48_0 := blk_frozen BK165.out 0; have hfz48_1 := blk_frozen BK165.out 1; have hfz48_2 := blk_frozen BK165.out 2; have hfz48_3 := blk_frozen BK165.out 3; have hfz48_4 := blk_frozen BK165.out 4) | ((with_reducible refine gate_callee (f := 57) rfl ?_); refine goesL_ (some 41) rfl rfl Tryd.func57 (by kernel_rfl) rfl #[.string ((rd_T50 l1_1 x5_1).f2)] rfl (by (try simp only [List.map_toArray, List.map_cons, List.map_nil]); first | done | rfl | (simp only [List.length_drop, List.length_take]; rfl)) ?_; (with_reducible refine (ref09_IsName.calls kj13 ((rd_T50 l1_1 x5_1).f2) true _ A31.out).mono ?_); rintro e w' ⟨rfl, ⟨nd, rfl⟩⟩; refine ⟨_, rfl, ?_⟩) | (go_at_call 57; (with_reducible refine (ref09_IsName.calls kj13 ((rd_T50 l1_1 x5_1).f3) false _ A33.out).mono ?_); rintro e w' ⟨rfl, ⟨nd, rfl⟩⟩))
            go_ret
            exact ⟨by first | rfl | (simp [errW_none, errW_some] <;> rfl) | (simp [*, errW_none, errW_some] <;> rfl), by repeat (first | (with_reducible first | exact HB.out | apply below_alloc | apply pw_below_drewN | apply below_drew1 | refine below_set ?_ GE162.out | refine below_set ?_ GE163.out | refine below_set ?_ GE165.out) | exact HB.out)⟩
          ·replace c32 := Bool.eq_false_iff.mpr c32
           subst c32
           have H1 : (some 6) = some r := by rw [if_neg (show ¬ (false = true) by decide)] at H; exact H
           clear H
           have H := H1
           clear H1
           obtain rfl := Option.some.inj H
           have hnb49 := NB162_163.out
           have hnc49 := NB163_162.out
           have hnb50 := NB162_165.out
           have hnc50 := NB165_162.out
           have hcz51_0 : wc.cell? ⟨gb162, 0, none⟩ = some (.int .i64 a0_0) := (blk_cell BK162.out 0).trans rfl
           have hcz51_1 : wc.cell? ⟨gb162, 1, none⟩ = some (.int .i64 a0_1) := (blk_cell BK162.out 1).trans rfl
           have hcz51_2 : wc.cell? ⟨gb162, 2, none⟩ = some (.int .i64 a0_2) := (blk_cell BK162.out 2).trans rfl
           have hcz51_3 : wc.cell? ⟨gb162, 3, none⟩ = some (.int .i64 a0_3) := (blk_cell BK162.out 3).trans rfl
           have hfz51_0 := blk_frozen BK162.out 0
           have hfz51_1 := blk_frozen BK162.out 1
           have hfz51_2 := blk_frozen BK162.out 2
           have hfz51_3 := blk_frozen BK162.out 3
           have hnb52 := NB165_163.out
           have hnc52 := NB163_165.out
           have hcz53_0 : wc.cell? ⟨gb165, 0, none⟩ = some (.int .i64 ((rd_T50 l1_1 x5_1).f0)) := (blk_cell BK165.out 0).trans rfl
           have hcz53_1 : wc.cell? ⟨gb165, 1, none⟩ = some (.int .i64 ((rd_T50 l1_1 x5_1).f1.f0)) := (blk_cell BK165.out 1).trans rfl
           have hcz53_2 : wc.cell? ⟨gb165, 2, none⟩ = some (.int .i64 ((rd_T50 l1_1 x5_1).f1.f1)) := (blk_cell BK165.out 2).trans rfl
           have hcz53_3 : wc.cell? ⟨gb165, 3, none⟩ = some (.string ((rd_T50 l1_1 x5_1).f2)) := (blk_cell BK165.out 3).trans rfl
           have hcz53_4 : wc.cell? ⟨gb165, 4, none⟩ = some (.string ((rd_T50 l1_1 x5_1).f3)) := (blk_cell BK165.out 4).trans rfl
           have hfz53_0 := blk_frozen BK165.out 0
           have hfz53_1 := blk_frozen BK165.out 1
           have hfz53_2 := blk_frozen BK165.out 2
           have hfz53_3 := blk_frozen BK165.out 3
           have hfz53_4 := blk_frozen BK165.out 4
           go_wp2_with (first | ((with_reducible refine gate_callee (f := 75) rfl ?_); refine goesL_ (some 35) rfl rfl Tryd.func75 (by kernel_rfl) rfl #[.agg #[.int .i64 a0_0, .int .i64 a0_1, .int .i64 a0_2, .int .i64 a0_3], .agg #[.int .i64 ((rd_T50 l1_1 x5_1).f1.f0), .int .i64 ((rd_T50 l1_1 x5_1).f1.f1)]] rfl (by (try simp only [List.map_toArray, List.map_cons, List.map_nil]); first | done | rfl | (simp only [List.length_drop, List.length_take]; rfl)) ?_; (with_reducible refine (ref01_CheckAddr.calls kj13 a0_0 a0_1 a0_2 a0_3 ((rd_T50 l1_1 x5_1).f1.f0) ((rd_T50 l1_1 x5_1).f1.f1) t166 _ A29.out).mono ?_); rintro e w54 ⟨rfl, hb⟩; refine ⟨_, rfl, ?_⟩; have n0_ := Aside0.mk (blk_below (g := gb162) (o := .cells #[.int .i64 a0_0, .int .i64 a0_1, .int .i64 a0_2, .int .i64 a0_3] 66 (0, 0)) (by (with_reducible repeat (first | refine blk_drewN ?_ _ | refine blk_drew ?_ | refine blk_alloc ?_ _)); exact BK162.out) hb); have n1_ := Aside0.mk (blk_below (g := gb163) (o := .cells #[.string a1_0, .slice (some ad164) l1_1.length c1_1, .slice A1_2 l1_2.length c1_2, .string a1_3] 40 (0, 0)) (by (with_reducible repeat (first | refine blk_drewN ?_ _ | refine blk_drew ?_ | refine blk_alloc ?_ _)); exact BK163.out) hb); have n2_ := Aside0.mk (blk_below (g := gb165) (o := .cells #[.int .i64 ((rd_T50 l1_1 x5_1).f0), .int .i64 ((rd_T50 l1_1 x5_1).f1.f0), .int .i64 ((rd_T50 l1_1 x5_1).f1.f1), .string ((rd_T50 l1_1 x5_1).f2), .string ((rd_T50 l1_1 x5_1).f3)] 50 (0, 0)) (by (with_reducible repeat (first | refine blk_drewN ?_ _ | refine blk_drew ?_ | refine blk_alloc ?_ _)); exact BK165.out) hb); have n3_ := Aside0.mk (below_step (by repeat (first | (with_reducible first | exact HB.out | apply below_alloc | apply pw_below_drewN | apply below_drew1 | refine below_set ?_ GE162.out | refine below_set ?_ GE163.out | refine below_set ?_ GE165.out) | exact HB.out)) hb); clear BK162; clear BK163; clear BK165; clear HB; have BK162 := n0_; have BK163 := n1_; have BK165 := n2_; have HB := n3_; clear n0_ n1_ n2_ n3_; (try clear hb); (try clear hb2); (try clear hk); (try clear hi); have hcz55_0 : w54.cell? ⟨gb165, 0, none⟩ = some (.int .i64 ((rd_T50 l1_1 x5_1).f0)) := (blk_cell BK165.out 0).trans rfl; have hcz55_1 : w54.cell? ⟨gb165, 1, none⟩ = some (.int .i64 ((rd_T50 l1_1 x5_1).f1.f0)) := (blk_cell BK165.out 1).trans rfl; have hcz55_2 : w54.cell? ⟨gb165, 2, none⟩ = some (.int .i64 ((rd_T50 l1_1 x5_1).f1.f1)) := (blk_cell BK165.out 2).trans rfl; have hcz55_3 : w54.cell? ⟨gb165, 3, none⟩ = some (.string ((rd_T50 l1_1 x5_1).f2)) := (blk_cell BK165.out 3).trans rfl; have hcz55_4 : w54.cell? ⟨gb165, 4, none⟩ = some (.string ((rd_T50 l1_1 x5_1).f3)) := (blk_cell BK165.out 4).trans rfl; have hfz55_0 := blk_frozen BK165.out 0; have hfz55_1 := blk_frozen BK165.out 1; have hfz55_2 := blk_frozen BK165.out 2; have hfz55_3 := blk_frozen BK165.out 3; have hfz55_4 := blk_frozen BK165.out 4) | ((with_reducible refine gate_callee (f := 57) rfl ?_); refine goesL_ (some 41) rfl rfl Tryd.func57 (by kernel_rfl) rfl #[.string ((rd_T50 l1_1 x5_1).f2)] rfl (by (try simp only [List.map_toArray, List.map_cons, List.map_nil]); first | done | rfl | (simp only [List.length_drop, List.length_take]; rfl)) ?_; (with_reducible refine (ref09_IsName.calls kj13 ((rd_T50 l1_1 x5_1).f2) false _ A31.out).mono ?_); rintro e w' ⟨rfl, ⟨nd, rfl⟩⟩; refine ⟨_, rfl, ?_⟩))
           go_ret
           exact ⟨by first | rfl | (simp [errW_none, errW_some] <;> rfl) | (simp [*, errW_none, errW_some] <;> rfl), by repeat (first | (with_reducible first | exact HB.out | apply below_alloc | apply pw_below_drewN | apply below_drew1 | refine below_set ?_ GE162.out | refine below_set ?_ GE163.out | refine below_set ?_ GE165.out) | exact HB.out)⟩
         ·rw [if_neg c30] at H
          have c30b0 : (t166 == 0) = false := beq_eq_false_iff_ne.mpr c30
          have c30b1 : (t166 != 0) = true := bne_iff_ne.mpr c30
          obtain rfl := Option.some.inj H
          have hnb56 := NB162_163.out
          have hnc56 := NB163_162.out
          have hnb57 := NB162_165.out
          have hnc57 := NB165_162.out
          have hcz58_0 : wc.cell? ⟨gb162, 0, none⟩ = some (.int .i64 a0_0) := (blk_cell BK162.out 0).trans rfl
          have hcz58_1 : wc.cell? ⟨gb162, 1, none⟩ = some (.int .i64 a0_1) := (blk_cell BK162.out 1).trans rfl
          have hcz58_2 : wc.cell? ⟨gb162, 2, none⟩ = some (.int .i64 a0_2) := (blk_cell BK162.out 2).trans rfl
          have hcz58_3 : wc.cell? ⟨gb162, 3, none⟩ = some (.int .i64 a0_3) := (blk_cell BK162.out 3).trans rfl
          have hfz58_0 := blk_frozen BK162.out 0
          have hfz58_1 := blk_frozen BK162.out 1
          have hfz58_2 := blk_frozen BK162.out 2
          have hfz58_3 := blk_frozen BK162.out 3
          have hnb59 := NB165_163.out
          have hnc59 := NB163_165.out
          have hcz60_0 : wc.cell? ⟨gb165, 0, none⟩ = some (.int .i64 ((rd_T50 l1_1 x5_1).f0)) := (blk_cell BK165.out 0).trans rfl
          have hcz60_1 : wc.cell? ⟨gb165, 1, none⟩ = some (.int .i64 ((rd_T50 l1_1 x5_1).f1.f0)) := (blk_cell BK165.out 1).trans rfl
          have hcz60_2 : wc.cell? ⟨gb165, 2, none⟩ = some (.int .i64 ((rd_T50 l1_1 x5_1).f1.f1)) := (blk_cell BK165.out 2).trans rfl
          have hcz60_3 : wc.cell? ⟨gb165, 3, none⟩ = some (.string ((rd_T50 l1_1 x5_1).f2)) := (blk_cell BK165.out 3).trans rfl
          have hcz60_4 : wc.cell? ⟨gb165, 4, none⟩ = some (.string ((rd_T50 l1_1 x5_1).f3)) := (blk_cell BK165.out 4).trans rfl
          have hfz60_0 := blk_frozen BK165.out 0
          have hfz60_1 := blk_frozen BK165.out 1
          have hfz60_2 := blk_frozen BK165.out 2
          have hfz60_3 := blk_frozen BK165.out 3
          have hfz60_4 := blk_frozen BK165.out 4
          go_wp2_with (first | ((with_reducible refine gate_callee (f := 75) rfl ?_); refine goesL_ (some 35) rfl rfl Tryd.func75 (by kernel_rfl) rfl #[.agg #[.int .i64 a0_0, .int .i64 a0_1, .int .i64 a0_2, .int .i64 a0_3], .agg #[.int .i64 ((rd_T50 l1_1 x5_1).f1.f0), .int .i64 ((rd_T50 l1_1 x5_1).f1.f1)]] rfl (by (try simp only [List.map_toArray, List.map_cons, List.map_nil]); first | done | rfl | (simp only [List.length_drop, List.length_take]; rfl)) ?_; (with_reducible refine (ref01_CheckAddr.calls kj13 a0_0 a0_1 a0_2 a0_3 ((rd_T50 l1_1 x5_1).f1.f0) ((rd_T50 l1_1 x5_1).f1.f1) t166 _ A29.out).mono ?_); rintro e w61 ⟨rfl, hb⟩; refine ⟨_, rfl, ?_⟩; have n0_ := Aside0.mk (blk_below (g := gb162) (o := .cells #[.int .i64 a0_0, .int .i64 a0_1, .int .i64 a0_2, .int .i64 a0_3] 66 (0, 0)) (by (with_reducible repeat (first | refine blk_drewN ?_ _ | refine blk_drew ?_ | refine blk_alloc ?_ _)); exact BK162.out) hb); have n1_ := Aside0.mk (blk_below (g := gb163) (o := .cells #[.string a1_0, .slice (some ad164) l1_1.length c1_1, .slice A1_2 l1_2.length c1_2, .string a1_3] 40 (0, 0)) (by (with_reducible repeat (first | refine blk_drewN ?_ _ | refine blk_drew ?_ | refine blk_alloc ?_ _)); exact BK163.out) hb); have n2_ := Aside0.mk (blk_below (g := gb165) (o := .cells #[.int .i64 ((rd_T50 l1_1 x5_1).f0), .int .i64 ((rd_T50 l1_1 x5_1).f1.f0), .int .i64 ((rd_T50 l1_1 x5_1).f1.f1), .string ((rd_T50 l1_1 x5_1).f2), .string ((rd_T50 l1_1 x5_1).f3)] 50 (0, 0)) (by (with_reducible repeat (first | refine blk_drewN ?_ _ | refine blk_drew ?_ | refine blk_alloc ?_ _)); exact BK165.out) hb); have n3_ := Aside0.mk (below_step (by repeat (first | (with_reducible first | exact HB.out | apply below_alloc | apply pw_below_drewN | apply below_drew1 | refine below_set ?_ GE162.out | refine below_set ?_ GE163.out | refine below_set ?_ GE165.out) | exact HB.out)) hb); clear BK162; clear BK163; clear BK165; clear HB; have BK162 := n0_; have BK163 := n1_; have BK165 := n2_; have HB := n3_; clear n0_ n1_ n2_ n3_; (try clear hb); (try clear hb2); (try clear hk); (try clear hi)))
          go_ret
          exact ⟨by first | rfl | (simp [errW_none, errW_some] <;> rfl) | (simp [*, errW_none, errW_some] <;> rfl), by repeat (first | (with_reducible first | exact HB.out | apply below_alloc | apply pw_below_drewN | apply below_drew1 | refine below_set ?_ GE162.out | refine below_set ?_ GE163.out | refine below_set ?_ GE165.out) | exact HB.out)⟩
     ·rw [if_neg c13] at H
      exact absurd H (by simp)
    ·rw [if_neg c12] at H
     have c12b0 : decide (x5_1 < (l1_1.length : Int)) = false := decide_eq_false c12
     clear c12
     obtain rfl := Option.some.inj H
     have hnb62 := NB163_162.out
     have hnc62 := NB162_163.out
     have hcz63_0 : wr.cell? ⟨gb163, 0, none⟩ = some (.string a1_0) := (blk_cell BK163.out 0).trans rfl
     have hcz63_1 : wr.cell? ⟨gb163, 1, none⟩ = some (.slice A1_1 l1_1.length c1_1) := (blk_cell BK163.out 1).trans rfl
     have hcz63_2 : wr.cell? ⟨gb163, 2, none⟩ = some (.slice A1_2 l1_2.length c1_2) := (blk_cell BK163.out 2).trans rfl
     have hcz63_3 : wr.cell? ⟨gb163, 3, none⟩ = some (.string a1_3) := (blk_cell BK163.out 3).trans rfl
     have hfz63_0 := blk_frozen BK163.out 0
     have hfz63_1 := blk_frozen BK163.out 1
     have hfz63_2 := blk_frozen BK163.out 2
     have hfz63_3 := blk_frozen BK163.out 3
     go_wp2
     go_ret
     exact ⟨by first | rfl | (simp [errW_none, errW_some] <;> rfl) | (simp [*, errW_none, errW_some] <;> rfl), by repeat (first | (with_reducible first | exact HB.out | apply below_alloc | apply pw_below_drewN | apply below_drew1 | refine below_set ?_ GE162.out | refine below_set ?_ GE163.out) | exact HB.out)⟩

end Go.Proofs.YtmcmpjkfdkogiaaDoor.P

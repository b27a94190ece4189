-- Out of the translation's print, by a program. Lean checks it.
import Derived.Test.YtmcmpjkfdkogiaaDoorPQ0
import Derived.Test.YtmcmpjkfdkogiaaDoorPQ10
import Derived.Test.YtmcmpjkfdkogiaaDoorPQ7
import Derived.Test.YtmcmpjkfdkogiaaDoorPQ9
namespace Go.Proofs.YtmcmpjkfdkogiaaDoor.P
open Go.RowKit Go.Proofs.YtmcmpjkfdkogiaaDoorW.PrintWords Go.Proofs.YtmcmpjkfdkogiaaDoorW.PrintLast Go.Proofs.YtmcmpjkfdkogiaaDoorW.PrintMore
attribute [local go_sem] max2_int min2_int max_two min_two max_three min_three max_four min_four   -- for this text's walks alone
set_option linter.unusedVariables false
set_option linter.unusedSimpArgs false

/-! ### ref11_rung: function 29 -/
mutual
def ref11_rung.j1 : Nat → Int → Int → Int → Int → ByteArray → List (S50) → List (S53) → ByteArray → Option (Int)
 | 0, _, _, _, _, _, _, _, _ => none
 | k + 1, x176000, x176001, x176002, x176003, x178000, x178001, x178002, x178003 => (ref11_contacts.f k x176000 x176001 x176002 x176003 x178000 x178001 x178002 x178003).bind fun t180 => (if t180 = 0 then ((ref11_coils.f k x176000 x176001 x176002 x176003 x178000 x178001 x178002 x178003).bind fun t181 => (if t181 = 0 then (if x178003.toList = ([] : List UInt8) then (some t181) else ((ref09_IsName.f k x178003).bind fun t182 => (if t182 = true then (some t181) else (some 6)))) else (some t181))) else (some t180))
def ref11_rung.l0 : Nat → Int → Int → Int → Int → Int → List (S40) → Int → Int → Int → Int → ByteArray → List (S50) → List (S53) → ByteArray → Option (Int)
 | 0, _, _, _, _, _, _, _, _, _, _, _, _, _, _ => none
 | k + 1, x1, x7, x175000, x175001, x175002, x175003, x176000, x176001, x176002, x176003, x178000, x178001, x178002, x178003 => if x7 < x1 then (if 0 ≤ x7 then (if x7 < (x175003.length : Int) then (if ((rd_T40 x175003 x7).f0).toList = x178000.toList then (some 9) else (ref11_rung.l0 k x1 (wrap64 (x7 + 1)) x175000 x175001 x175002 x175003 x176000 x176001 x176002 x176003 x178000 x178001 x178002 x178003)) else (none)) else (none)) else (ref11_rung.j1 k x176000 x176001 x176002 x176003 x178000 x178001 x178002 x178003)
end
def ref11_rung.f (k : Nat) (a0_0 : Int) (a0_1 : Int) (a0_2 : Int) (l0_3 : List (S40)) (a1 : Int) : Option (Int) := if 0 ≤ a1 then (if a1 < (l0_3.length : Int) then (if ((rd_T40 l0_3 a1).f0).toList = ([] : List UInt8) then (ref11_rung.j1 k a0_0 a0_1 a0_2 0 ((rd_T40 l0_3 a1).f0) ((rd_T40 l0_3 a1).f1) ((rd_T40 l0_3 a1).f2) ((rd_T40 l0_3 a1).f3)) else ((ref09_IsName.f k ((rd_T40 l0_3 a1).f0)).bind fun t178 => (if t178 = true then (ref11_rung.l0 k a1 0 a0_0 a0_1 a0_2 l0_3 a0_0 a0_1 a0_2 0 ((rd_T40 l0_3 a1).f0) ((rd_T40 l0_3 a1).f1) ((rd_T40 l0_3 a1).f2) ((rd_T40 l0_3 a1).f3)) else (some 6)))) else (none)) else (none)
theorem ref11_rung.mono_l : ∀ k, (∀ y0 y1 y2 y3 y4 y5 y6 y7, LeO (ref11_rung.j1 k y0 y1 y2 y3 y4 y5 y6 y7) (ref11_rung.j1 (k + 1) y0 y1 y2 y3 y4 y5 y6 y7)) ∧ (∀ y0 y1 y2 y3 y4 y5 y6 y7 y8 y9 y10 y11 y12 y13, LeO (ref11_rung.l0 k y0 y1 y2 y3 y4 y5 y6 y7 y8 y9 y10 y11 y12 y13) (ref11_rung.l0 (k + 1) y0 y1 y2 y3 y4 y5 y6 y7 y8 y9 y10 y11 y12 y13))
 | 0 => ⟨fun _ _ _ _ _ _ _ _ r h => by simp [ref11_rung.j1] at h, fun _ _ _ _ _ _ _ _ _ _ _ _ _ _ r h => by simp [ref11_rung.l0] at h⟩
 | k + 1 => by
  obtain ⟨ih0, ih1⟩ := ref11_rung.mono_l k
  refine ⟨?_, ?_⟩
  ·intro y0 y1 y2 y3 y4 y5 y6 y7
   unfold ref11_rung.j1
   repeat' first
   | (with_reducible exact ih0 _ _ _ _ _ _ _ _)
   | (with_reducible exact ih1 _ _ _ _ _ _ _ _ _ _ _ _ _ _)
   | (with_reducible exact ref09_IsName.mono _ _)
   | (with_reducible exact ref11_coils.mono _ _ _ _ _ _ _ _ _)
   | (with_reducible exact ref11_contacts.mono _ _ _ _ _ _ _ _ _)
   | (with_reducible exact LeO.refl _)
   | (with_reducible exact LeO.none _)
   | (with_reducible refine LeO.ite ?_ ?_)
   | (with_reducible refine LeO.bind ?_ (fun _ => ?_))
   | exact ih0 _ _ _ _ _ _ _ _
   | exact ih1 _ _ _ _ _ _ _ _ _ _ _ _ _ _
   | exact ref09_IsName.mono _ _
   | exact ref11_coils.mono _ _ _ _ _ _ _ _ _
   | exact ref11_contacts.mono _ _ _ _ _ _ _ _ _
   | exact LeO.none _
   | refine LeO.ite ?_ ?_
   | refine LeO.bind ?_ (fun _ => ?_)
  ·intro y0 y1 y2 y3 y4 y5 y6 y7 y8 y9 y10 y11 y12 y13
   unfold ref11_rung.l0
   repeat' first
   | (with_reducible exact ih0 _ _ _ _ _ _ _ _)
   | (with_reducible exact ih1 _ _ _ _ _ _ _ _ _ _ _ _ _ _)
   | (with_reducible exact ref09_IsName.mono _ _)
   | (with_reducible exact ref11_coils.mono _ _ _ _ _ _ _ _ _)
   | (with_reducible exact ref11_contacts.mono _ _ _ _ _ _ _ _ _)
   | (with_reducible exact LeO.refl _)
   | (with_reducible exact LeO.none _)
   | (with_reducible refine LeO.ite ?_ ?_)
   | (with_reducible refine LeO.bind ?_ (fun _ => ?_))
   | exact ih0 _ _ _ _ _ _ _ _
   | exact ih1 _ _ _ _ _ _ _ _ _ _ _ _ _ _
   | exact ref09_IsName.mono _ _
   | exact ref11_coils.mono _ _ _ _ _ _ _ _ _
   | exact ref11_contacts.mono _ _ _ _ _ _ _ _ _
   | exact LeO.none _
   | refine LeO.ite ?_ ?_
   | refine LeO.bind ?_ (fun _ => ?_)
theorem ref11_rung.mono : ∀ a0 a1 a2 a3 a4 k, LeO (ref11_rung.f k a0 a1 a2 a3 a4) (ref11_rung.f (k + 1) a0 a1 a2 a3 a4) := by
 intro a0 a1 a2 a3 a4 k
 obtain ⟨ih0, ih1⟩ := ref11_rung.mono_l k
 unfold ref11_rung.f
 repeat' first
   | (with_reducible exact ih0 _ _ _ _ _ _ _ _)
   | (with_reducible exact ih1 _ _ _ _ _ _ _ _ _ _ _ _ _ _)
   | (with_reducible exact ref09_IsName.mono _ _)
   | (with_reducible exact ref11_coils.mono _ _ _ _ _ _ _ _ _)
   | (with_reducible exact ref11_contacts.mono _ _ _ _ _ _ _ _ _)
   | (with_reducible exact LeO.refl _)
   | (with_reducible exact LeO.none _)
   | (with_reducible refine LeO.ite ?_ ?_)
   | (with_reducible refine LeO.bind ?_ (fun _ => ?_))
   | exact ih0 _ _ _ _ _ _ _ _
   | exact ih1 _ _ _ _ _ _ _ _ _ _ _ _ _ _
   | exact ref09_IsName.mono _ _
   | exact ref11_coils.mono _ _ _ _ _ _ _ _ _
   | exact ref11_contacts.mono _ _ _ _ _ _ _ _ _
   | exact LeO.none _
   | refine LeO.ite ?_ ?_
   | refine LeO.bind ?_ (fun _ => ?_)
set_option maxHeartbeats 8000000 in
set_option maxRecDepth 100000 in
theorem ref11_rung.calls (k : Nat) (a0_0 : Int) (a0_1 : Int) (a0_2 : Int) (A0_3 : Option Addr) (c0_3 : Nat) (l0_3 : List (S40)) (a1 : Int) (r : Int) (w : World) (hr0_3 : Kd.C k40 w A0_3 l0_3.length l0_3) (hc0_3 : l0_3.length ≤ c0_3) (h : ref11_rung.f k a0_0 a0_1 a0_2 l0_3 a1 = some r) :
  Calls Tryd.prog 29 #[.agg #[.int .i64 a0_0, .int .i64 a0_1, .int .i64 a0_2, .slice A0_3 l0_3.length c0_3], .int .i64 a1] w fun e w' => e = .returned (.int .i64 r) ∧ Below w.heap.size w w' := by
 have hu24 := Tryd.underlying24
 have hu66 := Tryd.underlying66
 have hu40 := Tryd.underlying40
 have HR0_3 := Aside0.mk hr0_3
 have HC0_3 := Aside0.mk hc0_3
 clear hr0_3 hc0_3
 have HB := Aside0.mk (Below.refl w.heap.size w)
 have H : (if 0 ≤ a1 then (if a1 < (l0_3.length : Int) then (if ((rd_T40 l0_3 a1).f0).toList = ([] : List UInt8) then (ref11_rung.j1 k a0_0 a0_1 a0_2 0 ((rd_T40 l0_3 a1).f0) ((rd_T40 l0_3 a1).f1) ((rd_T40 l0_3 a1).f2) ((rd_T40 l0_3 a1).f3)) else ((ref09_IsName.f k ((rd_T40 l0_3 a1).f0)).bind fun t178 => (if t178 = true then (ref11_rung.l0 k a1 0 a0_0 a0_1 a0_2 l0_3 a0_0 a0_1 a0_2 0 ((rd_T40 l0_3 a1).f0) ((rd_T40 l0_3 a1).f1) ((rd_T40 l0_3 a1).f2) ((rd_T40 l0_3 a1).f3)) else (some 6)))) else (none)) else (none)) = some r := h
 clear h
 by_cases c3 : 0 ≤ a1
 ·rw [if_pos c3] at H
  have c3b0 : decide (0 ≤ a1) = true := decide_eq_true c3
  clear c3
  by_cases c4 : a1 < (l0_3.length : Int)
  ·rw [if_pos c4] at H
   have c4b0 : decide (a1 < (l0_3.length : Int)) = true := decide_eq_true c4
   clear c4
   have HC5 := Aside0.mk H
   clear H
   go_enter Tryd.func29, Tryd.ntmps29
   go_upto_if 23 with (first | ((with_reducible refine gate_dst (N := 2) rfl ?_); refine box_event ?hg (N := 2) ?hd (cs := #[.int .i64 a0_0, .int .i64 a0_1, .int .i64 a0_2, .slice A0_3 l0_3.length c0_3]) (t := 24) ?hr ?_; (case hd => rfl); (case hg => rfl); (case hr => first | (go_simp; done) | (go_simp; rfl)); intro gb174 hg w6 hbox hb; have n0_ := Aside0.mk (below_step (by repeat (first | (with_reducible first | exact HB.out | apply below_alloc | apply pw_below_drewN | apply below_drew1) | exact HB.out)) hb); have n1_ := Aside0.mk (hbox); have n2_ := Aside0.mk ((by rw [hg]; exact (below_size (by repeat (first | (with_reducible first | exact HB.out | apply below_alloc | apply pw_below_drewN | apply below_drew1) | exact HB.out))) : w.heap.size ≤ gb174)); have n3_ := Aside0.mk ((by rw [hg]; exact (below_size (by repeat (first | (with_reducible first | exact HB.out | apply below_alloc | apply pw_below_drewN | apply below_drew1) | exact HB.out))) : w.heap.size ≤ gb174)); clear HB; have HB := n0_; have BK174 := n1_; have GW174 := n2_; have GE174 := n3_; clear n0_ n1_ n2_ n3_; clear hb hbox hg; have hcz7_0 : w6.cell? ⟨gb174, 0, none⟩ = some (.int .i64 a0_0) := (blk_cell BK174.out 0).trans rfl; have hcz7_1 : w6.cell? ⟨gb174, 1, none⟩ = some (.int .i64 a0_1) := (blk_cell BK174.out 1).trans rfl; have hcz7_2 : w6.cell? ⟨gb174, 2, none⟩ = some (.int .i64 a0_2) := (blk_cell BK174.out 2).trans rfl; have hcz7_3 : w6.cell? ⟨gb174, 3, none⟩ = some (.slice A0_3 l0_3.length c0_3) := (blk_cell BK174.out 3).trans rfl; have hfz7_0 := blk_frozen BK174.out 0; have hfz7_1 := blk_frozen BK174.out 1; have hfz7_2 := blk_frozen BK174.out 2; have hfz7_3 := blk_frozen BK174.out 3) | ((with_reducible refine gate_dst (N := 5) rfl ?_); refine box_event ?hg (N := 5) ?hd (cs := #[.int .i64 0, .int .i64 0, .int .i64 0, .int .i64 0]) (t := 66) ?hr ?_; (case hd => rfl); (case hg => rfl); (case hr => first | (go_simp; done) | (go_simp; rfl)); intro gb175 hg w8 hbox hb; have n0_ := Aside0.mk (blk_below (g := gb174) (o := .cells #[.int .i64 a0_0, .int .i64 a0_1, .int .i64 a0_2, .slice A0_3 l0_3.length c0_3] 24 (0, 0)) (by (with_reducible repeat (first | refine blk_drewN ?_ _ | refine blk_drew ?_ | refine blk_alloc ?_ _)); exact BK174.out) hb); have n1_ := Aside0.mk (below_step (by repeat (first | (with_reducible first | exact HB.out | apply below_alloc | apply pw_below_drewN | apply below_drew1 | refine below_set ?_ GE174.out) | exact HB.out)) hb); have n2_ := Aside0.mk (hbox); have n3_ := Aside0.mk ((by rw [hg]; exact (below_size (by repeat (first | (with_reducible first | exact HB.out | apply below_alloc | apply pw_below_drewN | apply below_drew1 | refine below_set ?_ GE174.out) | exact HB.out))) : w.heap.size ≤ gb175)); have n4_ := Aside0.mk ((by rw [hg]; exact (below_size (by repeat (first | (with_reducible first | exact HB.out | apply below_alloc | apply pw_below_drewN | apply below_drew1 | refine below_set ?_ GE174.out) | exact HB.out))) : w.heap.size ≤ gb175)); have n5_ := Aside0.mk ((by rw [hg]; exact Nat.ne_of_lt (blk_lt (g := gb174) (o := .cells #[.int .i64 a0_0, .int .i64 a0_1, .int .i64 a0_2, .slice A0_3 l0_3.length c0_3] 24 (0, 0)) (by (with_reducible repeat (first | refine blk_drewN ?_ _ | refine blk_drew ?_ | refine blk_alloc ?_ _)); exact BK174.out)) : gb174 ≠ gb175)); have n6_ := Aside0.mk ((by rw [hg]; exact Nat.ne_of_gt (blk_lt (g := gb174) (o := .cells #[.int .i64 a0_0, .int .i64 a0_1, .int .i64 a0_2, .slice A0_3 l0_3.length c0_3] 24 (0, 0)) (by (with_reducible repeat (first | refine blk_drewN ?_ _ | refine blk_drew ?_ | refine blk_alloc ?_ _)); exact BK174.out)) : gb175 ≠ gb174)); clear BK174; clear HB; have BK174 := n0_; have HB := n1_; have BK175 := n2_; have GW175 := n3_; have GE175 := n4_; have NB174_175 := n5_; have NB175_174 := n6_; clear n0_ n1_ n2_ n3_ n4_ n5_ n6_; clear hb hbox hg; have hnb9 := NB175_174.out; have hnc9 := NB174_175.out; have hcz10_0 : w8.cell? ⟨gb175, 0, none⟩ = some (.int .i64 0) := (blk_cell BK175.out 0).trans rfl; have hcz10_1 : w8.cell? ⟨gb175, 1, none⟩ = some (.int .i64 0) := (blk_cell BK175.out 1).trans rfl; have hcz10_2 : w8.cell? ⟨gb175, 2, none⟩ = some (.int .i64 0) := (blk_cell BK175.out 2).trans rfl; have hcz10_3 : w8.cell? ⟨gb175, 3, none⟩ = some (.int .i64 0) := (blk_cell BK175.out 3).trans rfl; have hfz10_0 := blk_frozen BK175.out 0; have hfz10_1 := blk_frozen BK175.out 1; have hfz10_2 := blk_frozen BK175.out 2; have hfz10_3 := blk_frozen BK175.out 3; have hcz11_0 : w8.cell? ⟨gb174, 0, none⟩ = some (.int .i64 a0_0) := (blk_cell BK174.out 0).trans rfl; have hcz11_1 : w8.cell? ⟨gb174, 1, none⟩ = some (.int .i64 a0_1) := (blk_cell BK174.out 1).trans rfl; have hcz11_2 : w8.cell? ⟨gb174, 2, none⟩ = some (.int .i64 a0_2) := (blk_cell BK174.out 2).trans rfl; have hcz11_3 : w8.cell? ⟨gb174, 3, none⟩ = some (.slice A0_3 l0_3.length c0_3) := (blk_cell BK174.out 3).trans rfl; have hfz11_0 := blk_frozen BK174.out 0; have hfz11_1 := blk_frozen BK174.out 1; have hfz11_2 := blk_frozen BK174.out 2; have hfz11_3 := blk_frozen BK174.out 3; have p176 : 0 ≤ (a1 : Int) := of_decide_eq_true (by first | (with_reducible assumption) | assumption); have q176 : a1 < (l0_3.length : Int) := of_decide_eq_true (by first | (with_reducible assumption) | assumption); obtain ⟨ad176, A176_1, c176_1, A176_2, c176_2, e176, hx176_0, hx176_1, hx176_2, hx176_3, hl176_1, hi176_1, hl176_2, hi176_2⟩ := at_T40 HR0_3.out a1 p176 q176; cases e176; have hn176_0 : ad176.block ≠ gb175 := Nat.ne_of_lt (Nat.lt_of_lt_of_le (by have := World.block_lt_of_cell? _ _ hx176_0; first | rwa [add_block] at this | exact this) GW175.out); have hn176_1 : ad176.block ≠ gb175 := Nat.ne_of_lt (Nat.lt_of_lt_of_le (by have := World.block_lt_of_cell? _ _ hx176_0; first | rwa [add_block] at this | exact this) GW175.out); have hn176_2 : ad176.block ≠ gb175 := Nat.ne_of_lt (Nat.lt_of_lt_of_le (by have := World.block_lt_of_cell? _ _ hx176_0; first | rwa [add_block] at this | exact this) GW175.out); have hn176_3 : ad176.block ≠ gb175 := Nat.ne_of_lt (Nat.lt_of_lt_of_le (by have := World.block_lt_of_cell? _ _ hx176_0; first | rwa [add_block] at this | exact this) GW175.out); replace hx176_0 := (HB.out.cell (World.block_lt_of_cell? w _ hx176_0)).trans hx176_0; replace hx176_1 := (HB.out.cell (World.block_lt_of_cell? w _ hx176_1)).trans hx176_1; replace hx176_2 := (HB.out.cell (World.block_lt_of_cell? w _ hx176_2)).trans hx176_2; replace hx176_3 := (HB.out.cell (World.block_lt_of_cell? w _ hx176_3)).trans hx176_3; have HR176_1 := Aside0.mk hi176_1; have HC176_1 := Aside0.mk hl176_1; clear hi176_1 hl176_1; have HR176_2 := Aside0.mk hi176_2; have HC176_2 := Aside0.mk hl176_2; clear hi176_2 hl176_2; replace hx176_0 := (cell_far (p := ⟨gb175, 0, none⟩) (by first | (rw [add_block]; exact hn176_0) | (show (Addr.add _ _).block ≠ _; rw [add_block]; exact hn176_0) | exact hn176_0) (.int .i64 a0_0)).trans hx176_0; replace hx176_1 := (cell_far (p := ⟨gb175, 0, none⟩) (by first | (rw [add_block]; exact hn176_0) | (show (Addr.add _ _).block ≠ _; rw [add_block]; exact hn176_0) | exact hn176_0) (.int .i64 a0_0)).trans hx176_1; replace hx176_2 := (cell_far (p := ⟨gb175, 0, none⟩) (by first | (rw [add_block]; exact hn176_0) | (show (Addr.add _ _).block ≠ _; rw [add_block]; exact hn176_0) | exact hn176_0) (.int .i64 a0_0)).trans hx176_2; replace hx176_3 := (cell_far (p := ⟨gb175, 0, none⟩) (by first | (rw [add_block]; exact hn176_0) | (show (Addr.add _ _).block ≠ _; rw [add_block]; exact hn176_0) | exact hn176_0) (.int .i64 a0_0)).trans hx176_3; replace hx176_0 := (cell_far (p := ⟨gb175, 1, none⟩) (by first | (rw [add_block]; exact hn176_1) | (show (Addr.add _ _).block ≠ _; rw [add_block]; exact hn176_1) | exact hn176_1) (.int .i64 a0_1)).trans hx176_0; replace hx176_1 := (cell_far (p := ⟨gb175, 1, none⟩) (by first | (rw [add_block]; exact hn176_1) | (show (Addr.add _ _).block ≠ _; rw [add_block]; exact hn176_1) | exact hn176_1) (.int .i64 a0_1)).trans hx176_1; replace hx176_2 := (cell_far (p := ⟨gb175, 1, none⟩) (by first | (rw [add_block]; exact hn176_1) | (show (Addr.add _ _).block ≠ _; rw [add_block]; exact hn176_1) | exact hn176_1) (.int .i64 a0_1)).trans hx176_2; replace hx176_3 := (cell_far (p := ⟨gb175, 1, none⟩) (by first | (rw [add_block]; exact hn176_1) | (show (Addr.add _ _).block ≠ _; rw [add_block]; exact hn176_1) | exact hn176_1) (.int .i64 a0_1)).trans hx176_3; replace hx176_0 := (cell_far (p := ⟨gb175, 2, none⟩) (by first | (rw [add_block]; exact hn176_2) | (show (Addr.add _ _).block ≠ _; rw [add_block]; exact hn176_2) | exact hn176_2) (.int .i64 a0_2)).trans hx176_0; replace hx176_1 := (cell_far (p := ⟨gb175, 2, none⟩) (by first | (rw [add_block]; exact hn176_2) | (show (Addr.add _ _).block ≠ _; rw [add_block]; exact hn176_2) | exact hn176_2) (.int .i64 a0_2)).trans hx176_1; replace hx176_2 := (cell_far (p := ⟨gb175, 2, none⟩) (by first | (rw [add_block]; exact hn176_2) | (show (Addr.add _ _).block ≠ _; rw [add_block]; exact hn176_2) | exact hn176_2) (.int .i64 a0_2)).trans hx176_2; replace hx176_3 := (cell_far (p := ⟨gb175, 2, none⟩) (by first | (rw [add_block]; exact hn176_2) | (show (Addr.add _ _).block ≠ _; rw [add_block]; exact hn176_2) | exact hn176_2) (.int .i64 a0_2)).trans hx176_3; replace hx176_0 := (cell_far (p := ⟨gb175, 3, none⟩) (by first | (rw [add_block]; exact hn176_3) | (show (Addr.add _ _).block ≠ _; rw [add_block]; exact hn176_3) | exact hn176_3) (.int .i64 0)).trans hx176_0; replace hx176_1 := (cell_far (p := ⟨gb175, 3, none⟩) (by first | (rw [add_block]; exact hn176_3) | (show (Addr.add _ _).block ≠ _; rw [add_block]; exact hn176_3) | exact hn176_3) (.int .i64 0)).trans hx176_1; replace hx176_2 := (cell_far (p := ⟨gb175, 3, none⟩) (by first | (rw [add_block]; exact hn176_3) | (show (Addr.add _ _).block ≠ _; rw [add_block]; exact hn176_3) | exact hn176_3) (.int .i64 0)).trans hx176_2; replace hx176_3 := (cell_far (p := ⟨gb175, 3, none⟩) (by first | (rw [add_block]; exact hn176_3) | (show (Addr.add _ _).block ≠ _; rw [add_block]; exact hn176_3) | exact hn176_3) (.int .i64 0)).trans hx176_3; (try have hy176_0 := fun (n_ : Nat) => (show ((((((w8.drewN n_).setCell ⟨gb175, 0, none⟩ (.int .i64 a0_0)).setCell ⟨gb175, 1, none⟩ (.int .i64 a0_1)).setCell ⟨gb175, 2, none⟩ (.int .i64 a0_2)).setCell ⟨gb175, 3, none⟩ (.int .i64 0))).cell? _ = some _ from hx176_0)); (try have hy176_1 := fun (n_ : Nat) => (show ((((((w8.drewN n_).setCell ⟨gb175, 0, none⟩ (.int .i64 a0_0)).setCell ⟨gb175, 1, none⟩ (.int .i64 a0_1)).setCell ⟨gb175, 2, none⟩ (.int .i64 a0_2)).setCell ⟨gb175, 3, none⟩ (.int .i64 0))).cell? _ = some _ from hx176_1)); (try have hy176_2 := fun (n_ : Nat) => (show ((((((w8.drewN n_).setCell ⟨gb175, 0, none⟩ (.int .i64 a0_0)).setCell ⟨gb175, 1, none⟩ (.int .i64 a0_1)).setCell ⟨gb175, 2, none⟩ (.int .i64 a0_2)).setCell ⟨gb175, 3, none⟩ (.int .i64 0))).cell? _ = some _ from hx176_2)); (try have hy176_3 := fun (n_ : Nat) => (show ((((((w8.drewN n_).setCell ⟨gb175, 0, none⟩ (.int .i64 a0_0)).setCell ⟨gb175, 1, none⟩ (.int .i64 a0_1)).setCell ⟨gb175, 2, none⟩ (.int .i64 a0_2)).setCell ⟨gb175, 3, none⟩ (.int .i64 0))).cell? _ = some _ from hx176_3)); clear hn176_0; clear hn176_1; clear hn176_2; clear hn176_3; replace p176 := eq_true p176; replace q176 := eq_true q176) | ((with_reducible refine gate_dst (N := 6) rfl ?_); refine box_event ?hg (N := 6) ?hd (cs := #[.string (⟨#[]⟩ : ByteArray), .slice none 0 0, .slice none 0 0, .string (⟨#[]⟩ : ByteArray)]) (t := 40) ?hr ?_; (case hd => rfl); (case hg => rfl); (case hr => first | (go_simp; done) | (go_simp; rfl)); intro gb177 hg w12 hbox hb; have n0_ := Aside0.mk (blk_below (g := gb174) (o := .cells #[.int .i64 a0_0, .int .i64 a0_1, .int .i64 a0_2, .slice (some ad176) l0_3.length c0_3] 24 (0, 0)) (by (with_reducible repeat (first | refine blk_drewN ?_ _ | refine blk_drew ?_ | refine blk_alloc ?_ _)); refine blk_far ?_ NB174_175.out _; (with_reducible repeat (first | refine blk_drewN ?_ _ | refine blk_drew ?_ | refine blk_alloc ?_ _)); refine blk_far ?_ NB174_175.out _; (with_reducible repeat (first | refine blk_drewN ?_ _ | refine blk_drew ?_ | refine blk_alloc ?_ _)); refine blk_far ?_ NB174_175.out _; (with_reducible repeat (first | refine blk_drewN ?_ _ | refine blk_drew ?_ | refine blk_alloc ?_ _)); refine blk_far ?_ NB174_175.out _; (with_reducible repeat (first | refine blk_drewN ?_ _ | refine blk_drew ?_ | refine blk_alloc ?_ _)); exact BK174.out) hb); have n1_ := Aside0.mk (blk_below (g := gb175) (o := .cells #[.int .i64 a0_0, .int .i64 a0_1, .int .i64 a0_2, .int .i64 0] 66 (0, 0)) (by (with_reducible repeat (first | refine blk_drewN ?_ _ | refine blk_drew ?_ | refine blk_alloc ?_ _)); refine blk_put (cs := #[.int .i64 a0_0, .int .i64 a0_1, .int .i64 a0_2, .int .i64 0]) ?_ 3 _ rfl; (with_reducible repeat (first | refine blk_drewN ?_ _ | refine blk_drew ?_ | refine blk_alloc ?_ _)); refine blk_put (cs := #[.int .i64 a0_0, .int .i64 a0_1, .int .i64 0, .int .i64 0]) ?_ 2 _ rfl; (with_reducible repeat (first | refine blk_drewN ?_ _ | refine blk_drew ?_ | refine blk_alloc ?_ _)); refine blk_put (cs := #[.int .i64 a0_0, .int .i64 0, .int .i64 0, .int .i64 0]) ?_ 1 _ rfl; (with_reducible repeat (first | refine blk_drewN ?_ _ | refine blk_drew ?_ | refine blk_alloc ?_ _)); refine blk_put (cs := #[.int .i64 0, .int .i64 0, .int .i64 0, .int .i64 0]) ?_ 0 _ rfl; (with_reducible repeat (first | refine blk_drewN ?_ _ | refine blk_drew ?_ | refine blk_alloc ?_ _)); exact BK175.out) hb); have n2_ := Aside0.mk (below_step (by repeat (first | (with_reducible first | exact HB.out | apply below_alloc | apply pw_below_drewN | apply below_drew1 | refine below_set ?_ GE174.out | refine below_set ?_ GE175.out) | exact HB.out)) hb); have n3_ := Aside0.mk (hbox); have n4_ := Aside0.mk ((by rw [hg]; exact (below_size (by repeat (first | (with_reducible first | exact HB.out | apply below_alloc | apply pw_below_drewN | apply below_drew1 | refine below_set ?_ GE174.out | refine below_set ?_ GE175.out) | exact HB.out))) : w.heap.size ≤ gb177)); have n5_ := Aside0.mk ((by rw [hg]; exact (below_size (by repeat (first | (with_reducible first | exact HB.out | apply below_alloc | apply pw_below_drewN | apply below_drew1 | refine below_set ?_ GE174.out | refine below_set ?_ GE175.out) | exact HB.out))) : w.heap.size ≤ gb177)); have n6_ := Aside0.mk ((by rw [hg]; exact Nat.ne_of_lt (blk_lt (g := gb174) (o := .cells #[.int .i64 a0_0, .int .i64 a0_1, .int .i64 a0_2, .slice (some ad176) l0_3.length c0_3] 24 (0, 0)) (by (with_reducible repeat (first | refine blk_drewN ?_ _ | refine blk_drew ?_ | refine blk_alloc ?_ _)); refine blk_far ?_ NB174_175.out _; (with_reducible repeat (first | refine blk_drewN ?_ _ | refine blk_drew ?_ | refine blk_alloc ?_ _)); refine blk_far ?_ NB174_175.out _; (with_reducible repeat (first | refine blk_drewN ?_ _ | refine blk_drew ?_ | refine blk_alloc ?_ _)); refine blk_far ?_ NB174_175.out _; (with_reducible repeat (first | refine blk_drewN ?_ _ | refine blk_drew ?_ | refine blk_alloc ?_ _)); refine blk_far ?_ NB174_175.out _; (with_reducible repeat (first | refine blk_drewN ?_ _ | refine blk_drew ?_ | refine blk_alloc ?_ _)); exact BK174.out)) : gb174 ≠ gb177)); have n7_ := Aside0.mk ((by rw [hg]; exact Nat.ne_of_gt (blk_lt (g := gb174) (o := .cells #[.int .i64 a0_0, .int .i64 a0_1, .int .i64 a0_2, .slice (some ad176) l0_3.length c0_3] 24 (0, 0)) (by (with_reducible repeat (first | refine blk_drewN ?_ _ | refine blk_drew ?_ | refine blk_alloc ?_ _)); refine blk_far ?_ NB174_175.out _; (with_reducible repeat (first | refine blk_drewN ?_ _ | refine blk_drew ?_ | refine blk_alloc ?_ _)); refine blk_far ?_ NB174_175.out _; (with_reducible repeat (first | refine blk_drewN ?_ _ | refine blk_drew ?_ | refine blk_alloc ?_ _)); refine blk_far ?_ NB174_175.out _; (with_reducible repeat (first | refine blk_drewN ?_ _ | refine blk_drew ?_ | refine blk_alloc ?_ _)); refine blk_far ?_ NB174_175.out _; (with_reducible repeat (first | refine blk_drewN ?_ _ | refine blk_drew ?_ | refine blk_alloc ?_ _)); exact BK174.out)) : gb177 ≠ gb174)); have n8_ := Aside0.mk ((by rw [hg]; exact Nat.ne_of_lt (blk_lt (g := gb175) (o := .cells #[.int .i64 a0_0, .int .i64 a0_1, .int .i64 a0_2, .int .i64 0] 66 (0, 0)) (by (with_reducible repeat (first | refine blk_drewN ?_ _ | refine blk_drew ?_ | refine blk_alloc ?_ _)); refine blk_put (cs := #[.int .i64 a0_0, .int .i64 a0_1, .int .i64 a0_2, .int .i64 0]) ?_ 3 _ rfl; (with_reducible repeat (first | refine blk_drewN ?_ _ | refine blk_drew ?_ | refine blk_alloc ?_ _)); refine blk_put (cs := #[.int .i64 a0_0, .int .i64 a0_1, .int .i64 0, .int .i64 0]) ?_ 2 _ rfl; (with_reducible repeat (first | refine blk_drewN ?_ _ | refine blk_drew ?_ | refine blk_alloc ?_ _)); refine blk_put (cs := #[.int .i64 a0_0, .int .i64 0, .int .i64 0, .int .i64 0]) ?_ 1 _ rfl; (with_reducible repeat (first | refine blk_drewN ?_ _ | refine blk_drew ?_ | refine blk_alloc ?_ _)); refine blk_put (cs := #[.int .i64 0, .int .i64 0, .int .i64 0, .int .i64 0]) ?_ 0 _ rfl; (with_reducible repeat (first | refine blk_drewN ?_ _ | refine blk_drew ?_ | refine blk_alloc ?_ _)); exact BK175.out)) : gb175 ≠ gb177)); have n9_ := Aside0.mk ((by rw [hg]; exact Nat.ne_of_gt (blk_lt (g := gb175) (o := .cells #[.int .i64 a0_0, .int .i64 a0_1, .int .i64 a0_2, .int .i64 0] 66 (0, 0)) (by (with_reducible repeat (first | refine blk_drewN ?_ _ | refine blk_drew ?_ | refine blk_alloc ?_ _)); refine blk_put (cs := #[.int .i64 a0_0, .int .i64 a0_1, .int .i64 a0_2, .int .i64 0]) ?_ 3 _ rfl; (with_reducible repeat (first | refine blk_drewN ?_ _ | refine blk_drew ?_ | refine blk_alloc ?_ _)); refine blk_put (cs := #[.int .i64 a0_0, .int .i64 a0_1, .int .i64 0, .int .i64 0]) ?_ 2 _ rfl; (with_reducible repeat (first | refine blk_drewN ?_ _ | refine blk_drew ?_ | refine blk_alloc ?_ _)); refine blk_put (cs := #[.int .i64 a0_0, .int .i64 0, .int .i64 0, .int .i64 0]) ?_ 1 _ rfl; (with_reducible repeat (first | refine blk_drewN ?_ _ | refine blk_drew ?_ | refine blk_alloc ?_ _)); refine blk_put (cs := #[.int .i64 0, .int .i64 0, .int .i64 0, .int .i64 0]) ?_ 0 _ rfl; (with_reducible repeat (first | refine blk_drewN ?_ _ | refine blk_drew ?_ | refine blk_alloc ?_ _)); exact BK175.out)) : gb177 ≠ gb175)); clear BK174; clear BK175; clear HB; have BK174 := n0_; have BK175 := n1_; have HB := n2_; have BK177 := n3_; have GW177 := n4_; have GE177 := n5_; have NB174_177 := n6_; have NB177_174 := n7_; have NB175_177 := n8_; have NB177_175 := n9_; clear n0_ n1_ n2_ n3_ n4_ n5_ n6_ n7_ n8_ n9_; clear hb hbox hg; have hnb13 := NB177_174.out; have hnc13 := NB174_177.out; have hnb14 := NB177_175.out; have hnc14 := NB175_177.out; have hcz15_0 : w12.cell? ⟨gb177, 0, none⟩ = some (.string (⟨#[]⟩ : ByteArray)) := (blk_cell BK177.out 0).trans rfl; have hcz15_1 : w12.cell? ⟨gb177, 1, none⟩ = some (.slice none 0 0) := (blk_cell BK177.out 1).trans rfl; have hcz15_2 : w12.cell? ⟨gb177, 2, none⟩ = some (.slice none 0 0) := (blk_cell BK177.out 2).trans rfl; have hcz15_3 : w12.cell? ⟨gb177, 3, none⟩ = some (.string (⟨#[]⟩ : ByteArray)) := (blk_cell BK177.out 3).trans rfl; have hfz15_0 := blk_frozen BK177.out 0; have hfz15_1 := blk_frozen BK177.out 1; have hfz15_2 := blk_frozen BK177.out 2; have hfz15_3 := blk_frozen BK177.out 3))
   skip
   (try simp only [Act.put, List.setIfInBounds_toArray, List.set_cons_zero, List.set_cons_succ])
   go_cut [] (fun wc => ∃ (kq : Nat), Aside0 (ref11_rung.j1 kq a0_0 a0_1 a0_2 0 ((rd_T40 l0_3 a1).f0) ((rd_T40 l0_3 a1).f1) ((rd_T40 l0_3 a1).f2) ((rd_T40 l0_3 a1).f3) = some r) ∧ Aside0 (kq ≤ k) ∧ Aside0 (wc.heap[gb174]? = some (.cells #[.int .i64 a0_0, .int .i64 a0_1, .int .i64 a0_2, (.slice (some ad176) l0_3.length c0_3)] 24 (0, 0))) ∧ Aside0 (wc.heap[gb175]? = some (.cells #[.int .i64 a0_0, .int .i64 a0_1, .int .i64 a0_2, .int .i64 0] 66 (0, 0))) ∧ Aside0 (wc.heap[gb177]? = some (.cells #[.string ((rd_T40 l0_3 a1).f0), (.slice A176_1 ((rd_T40 l0_3 a1).f1).length c176_1), (.slice A176_2 ((rd_T40 l0_3 a1).f2).length c176_2), .string ((rd_T40 l0_3 a1).f3)] 40 (0, 0))) ∧ Aside0 (Below w.heap.size w wc))
   case first =>
    have H := HC5.out
    clear HC5
    by_cases c16 : ((rd_T40 l0_3 a1).f0).toList = ([] : List UInt8)
    ·rw [if_pos c16] at H
     have c16b0 : (((rd_T40 l0_3 a1).f0).toList == ([] : List UInt8)) = true := beq_iff_eq.mpr c16
     have c16b1 : (((rd_T40 l0_3 a1).f0).toList != ([] : List UInt8)) = false := bne_eq_false_iff_eq.mpr c16
     (try (have c16b2 : ((rd_T40 l0_3 a1).f0).toList.isEmpty = true := List.isEmpty_iff.mpr c16))
     (try (have c16b3 : (!((rd_T40 l0_3 a1).f0).toList.isEmpty) = false := by rw [List.isEmpty_iff.mpr c16]; rfl))
     clear c16
     (first | rw [c16b0] | (simp only [i64_w, i32_w]; rw [c16b0]) | rw [c16b3] | rw [c16b2] | skip)
     have H' := Aside0.mk H
     clear H
     go_wp2
     skip
     go_meet
     case rel => exact ⟨_, H', ⟨by first | omega | exact Nat.le_refl _⟩, ⟨by (with_reducible repeat (first | refine blk_drewN ?_ _ | refine blk_drew ?_ | refine blk_alloc ?_ _)); refine blk_far ?_ NB174_177.out _; (with_reducible repeat (first | refine blk_drewN ?_ _ | refine blk_drew ?_ | refine blk_alloc ?_ _)); refine blk_far ?_ NB174_177.out _; (with_reducible repeat (first | refine blk_drewN ?_ _ | refine blk_drew ?_ | refine blk_alloc ?_ _)); refine blk_far ?_ NB174_177.out _; (with_reducible repeat (first | refine blk_drewN ?_ _ | refine blk_drew ?_ | refine blk_alloc ?_ _)); refine blk_far ?_ NB174_177.out _; (with_reducible repeat (first | refine blk_drewN ?_ _ | refine blk_drew ?_ | refine blk_alloc ?_ _)); exact BK174.out⟩, ⟨by (with_reducible repeat (first | refine blk_drewN ?_ _ | refine blk_drew ?_ | refine blk_alloc ?_ _)); refine blk_far ?_ NB175_177.out _; (with_reducible repeat (first | refine blk_drewN ?_ _ | refine blk_drew ?_ | refine blk_alloc ?_ _)); refine blk_far ?_ NB175_177.out _; (with_reducible repeat (first | refine blk_drewN ?_ _ | refine blk_drew ?_ | refine blk_alloc ?_ _)); refine blk_far ?_ NB175_177.out _; (with_reducible repeat (first | refine blk_drewN ?_ _ | refine blk_drew ?_ | refine blk_alloc ?_ _)); refine blk_far ?_ NB175_177.out _; (with_reducible repeat (first | refine blk_drewN ?_ _ | refine blk_drew ?_ | refine blk_alloc ?_ _)); exact BK175.out⟩, ⟨by (with_reducible repeat (first | refine blk_drewN ?_ _ | refine blk_drew ?_ | refine blk_alloc ?_ _)); refine blk_put (cs := #[.string ((rd_T40 l0_3 a1).f0), .slice A176_1 ((rd_T40 l0_3 a1).f1).length c176_1, .slice A176_2 ((rd_T40 l0_3 a1).f2).length c176_2, .string (⟨#[]⟩ : ByteArray)]) ?_ 3 _ rfl; (with_reducible repeat (first | refine blk_drewN ?_ _ | refine blk_drew ?_ | refine blk_alloc ?_ _)); refine blk_put (cs := #[.string ((rd_T40 l0_3 a1).f0), .slice A176_1 ((rd_T40 l0_3 a1).f1).length c176_1, .slice none 0 0, .string (⟨#[]⟩ : ByteArray)]) ?_ 2 _ rfl; (with_reducible repeat (first | refine blk_drewN ?_ _ | refine blk_drew ?_ | refine blk_alloc ?_ _)); refine blk_put (cs := #[.string ((rd_T40 l0_3 a1).f0), .slice none 0 0, .slice none 0 0, .string (⟨#[]⟩ : ByteArray)]) ?_ 1 _ rfl; (with_reducible repeat (first | refine blk_drewN ?_ _ | refine blk_drew ?_ | refine blk_alloc ?_ _)); refine blk_put (cs := #[.string (⟨#[]⟩ : ByteArray), .slice none 0 0, .slice none 0 0, .string (⟨#[]⟩ : ByteArray)]) ?_ 0 _ rfl; (with_reducible repeat (first | refine blk_drewN ?_ _ | refine blk_drew ?_ | refine blk_alloc ?_ _)); exact BK177.out⟩, ⟨by repeat (first | (with_reducible first | exact HB.out | apply below_alloc | apply pw_below_drewN | apply below_drew1 | refine below_set ?_ GE174.out | refine below_set ?_ GE175.out | refine below_set ?_ GE177.out) | exact HB.out)⟩⟩
    ·rw [if_neg c16] at H
     have c16b0 : (((rd_T40 l0_3 a1).f0).toList == ([] : List UInt8)) = false := beq_eq_false_iff_ne.mpr c16
     have c16b1 : (((rd_T40 l0_3 a1).f0).toList != ([] : List UInt8)) = true := bne_iff_ne.mpr c16
     (try (have c16b2 : ((rd_T40 l0_3 a1).f0).toList.isEmpty = false := List.isEmpty_eq_false_iff.mpr c16))
     (try (have c16b3 : (!((rd_T40 l0_3 a1).f0).toList.isEmpty) = true := by rw [List.isEmpty_eq_false_iff.mpr c16]; rfl))
     (first | rw [c16b0] | (simp only [i64_w, i32_w]; rw [c16b0]) | rw [c16b3] | rw [c16b2] | skip)
     replace H := Option.bind_eq_some_iff.mp H
     obtain ⟨t178, A170, H⟩ := H
     replace H : (if t178 = true then (ref11_rung.l0 k a1 0 a0_0 a0_1 a0_2 l0_3 a0_0 a0_1 a0_2 0 ((rd_T40 l0_3 a1).f0) ((rd_T40 l0_3 a1).f1) ((rd_T40 l0_3 a1).f2) ((rd_T40 l0_3 a1).f3)) else (some 6)) = some r := H
     have A17 := Aside0.mk A170
     clear A170
     by_cases c18 : t178 = true
     ·subst c18
      have H1 : (ref11_rung.l0 k a1 0 a0_0 a0_1 a0_2 l0_3 a0_0 a0_1 a0_2 0 ((rd_T40 l0_3 a1).f0) ((rd_T40 l0_3 a1).f1) ((rd_T40 l0_3 a1).f2) ((rd_T40 l0_3 a1).f3)) = some r := by rw [if_pos rfl] at H; exact H
      clear H
      have H := H1
      clear H1
      have H' := Aside0.mk H
      clear H
      have hnb19 := NB177_174.out
      have hnc19 := NB174_177.out
      have hnb20 := NB177_175.out
      have hnc20 := NB175_177.out
      have hcz21_0 : w12.cell? ⟨gb177, 0, none⟩ = some (.string (⟨#[]⟩ : ByteArray)) := (blk_cell BK177.out 0).trans rfl
      have hcz21_1 : w12.cell? ⟨gb177, 1, none⟩ = some (.slice none 0 0) := (blk_cell BK177.out 1).trans rfl
      have hcz21_2 : w12.cell? ⟨gb177, 2, none⟩ = some (.slice none 0 0) := (blk_cell BK177.out 2).trans rfl
      have hcz21_3 : w12.cell? ⟨gb177, 3, none⟩ = some (.string (⟨#[]⟩ : ByteArray)) := (blk_cell BK177.out 3).trans rfl
      have hfz21_0 := blk_frozen BK177.out 0
      have hfz21_1 := blk_frozen BK177.out 1
      have hfz21_2 := blk_frozen BK177.out 2
      have hfz21_3 := blk_frozen BK177.out 3
      go_wp2_with (first | (go_at_call 57; (with_reducible refine (ref09_IsName.calls k ((rd_T40 l0_3 a1).f0) true _ A17.out).mono ?_); rintro e w' ⟨rfl, ⟨nd, rfl⟩⟩; (try first | exact ⟨rfl, _, World.drewN_drewN _ _ _⟩ | exact ⟨rfl, _, Eq.trans (World.drewN_drewN _ _ _) (congrArg (World.drewN _) (Nat.add_assoc _ _ _))⟩)))
      skip
      go_loopg [7] k (fun kq v7 w' => ∃ (x7_1 : Int), v7 = .int .i64 x7_1 ∧ Aside0 (ref11_rung.l0 kq a1 x7_1 a0_0 a0_1 a0_2 l0_3 a0_0 a0_1 a0_2 0 ((rd_T40 l0_3 a1).f0) ((rd_T40 l0_3 a1).f1) ((rd_T40 l0_3 a1).f2) ((rd_T40 l0_3 a1).f3) = some r) ∧ Aside0 (kq ≤ k) ∧ Aside0 (w'.heap[gb174]? = some (.cells #[.int .i64 a0_0, .int .i64 a0_1, .int .i64 a0_2, (.slice (some ad176) l0_3.length c0_3)] 24 (0, 0))) ∧ Aside0 (w'.heap[gb175]? = some (.cells #[.int .i64 a0_0, .int .i64 a0_1, .int .i64 a0_2, .int .i64 0] 66 (0, 0))) ∧ Aside0 (w'.heap[gb177]? = some (.cells #[.string ((rd_T40 l0_3 a1).f0), (.slice A176_1 ((rd_T40 l0_3 a1).f1).length c176_1), (.slice A176_2 ((rd_T40 l0_3 a1).f2).length c176_2), .string ((rd_T40 l0_3 a1).f3)] 40 (0, 0))) ∧ Aside0 (Below w.heap.size w w'))
      case atStart => exact ⟨(0), (by first | rfl | (simp; done) | (simp [*]; done)), H', ⟨Nat.le_refl _⟩, ⟨by (with_reducible repeat (first | refine blk_drewN ?_ _ | refine blk_drew ?_ | refine blk_alloc ?_ _)); refine blk_far ?_ NB174_177.out _; (with_reducible repeat (first | refine blk_drewN ?_ _ | refine blk_drew ?_ | refine blk_alloc ?_ _)); refine blk_far ?_ NB174_177.out _; (with_reducible repeat (first | refine blk_drewN ?_ _ | refine blk_drew ?_ | refine blk_alloc ?_ _)); refine blk_far ?_ NB174_177.out _; (with_reducible repeat (first | refine blk_drewN ?_ _ | refine blk_drew ?_ | refine blk_alloc ?_ _)); refine blk_far ?_ NB174_177.out _; (with_reducible repeat (first | refine blk_drewN ?_ _ | refine blk_drew ?_ | refine blk_alloc ?_ _)); exact BK174.out⟩, ⟨by (with_reducible repeat (first | refine blk_drewN ?_ _ | refine blk_drew ?_ | refine blk_alloc ?_ _)); refine blk_far ?_ NB175_177.out _; (with_reducible repeat (first | refine blk_drewN ?_ _ | refine blk_drew ?_ | refine blk_alloc ?_ _)); refine blk_far ?_ NB175_177.out _; (with_reducible repeat (first | refine blk_drewN ?_ _ | refine blk_drew ?_ | refine blk_alloc ?_ _)); refine blk_far ?_ NB175_177.out _; (with_reducible repeat (first | refine blk_drewN ?_ _ | refine blk_drew ?_ | refine blk_alloc ?_ _)); refine blk_far ?_ NB175_177.out _; (with_reducible repeat (first | refine blk_drewN ?_ _ | refine blk_drew ?_ | refine blk_alloc ?_ _)); exact BK175.out⟩, ⟨by (with_reducible repeat (first | refine blk_drewN ?_ _ | refine blk_drew ?_ | refine blk_alloc ?_ _)); refine blk_put (cs := #[.string ((rd_T40 l0_3 a1).f0), .slice A176_1 ((rd_T40 l0_3 a1).f1).length c176_1, .slice A176_2 ((rd_T40 l0_3 a1).f2).length c176_2, .string (⟨#[]⟩ : ByteArray)]) ?_ 3 _ rfl; (with_reducible repeat (first | refine blk_drewN ?_ _ | refine blk_drew ?_ | refine blk_alloc ?_ _)); refine blk_put (cs := #[.string ((rd_T40 l0_3 a1).f0), .slice A176_1 ((rd_T40 l0_3 a1).f1).length c176_1, .slice none 0 0, .string (⟨#[]⟩ : ByteArray)]) ?_ 2 _ rfl; (with_reducible repeat (first | refine blk_drewN ?_ _ | refine blk_drew ?_ | refine blk_alloc ?_ _)); refine blk_put (cs := #[.string ((rd_T40 l0_3 a1).f0), .slice none 0 0, .slice none 0 0, .string (⟨#[]⟩ : ByteArray)]) ?_ 1 _ rfl; (with_reducible repeat (first | refine blk_drewN ?_ _ | refine blk_drew ?_ | refine blk_alloc ?_ _)); refine blk_put (cs := #[.string (⟨#[]⟩ : ByteArray), .slice none 0 0, .slice none 0 0, .string (⟨#[]⟩ : ByteArray)]) ?_ 0 _ rfl; (with_reducible repeat (first | refine blk_drewN ?_ _ | refine blk_drew ?_ | refine blk_alloc ?_ _)); exact BK177.out⟩, ⟨by repeat (first | (with_reducible first | exact HB.out | apply below_alloc | apply pw_below_drewN | apply below_drew1 | refine below_set ?_ GE174.out | refine below_set ?_ GE175.out | refine below_set ?_ GE177.out) | exact HB.out)⟩⟩
      case round =>
       clear H'
       try clear c1
       try clear p1
       try clear q1
       try clear hx1
       try clear c2
       try clear p2
       try clear c3
       try clear c3b0
       try clear c4
       try clear c4b0
       try clear c9
       try clear c13
       try clear c14
       try clear c16
       try clear c16b0
       try clear c16b1
       try clear c16b2
       try clear c17
       try clear p17
       try clear q17
       try clear hx17
       try clear c18
       try clear c19
       try clear c20
       try clear hcz10_0
       try clear hcz10_1
       try clear hcz10_2
       try clear hcz10_3
       try clear hcz11_0
       try clear hcz11_1
       try clear hcz11_2
       try clear hcz11_3
       try clear hcz15_0
       try clear hcz15_1
       try clear hcz15_2
       try clear hcz15_3
       try clear hcz21_0
       try clear hcz21_1
       try clear hcz21_2
       try clear hcz21_3
       try clear hcz7_0
       try clear hcz7_1
       try clear hcz7_2
       try clear hcz7_3
       try clear hfz10_0
       try clear hfz10_1
       try clear hfz10_2
       try clear hfz10_3
       try clear hfz11_0
       try clear hfz11_1
       try clear hfz11_2
       try clear hfz11_3
       try clear hfz15_0
       try clear hfz15_1
       try clear hfz15_2
       try clear hfz15_3
       try clear hfz21_0
       try clear hfz21_1
       try clear hfz21_2
       try clear hfz21_3
       try clear hfz7_0
       try clear hfz7_1
       try clear hfz7_2
       try clear hfz7_3
       try clear hx176_0
       try clear hx176_1
       try clear hx176_2
       try clear hx176_3
       try clear p176
       try clear q176
       obtain ⟨x7_1, rfl, HA, HK1, BK174, BK175, BK177, HB⟩ := hrel
       cases gk with
       | zero => exact absurd HA.out (by simp [ref11_rung.l0])
       | succ k1 =>
        have H := HA.out
        clear HA
        simp only [ref11_rung.l0] at H
        by_cases c22 : x7_1 < a1
        ·rw [if_pos c22] at H
         have c22b0 : decide (x7_1 < a1) = true := decide_eq_true c22
         clear c22
         by_cases c23 : 0 ≤ x7_1
         ·rw [if_pos c23] at H
          have c23b0 : decide (0 ≤ x7_1) = true := decide_eq_true c23
          clear c23
          by_cases c24 : x7_1 < (l0_3.length : Int)
          ·rw [if_pos c24] at H
           have c24b0 : decide (x7_1 < (l0_3.length : Int)) = true := decide_eq_true c24
           clear c24
           by_cases c25 : ((rd_T40 l0_3 x7_1).f0).toList = ((rd_T40 l0_3 a1).f0).toList
           ·rw [if_pos c25] at H
            have c25b0 : (((rd_T40 l0_3 x7_1).f0).toList == ((rd_T40 l0_3 a1).f0).toList) = true := beq_iff_eq.mpr c25
            have c25b1 : (((rd_T40 l0_3 x7_1).f0).toList != ((rd_T40 l0_3 a1).f0).toList) = false := bne_eq_false_iff_eq.mpr c25
            clear c25
            obtain rfl := Option.some.inj H
            have hnb26 := NB174_175.out
            have hnc26 := NB175_174.out
            have hnb27 := NB174_177.out
            have hnc27 := NB177_174.out
            have hcz28_0 : wr.cell? ⟨gb174, 0, none⟩ = some (.int .i64 a0_0) := (blk_cell BK174.out 0).trans rfl
            have hcz28_1 : wr.cell? ⟨gb174, 1, none⟩ = some (.int .i64 a0_1) := (blk_cell BK174.out 1).trans rfl
            have hcz28_2 : wr.cell? ⟨gb174, 2, none⟩ = some (.int .i64 a0_2) := (blk_cell BK174.out 2).trans rfl
            have hcz28_3 : wr.cell? ⟨gb174, 3, none⟩ = some (.slice (some ad176) l0_3.length c0_3) := (blk_cell BK174.out 3).trans rfl
            have hfz28_0 := blk_frozen BK174.out 0
            have hfz28_1 := blk_frozen BK174.out 1
            have hfz28_2 := blk_frozen BK174.out 2
            have hfz28_3 := blk_frozen BK174.out 3
            have p179 : 0 ≤ (x7_1 : Int) := of_decide_eq_true (by first | (with_reducible assumption) | assumption)
            have q179 : x7_1 < (l0_3.length : Int) := of_decide_eq_true (by first | (with_reducible assumption) | assumption)
            obtain ⟨ad179, A179_1, c179_1, A179_2, c179_2, e179, hx179_0, hx179_1, hx179_2, hx179_3, hl179_1, hi179_1, hl179_2, hi179_2⟩ := at_T40 HR0_3.out x7_1 p179 q179
            obtain rfl : ad176 = ad179 := (by injection e179)
            replace hx179_0 := (HB.out.cell (World.block_lt_of_cell? w _ hx179_0)).trans hx179_0
            replace hx179_1 := (HB.out.cell (World.block_lt_of_cell? w _ hx179_1)).trans hx179_1
            replace hx179_2 := (HB.out.cell (World.block_lt_of_cell? w _ hx179_2)).trans hx179_2
            replace hx179_3 := (HB.out.cell (World.block_lt_of_cell? w _ hx179_3)).trans hx179_3
            have HR179_1 := Aside0.mk hi179_1
            have HC179_1 := Aside0.mk hl179_1
            clear hi179_1 hl179_1
            have HR179_2 := Aside0.mk hi179_2
            have HC179_2 := Aside0.mk hl179_2
            clear hi179_2 hl179_2
            replace p179 := eq_true p179
            replace q179 := eq_true q179
            have hnb29 := NB177_175.out
            have hnc29 := NB175_177.out
            have hcz30_0 : wr.cell? ⟨gb177, 0, none⟩ = some (.string ((rd_T40 l0_3 a1).f0)) := (blk_cell BK177.out 0).trans rfl
            have hcz30_1 : wr.cell? ⟨gb177, 1, none⟩ = some (.slice A176_1 ((rd_T40 l0_3 a1).f1).length c176_1) := (blk_cell BK177.out 1).trans rfl
            have hcz30_2 : wr.cell? ⟨gb177, 2, none⟩ = some (.slice A176_2 ((rd_T40 l0_3 a1).f2).length c176_2) := (blk_cell BK177.out 2).trans rfl
            have hcz30_3 : wr.cell? ⟨gb177, 3, none⟩ = some (.string ((rd_T40 l0_3 a1).f3)) := (blk_cell BK177.out 3).trans rfl
            have hfz30_0 := blk_frozen BK177.out 0
            have hfz30_1 := blk_frozen BK177.out 1
            have hfz30_2 := blk_frozen BK177.out 2
            have hfz30_3 := blk_frozen BK177.out 3
            go_wp2
            repeat (go_quiet (fail); try go_wp2)
            go_ret
            exact ⟨by first | rfl | (simp [errW_none, errW_some] <;> rfl) | (simp [*, errW_none, errW_some] <;> rfl), by repeat (first | (with_reducible first | exact HB.out | apply below_alloc | apply pw_below_drewN | apply below_drew1 | refine below_set ?_ GE174.out | refine below_set ?_ GE175.out | refine below_set ?_ GE177.out) | exact HB.out)⟩
           ·rw [if_neg c25] at H
            have c25b0 : (((rd_T40 l0_3 x7_1).f0).toList == ((rd_T40 l0_3 a1).f0).toList) = false := beq_eq_false_iff_ne.mpr c25
            have c25b1 : (((rd_T40 l0_3 x7_1).f0).toList != ((rd_T40 l0_3 a1).f0).toList) = true := bne_iff_ne.mpr c25
            have H' := Aside0.mk H
            clear H
            have hnb31 := NB174_175.out
            have hnc31 := NB175_174.out
            have hnb32 := NB174_177.out
            have hnc32 := NB177_174.out
            have hcz33_0 : wr.cell? ⟨gb174, 0, none⟩ = some (.int .i64 a0_0) := (blk_cell BK174.out 0).trans rfl
            have hcz33_1 : wr.cell? ⟨gb174, 1, none⟩ = some (.int .i64 a0_1) := (blk_cell BK174.out 1).trans rfl
            have hcz33_2 : wr.cell? ⟨gb174, 2, none⟩ = some (.int .i64 a0_2) := (blk_cell BK174.out 2).trans rfl
            have hcz33_3 : wr.cell? ⟨gb174, 3, none⟩ = some (.slice (some ad176) l0_3.length c0_3) := (blk_cell BK174.out 3).trans rfl
            have hfz33_0 := blk_frozen BK174.out 0
            have hfz33_1 := blk_frozen BK174.out 1
            have hfz33_2 := blk_frozen BK174.out 2
            have hfz33_3 := blk_frozen BK174.out 3
            have p179 : 0 ≤ (x7_1 : Int) := of_decide_eq_true (by first | (with_reducible assumption) | assumption)
            have q179 : x7_1 < (l0_3.length : Int) := of_decide_eq_true (by first | (with_reducible assumption) | assumption)
            obtain ⟨ad179, A179_1, c179_1, A179_2, c179_2, e179, hx179_0, hx179_1, hx179_2, hx179_3, hl179_1, hi179_1, hl179_2, hi179_2⟩ := at_T40 HR0_3.out x7_1 p179 q179
            obtain rfl : ad176 = ad179 := (by injection e179)
            replace hx179_0 := (HB.out.cell (World.block_lt_of_cell? w _ hx179_0)).trans hx179_0
            replace hx179_1 := (HB.out.cell (World.block_lt_of_cell? w _ hx179_1)).trans hx179_1
            replace hx179_2 := (HB.out.cell (World.block_lt_of_cell? w _ hx179_2)).trans hx179_2
            replace hx179_3 := (HB.out.cell (World.block_lt_of_cell? w _ hx179_3)).trans hx179_3
            have HR179_1 := Aside0.mk hi179_1
            have HC179_1 := Aside0.mk hl179_1
            clear hi179_1 hl179_1
            have HR179_2 := Aside0.mk hi179_2
            have HC179_2 := Aside0.mk hl179_2
            clear hi179_2 hl179_2
            replace p179 := eq_true p179
            replace q179 := eq_true q179
            have hnb34 := NB177_175.out
            have hnc34 := NB175_177.out
            have hcz35_0 : wr.cell? ⟨gb177, 0, none⟩ = some (.string ((rd_T40 l0_3 a1).f0)) := (blk_cell BK177.out 0).trans rfl
            have hcz35_1 : wr.cell? ⟨gb177, 1, none⟩ = some (.slice A176_1 ((rd_T40 l0_3 a1).f1).length c176_1) := (blk_cell BK177.out 1).trans rfl
            have hcz35_2 : wr.cell? ⟨gb177, 2, none⟩ = some (.slice A176_2 ((rd_T40 l0_3 a1).f2).length c176_2) := (blk_cell BK177.out 2).trans rfl
            have hcz35_3 : wr.cell? ⟨gb177, 3, none⟩ = some (.string ((rd_T40 l0_3 a1).f3)) := (blk_cell BK177.out 3).trans rfl
            have hfz35_0 := blk_frozen BK177.out 0
            have hfz35_1 := blk_frozen BK177.out 1
            have hfz35_2 := blk_frozen BK177.out 2
            have hfz35_3 := blk_frozen BK177.out 3
            go_wp2
            repeat (go_quiet (fail); try go_wp2)
            go_roundg k1
            case measure => have := HK1.out; omega
            case rel => exact ⟨(wrap64 (x7_1 + 1)), (by first | rfl | (simp; done) | (simp [*]; done)), H', ⟨by have := HK1.out; omega⟩, ⟨by (with_reducible repeat (first | refine blk_drewN ?_ _ | refine blk_drew ?_ | refine blk_alloc ?_ _)); exact BK174.out⟩, ⟨by (with_reducible repeat (first | refine blk_drewN ?_ _ | refine blk_drew ?_ | refine blk_alloc ?_ _)); exact BK175.out⟩, ⟨by (with_reducible repeat (first | refine blk_drewN ?_ _ | refine blk_drew ?_ | refine blk_alloc ?_ _)); exact BK177.out⟩, ⟨by repeat (first | (with_reducible first | exact HB.out | apply below_alloc | apply pw_below_drewN | apply below_drew1 | refine below_set ?_ GE174.out | refine below_set ?_ GE175.out | refine below_set ?_ GE177.out) | exact HB.out)⟩⟩
          ·rw [if_neg c24] at H
           exact absurd H (by simp)
         ·rw [if_neg c23] at H
          exact absurd H (by simp)
        ·rw [if_neg c22] at H
         have c22b0 : decide (x7_1 < a1) = false := decide_eq_false c22
         clear c22
         have H' := Aside0.mk H
         clear H
         go_wp2
         skip
         go_meet
         case rel => exact ⟨_, H', ⟨by have := HK1.out; first | omega | exact Nat.le_refl _⟩, ⟨by (with_reducible repeat (first | refine blk_drewN ?_ _ | refine blk_drew ?_ | refine blk_alloc ?_ _)); exact BK174.out⟩, ⟨by (with_reducible repeat (first | refine blk_drewN ?_ _ | refine blk_drew ?_ | refine blk_alloc ?_ _)); exact BK175.out⟩, ⟨by (with_reducible repeat (first | refine blk_drewN ?_ _ | refine blk_drew ?_ | refine blk_alloc ?_ _)); exact BK177.out⟩, ⟨by repeat (first | (with_reducible first | exact HB.out | apply below_alloc | apply pw_below_drewN | apply below_drew1 | refine below_set ?_ GE174.out | refine below_set ?_ GE175.out | refine below_set ?_ GE177.out) | exact HB.out)⟩⟩
     ·replace c18 := Bool.eq_false_iff.mpr c18
      subst c18
      have H1 : (some 6) = some r := by rw [if_neg (show ¬ (false = true) by decide)] at H; exact H
      clear H
      have H := H1
      clear H1
      obtain rfl := Option.some.inj H
      have hnb36 := NB177_174.out
      have hnc36 := NB174_177.out
      have hnb37 := NB177_175.out
      have hnc37 := NB175_177.out
      have hcz38_0 : w12.cell? ⟨gb177, 0, none⟩ = some (.string (⟨#[]⟩ : ByteArray)) := (blk_cell BK177.out 0).trans rfl
      have hcz38_1 : w12.cell? ⟨gb177, 1, none⟩ = some (.slice none 0 0) := (blk_cell BK177.out 1).trans rfl
      have hcz38_2 : w12.cell? ⟨gb177, 2, none⟩ = some (.slice none 0 0) := (blk_cell BK177.out 2).trans rfl
      have hcz38_3 : w12.cell? ⟨gb177, 3, none⟩ = some (.string (⟨#[]⟩ : ByteArray)) := (blk_cell BK177.out 3).trans rfl
      have hfz38_0 := blk_frozen BK177.out 0
      have hfz38_1 := blk_frozen BK177.out 1
      have hfz38_2 := blk_frozen BK177.out 2
      have hfz38_3 := blk_frozen BK177.out 3
      go_wp2_with (first | (go_at_call 57; (with_reducible refine (ref09_IsName.calls k ((rd_T40 l0_3 a1).f0) false _ A17.out).mono ?_); rintro e w' ⟨rfl, ⟨nd, rfl⟩⟩; (try first | exact ⟨rfl, _, World.drewN_drewN _ _ _⟩ | exact ⟨rfl, _, Eq.trans (World.drewN_drewN _ _ _) (congrArg (World.drewN _) (Nat.add_assoc _ _ _))⟩)))
      skip
      go_ret
      exact ⟨by first | rfl | (simp [errW_none, errW_some] <;> rfl) | (simp [*, errW_none, errW_some] <;> rfl), by repeat (first | (with_reducible first | exact HB.out | apply below_alloc | apply pw_below_drewN | apply below_drew1 | refine below_set ?_ GE174.out | refine below_set ?_ GE175.out | refine below_set ?_ GE177.out) | exact HB.out)⟩
   case rest =>
    clear HC5
    try clear c1
    try clear p1
    try clear q1
    try clear hx1
    try clear c2
    try clear p2
    try clear c3
    try clear c3b0
    try clear c4
    try clear c4b0
    try clear p6
    try clear c9
    try clear c13
    try clear c14
    try clear c16
    try clear c16b0
    try clear c16b1
    try clear c16b2
    try clear c17
    try clear p17
    try clear q17
    try clear hx17
    try clear c18
    try clear c19
    try clear c20
    try clear c22
    try clear c22b0
    try clear c23
    try clear c23b0
    try clear c24
    try clear c24b0
    try clear c25
    try clear c25b0
    try clear c25b1
    try clear c26
    try clear c27
    try clear c29
    try clear c31
    try clear c32
    try clear c34
    try clear c36
    try clear c37
    try clear hcz10_0
    try clear hcz10_1
    try clear hcz10_2
    try clear hcz10_3
    try clear hcz11_0
    try clear hcz11_1
    try clear hcz11_2
    try clear hcz11_3
    try clear hcz15_0
    try clear hcz15_1
    try clear hcz15_2
    try clear hcz15_3
    try clear hcz21_0
    try clear hcz21_1
    try clear hcz21_2
    try clear hcz21_3
    try clear hcz28_0
    try clear hcz28_1
    try clear hcz28_2
    try clear hcz28_3
    try clear hcz30_0
    try clear hcz30_1
    try clear hcz30_2
    try clear hcz30_3
    try clear hcz33_0
    try clear hcz33_1
    try clear hcz33_2
    try clear hcz33_3
    try clear hcz35_0
    try clear hcz35_1
    try clear hcz35_2
    try clear hcz35_3
    try clear hcz38_0
    try clear hcz38_1
    try clear hcz38_2
    try clear hcz38_3
    try clear hcz7_0
    try clear hcz7_1
    try clear hcz7_2
    try clear hcz7_3
    try clear hfz10_0
    try clear hfz10_1
    try clear hfz10_2
    try clear hfz10_3
    try clear hfz11_0
    try clear hfz11_1
    try clear hfz11_2
    try clear hfz11_3
    try clear hfz15_0
    try clear hfz15_1
    try clear hfz15_2
    try clear hfz15_3
    try clear hfz21_0
    try clear hfz21_1
    try clear hfz21_2
    try clear hfz21_3
    try clear hfz28_0
    try clear hfz28_1
    try clear hfz28_2
    try clear hfz28_3
    try clear hfz30_0
    try clear hfz30_1
    try clear hfz30_2
    try clear hfz30_3
    try clear hfz33_0
    try clear hfz33_1
    try clear hfz33_2
    try clear hfz33_3
    try clear hfz35_0
    try clear hfz35_1
    try clear hfz35_2
    try clear hfz35_3
    try clear hfz38_0
    try clear hfz38_1
    try clear hfz38_2
    try clear hfz38_3
    try clear hfz7_0
    try clear hfz7_1
    try clear hfz7_2
    try clear hfz7_3
    try clear hx176_0
    try clear hx176_1
    try clear hx176_2
    try clear hx176_3
    try clear hx179_0
    try clear hx179_1
    try clear hx179_2
    try clear hx179_3
    try clear p1
    try clear p17
    try clear p176
    try clear p179
    try clear p2
    try clear q1
    try clear q17
    try clear q176
    try clear q179
    obtain ⟨kq, HA, HJ4, BK174, BK175, BK177, HB⟩ := hcut
    cases kq with
    | zero => exact absurd HA.out (by simp [ref11_rung.j1])
    | succ kj4 =>
     have H := HA.out
     clear HA
     simp only [ref11_rung.j1] at H
     replace H := Option.bind_eq_some_iff.mp H
     obtain ⟨t180, A390, H⟩ := H
     replace H : (if t180 = 0 then ((ref11_coils.f kj4 a0_0 a0_1 a0_2 0 ((rd_T40 l0_3 a1).f0) ((rd_T40 l0_3 a1).f1) ((rd_T40 l0_3 a1).f2) ((rd_T40 l0_3 a1).f3)).bind fun t181 => (if t181 = 0 then (if ((rd_T40 l0_3 a1).f3).toList = ([] : List UInt8) then (some t181) else ((ref09_IsName.f kj4 ((rd_T40 l0_3 a1).f3)).bind fun t182 => (if t182 = true then (some t181) else (some 6)))) else (some t181))) else (some t180)) = some r := H
     have A39 := Aside0.mk A390
     clear A390
     by_cases c40 : t180 = 0
     ·rw [if_pos c40] at H
      have c40b0 : (t180 == 0) = true := beq_iff_eq.mpr c40
      have c40b1 : (t180 != 0) = false := bne_eq_false_iff_eq.mpr c40
      clear c40
      replace H := Option.bind_eq_some_iff.mp H
      obtain ⟨t181, A410, H⟩ := H
      replace H : (if t181 = 0 then (if ((rd_T40 l0_3 a1).f3).toList = ([] : List UInt8) then (some t181) else ((ref09_IsName.f kj4 ((rd_T40 l0_3 a1).f3)).bind fun t182 => (if t182 = true then (some t181) else (some 6)))) else (some t181)) = some r := H
      have A41 := Aside0.mk A410
      clear A410
      by_cases c42 : t181 = 0
      ·rw [if_pos c42] at H
       have c42b0 : (t181 == 0) = true := beq_iff_eq.mpr c42
       have c42b1 : (t181 != 0) = false := bne_eq_false_iff_eq.mpr c42
       clear c42
       by_cases c43 : ((rd_T40 l0_3 a1).f3).toList = ([] : List UInt8)
       ·rw [if_pos c43] at H
        have c43b0 : (((rd_T40 l0_3 a1).f3).toList == ([] : List UInt8)) = true := beq_iff_eq.mpr c43
        have c43b1 : (((rd_T40 l0_3 a1).f3).toList != ([] : List UInt8)) = false := bne_eq_false_iff_eq.mpr c43
        (try (have c43b2 : ((rd_T40 l0_3 a1).f3).toList.isEmpty = true := List.isEmpty_iff.mpr c43))
        (try (have c43b3 : (!((rd_T40 l0_3 a1).f3).toList.isEmpty) = false := by rw [List.isEmpty_iff.mpr c43]; rfl))
        clear c43
        obtain rfl := Option.some.inj H
        have hnb44 := NB175_174.out
        have hnc44 := NB174_175.out
        have hnb45 := NB175_177.out
        have hnc45 := NB177_175.out
        have hcz46_0 : wc.cell? ⟨gb175, 0, none⟩ = some (.int .i64 a0_0) := (blk_cell BK175.out 0).trans rfl
        have hcz46_1 : wc.cell? ⟨gb175, 1, none⟩ = some (.int .i64 a0_1) := (blk_cell BK175.out 1).trans rfl
        have hcz46_2 : wc.cell? ⟨gb175, 2, none⟩ = some (.int .i64 a0_2) := (blk_cell BK175.out 2).trans rfl
        have hcz46_3 : wc.cell? ⟨gb175, 3, none⟩ = some (.int .i64 0) := (blk_cell BK175.out 3).trans rfl
        have hfz46_0 := blk_frozen BK175.out 0
        have hfz46_1 := blk_frozen BK175.out 1
        have hfz46_2 := blk_frozen BK175.out 2
        have hfz46_3 := blk_frozen BK175.out 3
        have hnb47 := NB177_174.out
        have hnc47 := NB174_177.out
        have hcz48_0 : wc.cell? ⟨gb177, 0, none⟩ = some (.string ((rd_T40 l0_3 a1).f0)) := (blk_cell BK177.out 0).trans rfl
        have hcz48_1 : wc.cell? ⟨gb177, 1, none⟩ = some (.slice A176_1 ((rd_T40 l0_3 a1).f1).length c176_1) := (blk_cell BK177.out 1).trans rfl
        have hcz48_2 : wc.cell? ⟨gb177, 2, none⟩ = some (.slice A176_2 ((rd_T40 l0_3 a1).f2).length c176_2) := (blk_cell BK177.out 2).trans rfl
        have hcz48_3 : wc.cell? ⟨gb177, 3, none⟩ = some (.string ((rd_T40 l0_3 a1).f3)) := (blk_cell BK177.out 3).trans rfl
        have hfz48_0 := blk_frozen BK177.out 0
        have hfz48_1 := blk_frozen BK177.out 1
        have hfz48_2 := blk_frozen BK177.out 2
        have hfz48_3 := blk_frozen BK177.out 3
        go_wp2_with (first | (go_at_call 58; (with_reducible refine (ref11_contacts.calls kj4 a0_0 a0_1 a0_2 0 ((rd_T40 l0_3 a1).f0) _ _ ((rd_T40 l0_3 a1).f1) _ _ ((rd_T40 l0_3 a1).f2) ((rd_T40 l0_3 a1).f3) t180 _ ?side1 ?side2 ?side3 ?side4 A39.out).mono ?_); (case side1 => repeat (first | exact (Kd.C_below HR176_1.out HB.out) | (with_reducible refine Kd.C_alloc ?_ _) | (with_reducible refine Kd.C_drewN ?_ _) | (with_reducible refine Kd.C_drew ?_))); (case side2 => exact HC176_1.out); (case side3 => repeat (first | exact (Kd.C_below HR176_2.out HB.out) | (with_reducible refine Kd.C_alloc ?_ _) | (with_reducible refine Kd.C_drewN ?_ _) | (with_reducible refine Kd.C_drew ?_))); (case side4 => exact HC176_2.out); rintro e w49 ⟨rfl, hb⟩; have n0_ := Aside0.mk (blk_below (g := gb174) (o := .cells #[.int .i64 a0_0, .int .i64 a0_1, .int .i64 a0_2, .slice (some ad176) l0_3.length c0_3] 24 (0, 0)) (by (with_reducible repeat (first | refine blk_drewN ?_ _ | refine blk_drew ?_ | refine blk_alloc ?_ _)); exact BK174.out) hb); have n1_ := Aside0.mk (blk_below (g := gb175) (o := .cells #[.int .i64 a0_0, .int .i64 a0_1, .int .i64 a0_2, .int .i64 0] 66 (0, 0)) (by (with_reducible repeat (first | refine blk_drewN ?_ _ | refine blk_drew ?_ | refine blk_alloc ?_ _)); exact BK175.out) hb); have n2_ := Aside0.mk (blk_below (g := gb177) (o := .cells #[.string ((rd_T40 l0_3 a1).f0), .slice A176_1 ((rd_T40 l0_3 a1).f1).length c176_1, .slice A176_2 ((rd_T40 l0_3 a1).f2).length c176_2, .string ((rd_T40 l0_3 a1).f3)] 40 (0, 0)) (by (with_reducible repeat (first | refine blk_drewN ?_ _ | refine blk_drew ?_ | refine blk_alloc ?_ _)); exact BK177.out) hb); have n3_ := Aside0.mk (below_step (by repeat (first | (with_reducible first | exact HB.out | apply below_alloc | apply pw_below_drewN | apply below_drew1 | refine below_set ?_ GE174.out | refine below_set ?_ GE175.out | refine below_set ?_ GE177.out) | exact HB.out)) hb); clear BK174; clear BK175; clear BK177; clear HB; have BK174 := n0_; have BK175 := n1_; have BK177 := n2_; have HB := n3_; clear n0_ n1_ n2_ n3_; (try clear hb); (try clear hb2); (try clear hk); (try clear hi); have hcz50_0 : w49.cell? ⟨gb175, 0, none⟩ = some (.int .i64 a0_0) := (blk_cell BK175.out 0).trans rfl; have hcz50_1 : w49.cell? ⟨gb175, 1, none⟩ = some (.int .i64 a0_1) := (blk_cell BK175.out 1).trans rfl; have hcz50_2 : w49.cell? ⟨gb175, 2, none⟩ = some (.int .i64 a0_2) := (blk_cell BK175.out 2).trans rfl; have hcz50_3 : w49.cell? ⟨gb175, 3, none⟩ = some (.int .i64 0) := (blk_cell BK175.out 3).trans rfl; have hfz50_0 := blk_frozen BK175.out 0; have hfz50_1 := blk_frozen BK175.out 1; have hfz50_2 := blk_frozen BK175.out 2; have hfz50_3 := blk_frozen BK175.out 3; have hcz51_0 : w49.cell? ⟨gb177, 0, none⟩ = some (.string ((rd_T40 l0_3 a1).f0)) := (blk_cell BK177.out 0).trans rfl; have hcz51_1 : w49.cell? ⟨gb177, 1, none⟩ = some (.slice A176_1 ((rd_T40 l0_3 a1).f1).length c176_1) := (blk_cell BK177.out 1).trans rfl; have hcz51_2 : w49.cell? ⟨gb177, 2, none⟩ = some (.slice A176_2 ((rd_T40 l0_3 a1).f2).length c176_2) := (blk_cell BK177.out 2).trans rfl; have hcz51_3 : w49.cell? ⟨gb177, 3, none⟩ = some (.string ((rd_T40 l0_3 a1).f3)) := (blk_cell BK177.out 3).trans rfl; have hfz51_0 := blk_frozen BK177.out 0; have hfz51_1 := blk_frozen BK177.out 1; have hfz51_2 := blk_frozen BK177.out 2; have hfz51_3 := blk_frozen BK177.out 3) | (go_at_call 59; (with_reducible refine (ref11_coils.calls kj4 a0_0 a0_1 a0_2 0 ((rd_T40 l0_3 a1).f0) _ _ ((rd_T40 l0_3 a1).f1) _ _ ((rd_T40 l0_3 a1).f2) ((rd_T40 l0_3 a1).f3) t181 _ ?side1 ?side2 ?side3 ?side4 A41.out).mono ?_); (case side1 => repeat (first | exact (Kd.C_below HR176_1.out HB.out) | (with_reducible refine Kd.C_alloc ?_ _) | (with_reducible refine Kd.C_drewN ?_ _) | (with_reducible refine Kd.C_drew ?_))); (case side2 => exact HC176_1.out); (case side3 => repeat (first | exact (Kd.C_below HR176_2.out HB.out) | (with_reducible refine Kd.C_alloc ?_ _) | (with_reducible refine Kd.C_drewN ?_ _) | (with_reducible refine Kd.C_drew ?_))); (case side4 => exact HC176_2.out); rintro e w52 ⟨rfl, hb⟩; have n0_ := Aside0.mk (blk_below (g := gb174) (o := .cells #[.int .i64 a0_0, .int .i64 a0_1, .int .i64 a0_2, .slice (some ad176) l0_3.length c0_3] 24 (0, 0)) (by (with_reducible repeat (first | refine blk_drewN ?_ _ | refine blk_drew ?_ | refine blk_alloc ?_ _)); exact BK174.out) hb); have n1_ := Aside0.mk (blk_below (g := gb175) (o := .cells #[.int .i64 a0_0, .int .i64 a0_1, .int .i64 a0_2, .int .i64 0] 66 (0, 0)) (by (with_reducible repeat (first | refine blk_drewN ?_ _ | refine blk_drew ?_ | refine blk_alloc ?_ _)); exact BK175.out) hb); have n2_ := Aside0.mk (blk_below (g := gb177) (o := .cells #[.string ((rd_T40 l0_3 a1).f0), .slice A176_1 ((rd_T40 l0_3 a1).f1).length c176_1, .slice A176_2 ((rd_T40 l0_3 a1).f2).length c176_2, .string ((rd_T40 l0_3 a1).f3)] 40 (0, 0)) (by (with_reducible repeat (first | refine blk_drewN ?_ _ | refine blk_drew ?_ | refine blk_alloc ?_ _)); exact BK177.out) hb); have n3_ := Aside0.mk (below_step (by repeat (first | (with_reducible first | exact HB.out | apply below_alloc | apply pw_below_drewN | apply below_drew1 | refine below_set ?_ GE174.out | refine below_set ?_ GE175.out | refine below_set ?_ GE177.out) | exact HB.out)) hb); clear BK174; clear BK175; clear BK177; clear HB; have BK174 := n0_; have BK175 := n1_; have BK177 := n2_; have HB := n3_; clear n0_ n1_ n2_ n3_; (try clear hb); (try clear hb2); (try clear hk); (try clear hi); have hcz53_0 : w52.cell? ⟨gb177, 0, none⟩ = some (.string ((rd_T40 l0_3 a1).f0)) := (blk_cell BK177.out 0).trans rfl; have hcz53_1 : w52.cell? ⟨gb177, 1, none⟩ = some (.slice A176_1 ((rd_T40 l0_3 a1).f1).length c176_1) := (blk_cell BK177.out 1).trans rfl; have hcz53_2 : w52.cell? ⟨gb177, 2, none⟩ = some (.slice A176_2 ((rd_T40 l0_3 a1).f2).length c176_2) := (blk_cell BK177.out 2).trans rfl; have hcz53_3 : w52.cell? ⟨gb177, 3, none⟩ = some (.string ((rd_T40 l0_3 a1).f3)) := (blk_cell BK177.out 3).trans rfl; have hfz53_0 := blk_frozen BK177.out 0; have hfz53_1 := blk_frozen BK177.out 1; have hfz53_2 := blk_frozen BK177.out 2; have hfz53_3 := blk_frozen BK177.out 3))
        skip
        go_ret
        exact ⟨by first | rfl | (simp [errW_none, errW_some] <;> rfl) | (simp [*, errW_none, errW_some] <;> rfl), by repeat (first | (with_reducible first | exact HB.out | apply below_alloc | apply pw_below_drewN | apply below_drew1 | refine below_set ?_ GE174.out | refine below_set ?_ GE175.out | refine below_set ?_ GE177.out) | exact HB.out)⟩
       ·rw [if_neg c43] at H
        have c43b0 : (((rd_T40 l0_3 a1).f3).toList == ([] : List UInt8)) = false := beq_eq_false_iff_ne.mpr c43
        have c43b1 : (((rd_T40 l0_3 a1).f3).toList != ([] : List UInt8)) = true := bne_iff_ne.mpr c43
        (try (have c43b2 : ((rd_T40 l0_3 a1).f3).toList.isEmpty = false := List.isEmpty_eq_false_iff.mpr c43))
        (try (have c43b3 : (!((rd_T40 l0_3 a1).f3).toList.isEmpty) = true := by rw [List.isEmpty_eq_false_iff.mpr c43]; rfl))
        replace H := Option.bind_eq_some_iff.mp H
        obtain ⟨t182, A540, H⟩ := H
        replace H : (if t182 = true then (some t181) else (some 6)) = some r := H
        have A54 := Aside0.mk A540
        clear A540
        by_cases c55 : t182 = true
        ·subst c55
         have H1 : (some t181) = some r := by rw [if_pos rfl] at H; exact H
         clear H
         have H := H1
         clear H1
         obtain rfl := Option.some.inj H
         have hnb56 := NB175_174.out
         have hnc56 := NB174_175.out
         have hnb57 := NB175_177.out
         have hnc57 := NB177_175.out
         have hcz58_0 : wc.cell? ⟨gb175, 0, none⟩ = some (.int .i64 a0_0) := (blk_cell BK175.out 0).trans rfl
         have hcz58_1 : wc.cell? ⟨gb175, 1, none⟩ = some (.int .i64 a0_1) := (blk_cell BK175.out 1).trans rfl
         have hcz58_2 : wc.cell? ⟨gb175, 2, none⟩ = some (.int .i64 a0_2) := (blk_cell BK175.out 2).trans rfl
         have hcz58_3 : wc.cell? ⟨gb175, 3, none⟩ = some (.int .i64 0) := (blk_cell BK175.out 3).trans rfl
         have hfz58_0 := blk_frozen BK175.out 0
         have hfz58_1 := blk_frozen BK175.out 1
         have hfz58_2 := blk_frozen BK175.out 2
         have hfz58_3 := blk_frozen BK175.out 3
         have hnb59 := NB177_174.out
         have hnc59 := NB174_177.out
         have hcz60_0 : wc.cell? ⟨gb177, 0, none⟩ = some (.string ((rd_T40 l0_3 a1).f0)) := (blk_cell BK177.out 0).trans rfl
         have hcz60_1 : wc.cell? ⟨gb177, 1, none⟩ = some (.slice A176_1 ((rd_T40 l0_3 a1).f1).length c176_1) := (blk_cell BK177.out 1).trans rfl
         have hcz60_2 : wc.cell? ⟨gb177, 2, none⟩ = some (.slice A176_2 ((rd_T40 l0_3 a1).f2).length c176_2) := (blk_cell BK177.out 2).trans rfl
         have hcz60_3 : wc.cell? ⟨gb177, 3, none⟩ = some (.string ((rd_T40 l0_3 a1).f3)) := (blk_cell BK177.out 3).trans rfl
         have hfz60_0 := blk_frozen BK177.out 0
         have hfz60_1 := blk_frozen BK177.out 1
         have hfz60_2 := blk_frozen BK177.out 2
         have hfz60_3 := blk_frozen BK177.out 3
         go_wp2_with (first | (go_at_call 58; (with_reducible refine (ref11_contacts.calls kj4 a0_0 a0_1 a0_2 0 ((rd_T40 l0_3 a1).f0) _ _ ((rd_T40 l0_3 a1).f1) _ _ ((rd_T40 l0_3 a1).f2) ((rd_T40 l0_3 a1).f3) t180 _ ?side1 ?side2 ?side3 ?side4 A39.out).mono ?_); (case side1 => repeat (first | exact (Kd.C_below HR176_1.out HB.out) | (with_reducible refine Kd.C_alloc ?_ _) | (with_reducible refine Kd.C_drewN ?_ _) | (with_reducible refine Kd.C_drew ?_))); (case side2 => exact HC176_1.out); (case side3 => repeat (first | exact (Kd.C_below HR176_2.out HB.out) | (with_reducible refine Kd.C_alloc ?_ _) | (with_reducible refine Kd.C_drewN ?_ _) | (with_reducible refine Kd.C_drew ?_))); (case side4 => exact HC176_2.out); rintro e w61 ⟨rfl, hb⟩; have n0_ := Aside0.mk (blk_below (g := gb174) (o := .cells #[.int .i64 a0_0, .int .i64 a0_1, .int .i64 a0_2, .slice (some ad176) l0_3.length c0_3] 24 (0, 0)) (by (with_reducible repeat (first | refine blk_drewN ?_ _ | refine blk_drew ?_ | refine blk_alloc ?_ _)); exact BK174.out) hb); have n1_ := Aside0.mk (blk_below (g := gb175) (o := .cells #[.int .i64 a0_0, .int .i64 a0_1, .int .i64 a0_2, .int .i64 0] 66 (0, 0)) (by (with_reducible repeat (first | refine blk_drewN ?_ _ | refine blk_drew ?_ | refine blk_alloc ?_ _)); exact BK175.out) hb); have n2_ := Aside0.mk (blk_below (g := gb177) (o := .cells #[.string ((rd_T40 l0_3 a1).f0), .slice A176_1 ((rd_T40 l0_3 a1).f1).length c176_1, .slice A176_2 ((rd_T40 l0_3 a1).f2).length c176_2, .string ((rd_T40 l0_3 a1).f3)] 40 (0, 0)) (by (with_reducible repeat (first | refine blk_drewN ?_ _ | refine blk_drew ?_ | refine blk_alloc ?_ _)); exact BK177.out) hb); have n3_ := Aside0.mk (below_step (by repeat (first | (with_reducible first | exact HB.out | apply below_alloc | apply pw_below_drewN | apply below_drew1 | refine below_set ?_ GE174.out | refine below_set ?_ GE175.out | refine below_set ?_ GE177.out) | exact HB.out)) hb); clear BK174; clear BK175; clear BK177; clear HB; have BK174 := n0_; have BK175 := n1_; have BK177 := n2_; have HB := n3_; clear n0_ n1_ n2_ n3_; (try clear hb); (try clear hb2); (try clear hk); (try clear hi); have hcz62_0 : w61.cell? ⟨gb175, 0, none⟩ = some (.int .i64 a0_0) := (blk_cell BK175.out 0).trans rfl; have hcz62_1 : w61.cell? ⟨gb175, 1, none⟩ = some (.int .i64 a0_1) := (blk_cell BK175.out 1).trans rfl; have hcz62_2 : w61.cell? ⟨gb175, 2, none⟩ = some (.int .i64 a0_2) := (blk_cell BK175.out 2).trans rfl; have hcz62_3 : w61.cell? ⟨gb175, 3, none⟩ = some (.int .i64 0) := (blk_cell BK175.out 3).trans rfl; have hfz62_0 := blk_frozen BK175.out 0; have hfz62_1 := blk_frozen BK175.out 1; have hfz62_2 := blk_frozen BK175.out 2; have hfz62_3 := blk_frozen BK175.out 3; have hcz63_0 : w61.cell? ⟨gb177, 0, none⟩ = some (.string ((rd_T40 l0_3 a1).f0)) := (blk_cell BK177.out 0).trans rfl; have hcz63_1 : w61.cell? ⟨gb177, 1, none⟩ = some (.slice A176_1 ((rd_T40 l0_3 a1).f1).length c176_1) := (blk_cell BK177.out 1).trans rfl; have hcz63_2 : w61.cell? ⟨gb177, 2, none⟩ = some (.slice A176_2 ((rd_T40 l0_3 a1).f2).length c176_2) := (blk_cell BK177.out 2).trans rfl; have hcz63_3 : w61.cell? ⟨gb177, 3, none⟩ = some (.string ((rd_T40 l0_3 a1).f3)) := (blk_cell BK177.out 3).trans rfl; have hfz63_0 := blk_frozen BK177.out 0; have hfz63_1 := blk_frozen BK177.out 1; have hfz63_2 := blk_frozen BK177.out 2; have hfz63_3 := blk_frozen BK177.out 3) | (go_at_call 59; (with_reducible refine (ref11_coils.calls kj4 a0_0 a0_1 a0_2 0 ((rd_T40 l0_3 a1).f0) _ _ ((rd_T40 l0_3 a1).f1) _ _ ((rd_T40 l0_3 a1).f2) ((rd_T40 l0_3 a1).f3) t181 _ ?side1 ?side2 ?side3 ?side4 A41.out).mono ?_); (case side1 => repeat (first | exact (Kd.C_below HR176_1.out HB.out) | (with_reducible refine Kd.C_alloc ?_ _) | (with_reducible refine Kd.C_drewN ?_ _) | (with_reducible refine Kd.C_drew ?_))); (case side2 => exact HC176_1.out); (case side3 => repeat (first | exact (Kd.C_below HR176_2.out HB.out) | (with_reducible refine Kd.C_alloc ?_ _) | (with_reducible refine Kd.C_drewN ?_ _) | (with_reducible refine Kd.C_drew ?_))); (case side4 => exact HC176_2.out); rintro e w64 ⟨rfl, hb⟩; have n0_ := Aside0.mk (blk_below (g := gb174) (o := .cells #[.int .i64 a0_0, .int .i64 a0_1, .int .i64 a0_2, .slice (some ad176) l0_3.length c0_3] 24 (0, 0)) (by (with_reducible repeat (first | refine blk_drewN ?_ _ | refine blk_drew ?_ | refine blk_alloc ?_ _)); exact BK174.out) hb); have n1_ := Aside0.mk (blk_below (g := gb175) (o := .cells #[.int .i64 a0_0, .int .i64 a0_1, .int .i64 a0_2, .int .i64 0] 66 (0, 0)) (by (with_reducible repeat (first | refine blk_drewN ?_ _ | refine blk_drew ?_ | refine blk_alloc ?_ _)); exact BK175.out) hb); have n2_ := Aside0.mk (blk_below (g := gb177) (o := .cells #[.string ((rd_T40 l0_3 a1).f0), .slice A176_1 ((rd_T40 l0_3 a1).f1).length c176_1, .slice A176_2 ((rd_T40 l0_3 a1).f2).length c176_2, .string ((rd_T40 l0_3 a1).f3)] 40 (0, 0)) (by (with_reducible repeat (first | refine blk_drewN ?_ _ | refine blk_drew ?_ | refine blk_alloc ?_ _)); exact BK177.out) hb); have n3_ := Aside0.mk (below_step (by repeat (first | (with_reducible first | exact HB.out | apply below_alloc | apply pw_below_drewN | apply below_drew1 | refine below_set ?_ GE174.out | refine below_set ?_ GE175.out | refine below_set ?_ GE177.out) | exact HB.out)) hb); clear BK174; clear BK175; clear BK177; clear HB; have BK174 := n0_; have BK175 := n1_; have BK177 := n2_; have HB := n3_; clear n0_ n1_ n2_ n3_; (try clear hb); (try clear hb2); (try clear hk); (try clear hi); have hcz65_0 : w64.cell? ⟨gb177, 0, none⟩ = some (.string ((rd_T40 l0_3 a1).f0)) := (blk_cell BK177.out 0).trans rfl; have hcz65_1 : w64.cell? ⟨gb177, 1, none⟩ = some (.slice A176_1 ((rd_T40 l0_3 a1).f1).length c176_1) := (blk_cell BK177.out 1).trans rfl; have hcz65_2 : w64.cell? ⟨gb177, 2, none⟩ = some (.slice A176_2 ((rd_T40 l0_3 a1).f2).length c176_2) := (blk_cell BK177.out 2).trans rfl; have hcz65_3 : w64.cell? ⟨gb177, 3, none⟩ = some (.string ((rd_T40 l0_3 a1).f3)) := (blk_cell BK177.out 3).trans rfl; have hfz65_0 := blk_frozen BK177.out 0; have hfz65_1 := blk_frozen BK177.out 1; have hfz65_2 := blk_frozen BK177.out 2; have hfz65_3 := blk_frozen BK177.out 3) | (go_at_call 57; (with_reducible refine (ref09_IsName.calls kj4 ((rd_T40 l0_3 a1).f3) true _ A54.out).mono ?_); rintro e w' ⟨rfl, ⟨nd, rfl⟩⟩; (try first | exact ⟨rfl, _, World.drewN_drewN _ _ _⟩ | exact ⟨rfl, _, Eq.trans (World.drewN_drewN _ _ _) (congrArg (World.drewN _) (Nat.add_assoc _ _ _))⟩)))
         skip
         go_ret
         exact ⟨by first | rfl | (simp [errW_none, errW_some] <;> rfl) | (simp [*, errW_none, errW_some] <;> rfl), by repeat (first | (with_reducible first | exact HB.out | apply below_alloc | apply pw_below_drewN | apply below_drew1 | refine below_set ?_ GE174.out | refine below_set ?_ GE175.out | refine below_set ?_ GE177.out) | exact HB.out)⟩
        ·replace c55 := Bool.eq_false_iff.mpr c55
         subst c55
         have H1 : (some 6) = some r := by rw [if_neg (show ¬ (false = true) by decide)] at H; exact H
         clear H
         have H := H1
         clear H1
         obtain rfl := Option.some.inj H
         have hnb66 := NB175_174.out
         have hnc66 := NB174_175.out
         have hnb67 := NB175_177.out
         have hnc67 := NB177_175.out
         have hcz68_0 : wc.cell? ⟨gb175, 0, none⟩ = some (.int .i64 a0_0) := (blk_cell BK175.out 0).trans rfl
         have hcz68_1 : wc.cell? ⟨gb175, 1, none⟩ = some (.int .i64 a0_1) := (blk_cell BK175.out 1).trans rfl
         have hcz68_2 : wc.cell? ⟨gb175, 2, none⟩ = some (.int .i64 a0_2) := (blk_cell BK175.out 2).trans rfl
         have hcz68_3 : wc.cell? ⟨gb175, 3, none⟩ = some (.int .i64 0) := (blk_cell BK175.out 3).trans rfl
         have hfz68_0 := blk_frozen BK175.out 0
         have hfz68_1 := blk_frozen BK175.out 1
         have hfz68_2 := blk_frozen BK175.out 2
         have hfz68_3 := blk_frozen BK175.out 3
         have hnb69 := NB177_174.out
         have hnc69 := NB174_177.out
         have hcz70_0 : wc.cell? ⟨gb177, 0, none⟩ = some (.string ((rd_T40 l0_3 a1).f0)) := (blk_cell BK177.out 0).trans rfl
         have hcz70_1 : wc.cell? ⟨gb177, 1, none⟩ = some (.slice A176_1 ((rd_T40 l0_3 a1).f1).length c176_1) := (blk_cell BK177.out 1).trans rfl
         have hcz70_2 : wc.cell? ⟨gb177, 2, none⟩ = some (.slice A176_2 ((rd_T40 l0_3 a1).f2).length c176_2) := (blk_cell BK177.out 2).trans rfl
         have hcz70_3 : wc.cell? ⟨gb177, 3, none⟩ = some (.string ((rd_T40 l0_3 a1).f3)) := (blk_cell BK177.out 3).trans rfl
         have hfz70_0 := blk_frozen BK177.out 0
         have hfz70_1 := blk_frozen BK177.out 1
         have hfz70_2 := blk_frozen BK177.out 2
         have hfz70_3 := blk_frozen BK177.out 3
         go_wp2_with (first | (go_at_call 58; (with_reducible refine (ref11_contacts.calls kj4 a0_0 a0_1 a0_2 0 ((rd_T40 l0_3 a1).f0) _ _ ((rd_T40 l0_3 a1).f1) _ _ ((rd_T40 l0_3 a1).f2) ((rd_T40 l0_3 a1).f3) t180 _ ?side1 ?side2 ?side3 ?side4 A39.out).mono ?_); (case side1 => repeat (first | exact (Kd.C_below HR176_1.out HB.out) | (with_reducible refine Kd.C_alloc ?_ _) | (with_reducible refine Kd.C_drewN ?_ _) | (with_reducible refine Kd.C_drew ?_))); (case side2 => exact HC176_1.out); (case side3 => repeat (first | exact (Kd.C_below HR176_2.out HB.out) | (with_reducible refine Kd.C_alloc ?_ _) | (with_reducible refine Kd.C_drewN ?_ _) | (with_reducible refine Kd.C_drew ?_))); (case side4 => exact HC176_2.out); rintro e w71 ⟨rfl, hb⟩; have n0_ := Aside0.mk (blk_below (g := gb174) (o := .cells #[.int .i64 a0_0, .int .i64 a0_1, .int .i64 a0_2, .slice (some ad176) l0_3.length c0_3] 24 (0, 0)) (by (with_reducible repeat (first | refine blk_drewN ?_ _ | refine blk_drew ?_ | refine blk_alloc ?_ _)); exact BK174.out) hb); have n1_ := Aside0.mk (blk_below (g := gb175) (o := .cells #[.int .i64 a0_0, .int .i64 a0_1, .int .i64 a0_2, .int .i64 0] 66 (0, 0)) (by (with_reducible repeat (first | refine blk_drewN ?_ _ | refine blk_drew ?_ | refine blk_alloc ?_ _)); exact BK175.out) hb); have n2_ := Aside0.mk (blk_below (g := gb177) (o := .cells #[.string ((rd_T40 l0_3 a1).f0), .slice A176_1 ((rd_T40 l0_3 a1).f1).length c176_1, .slice A176_2 ((rd_T40 l0_3 a1).f2).length c176_2, .string ((rd_T40 l0_3 a1).f3)] 40 (0, 0)) (by (with_reducible repeat (first | refine blk_drewN ?_ _ | refine blk_drew ?_ | refine blk_alloc ?_ _)); exact BK177.out) hb); have n3_ := Aside0.mk (below_step (by repeat (first | (with_reducible first | exact HB.out | apply below_alloc | apply pw_below_drewN | apply below_drew1 | refine below_set ?_ GE174.out | refine below_set ?_ GE175.out | refine below_set ?_ GE177.out) | exact HB.out)) hb); clear BK174; clear BK175; clear BK177; clear HB; have BK174 := n0_; have BK175 := n1_; have BK177 := n2_; have HB := n3_; clear n0_ n1_ n2_ n3_; (try clear hb); (try clear hb2); (try clear hk); (try clear hi); have hcz72_0 : w71.cell? ⟨gb175, 0, none⟩ = some (.int .i64 a0_0) := (blk_cell BK175.out 0).trans rfl; have hcz72_1 : w71.cell? ⟨gb175, 1, none⟩ = some (.int .i64 a0_1) := (blk_cell BK175.out 1).trans rfl; have hcz72_2 : w71.cell? ⟨gb175, 2, none⟩ = some (.int .i64 a0_2) := (blk_cell BK175.out 2).trans rfl; have hcz72_3 : w71.cell? ⟨gb175, 3, none⟩ = some (.int .i64 0) := (blk_cell BK175.out 3).trans rfl; have hfz72_0 := blk_frozen BK175.out 0; have hfz72_1 := blk_frozen BK175.out 1; have hfz72_2 := blk_frozen BK175.out 2; have hfz72_3 := blk_frozen BK175.out 3; have hcz73_0 : w71.cell? ⟨gb177, 0, none⟩ = some (.string ((rd_T40 l0_3 a1).f0)) := (blk_cell BK177.out 0).trans rfl; have hcz73_1 : w71.cell? ⟨gb177, 1, none⟩ = some (.slice A176_1 ((rd_T40 l0_3 a1).f1).length c176_1) := (blk_cell BK177.out 1).trans rfl; have hcz73_2 : w71.cell? ⟨gb177, 2, none⟩ = some (.slice A176_2 ((rd_T40 l0_3 a1).f2).length c176_2) := (blk_cell BK177.out 2).trans rfl; have hcz73_3 : w71.cell? ⟨gb177, 3, none⟩ = some (.string ((rd_T40 l0_3 a1).f3)) := (blk_cell BK177.out 3).trans rfl; have hfz73_0 := blk_frozen BK177.out 0; have hfz73_1 := blk_frozen BK177.out 1; have hfz73_2 := blk_frozen BK177.out 2; have hfz73_3 := blk_frozen BK177.out 3) | (go_at_call 59; (with_reducible refine (ref11_coils.calls kj4 a0_0 a0_1 a0_2 0 ((rd_T40 l0_3 a1).f0) _ _ ((rd_T40 l0_3 a1).f1) _ _ ((rd_T40 l0_3 a1).f2) ((rd_T40 l0_3 a1).f3) t181 _ ?side1 ?side2 ?side3 ?side4 A41.out).mono ?_); (case side1 => repeat (first | exact (Kd.C_below HR176_1.out HB.out) | (with_reducible refine Kd.C_alloc ?_ _) | (with_reducible refine Kd.C_drewN ?_ _) | (with_reducible refine Kd.C_drew ?_))); (case side2 => exact HC176_1.out); (case side3 => repeat (first | exact (Kd.C_below HR176_2.out HB.out) | (with_reducible refine Kd.C_alloc ?_ _) | (with_reducible refine Kd.C_drewN ?_ _) | (with_reducible refine Kd.C_drew ?_))); (case side4 => exact HC176_2.out); rintro e w74 ⟨rfl, hb⟩; have n0_ := Aside0.mk (blk_below (g := gb174) (o := .cells #[.int .i64 a0_0, .int .i64 a0_1, .int .i64 a0_2, .slice (some ad176) l0_3.length c0_3] 24 (0, 0)) (by (with_reducible repeat (first | refine blk_drewN ?_ _ | refine blk_drew ?_ | refine blk_alloc ?_ _)); exact BK174.out) hb); have n1_ := Aside0.mk (blk_below (g := gb175) (o := .cells #[.int .i64 a0_0, .int .i64 a0_1, .int .i64 a0_2, .int .i64 0] 66 (0, 0)) (by (with_reducible repeat (first | refine blk_drewN ?_ _ | refine blk_drew ?_ | refine blk_alloc ?_ _)); exact BK175.out) hb); have n2_ := Aside0.mk (blk_below (g := gb177) (o := .cells #[.string ((rd_T40 l0_3 a1).f0), .slice A176_1 ((rd_T40 l0_3 a1).f1).length c176_1, .slice A176_2 ((rd_T40 l0_3 a1).f2).length c176_2, .string ((rd_T40 l0_3 a1).f3)] 40 (0, 0)) (by (with_reducible repeat (first | refine blk_drewN ?_ _ | refine blk_drew ?_ | refine blk_alloc ?_ _)); exact BK177.out) hb); have n3_ := Aside0.mk (below_step (by repeat (first | (with_reducible first | exact HB.out | apply below_alloc | apply pw_below_drewN | apply below_drew1 | refine below_set ?_ GE174.out | refine below_set ?_ GE175.out | refine below_set ?_ GE177.out) | exact HB.out)) hb); clear BK174; clear BK175; clear BK177; clear HB; have BK174 := n0_; have BK175 := n1_; have BK177 := n2_; have HB := n3_; clear n0_ n1_ n2_ n3_; (try clear hb); (try clear hb2); (try clear hk); (try clear hi); have hcz75_0 : w74.cell? ⟨gb177, 0, none⟩ = some (.string ((rd_T40 l0_3 a1).f0)) := (blk_cell BK177.out 0).trans rfl; have hcz75_1 : w74.cell? ⟨gb177, 1, none⟩ = some (.slice A176_1 ((rd_T40 l0_3 a1).f1).length c176_1) := (blk_cell BK177.out 1).trans rfl; have hcz75_2 : w74.cell? ⟨gb177, 2, none⟩ = some (.slice A176_2 ((rd_T40 l0_3 a1).f2).length c176_2) := (blk_cell BK177.out 2).trans rfl; have hcz75_3 : w74.cell? ⟨gb177, 3, none⟩ = some (.string ((rd_T40 l0_3 a1).f3)) := (blk_cell BK177.out 3).trans rfl; have hfz75_0 := blk_frozen BK177.out 0; have hfz75_1 := blk_frozen BK177.out 1; have hfz75_2 := blk_frozen BK177.out 2; have hfz75_3 := blk_frozen BK177.out 3) | (go_at_call 57; (with_reducible refine (ref09_IsName.calls kj4 ((rd_T40 l0_3 a1).f3) false _ A54.out).mono ?_); rintro e w' ⟨rfl, ⟨nd, rfl⟩⟩; (try first | exact ⟨rfl, _, World.drewN_drewN _ _ _⟩ | exact ⟨rfl, _, Eq.trans (World.drewN_drewN _ _ _) (congrArg (World.drewN _) (Nat.add_assoc _ _ _))⟩)))
         skip
         go_ret
         exact ⟨by first | rfl | (simp [errW_none, errW_some] <;> rfl) | (simp [*, errW_none, errW_some] <;> rfl), by repeat (first | (with_reducible first | exact HB.out | apply below_alloc | apply pw_below_drewN | apply below_drew1 | refine below_set ?_ GE174.out | refine below_set ?_ GE175.out | refine below_set ?_ GE177.out) | exact HB.out)⟩
      ·rw [if_neg c42] at H
       have c42b0 : (t181 == 0) = false := beq_eq_false_iff_ne.mpr c42
       have c42b1 : (t181 != 0) = true := bne_iff_ne.mpr c42
       obtain rfl := Option.some.inj H
       have hnb76 := NB175_174.out
       have hnc76 := NB174_175.out
       have hnb77 := NB175_177.out
       have hnc77 := NB177_175.out
       have hcz78_0 : wc.cell? ⟨gb175, 0, none⟩ = some (.int .i64 a0_0) := (blk_cell BK175.out 0).trans rfl
       have hcz78_1 : wc.cell? ⟨gb175, 1, none⟩ = some (.int .i64 a0_1) := (blk_cell BK175.out 1).trans rfl
       have hcz78_2 : wc.cell? ⟨gb175, 2, none⟩ = some (.int .i64 a0_2) := (blk_cell BK175.out 2).trans rfl
       have hcz78_3 : wc.cell? ⟨gb175, 3, none⟩ = some (.int .i64 0) := (blk_cell BK175.out 3).trans rfl
       have hfz78_0 := blk_frozen BK175.out 0
       have hfz78_1 := blk_frozen BK175.out 1
       have hfz78_2 := blk_frozen BK175.out 2
       have hfz78_3 := blk_frozen BK175.out 3
       have hnb79 := NB177_174.out
       have hnc79 := NB174_177.out
       have hcz80_0 : wc.cell? ⟨gb177, 0, none⟩ = some (.string ((rd_T40 l0_3 a1).f0)) := (blk_cell BK177.out 0).trans rfl
       have hcz80_1 : wc.cell? ⟨gb177, 1, none⟩ = some (.slice A176_1 ((rd_T40 l0_3 a1).f1).length c176_1) := (blk_cell BK177.out 1).trans rfl
       have hcz80_2 : wc.cell? ⟨gb177, 2, none⟩ = some (.slice A176_2 ((rd_T40 l0_3 a1).f2).length c176_2) := (blk_cell BK177.out 2).trans rfl
       have hcz80_3 : wc.cell? ⟨gb177, 3, none⟩ = some (.string ((rd_T40 l0_3 a1).f3)) := (blk_cell BK177.out 3).trans rfl
       have hfz80_0 := blk_frozen BK177.out 0
       have hfz80_1 := blk_frozen BK177.out 1
       have hfz80_2 := blk_frozen BK177.out 2
       have hfz80_3 := blk_frozen BK177.out 3
       go_wp2_with (first | (go_at_call 58; (with_reducible refine (ref11_contacts.calls kj4 a0_0 a0_1 a0_2 0 ((rd_T40 l0_3 a1).f0) _ _ ((rd_T40 l0_3 a1).f1) _ _ ((rd_T40 l0_3 a1).f2) ((rd_T40 l0_3 a1).f3) t180 _ ?side1 ?side2 ?side3 ?side4 A39.out).mono ?_); (case side1 => repeat (first | exact (Kd.C_below HR176_1.out HB.out) | (with_reducible refine Kd.C_alloc ?_ _) | (with_reducible refine Kd.C_drewN ?_ _) | (with_reducible refine Kd.C_drew ?_))); (case side2 => exact HC176_1.out); (case side3 => repeat (first | exact (Kd.C_below HR176_2.out HB.out) | (with_reducible refine Kd.C_alloc ?_ _) | (with_reducible refine Kd.C_drewN ?_ _) | (with_reducible refine Kd.C_drew ?_))); (case side4 => exact HC176_2.out); rintro e w81 ⟨rfl, hb⟩; have n0_ := Aside0.mk (blk_below (g := gb174) (o := .cells #[.int .i64 a0_0, .int .i64 a0_1, .int .i64 a0_2, .slice (some ad176) l0_3.length c0_3] 24 (0, 0)) (by (with_reducible repeat (first | refine blk_drewN ?_ _ | refine blk_drew ?_ | refine blk_alloc ?_ _)); exact BK174.out) hb); have n1_ := Aside0.mk (blk_below (g := gb175) (o := .cells #[.int .i64 a0_0, .int .i64 a0_1, .int .i64 a0_2, .int .i64 0] 66 (0, 0)) (by (with_reducible repeat (first | refine blk_drewN ?_ _ | refine blk_drew ?_ | refine blk_alloc ?_ _)); exact BK175.out) hb); have n2_ := Aside0.mk (blk_below (g := gb177) (o := .cells #[.string ((rd_T40 l0_3 a1).f0), .slice A176_1 ((rd_T40 l0_3 a1).f1).length c176_1, .slice A176_2 ((rd_T40 l0_3 a1).f2).length c176_2, .string ((rd_T40 l0_3 a1).f3)] 40 (0, 0)) (by (with_reducible repeat (first | refine blk_drewN ?_ _ | refine blk_drew ?_ | refine blk_alloc ?_ _)); exact BK177.out) hb); have n3_ := Aside0.mk (below_step (by repeat (first | (with_reducible first | exact HB.out | apply below_alloc | apply pw_below_drewN | apply below_drew1 | refine below_set ?_ GE174.out | refine below_set ?_ GE175.out | refine below_set ?_ GE177.out) | exact HB.out)) hb); clear BK174; clear BK175; clear BK177; clear HB; have BK174 := n0_; have BK175 := n1_; have BK177 := n2_; have HB := n3_; clear n0_ n1_ n2_ n3_; (try clear hb); (try clear hb2); (try clear hk); (try clear hi); have hcz82_0 : w81.cell? ⟨gb175, 0, none⟩ = some (.int .i64 a0_0) := (blk_cell BK175.out 0).trans rfl; have hcz82_1 : w81.cell? ⟨gb175, 1, none⟩ = some (.int .i64 a0_1) := (blk_cell BK175.out 1).trans rfl; have hcz82_2 : w81.cell? ⟨gb175, 2, none⟩ = some (.int .i64 a0_2) := (blk_cell BK175.out 2).trans rfl; have hcz82_3 : w81.cell? ⟨gb175, 3, none⟩ = some (.int .i64 0) := (blk_cell BK175.out 3).trans rfl; have hfz82_0 := blk_frozen BK175.out 0; have hfz82_1 := blk_frozen BK175.out 1; have hfz82_2 := blk_frozen BK175.out 2; have hfz82_3 := blk_frozen BK175.out 3; have hcz83_0 : w81.cell? ⟨gb177, 0, none⟩ = some (.string ((rd_T40 l0_3 a1).f0)) := (blk_cell BK177.out 0).trans rfl; have hcz83_1 : w81.cell? ⟨gb177, 1, none⟩ = some (.slice A176_1 ((rd_T40 l0_3 a1).f1).length c176_1) := (blk_cell BK177.out 1).trans rfl; have hcz83_2 : w81.cell? ⟨gb177, 2, none⟩ = some (.slice A176_2 ((rd_T40 l0_3 a1).f2).length c176_2) := (blk_cell BK177.out 2).trans rfl; have hcz83_3 : w81.cell? ⟨gb177, 3, none⟩ = some (.string ((rd_T40 l0_3 a1).f3)) := (blk_cell BK177.out 3).trans rfl; have hfz83_0 := blk_frozen BK177.out 0; have hfz83_1 := blk_frozen BK177.out 1; have hfz83_2 := blk_frozen BK177.out 2; have hfz83_3 := blk_frozen BK177.out 3) | (go_at_call 59; (with_reducible refine (ref11_coils.calls kj4 a0_0 a0_1 a0_2 0 ((rd_T40 l0_3 a1).f0) _ _ ((rd_T40 l0_3 a1).f1) _ _ ((rd_T40 l0_3 a1).f2) ((rd_T40 l0_3 a1).f3) t181 _ ?side1 ?side2 ?side3 ?side4 A41.out).mono ?_); (case side1 => repeat (first | exact (Kd.C_below HR176_1.out HB.out) | (with_reducible refine Kd.C_alloc ?_ _) | (with_reducible refine Kd.C_drewN ?_ _) | (with_reducible refine Kd.C_drew ?_))); (case side2 => exact HC176_1.out); (case side3 => repeat (first | exact (Kd.C_below HR176_2.out HB.out) | (with_reducible refine Kd.C_alloc ?_ _) | (with_reducible refine Kd.C_drewN ?_ _) | (with_reducible refine Kd.C_drew ?_))); (case side4 => exact HC176_2.out); rintro e w84 ⟨rfl, hb⟩; have n0_ := Aside0.mk (blk_below (g := gb174) (o := .cells #[.int .i64 a0_0, .int .i64 a0_1, .int .i64 a0_2, .slice (some ad176) l0_3.length c0_3] 24 (0, 0)) (by (with_reducible repeat (first | refine blk_drewN ?_ _ | refine blk_drew ?_ | refine blk_alloc ?_ _)); exact BK174.out) hb); have n1_ := Aside0.mk (blk_below (g := gb175) (o := .cells #[.int .i64 a0_0, .int .i64 a0_1, .int .i64 a0_2, .int .i64 0] 66 (0, 0)) (by (with_reducible repeat (first | refine blk_drewN ?_ _ | refine blk_drew ?_ | refine blk_alloc ?_ _)); exact BK175.out) hb); have n2_ := Aside0.mk (blk_below (g := gb177) (o := .cells #[.string ((rd_T40 l0_3 a1).f0), .slice A176_1 ((rd_T40 l0_3 a1).f1).length c176_1, .slice A176_2 ((rd_T40 l0_3 a1).f2).length c176_2, .string ((rd_T40 l0_3 a1).f3)] 40 (0, 0)) (by (with_reducible repeat (first | refine blk_drewN ?_ _ | refine blk_drew ?_ | refine blk_alloc ?_ _)); exact BK177.out) hb); have n3_ := Aside0.mk (below_step (by repeat (first | (with_reducible first | exact HB.out | apply below_alloc | apply pw_below_drewN | apply below_drew1 | refine below_set ?_ GE174.out | refine below_set ?_ GE175.out | refine below_set ?_ GE177.out) | exact HB.out)) hb); clear BK174; clear BK175; clear BK177; clear HB; have BK174 := n0_; have BK175 := n1_; have BK177 := n2_; have HB := n3_; clear n0_ n1_ n2_ n3_; (try clear hb); (try clear hb2); (try clear hk); (try clear hi)))
       skip
       go_ret
       exact ⟨by first | rfl | (simp [errW_none, errW_some] <;> rfl) | (simp [*, errW_none, errW_some] <;> rfl), by repeat (first | (with_reducible first | exact HB.out | apply below_alloc | apply pw_below_drewN | apply below_drew1 | refine below_set ?_ GE174.out | refine below_set ?_ GE175.out | refine below_set ?_ GE177.out) | exact HB.out)⟩
     ·rw [if_neg c40] at H
      have c40b0 : (t180 == 0) = false := beq_eq_false_iff_ne.mpr c40
      have c40b1 : (t180 != 0) = true := bne_iff_ne.mpr c40
      obtain rfl := Option.some.inj H
      have hnb85 := NB175_174.out
      have hnc85 := NB174_175.out
      have hnb86 := NB175_177.out
      have hnc86 := NB177_175.out
      have hcz87_0 : wc.cell? ⟨gb175, 0, none⟩ = some (.int .i64 a0_0) := (blk_cell BK175.out 0).trans rfl
      have hcz87_1 : wc.cell? ⟨gb175, 1, none⟩ = some (.int .i64 a0_1) := (blk_cell BK175.out 1).trans rfl
      have hcz87_2 : wc.cell? ⟨gb175, 2, none⟩ = some (.int .i64 a0_2) := (blk_cell BK175.out 2).trans rfl
      have hcz87_3 : wc.cell? ⟨gb175, 3, none⟩ = some (.int .i64 0) := (blk_cell BK175.out 3).trans rfl
      have hfz87_0 := blk_frozen BK175.out 0
      have hfz87_1 := blk_frozen BK175.out 1
      have hfz87_2 := blk_frozen BK175.out 2
      have hfz87_3 := blk_frozen BK175.out 3
      have hnb88 := NB177_174.out
      have hnc88 := NB174_177.out
      have hcz89_0 : wc.cell? ⟨gb177, 0, none⟩ = some (.string ((rd_T40 l0_3 a1).f0)) := (blk_cell BK177.out 0).trans rfl
      have hcz89_1 : wc.cell? ⟨gb177, 1, none⟩ = some (.slice A176_1 ((rd_T40 l0_3 a1).f1).length c176_1) := (blk_cell BK177.out 1).trans rfl
      have hcz89_2 : wc.cell? ⟨gb177, 2, none⟩ = some (.slice A176_2 ((rd_T40 l0_3 a1).f2).length c176_2) := (blk_cell BK177.out 2).trans rfl
      have hcz89_3 : wc.cell? ⟨gb177, 3, none⟩ = some (.string ((rd_T40 l0_3 a1).f3)) := (blk_cell BK177.out 3).trans rfl
      have hfz89_0 := blk_frozen BK177.out 0
      have hfz89_1 := blk_frozen BK177.out 1
      have hfz89_2 := blk_frozen BK177.out 2
      have hfz89_3 := blk_frozen BK177.out 3
      go_wp2_with (first | (go_at_call 58; (with_reducible refine (ref11_contacts.calls kj4 a0_0 a0_1 a0_2 0 ((rd_T40 l0_3 a1).f0) _ _ ((rd_T40 l0_3 a1).f1) _ _ ((rd_T40 l0_3 a1).f2) ((rd_T40 l0_3 a1).f3) t180 _ ?side1 ?side2 ?side3 ?side4 A39.out).mono ?_); (case side1 => repeat (first | exact (Kd.C_below HR176_1.out HB.out) | (with_reducible refine Kd.C_alloc ?_ _) | (with_reducible refine Kd.C_drewN ?_ _) | (with_reducible refine Kd.C_drew ?_))); (case side2 => exact HC176_1.out); (case side3 => repeat (first | exact (Kd.C_below HR176_2.out HB.out) | (with_reducible refine Kd.C_alloc ?_ _) | (with_reducible refine Kd.C_drewN ?_ _) | (with_reducible refine Kd.C_drew ?_))); (case side4 => exact HC176_2.out); rintro e w90 ⟨rfl, hb⟩; have n0_ := Aside0.mk (blk_below (g := gb174) (o := .cells #[.int .i64 a0_0, .int .i64 a0_1, .int .i64 a0_2, .slice (some ad176) l0_3.length c0_3] 24 (0, 0)) (by (with_reducible repeat (first | refine blk_drewN ?_ _ | refine blk_drew ?_ | refine blk_alloc ?_ _)); exact BK174.out) hb); have n1_ := Aside0.mk (blk_below (g := gb175) (o := .cells #[.int .i64 a0_0, .int .i64 a0_1, .int .i64 a0_2, .int .i64 0] 66 (0, 0)) (by (with_reducible repeat (first | refine blk_drewN ?_ _ | refine blk_drew ?_ | refine blk_alloc ?_ _)); exact BK175.out) hb); have n2_ := Aside0.mk (blk_below (g := gb177) (o := .cells #[.string ((rd_T40 l0_3 a1).f0), .slice A176_1 ((rd_T40 l0_3 a1).f1).length c176_1, .slice A176_2 ((rd_T40 l0_3 a1).f2).length c176_2, .string ((rd_T40 l0_3 a1).f3)] 40 (0, 0)) (by (with_reducible repeat (first | refine blk_drewN ?_ _ | refine blk_drew ?_ | refine blk_alloc ?_ _)); exact BK177.out) hb); have n3_ := Aside0.mk (below_step (by repeat (first | (with_reducible first | exact HB.out | apply below_alloc | apply pw_below_drewN | apply below_drew1 | refine below_set ?_ GE174.out | refine below_set ?_ GE175.out | refine below_set ?_ GE177.out) | exact HB.out)) hb); clear BK174; clear BK175; clear BK177; clear HB; have BK174 := n0_; have BK175 := n1_; have BK177 := n2_; have HB := n3_; clear n0_ n1_ n2_ n3_; (try clear hb); (try clear hb2); (try clear hk); (try clear hi)))
      skip
      go_ret
      exact ⟨by first | rfl | (simp [errW_none, errW_some] <;> rfl) | (simp [*, errW_none, errW_some] <;> rfl), by repeat (first | (with_reducible first | exact HB.out | apply below_alloc | apply pw_below_drewN | apply below_drew1 | refine below_set ?_ GE174.out | refine below_set ?_ GE175.out | refine below_set ?_ GE177.out) | exact HB.out)⟩
  ·rw [if_neg c4] at H
   exact absurd H (by simp)
 ·rw [if_neg c3] at H
  exact absurd H (by simp)

/-! ### ref10_Behind: function 30 -/
def ref10_Behind.l0 : Nat → ByteArray → Int → Int → Int → Int → List (S40) → Option (Bool)
 | 0, _, _, _, _, _, _ => none
 | k + 1, x2, x7, x184000, x184001, x184002, x184003 => if x7 < (x184003.length : Int) then (if 0 ≤ x7 then (if ((rd_T40 x184003 x7).f0).toList = x2.toList then (some true) else (ref10_Behind.l0 k x2 (wrap64 (x7 + 1)) x184000 x184001 x184002 x184003)) else (none)) else (some false)
def ref10_Behind.f (k : Nat) (a0_0 : Int) (a0_1 : Int) (a0_2 : Int) (l0_3 : List (S40)) (a1 : Int) (a2 : ByteArray) : Option (Bool) := ref10_Behind.l0 k a2 (wrap64 (a1 + 1)) a0_0 a0_1 a0_2 l0_3
theorem ref10_Behind.mono_l : ∀ k, (∀ y0 y1 y2 y3 y4 y5, LeO (ref10_Behind.l0 k y0 y1 y2 y3 y4 y5) (ref10_Behind.l0 (k + 1) y0 y1 y2 y3 y4 y5))
 | 0 => fun _ _ _ _ _ _ r h => by simp [ref10_Behind.l0] at h
 | k + 1 => by
  have ih0 := ref10_Behind.mono_l k
  ·intro y0 y1 y2 y3 y4 y5
   unfold ref10_Behind.l0
   repeat' first
   | (with_reducible exact ih0 _ _ _ _ _ _)
   | (with_reducible exact LeO.refl _)
   | (with_reducible exact LeO.none _)
   | (with_reducible refine LeO.ite ?_ ?_)
   | (with_reducible refine LeO.bind ?_ (fun _ => ?_))
   | exact ih0 _ _ _ _ _ _
   | exact LeO.none _
   | refine LeO.ite ?_ ?_
   | refine LeO.bind ?_ (fun _ => ?_)
theorem ref10_Behind.mono : ∀ a0 a1 a2 a3 a4 a5 k, LeO (ref10_Behind.f k a0 a1 a2 a3 a4 a5) (ref10_Behind.f (k + 1) a0 a1 a2 a3 a4 a5) := by
 intro a0 a1 a2 a3 a4 a5 k
 have ih0 := ref10_Behind.mono_l k
 unfold ref10_Behind.f
 repeat' first
   | (with_reducible exact ih0 _ _ _ _ _ _)
   | (with_reducible exact LeO.refl _)
   | (with_reducible exact LeO.none _)
   | (with_reducible refine LeO.ite ?_ ?_)
   | (with_reducible refine LeO.bind ?_ (fun _ => ?_))
   | exact ih0 _ _ _ _ _ _
   | exact LeO.none _
   | refine LeO.ite ?_ ?_
   | refine LeO.bind ?_ (fun _ => ?_)
set_option maxHeartbeats 8000000 in
set_option maxRecDepth 100000 in
theorem ref10_Behind.calls (k : Nat) (a0_0 : Int) (a0_1 : Int) (a0_2 : Int) (A0_3 : Option Addr) (c0_3 : Nat) (l0_3 : List (S40)) (a1 : Int) (a2 : ByteArray) (r : Bool) (w : World) (hr0_3 : Kd.C k40 w A0_3 l0_3.length l0_3) (hc0_3 : l0_3.length ≤ c0_3) (h : ref10_Behind.f k a0_0 a0_1 a0_2 l0_3 a1 a2 = some r) :
  Calls Tryd.prog 30 #[.agg #[.int .i64 a0_0, .int .i64 a0_1, .int .i64 a0_2, .slice A0_3 l0_3.length c0_3], .int .i64 a1, .string a2] w fun e w' => e = .returned (.bool r) ∧ Below w.heap.size w w' := by
 have hu24 := Tryd.underlying24
 have HR0_3 := Aside0.mk hr0_3
 have HC0_3 := Aside0.mk hc0_3
 clear hr0_3 hc0_3
 have HB := Aside0.mk (Below.refl w.heap.size w)
 have H : (ref10_Behind.l0 k a2 (wrap64 (a1 + 1)) a0_0 a0_1 a0_2 l0_3) = some r := h
 clear h
 have H' := Aside0.mk H
 clear H
 go_enter Tryd.func30, Tryd.ntmps30
 go_wp2_with (first | ((with_reducible refine gate_dst (N := 3) rfl ?_); refine box_event ?hg (N := 3) ?hd (cs := #[.int .i64 a0_0, .int .i64 a0_1, .int .i64 a0_2, .slice A0_3 l0_3.length c0_3]) (t := 24) ?hr ?_; (case hd => rfl); (case hg => rfl); (case hr => first | (go_simp; done) | (go_simp; rfl)); intro gb183 hg w4 hbox hb; have n0_ := Aside0.mk (below_step (by repeat (first | (with_reducible first | exact HB.out | apply below_alloc | apply pw_below_drewN | apply below_drew1) | exact HB.out)) hb); have n1_ := Aside0.mk (hbox); have n2_ := Aside0.mk ((by rw [hg]; exact (below_size (by repeat (first | (with_reducible first | exact HB.out | apply below_alloc | apply pw_below_drewN | apply below_drew1) | exact HB.out))) : w.heap.size ≤ gb183)); have n3_ := Aside0.mk ((by rw [hg]; exact (below_size (by repeat (first | (with_reducible first | exact HB.out | apply below_alloc | apply pw_below_drewN | apply below_drew1) | exact HB.out))) : w.heap.size ≤ gb183)); clear HB; have HB := n0_; have BK183 := n1_; have GW183 := n2_; have GE183 := n3_; clear n0_ n1_ n2_ n3_; clear hb hbox hg))
 go_loopg [7] k (fun kq v7 w' => ∃ (x7_1 : Int), v7 = .int .i64 x7_1 ∧ Aside0 (ref10_Behind.l0 kq a2 x7_1 a0_0 a0_1 a0_2 l0_3 = some r) ∧ Aside0 (kq ≤ k) ∧ Aside0 (w'.heap[gb183]? = some (.cells #[.int .i64 a0_0, .int .i64 a0_1, .int .i64 a0_2, (.slice A0_3 l0_3.length c0_3)] 24 (0, 0))) ∧ Aside0 (Below w.heap.size w w'))
 case atStart => exact ⟨(wrap64 (a1 + 1)), (by first | rfl | (simp; done) | (simp [*]; done)), H', ⟨Nat.le_refl _⟩, ⟨by (with_reducible repeat (first | refine blk_drewN ?_ _ | refine blk_drew ?_ | refine blk_alloc ?_ _)); exact BK183.out⟩, ⟨by repeat (first | (with_reducible first | exact HB.out | apply below_alloc | apply pw_below_drewN | apply below_drew1 | refine below_set ?_ GE183.out) | exact HB.out)⟩⟩
 case round =>
  clear H'
  try clear p2
  try clear c3
  obtain ⟨x7_1, rfl, HA, HK1, BK183, HB⟩ := hrel
  cases gk with
  | zero => exact absurd HA.out (by simp [ref10_Behind.l0])
  | succ k1 =>
   have H := HA.out
   clear HA
   simp only [ref10_Behind.l0] at H
   by_cases c5 : x7_1 < (l0_3.length : Int)
   ·rw [if_pos c5] at H
    have c5b0 : decide (x7_1 < (l0_3.length : Int)) = true := decide_eq_true c5
    clear c5
    by_cases c6 : 0 ≤ x7_1
    ·rw [if_pos c6] at H
     have c6b0 : decide (0 ≤ x7_1) = true := decide_eq_true c6
     clear c6
     by_cases c7 : ((rd_T40 l0_3 x7_1).f0).toList = a2.toList
     ·rw [if_pos c7] at H
      have c7b0 : (((rd_T40 l0_3 x7_1).f0).toList == a2.toList) = true := beq_iff_eq.mpr c7
      have c7b1 : (((rd_T40 l0_3 x7_1).f0).toList != a2.toList) = false := bne_eq_false_iff_eq.mpr c7
      clear c7
      obtain rfl := Option.some.inj H
      have hcz8_0 : wr.cell? ⟨gb183, 0, none⟩ = some (.int .i64 a0_0) := (blk_cell BK183.out 0).trans rfl
      have hcz8_1 : wr.cell? ⟨gb183, 1, none⟩ = some (.int .i64 a0_1) := (blk_cell BK183.out 1).trans rfl
      have hcz8_2 : wr.cell? ⟨gb183, 2, none⟩ = some (.int .i64 a0_2) := (blk_cell BK183.out 2).trans rfl
      have hcz8_3 : wr.cell? ⟨gb183, 3, none⟩ = some (.slice A0_3 l0_3.length c0_3) := (blk_cell BK183.out 3).trans rfl
      have hfz8_0 := blk_frozen BK183.out 0
      have hfz8_1 := blk_frozen BK183.out 1
      have hfz8_2 := blk_frozen BK183.out 2
      have hfz8_3 := blk_frozen BK183.out 3
      have p184 : 0 ≤ (x7_1 : Int) := of_decide_eq_true (by first | (with_reducible assumption) | assumption)
      have q184 : x7_1 < (l0_3.length : Int) := of_decide_eq_true (by first | (with_reducible assumption) | assumption)
      obtain ⟨ad184, A184_1, c184_1, A184_2, c184_2, e184, hx184_0, hx184_1, hx184_2, hx184_3, hl184_1, hi184_1, hl184_2, hi184_2⟩ := at_T40 HR0_3.out x7_1 p184 q184
      cases e184
      replace hx184_0 := (HB.out.cell (World.block_lt_of_cell? w _ hx184_0)).trans hx184_0
      replace hx184_1 := (HB.out.cell (World.block_lt_of_cell? w _ hx184_1)).trans hx184_1
      replace hx184_2 := (HB.out.cell (World.block_lt_of_cell? w _ hx184_2)).trans hx184_2
      replace hx184_3 := (HB.out.cell (World.block_lt_of_cell? w _ hx184_3)).trans hx184_3
      have HR184_1 := Aside0.mk hi184_1
      have HC184_1 := Aside0.mk hl184_1
      clear hi184_1 hl184_1
      have HR184_2 := Aside0.mk hi184_2
      have HC184_2 := Aside0.mk hl184_2
      clear hi184_2 hl184_2
      replace p184 := eq_true p184
      replace q184 := eq_true q184
      go_wp2
      go_ret
      exact ⟨by first | rfl | (simp [errW_none, errW_some] <;> rfl) | (simp [*, errW_none, errW_some] <;> rfl), by repeat (first | (with_reducible first | exact HB.out | apply below_alloc | apply pw_below_drewN | apply below_drew1 | refine below_set ?_ GE183.out) | exact HB.out)⟩
     ·rw [if_neg c7] at H
      have c7b0 : (((rd_T40 l0_3 x7_1).f0).toList == a2.toList) = false := beq_eq_false_iff_ne.mpr c7
      have c7b1 : (((rd_T40 l0_3 x7_1).f0).toList != a2.toList) = true := bne_iff_ne.mpr c7
      have H' := Aside0.mk H
      clear H
      have hcz9_0 : wr.cell? ⟨gb183, 0, none⟩ = some (.int .i64 a0_0) := (blk_cell BK183.out 0).trans rfl
      have hcz9_1 : wr.cell? ⟨gb183, 1, none⟩ = some (.int .i64 a0_1) := (blk_cell BK183.out 1).trans rfl
      have hcz9_2 : wr.cell? ⟨gb183, 2, none⟩ = some (.int .i64 a0_2) := (blk_cell BK183.out 2).trans rfl
      have hcz9_3 : wr.cell? ⟨gb183, 3, none⟩ = some (.slice A0_3 l0_3.length c0_3) := (blk_cell BK183.out 3).trans rfl
      have hfz9_0 := blk_frozen BK183.out 0
      have hfz9_1 := blk_frozen BK183.out 1
      have hfz9_2 := blk_frozen BK183.out 2
      have hfz9_3 := blk_frozen BK183.out 3
      have p184 : 0 ≤ (x7_1 : Int) := of_decide_eq_true (by first | (with_reducible assumption) | assumption)
      have q184 : x7_1 < (l0_3.length : Int) := of_decide_eq_true (by first | (with_reducible assumption) | assumption)
      obtain ⟨ad184, A184_1, c184_1, A184_2, c184_2, e184, hx184_0, hx184_1, hx184_2, hx184_3, hl184_1, hi184_1, hl184_2, hi184_2⟩ := at_T40 HR0_3.out x7_1 p184 q184
      cases e184
      replace hx184_0 := (HB.out.cell (World.block_lt_of_cell? w _ hx184_0)).trans hx184_0
      replace hx184_1 := (HB.out.cell (World.block_lt_of_cell? w _ hx184_1)).trans hx184_1
      replace hx184_2 := (HB.out.cell (World.block_lt_of_cell? w _ hx184_2)).trans hx184_2
      replace hx184_3 := (HB.out.cell (World.block_lt_of_cell? w _ hx184_3)).trans hx184_3
      have HR184_1 := Aside0.mk hi184_1
      have HC184_1 := Aside0.mk hl184_1
      clear hi184_1 hl184_1
      have HR184_2 := Aside0.mk hi184_2
      have HC184_2 := Aside0.mk hl184_2
      clear hi184_2 hl184_2
      replace p184 := eq_true p184
      replace q184 := eq_true q184
      go_wp2
      go_roundg k1
      case measure => have := HK1.out; omega
      case rel => exact ⟨(wrap64 (x7_1 + 1)), (by first | rfl | (simp; done) | (simp [*]; done)), H', ⟨by have := HK1.out; omega⟩, ⟨by (with_reducible repeat (first | refine blk_drewN ?_ _ | refine blk_drew ?_ | refine blk_alloc ?_ _)); exact BK183.out⟩, ⟨by repeat (first | (with_reducible first | exact HB.out | apply below_alloc | apply pw_below_drewN | apply below_drew1 | refine below_set ?_ GE183.out) | exact HB.out)⟩⟩
    ·rw [if_neg c6] at H
     exact absurd H (by simp)
   ·rw [if_neg c5] at H
    have c5b0 : decide (x7_1 < (l0_3.length : Int)) = false := decide_eq_false c5
    clear c5
    obtain rfl := Option.some.inj H
    have hcz10_0 : wr.cell? ⟨gb183, 0, none⟩ = some (.int .i64 a0_0) := (blk_cell BK183.out 0).trans rfl
    have hcz10_1 : wr.cell? ⟨gb183, 1, none⟩ = some (.int .i64 a0_1) := (blk_cell BK183.out 1).trans rfl
    have hcz10_2 : wr.cell? ⟨gb183, 2, none⟩ = some (.int .i64 a0_2) := (blk_cell BK183.out 2).trans rfl
    have hcz10_3 : wr.cell? ⟨gb183, 3, none⟩ = some (.slice A0_3 l0_3.length c0_3) := (blk_cell BK183.out 3).trans rfl
    have hfz10_0 := blk_frozen BK183.out 0
    have hfz10_1 := blk_frozen BK183.out 1
    have hfz10_2 := blk_frozen BK183.out 2
    have hfz10_3 := blk_frozen BK183.out 3
    go_wp2
    go_ret
    exact ⟨by first | rfl | (simp [errW_none, errW_some] <;> rfl) | (simp [*, errW_none, errW_some] <;> rfl), by repeat (first | (with_reducible first | exact HB.out | apply below_alloc | apply pw_below_drewN | apply below_drew1 | refine below_set ?_ GE183.out) | exact HB.out)⟩

end Go.Proofs.YtmcmpjkfdkogiaaDoor.P

-- Out of the translation's print, by a program. Lean checks it.
import Derived.Test.YtdbjjbooalkkbaaDoorPQ0
import Derived.Test.YtdbjjbooalkkbaaDoorPQ1
import Derived.Test.YtdbjjbooalkkbaaDoorPQ2
import Derived.Test.YtdbjjbooalkkbaaDoorPQ6
namespace Go.Proofs.YtdbjjbooalkkbaaDoor.P
open Go.RowKit Go.Proofs.YtdbjjbooalkkbaaDoorW.PrintWords Go.Proofs.YtdbjjbooalkkbaaDoorW.PrintLast Go.Proofs.YtdbjjbooalkkbaaDoorW.PrintMore
attribute [local go_sem] max2_int min2_int max_two min_two max_three min_three max_four min_four   -- for this text's walks alone
set_option linter.unusedVariables false
set_option linter.unusedSimpArgs false

attribute [local go_sem high] eqA44 eqA47
/-! ### strings_HasPrefix: function 10 -/
def strings_HasPrefix.f (a0 : ByteArray) (a1 : ByteArray) : Option (Bool) := (stringslite_HasPrefix.f a0 a1).bind fun t156 => (some t156)
set_option maxHeartbeats 8000000 in
set_option maxRecDepth 100000 in
theorem strings_HasPrefix.calls (a0 : ByteArray) (a1 : ByteArray) (r : Bool) (w : World) (h : strings_HasPrefix.f a0 a1 = some r) :
  Calls Tryd.prog 10 #[.string a0, .string a1] w fun e w' => e = .returned (.bool r) ∧ Drawn0 w w' := by
 have H : ((stringslite_HasPrefix.f a0 a1).bind fun t156 => (some t156)) = some r := h
 clear h
 replace H := Option.bind_eq_some_iff.mp H
 obtain ⟨t156, A30, H⟩ := H
 replace H : (some t156) = some r := H
 have A3 := Aside0.mk A30
 clear A30
 obtain rfl := Option.some.inj H
 go_enter Tryd.func10, Tryd.ntmps10
 go_wp2_with (first | ((with_reducible refine gate_callee (f := 28) rfl ?_); refine goesL_ (some 7) rfl rfl Tryd.func28 (by kernel_rfl) rfl #[.string a0, .string a1] rfl (by (try simp only [List.map_toArray, List.map_cons, List.map_nil]); first | done | rfl | (simp only [List.length_drop, List.length_take]; rfl)) ?_; (with_reducible refine (stringslite_HasPrefix.calls a0 a1 t156 _ A3.out).mono ?_); rintro e w' ⟨rfl, ⟨nd, rfl⟩⟩; refine ⟨_, rfl, ?_⟩))
 go_ret
 exact ⟨by first | rfl | (simp; done) | (simp [*]; done), by repeat (first | exact Drawn0.refl _ | apply Drawn0.step)⟩

/-! ### printer_EdgeCount: function 11 -/
mutual
def printer_EdgeCount.l0 : Nat → Int → List (S28) → Int → Int → Option (Int)
 | 0, _, _, _, _ => none
 | k + 1, x3, x9, x10, x11 => if x11 < x10 then (if 0 ≤ x11 then (if x11 < (x9.length : Int) then (printer_EdgeCount.l1 k x3 x9 x10 x11 ((rd_T28 x9 x11).f1) (((rd_T28 x9 x11).f1).length : Int) 0) else (none)) else (none)) else (some x3)
def printer_EdgeCount.l1 : Nat → Int → List (S28) → Int → Int → List (S44) → Int → Int → Option (Int)
 | 0, _, _, _, _, _, _, _ => none
 | k + 1, x3, x9, x10, x11, x16, x17, x18 => if x18 < x17 then (if 0 ≤ x18 then (if x18 < (x16.length : Int) then (if ((rd_T44 x16 x18).f0) = 2 then (printer_EdgeCount.l1 k (wrap64 (x3 + 1)) x9 x10 x11 x16 x17 (wrap64 (x18 + 1))) else (if ((rd_T44 x16 x18).f0) = 3 then (printer_EdgeCount.l1 k (wrap64 (x3 + 1)) x9 x10 x11 x16 x17 (wrap64 (x18 + 1))) else (printer_EdgeCount.l1 k x3 x9 x10 x11 x16 x17 (wrap64 (x18 + 1))))) else (none)) else (none)) else (printer_EdgeCount.l0 k x3 x9 x10 (wrap64 (x11 + 1)))
end
def printer_EdgeCount.f (k : Nat) (a0_0 : Int) (a0_1 : Int) (a0_2 : Int) (l0_3 : List (S28)) : Option (Int) := printer_EdgeCount.l0 k 0 l0_3 (l0_3.length : Int) 0
theorem printer_EdgeCount.mono_l : ∀ k, (∀ y0 y1 y2 y3, LeO (printer_EdgeCount.l0 k y0 y1 y2 y3) (printer_EdgeCount.l0 (k + 1) y0 y1 y2 y3)) ∧ (∀ y0 y1 y2 y3 y4 y5 y6, LeO (printer_EdgeCount.l1 k y0 y1 y2 y3 y4 y5 y6) (printer_EdgeCount.l1 (k + 1) y0 y1 y2 y3 y4 y5 y6))
 | 0 => ⟨fun _ _ _ _ r h => by simp [printer_EdgeCount.l0] at h, fun _ _ _ _ _ _ _ r h => by simp [printer_EdgeCount.l1] at h⟩
 | k + 1 => by
  obtain ⟨ih0, ih1⟩ := printer_EdgeCount.mono_l k
  refine ⟨?_, ?_⟩
  ·intro y0 y1 y2 y3
   unfold printer_EdgeCount.l0
   repeat' first
   | (with_reducible exact ih0 _ _ _ _)
   | (with_reducible exact ih1 _ _ _ _ _ _ _)
   | (with_reducible exact LeO.refl _)
   | (with_reducible exact LeO.none _)
   | (with_reducible refine LeO.ite ?_ ?_)
   | (with_reducible refine LeO.bind ?_ (fun _ => ?_))
   | exact ih0 _ _ _ _
   | exact ih1 _ _ _ _ _ _ _
   | exact LeO.none _
   | refine LeO.ite ?_ ?_
   | refine LeO.bind ?_ (fun _ => ?_)
  ·intro y0 y1 y2 y3 y4 y5 y6
   unfold printer_EdgeCount.l1
   repeat' first
   | (with_reducible exact ih0 _ _ _ _)
   | (with_reducible exact ih1 _ _ _ _ _ _ _)
   | (with_reducible exact LeO.refl _)
   | (with_reducible exact LeO.none _)
   | (with_reducible refine LeO.ite ?_ ?_)
   | (with_reducible refine LeO.bind ?_ (fun _ => ?_))
   | exact ih0 _ _ _ _
   | exact ih1 _ _ _ _ _ _ _
   | exact LeO.none _
   | refine LeO.ite ?_ ?_
   | refine LeO.bind ?_ (fun _ => ?_)
theorem printer_EdgeCount.mono : ∀ a0 a1 a2 a3 k, LeO (printer_EdgeCount.f k a0 a1 a2 a3) (printer_EdgeCount.f (k + 1) a0 a1 a2 a3) := by
 intro a0 a1 a2 a3 k
 obtain ⟨ih0, ih1⟩ := printer_EdgeCount.mono_l k
 unfold printer_EdgeCount.f
 repeat' first
   | (with_reducible exact ih0 _ _ _ _)
   | (with_reducible exact ih1 _ _ _ _ _ _ _)
   | (with_reducible exact LeO.refl _)
   | (with_reducible exact LeO.none _)
   | (with_reducible refine LeO.ite ?_ ?_)
   | (with_reducible refine LeO.bind ?_ (fun _ => ?_))
   | exact ih0 _ _ _ _
   | exact ih1 _ _ _ _ _ _ _
   | exact LeO.none _
   | refine LeO.ite ?_ ?_
   | refine LeO.bind ?_ (fun _ => ?_)
set_option maxHeartbeats 8000000 in
set_option maxRecDepth 100000 in
theorem printer_EdgeCount.calls (k : Nat) (a0_0 : Int) (a0_1 : Int) (a0_2 : Int) (A0_3 : Option Addr) (c0_3 : Nat) (l0_3 : List (S28)) (r : Int) (w : World) (hr0_3 : Kd.C k28 w A0_3 l0_3.length l0_3) (hc0_3 : l0_3.length ≤ c0_3) (h : printer_EdgeCount.f k a0_0 a0_1 a0_2 l0_3 = some r) :
  Calls Tryd.prog 11 #[.agg #[.int .i64 a0_0, .int .i64 a0_1, .int .i64 a0_2, .slice A0_3 l0_3.length c0_3]] w fun e w' => e = .returned (.int .i64 r) ∧ Below w.heap.size w w' := by
 have hu24 := Tryd.underlying24
 have hu28 := Tryd.underlying28
 have hu44 := Tryd.underlying44
 have HR0_3 := Aside0.mk hr0_3
 have HC0_3 := Aside0.mk hc0_3
 clear hr0_3 hc0_3
 have HB := Aside0.mk (Below.refl w.heap.size w)
 have H : (printer_EdgeCount.l0 k 0 l0_3 (l0_3.length : Int) 0) = some r := h
 clear h
 have H' := Aside0.mk H
 clear H
 go_enter Tryd.func11, Tryd.ntmps11
 go_wp2_with (first | ((with_reducible refine gate_dst (N := 1) rfl ?_); refine box_event ?hg (N := 1) ?hd (cs := #[.int .i64 a0_0, .int .i64 a0_1, .int .i64 a0_2, .slice A0_3 l0_3.length c0_3]) (t := 24) ?hr ?_; (case hd => rfl); (case hg => rfl); (case hr => first | (go_simp; done) | (go_simp; rfl)); intro gb157 hg w2 hbox hb; have n0_ := Aside0.mk (below_step (by repeat (first | (with_reducible first | exact HB.out | apply below_alloc | apply pw_below_drewN | apply below_drew1) | exact HB.out)) hb); have n1_ := Aside0.mk (hbox); have n2_ := Aside0.mk ((by rw [hg]; exact (below_size (by repeat (first | (with_reducible first | exact HB.out | apply below_alloc | apply pw_below_drewN | apply below_drew1) | exact HB.out))) : w.heap.size ≤ gb157)); have n3_ := Aside0.mk ((by rw [hg]; exact (below_size (by repeat (first | (with_reducible first | exact HB.out | apply below_alloc | apply pw_below_drewN | apply below_drew1) | exact HB.out))) : w.heap.size ≤ gb157)); clear HB; have HB := n0_; have BK157 := n1_; have GW157 := n2_; have GE157 := n3_; clear n0_ n1_ n2_ n3_; clear hb hbox hg; have hcz3_0 : w2.cell? ⟨gb157, 0, none⟩ = some (.int .i64 a0_0) := (blk_cell BK157.out 0).trans rfl; have hcz3_1 : w2.cell? ⟨gb157, 1, none⟩ = some (.int .i64 a0_1) := (blk_cell BK157.out 1).trans rfl; have hcz3_2 : w2.cell? ⟨gb157, 2, none⟩ = some (.int .i64 a0_2) := (blk_cell BK157.out 2).trans rfl; have hcz3_3 : w2.cell? ⟨gb157, 3, none⟩ = some (.slice A0_3 l0_3.length c0_3) := (blk_cell BK157.out 3).trans rfl; have hfz3_0 := blk_frozen BK157.out 0; have hfz3_1 := blk_frozen BK157.out 1; have hfz3_2 := blk_frozen BK157.out 2; have hfz3_3 := blk_frozen BK157.out 3))
 go_loopg [3, 11] k (fun kq v3 v11 w' => ∃ (x3_1 : Int) (x11_1 : Int), v3 = .int .i64 x3_1 ∧ v11 = .int .i64 x11_1 ∧ Aside0 (printer_EdgeCount.l0 kq x3_1 l0_3 (l0_3.length : Int) x11_1 = some r) ∧ Aside0 (kq ≤ k) ∧ Aside0 (w'.heap[gb157]? = some (.cells #[.int .i64 a0_0, .int .i64 a0_1, .int .i64 a0_2, (.slice A0_3 l0_3.length c0_3)] 24 (0, 0))) ∧ Aside0 (Below w.heap.size w w'))
 case atStart => exact ⟨(0), (0), (by first | rfl | (simp; done) | (simp [*]; done)), (by first | rfl | (simp; done) | (simp [*]; done)), H', ⟨Nat.le_refl _⟩, ⟨by (with_reducible repeat (first | refine blk_drewN ?_ _ | refine blk_drew ?_ | refine blk_alloc ?_ _)); exact BK157.out⟩, ⟨by repeat (first | (with_reducible first | exact HB.out | apply below_alloc | apply pw_below_drewN | apply below_drew1 | refine below_set ?_ GE157.out) | exact HB.out)⟩⟩
 case round =>
  clear H'
  try clear c1
  try clear p2
  try clear hcz3_0
  try clear hcz3_1
  try clear hcz3_2
  try clear hcz3_3
  try clear hfz3_0
  try clear hfz3_1
  try clear hfz3_2
  try clear hfz3_3
  obtain ⟨x3_1, x11_1, rfl, rfl, HA, HK1, BK157, HB⟩ := hrel
  cases gk with
  | zero => exact absurd HA.out (by simp [printer_EdgeCount.l0])
  | succ k1 =>
   have H := HA.out
   clear HA
   simp only [printer_EdgeCount.l0] at H
   by_cases c4 : x11_1 < (l0_3.length : Int)
   ·rw [if_pos c4] at H
    have c4b0 : decide (x11_1 < (l0_3.length : Int)) = true := decide_eq_true c4
    clear c4
    by_cases c5 : 0 ≤ x11_1
    ·rw [if_pos c5] at H
     have c5b0 : decide (0 ≤ x11_1) = true := decide_eq_true c5
     clear c5
     by_cases c6 : x11_1 < (l0_3.length : Int)
     ·rw [if_pos c6] at H
      have c6b0 : decide (x11_1 < (l0_3.length : Int)) = true := decide_eq_true c6
      clear c6
      have H' := Aside0.mk H
      clear H
      have p158 : 0 ≤ (x11_1 : Int) := of_decide_eq_true (by first | (with_reducible assumption) | assumption)
      have q158 : x11_1 < (l0_3.length : Int) := of_decide_eq_true (by first | (with_reducible assumption) | assumption)
      obtain ⟨ad158, A158_1, c158_1, A158_2, c158_2, e158, hx158_0, hx158_1, hx158_2, hx158_3, hl158_1, hi158_1, hl158_2, hi158_2⟩ := at_T28 HR0_3.out x11_1 p158 q158
      cases e158
      replace hx158_0 := (HB.out.cell (World.block_lt_of_cell? w _ hx158_0)).trans hx158_0
      replace hx158_1 := (HB.out.cell (World.block_lt_of_cell? w _ hx158_1)).trans hx158_1
      replace hx158_2 := (HB.out.cell (World.block_lt_of_cell? w _ hx158_2)).trans hx158_2
      replace hx158_3 := (HB.out.cell (World.block_lt_of_cell? w _ hx158_3)).trans hx158_3
      have HR158_1 := Aside0.mk hi158_1
      have HC158_1 := Aside0.mk hl158_1
      clear hi158_1 hl158_1
      have HR158_2 := Aside0.mk hi158_2
      have HC158_2 := Aside0.mk hl158_2
      clear hi158_2 hl158_2
      replace p158 := eq_true p158
      replace q158 := eq_true q158
      go_wp2_with (first | ((with_reducible refine gate_dst (N := 5) rfl ?_); refine box_event ?hg (N := 5) ?hd (cs := #[.string (⟨#[]⟩ : ByteArray), .slice none 0 0, .slice none 0 0, .string (⟨#[]⟩ : ByteArray)]) (t := 28) ?hr ?_; (case hd => rfl); (case hg => rfl); (case hr => first | (go_simp; done) | (go_simp; rfl)); intro gb159 hg w7 hbox hb; have n0_ := Aside0.mk (blk_below (g := gb157) (o := .cells #[.int .i64 a0_0, .int .i64 a0_1, .int .i64 a0_2, .slice (some ad158) l0_3.length c0_3] 24 (0, 0)) (by (with_reducible repeat (first | refine blk_drewN ?_ _ | refine blk_drew ?_ | refine blk_alloc ?_ _)); exact BK157.out) hb); have n1_ := Aside0.mk (below_step (by repeat (first | (with_reducible first | exact HB.out | apply below_alloc | apply pw_below_drewN | apply below_drew1 | refine below_set ?_ GE157.out) | exact HB.out)) hb); have n2_ := Aside0.mk (hbox); have n3_ := Aside0.mk ((by rw [hg]; exact (below_size (by repeat (first | (with_reducible first | exact HB.out | apply below_alloc | apply pw_below_drewN | apply below_drew1 | refine below_set ?_ GE157.out) | exact HB.out))) : w.heap.size ≤ gb159)); have n4_ := Aside0.mk ((by rw [hg]; exact (below_size (by repeat (first | (with_reducible first | exact HB.out | apply below_alloc | apply pw_below_drewN | apply below_drew1 | refine below_set ?_ GE157.out) | exact HB.out))) : w.heap.size ≤ gb159)); have n5_ := Aside0.mk ((by rw [hg]; exact Nat.ne_of_lt (blk_lt (g := gb157) (o := .cells #[.int .i64 a0_0, .int .i64 a0_1, .int .i64 a0_2, .slice (some ad158) l0_3.length c0_3] 24 (0, 0)) (by (with_reducible repeat (first | refine blk_drewN ?_ _ | refine blk_drew ?_ | refine blk_alloc ?_ _)); exact BK157.out)) : gb157 ≠ gb159)); have n6_ := Aside0.mk ((by rw [hg]; exact Nat.ne_of_gt (blk_lt (g := gb157) (o := .cells #[.int .i64 a0_0, .int .i64 a0_1, .int .i64 a0_2, .slice (some ad158) l0_3.length c0_3] 24 (0, 0)) (by (with_reducible repeat (first | refine blk_drewN ?_ _ | refine blk_drew ?_ | refine blk_alloc ?_ _)); exact BK157.out)) : gb159 ≠ gb157)); clear BK157; clear HB; have BK157 := n0_; have HB := n1_; have BK159 := n2_; have GW159 := n3_; have GE159 := n4_; have NB157_159 := n5_; have NB159_157 := n6_; clear n0_ n1_ n2_ n3_ n4_ n5_ n6_; clear hb hbox hg; have hnb8 := NB159_157.out; have hnc8 := NB157_159.out; have hcz9_0 : w7.cell? ⟨gb159, 0, none⟩ = some (.string (⟨#[]⟩ : ByteArray)) := (blk_cell BK159.out 0).trans rfl; have hcz9_1 : w7.cell? ⟨gb159, 1, none⟩ = some (.slice none 0 0) := (blk_cell BK159.out 1).trans rfl; have hcz9_2 : w7.cell? ⟨gb159, 2, none⟩ = some (.slice none 0 0) := (blk_cell BK159.out 2).trans rfl; have hcz9_3 : w7.cell? ⟨gb159, 3, none⟩ = some (.string (⟨#[]⟩ : ByteArray)) := (blk_cell BK159.out 3).trans rfl; have hfz9_0 := blk_frozen BK159.out 0; have hfz9_1 := blk_frozen BK159.out 1; have hfz9_2 := blk_frozen BK159.out 2; have hfz9_3 := blk_frozen BK159.out 3))
      go_loopg [3, 18] k1 (fun kq v3 v18 w' => ∃ (x3_2 : Int) (x18_2 : Int), v3 = .int .i64 x3_2 ∧ v18 = .int .i64 x18_2 ∧ Aside0 (printer_EdgeCount.l1 kq x3_2 l0_3 (l0_3.length : Int) x11_1 ((rd_T28 l0_3 x11_1).f1) (((rd_T28 l0_3 x11_1).f1).length : Int) x18_2 = some r) ∧ Aside0 (kq ≤ k1) ∧ Aside0 (w'.heap[gb157]? = some (.cells #[.int .i64 a0_0, .int .i64 a0_1, .int .i64 a0_2, (.slice (some ad158) l0_3.length c0_3)] 24 (0, 0))) ∧ Aside0 (w'.heap[gb159]? = some (.cells #[.string ((rd_T28 l0_3 x11_1).f0), (.slice A158_1 ((rd_T28 l0_3 x11_1).f1).length c158_1), (.slice A158_2 ((rd_T28 l0_3 x11_1).f2).length c158_2), .string ((rd_T28 l0_3 x11_1).f3)] 28 (0, 0))) ∧ Aside0 (Below w.heap.size w w'))
      case atStart => exact ⟨(x3_1), (0), (by first | rfl | (simp; done) | (simp [*]; done)), (by first | rfl | (simp; done) | (simp [*]; done)), H', ⟨Nat.le_refl _⟩, ⟨by (with_reducible repeat (first | refine blk_drewN ?_ _ | refine blk_drew ?_ | refine blk_alloc ?_ _)); refine blk_far ?_ NB157_159.out _; (with_reducible repeat (first | refine blk_drewN ?_ _ | refine blk_drew ?_ | refine blk_alloc ?_ _)); refine blk_far ?_ NB157_159.out _; (with_reducible repeat (first | refine blk_drewN ?_ _ | refine blk_drew ?_ | refine blk_alloc ?_ _)); refine blk_far ?_ NB157_159.out _; (with_reducible repeat (first | refine blk_drewN ?_ _ | refine blk_drew ?_ | refine blk_alloc ?_ _)); refine blk_far ?_ NB157_159.out _; (with_reducible repeat (first | refine blk_drewN ?_ _ | refine blk_drew ?_ | refine blk_alloc ?_ _)); exact BK157.out⟩, ⟨by (with_reducible repeat (first | refine blk_drewN ?_ _ | refine blk_drew ?_ | refine blk_alloc ?_ _)); refine blk_put (cs := #[.string ((rd_T28 l0_3 x11_1).f0), .slice A158_1 ((rd_T28 l0_3 x11_1).f1).length c158_1, .slice A158_2 ((rd_T28 l0_3 x11_1).f2).length c158_2, .string (⟨#[]⟩ : ByteArray)]) ?_ 3 _ rfl; (with_reducible repeat (first | refine blk_drewN ?_ _ | refine blk_drew ?_ | refine blk_alloc ?_ _)); refine blk_put (cs := #[.string ((rd_T28 l0_3 x11_1).f0), .slice A158_1 ((rd_T28 l0_3 x11_1).f1).length c158_1, .slice none 0 0, .string (⟨#[]⟩ : ByteArray)]) ?_ 2 _ rfl; (with_reducible repeat (first | refine blk_drewN ?_ _ | refine blk_drew ?_ | refine blk_alloc ?_ _)); refine blk_put (cs := #[.string ((rd_T28 l0_3 x11_1).f0), .slice none 0 0, .slice none 0 0, .string (⟨#[]⟩ : ByteArray)]) ?_ 1 _ rfl; (with_reducible repeat (first | refine blk_drewN ?_ _ | refine blk_drew ?_ | refine blk_alloc ?_ _)); refine blk_put (cs := #[.string (⟨#[]⟩ : ByteArray), .slice none 0 0, .slice none 0 0, .string (⟨#[]⟩ : ByteArray)]) ?_ 0 _ rfl; (with_reducible repeat (first | refine blk_drewN ?_ _ | refine blk_drew ?_ | refine blk_alloc ?_ _)); exact BK159.out⟩, ⟨by repeat (first | (with_reducible first | exact HB.out | apply below_alloc | apply pw_below_drewN | apply below_drew1 | refine below_set ?_ GE157.out | refine below_set ?_ GE159.out) | exact HB.out)⟩⟩
      case round =>
       clear H'
       try clear c1
       try clear p1
       try clear q1
       try clear hx1
       try clear p2
       try clear c4
       try clear c4b0
       try clear c5
       try clear c5b0
       try clear c6
       try clear c6b0
       try clear c8
       try clear hcz3_0
       try clear hcz3_1
       try clear hcz3_2
       try clear hcz3_3
       try clear hcz9_0
       try clear hcz9_1
       try clear hcz9_2
       try clear hcz9_3
       try clear hfz3_0
       try clear hfz3_1
       try clear hfz3_2
       try clear hfz3_3
       try clear hfz9_0
       try clear hfz9_1
       try clear hfz9_2
       try clear hfz9_3
       try clear hx158_0
       try clear hx158_1
       try clear hx158_2
       try clear hx158_3
       try clear p158
       try clear p2
       try clear q158
       obtain ⟨x3_2, x18_2, rfl, rfl, HA, HK2, BK157, BK159, HB⟩ := hrel
       cases gk with
       | zero => exact absurd HA.out (by simp [printer_EdgeCount.l1])
       | succ k2 =>
        have H := HA.out
        clear HA
        simp only [printer_EdgeCount.l1] at H
        by_cases c10 : x18_2 < (((rd_T28 l0_3 x11_1).f1).length : Int)
        ·rw [if_pos c10] at H
         have c10b0 : decide (x18_2 < (((rd_T28 l0_3 x11_1).f1).length : Int)) = true := decide_eq_true c10
         clear c10
         by_cases c11 : 0 ≤ x18_2
         ·rw [if_pos c11] at H
          have c11b0 : decide (0 ≤ x18_2) = true := decide_eq_true c11
          clear c11
          by_cases c12 : x18_2 < (((rd_T28 l0_3 x11_1).f1).length : Int)
          ·rw [if_pos c12] at H
           have c12b0 : decide (x18_2 < (((rd_T28 l0_3 x11_1).f1).length : Int)) = true := decide_eq_true c12
           clear c12
           by_cases c13 : ((rd_T44 ((rd_T28 l0_3 x11_1).f1) x18_2).f0) = 2
           ·rw [if_pos c13] at H
            have c13b0 : (((rd_T44 ((rd_T28 l0_3 x11_1).f1) x18_2).f0) == 2) = true := beq_iff_eq.mpr c13
            have c13b1 : (((rd_T44 ((rd_T28 l0_3 x11_1).f1) x18_2).f0) != 2) = false := bne_eq_false_iff_eq.mpr c13
            clear c13
            have H' := Aside0.mk H
            clear H
            have p160 : 0 ≤ (x18_2 : Int) := of_decide_eq_true (by first | (with_reducible assumption) | assumption)
            have q160 : x18_2 < (((rd_T28 l0_3 x11_1).f1).length : Int) := of_decide_eq_true (by first | (with_reducible assumption) | assumption)
            obtain ⟨ad160, e160, hx160_0, hx160_1, hx160_2, hx160_3, hx160_4⟩ := at_T44 HR158_1.out x18_2 p160 q160
            cases e160
            replace hx160_0 := (HB.out.cell (World.block_lt_of_cell? w _ hx160_0)).trans hx160_0
            replace hx160_1 := (HB.out.cell (World.block_lt_of_cell? w _ hx160_1)).trans hx160_1
            replace hx160_2 := (HB.out.cell (World.block_lt_of_cell? w _ hx160_2)).trans hx160_2
            replace hx160_3 := (HB.out.cell (World.block_lt_of_cell? w _ hx160_3)).trans hx160_3
            replace hx160_4 := (HB.out.cell (World.block_lt_of_cell? w _ hx160_4)).trans hx160_4
            replace p160 := eq_true p160
            replace q160 := eq_true q160
            go_wp2_with (first | ((with_reducible refine gate_dst (N := 7) rfl ?_); refine box_event ?hg (N := 7) ?hd (cs := #[.int .i64 0, .int .i64 0, .int .i64 0, .string (⟨#[]⟩ : ByteArray), .string (⟨#[]⟩ : ByteArray)]) (t := 44) ?hr ?_; (case hd => rfl); (case hg => rfl); (case hr => first | (go_simp; done) | (go_simp; rfl)); intro gb161 hg w14 hbox hb; have n0_ := Aside0.mk (blk_below (g := gb157) (o := .cells #[.int .i64 a0_0, .int .i64 a0_1, .int .i64 a0_2, .slice (some ad158) l0_3.length c0_3] 24 (0, 0)) (by (with_reducible repeat (first | refine blk_drewN ?_ _ | refine blk_drew ?_ | refine blk_alloc ?_ _)); exact BK157.out) hb); have n1_ := Aside0.mk (blk_below (g := gb159) (o := .cells #[.string ((rd_T28 l0_3 x11_1).f0), .slice (some ad160) ((rd_T28 l0_3 x11_1).f1).length c158_1, .slice A158_2 ((rd_T28 l0_3 x11_1).f2).length c158_2, .string ((rd_T28 l0_3 x11_1).f3)] 28 (0, 0)) (by (with_reducible repeat (first | refine blk_drewN ?_ _ | refine blk_drew ?_ | refine blk_alloc ?_ _)); exact BK159.out) hb); have n2_ := Aside0.mk (below_step (by repeat (first | (with_reducible first | exact HB.out | apply below_alloc | apply pw_below_drewN | apply below_drew1 | refine below_set ?_ GE157.out | refine below_set ?_ GE159.out) | exact HB.out)) hb); have n3_ := Aside0.mk (hbox); have n4_ := Aside0.mk ((by rw [hg]; exact (below_size (by repeat (first | (with_reducible first | exact HB.out | apply below_alloc | apply pw_below_drewN | apply below_drew1 | refine below_set ?_ GE157.out | refine below_set ?_ GE159.out) | exact HB.out))) : w.heap.size ≤ gb161)); have n5_ := Aside0.mk ((by rw [hg]; exact (below_size (by repeat (first | (with_reducible first | exact HB.out | apply below_alloc | apply pw_below_drewN | apply below_drew1 | refine below_set ?_ GE157.out | refine below_set ?_ GE159.out) | exact HB.out))) : w.heap.size ≤ gb161)); have n6_ := Aside0.mk ((by rw [hg]; exact Nat.ne_of_lt (blk_lt (g := gb157) (o := .cells #[.int .i64 a0_0, .int .i64 a0_1, .int .i64 a0_2, .slice (some ad158) l0_3.length c0_3] 24 (0, 0)) (by (with_reducible repeat (first | refine blk_drewN ?_ _ | refine blk_drew ?_ | refine blk_alloc ?_ _)); exact BK157.out)) : gb157 ≠ gb161)); have n7_ := Aside0.mk ((by rw [hg]; exact Nat.ne_of_gt (blk_lt (g := gb157) (o := .cells #[.int .i64 a0_0, .int .i64 a0_1, .int .i64 a0_2, .slice (some ad158) l0_3.length c0_3] 24 (0, 0)) (by (with_reducible repeat (first | refine blk_drewN ?_ _ | refine blk_drew ?_ | refine blk_alloc ?_ _)); exact BK157.out)) : gb161 ≠ gb157)); have n8_ := Aside0.mk ((by rw [hg]; exact Nat.ne_of_lt (blk_lt (g := gb159) (o := .cells #[.string ((rd_T28 l0_3 x11_1).f0), .slice (some ad160) ((rd_T28 l0_3 x11_1).f1).length c158_1, .slice A158_2 ((rd_T28 l0_3 x11_1).f2).length c158_2, .string ((rd_T28 l0_3 x11_1).f3)] 28 (0, 0)) (by (with_reducible repeat (first | refine blk_drewN ?_ _ | refine blk_drew ?_ | refine blk_alloc ?_ _)); exact BK159.out)) : gb159 ≠ gb161)); have n9_ := Aside0.mk ((by rw [hg]; exact Nat.ne_of_gt (blk_lt (g := gb159) (o := .cells #[.string ((rd_T28 l0_3 x11_1).f0), .slice (some ad160) ((rd_T28 l0_3 x11_1).f1).length c158_1, .slice A158_2 ((rd_T28 l0_3 x11_1).f2).length c158_2, .string ((rd_T28 l0_3 x11_1).f3)] 28 (0, 0)) (by (with_reducible repeat (first | refine blk_drewN ?_ _ | refine blk_drew ?_ | refine blk_alloc ?_ _)); exact BK159.out)) : gb161 ≠ gb159)); clear BK157; clear BK159; clear HB; have BK157 := n0_; have BK159 := n1_; have HB := n2_; have BK161 := n3_; have GW161 := n4_; have GE161 := n5_; have NB157_161 := n6_; have NB161_157 := n7_; have NB159_161 := n8_; have NB161_159 := n9_; clear n0_ n1_ n2_ n3_ n4_ n5_ n6_ n7_ n8_ n9_; clear hb hbox hg; have hnb15 := NB161_157.out; have hnc15 := NB157_161.out; have hnb16 := NB161_159.out; have hnc16 := NB159_161.out; have hcz17_0 : w14.cell? ⟨gb161, 0, none⟩ = some (.int .i64 0) := (blk_cell BK161.out 0).trans rfl; have hcz17_1 : w14.cell? ⟨gb161, 1, none⟩ = some (.int .i64 0) := (blk_cell BK161.out 1).trans rfl; have hcz17_2 : w14.cell? ⟨gb161, 2, none⟩ = some (.int .i64 0) := (blk_cell BK161.out 2).trans rfl; have hcz17_3 : w14.cell? ⟨gb161, 3, none⟩ = some (.string (⟨#[]⟩ : ByteArray)) := (blk_cell BK161.out 3).trans rfl; have hcz17_4 : w14.cell? ⟨gb161, 4, none⟩ = some (.string (⟨#[]⟩ : ByteArray)) := (blk_cell BK161.out 4).trans rfl; have hfz17_0 := blk_frozen BK161.out 0; have hfz17_1 := blk_frozen BK161.out 1; have hfz17_2 := blk_frozen BK161.out 2; have hfz17_3 := blk_frozen BK161.out 3; have hfz17_4 := blk_frozen BK161.out 4))
            go_roundg k2
            case measure => have := HK1.out; have := HK2.out; omega
            case rel => exact ⟨(wrap64 (x3_2 + 1)), (wrap64 (x18_2 + 1)), (by first | rfl | (simp; done) | (simp [*]; done)), (by first | rfl | (simp; done) | (simp [*]; done)), H', ⟨by have := HK1.out; have := HK2.out; omega⟩, ⟨by (with_reducible repeat (first | refine blk_drewN ?_ _ | refine blk_drew ?_ | refine blk_alloc ?_ _)); refine blk_far ?_ NB157_161.out _; (with_reducible repeat (first | refine blk_drewN ?_ _ | refine blk_drew ?_ | refine blk_alloc ?_ _)); refine blk_far ?_ NB157_161.out _; (with_reducible repeat (first | refine blk_drewN ?_ _ | refine blk_drew ?_ | refine blk_alloc ?_ _)); refine blk_far ?_ NB157_161.out _; (with_reducible repeat (first | refine blk_drewN ?_ _ | refine blk_drew ?_ | refine blk_alloc ?_ _)); refine blk_far ?_ NB157_161.out _; (with_reducible repeat (first | refine blk_drewN ?_ _ | refine blk_drew ?_ | refine blk_alloc ?_ _)); refine blk_far ?_ NB157_161.out _; (with_reducible repeat (first | refine blk_drewN ?_ _ | refine blk_drew ?_ | refine blk_alloc ?_ _)); exact BK157.out⟩, ⟨by (with_reducible repeat (first | refine blk_drewN ?_ _ | refine blk_drew ?_ | refine blk_alloc ?_ _)); refine blk_far ?_ NB159_161.out _; (with_reducible repeat (first | refine blk_drewN ?_ _ | refine blk_drew ?_ | refine blk_alloc ?_ _)); refine blk_far ?_ NB159_161.out _; (with_reducible repeat (first | refine blk_drewN ?_ _ | refine blk_drew ?_ | refine blk_alloc ?_ _)); refine blk_far ?_ NB159_161.out _; (with_reducible repeat (first | refine blk_drewN ?_ _ | refine blk_drew ?_ | refine blk_alloc ?_ _)); refine blk_far ?_ NB159_161.out _; (with_reducible repeat (first | refine blk_drewN ?_ _ | refine blk_drew ?_ | refine blk_alloc ?_ _)); refine blk_far ?_ NB159_161.out _; (with_reducible repeat (first | refine blk_drewN ?_ _ | refine blk_drew ?_ | refine blk_alloc ?_ _)); exact BK159.out⟩, ⟨by repeat (first | (with_reducible first | exact HB.out | apply below_alloc | apply pw_below_drewN | apply below_drew1 | refine below_set ?_ GE157.out | refine below_set ?_ GE159.out | refine below_set ?_ GE161.out) | exact HB.out)⟩⟩
           ·rw [if_neg c13] at H
            have c13b0 : (((rd_T44 ((rd_T28 l0_3 x11_1).f1) x18_2).f0) == 2) = false := beq_eq_false_iff_ne.mpr c13
            have c13b1 : (((rd_T44 ((rd_T28 l0_3 x11_1).f1) x18_2).f0) != 2) = true := bne_iff_ne.mpr c13
            by_cases c18 : ((rd_T44 ((rd_T28 l0_3 x11_1).f1) x18_2).f0) = 3
            ·rw [if_pos c18] at H
             have c18b0 : (((rd_T44 ((rd_T28 l0_3 x11_1).f1) x18_2).f0) == 3) = true := beq_iff_eq.mpr c18
             have c18b1 : (((rd_T44 ((rd_T28 l0_3 x11_1).f1) x18_2).f0) != 3) = false := bne_eq_false_iff_eq.mpr c18
             clear c18
             have H' := Aside0.mk H
             clear H
             have p160 : 0 ≤ (x18_2 : Int) := of_decide_eq_true (by first | (with_reducible assumption) | assumption)
             have q160 : x18_2 < (((rd_T28 l0_3 x11_1).f1).length : Int) := of_decide_eq_true (by first | (with_reducible assumption) | assumption)
             obtain ⟨ad160, e160, hx160_0, hx160_1, hx160_2, hx160_3, hx160_4⟩ := at_T44 HR158_1.out x18_2 p160 q160
             cases e160
             replace hx160_0 := (HB.out.cell (World.block_lt_of_cell? w _ hx160_0)).trans hx160_0
             replace hx160_1 := (HB.out.cell (World.block_lt_of_cell? w _ hx160_1)).trans hx160_1
             replace hx160_2 := (HB.out.cell (World.block_lt_of_cell? w _ hx160_2)).trans hx160_2
             replace hx160_3 := (HB.out.cell (World.block_lt_of_cell? w _ hx160_3)).trans hx160_3
             replace hx160_4 := (HB.out.cell (World.block_lt_of_cell? w _ hx160_4)).trans hx160_4
             replace p160 := eq_true p160
             replace q160 := eq_true q160
             go_wp2_with (first | ((with_reducible refine gate_dst (N := 7) rfl ?_); refine box_event ?hg (N := 7) ?hd (cs := #[.int .i64 0, .int .i64 0, .int .i64 0, .string (⟨#[]⟩ : ByteArray), .string (⟨#[]⟩ : ByteArray)]) (t := 44) ?hr ?_; (case hd => rfl); (case hg => rfl); (case hr => first | (go_simp; done) | (go_simp; rfl)); intro gb161 hg w19 hbox hb; have n0_ := Aside0.mk (blk_below (g := gb157) (o := .cells #[.int .i64 a0_0, .int .i64 a0_1, .int .i64 a0_2, .slice (some ad158) l0_3.length c0_3] 24 (0, 0)) (by (with_reducible repeat (first | refine blk_drewN ?_ _ | refine blk_drew ?_ | refine blk_alloc ?_ _)); exact BK157.out) hb); have n1_ := Aside0.mk (blk_below (g := gb159) (o := .cells #[.string ((rd_T28 l0_3 x11_1).f0), .slice (some ad160) ((rd_T28 l0_3 x11_1).f1).length c158_1, .slice A158_2 ((rd_T28 l0_3 x11_1).f2).length c158_2, .string ((rd_T28 l0_3 x11_1).f3)] 28 (0, 0)) (by (with_reducible repeat (first | refine blk_drewN ?_ _ | refine blk_drew ?_ | refine blk_alloc ?_ _)); exact BK159.out) hb); have n2_ := Aside0.mk (below_step (by repeat (first | (with_reducible first | exact HB.out | apply below_alloc | apply pw_below_drewN | apply below_drew1 | refine below_set ?_ GE157.out | refine below_set ?_ GE159.out) | exact HB.out)) hb); have n3_ := Aside0.mk (hbox); have n4_ := Aside0.mk ((by rw [hg]; exact (below_size (by repeat (first | (with_reducible first | exact HB.out | apply below_alloc | apply pw_below_drewN | apply below_drew1 | refine below_set ?_ GE157.out | refine below_set ?_ GE159.out) | exact HB.out))) : w.heap.size ≤ gb161)); have n5_ := Aside0.mk ((by rw [hg]; exact (below_size (by repeat (first | (with_reducible first | exact HB.out | apply below_alloc | apply pw_below_drewN | apply below_drew1 | refine below_set ?_ GE157.out | refine below_set ?_ GE159.out) | exact HB.out))) : w.heap.size ≤ gb161)); have n6_ := Aside0.mk ((by rw [hg]; exact Nat.ne_of_lt (blk_lt (g := gb157) (o := .cells #[.int .i64 a0_0, .int .i64 a0_1, .int .i64 a0_2, .slice (some ad158) l0_3.length c0_3] 24 (0, 0)) (by (with_reducible repeat (first | refine blk_drewN ?_ _ | refine blk_drew ?_ | refine blk_alloc ?_ _)); exact BK157.out)) : gb157 ≠ gb161)); have n7_ := Aside0.mk ((by rw [hg]; exact Nat.ne_of_gt (blk_lt (g := gb157) (o := .cells #[.int .i64 a0_0, .int .i64 a0_1, .int .i64 a0_2, .slice (some ad158) l0_3.length c0_3] 24 (0, 0)) (by (with_reducible repeat (first | refine blk_drewN ?_ _ | refine blk_drew ?_ | refine blk_alloc ?_ _)); exact BK157.out)) : gb161 ≠ gb157)); have n8_ := Aside0.mk ((by rw [hg]; exact Nat.ne_of_lt (blk_lt (g := gb159) (o := .cells #[.string ((rd_T28 l0_3 x11_1).f0), .slice (some ad160) ((rd_T28 l0_3 x11_1).f1).length c158_1, .slice A158_2 ((rd_T28 l0_3 x11_1).f2).length c158_2, .string ((rd_T28 l0_3 x11_1).f3)] 28 (0, 0)) (by (with_reducible repeat (first | refine blk_drewN ?_ _ | refine blk_drew ?_ | refine blk_alloc ?_ _)); exact BK159.out)) : gb159 ≠ gb161)); have n9_ := Aside0.mk ((by rw [hg]; exact Nat.ne_of_gt (blk_lt (g := gb159) (o := .cells #[.string ((rd_T28 l0_3 x11_1).f0), .slice (some ad160) ((rd_T28 l0_3 x11_1).f1).length c158_1, .slice A158_2 ((rd_T28 l0_3 x11_1).f2).length c158_2, .string ((rd_T28 l0_3 x11_1).f3)] 28 (0, 0)) (by (with_reducible repeat (first | refine blk_drewN ?_ _ | refine blk_drew ?_ | refine blk_alloc ?_ _)); exact BK159.out)) : gb161 ≠ gb159)); clear BK157; clear BK159; clear HB; have BK157 := n0_; have BK159 := n1_; have HB := n2_; have BK161 := n3_; have GW161 := n4_; have GE161 := n5_; have NB157_161 := n6_; have NB161_157 := n7_; have NB159_161 := n8_; have NB161_159 := n9_; clear n0_ n1_ n2_ n3_ n4_ n5_ n6_ n7_ n8_ n9_; clear hb hbox hg; have hnb20 := NB161_157.out; have hnc20 := NB157_161.out; have hnb21 := NB161_159.out; have hnc21 := NB159_161.out; have hcz22_0 : w19.cell? ⟨gb161, 0, none⟩ = some (.int .i64 0) := (blk_cell BK161.out 0).trans rfl; have hcz22_1 : w19.cell? ⟨gb161, 1, none⟩ = some (.int .i64 0) := (blk_cell BK161.out 1).trans rfl; have hcz22_2 : w19.cell? ⟨gb161, 2, none⟩ = some (.int .i64 0) := (blk_cell BK161.out 2).trans rfl; have hcz22_3 : w19.cell? ⟨gb161, 3, none⟩ = some (.string (⟨#[]⟩ : ByteArray)) := (blk_cell BK161.out 3).trans rfl; have hcz22_4 : w19.cell? ⟨gb161, 4, none⟩ = some (.string (⟨#[]⟩ : ByteArray)) := (blk_cell BK161.out 4).trans rfl; have hfz22_0 := blk_frozen BK161.out 0; have hfz22_1 := blk_frozen BK161.out 1; have hfz22_2 := blk_frozen BK161.out 2; have hfz22_3 := blk_frozen BK161.out 3; have hfz22_4 := blk_frozen BK161.out 4))
             go_roundg k2
             case measure => have := HK1.out; have := HK2.out; omega
             case rel => exact ⟨(wrap64 (x3_2 + 1)), (wrap64 (x18_2 + 1)), (by first | rfl | (simp; done) | (simp [*]; done)), (by first | rfl | (simp; done) | (simp [*]; done)), H', ⟨by have := HK1.out; have := HK2.out; omega⟩, ⟨by (with_reducible repeat (first | refine blk_drewN ?_ _ | refine blk_drew ?_ | refine blk_alloc ?_ _)); refine blk_far ?_ NB157_161.out _; (with_reducible repeat (first | refine blk_drewN ?_ _ | refine blk_drew ?_ | refine blk_alloc ?_ _)); refine blk_far ?_ NB157_161.out _; (with_reducible repeat (first | refine blk_drewN ?_ _ | refine blk_drew ?_ | refine blk_alloc ?_ _)); refine blk_far ?_ NB157_161.out _; (with_reducible repeat (first | refine blk_drewN ?_ _ | refine blk_drew ?_ | refine blk_alloc ?_ _)); refine blk_far ?_ NB157_161.out _; (with_reducible repeat (first | refine blk_drewN ?_ _ | refine blk_drew ?_ | refine blk_alloc ?_ _)); refine blk_far ?_ NB157_161.out _; (with_reducible repeat (first | refine blk_drewN ?_ _ | refine blk_drew ?_ | refine blk_alloc ?_ _)); exact BK157.out⟩, ⟨by (with_reducible repeat (first | refine blk_drewN ?_ _ | refine blk_drew ?_ | refine blk_alloc ?_ _)); refine blk_far ?_ NB159_161.out _; (with_reducible repeat (first | refine blk_drewN ?_ _ | refine blk_drew ?_ | refine blk_alloc ?_ _)); refine blk_far ?_ NB159_161.out _; (with_reducible repeat (first | refine blk_drewN ?_ _ | refine blk_drew ?_ | refine blk_alloc ?_ _)); refine blk_far ?_ NB159_161.out _; (with_reducible repeat (first | refine blk_drewN ?_ _ | refine blk_drew ?_ | refine blk_alloc ?_ _)); refine blk_far ?_ NB159_161.out _; (with_reducible repeat (first | refine blk_drewN ?_ _ | refine blk_drew ?_ | refine blk_alloc ?_ _)); refine blk_far ?_ NB159_161.out _; (with_reducible repeat (first | refine blk_drewN ?_ _ | refine blk_drew ?_ | refine blk_alloc ?_ _)); exact BK159.out⟩, ⟨by repeat (first | (with_reducible first | exact HB.out | apply below_alloc | apply pw_below_drewN | apply below_drew1 | refine below_set ?_ GE157.out | refine below_set ?_ GE159.out | refine below_set ?_ GE161.out) | exact HB.out)⟩⟩
            ·rw [if_neg c18] at H
             have c18b0 : (((rd_T44 ((rd_T28 l0_3 x11_1).f1) x18_2).f0) == 3) = false := beq_eq_false_iff_ne.mpr c18
             have c18b1 : (((rd_T44 ((rd_T28 l0_3 x11_1).f1) x18_2).f0) != 3) = true := bne_iff_ne.mpr c18
             have H' := Aside0.mk H
             clear H
             have p160 : 0 ≤ (x18_2 : Int) := of_decide_eq_true (by first | (with_reducible assumption) | assumption)
             have q160 : x18_2 < (((rd_T28 l0_3 x11_1).f1).length : Int) := of_decide_eq_true (by first | (with_reducible assumption) | assumption)
             obtain ⟨ad160, e160, hx160_0, hx160_1, hx160_2, hx160_3, hx160_4⟩ := at_T44 HR158_1.out x18_2 p160 q160
             cases e160
             replace hx160_0 := (HB.out.cell (World.block_lt_of_cell? w _ hx160_0)).trans hx160_0
             replace hx160_1 := (HB.out.cell (World.block_lt_of_cell? w _ hx160_1)).trans hx160_1
             replace hx160_2 := (HB.out.cell (World.block_lt_of_cell? w _ hx160_2)).trans hx160_2
             replace hx160_3 := (HB.out.cell (World.block_lt_of_cell? w _ hx160_3)).trans hx160_3
             replace hx160_4 := (HB.out.cell (World.block_lt_of_cell? w _ hx160_4)).trans hx160_4
             replace p160 := eq_true p160
             replace q160 := eq_true q160
             go_wp2_with (first | ((with_reducible refine gate_dst (N := 7) rfl ?_); refine box_event ?hg (N := 7) ?hd (cs := #[.int .i64 0, .int .i64 0, .int .i64 0, .string (⟨#[]⟩ : ByteArray), .string (⟨#[]⟩ : ByteArray)]) (t := 44) ?hr ?_; (case hd => rfl); (case hg => rfl); (case hr => first | (go_simp; done) | (go_simp; rfl)); intro gb161 hg w23 hbox hb; have n0_ := Aside0.mk (blk_below (g := gb157) (o := .cells #[.int .i64 a0_0, .int .i64 a0_1, .int .i64 a0_2, .slice (some ad158) l0_3.length c0_3] 24 (0, 0)) (by (with_reducible repeat (first | refine blk_drewN ?_ _ | refine blk_drew ?_ | refine blk_alloc ?_ _)); exact BK157.out) hb); have n1_ := Aside0.mk (blk_below (g := gb159) (o := .cells #[.string ((rd_T28 l0_3 x11_1).f0), .slice (some ad160) ((rd_T28 l0_3 x11_1).f1).length c158_1, .slice A158_2 ((rd_T28 l0_3 x11_1).f2).length c158_2, .string ((rd_T28 l0_3 x11_1).f3)] 28 (0, 0)) (by (with_reducible repeat (first | refine blk_drewN ?_ _ | refine blk_drew ?_ | refine blk_alloc ?_ _)); exact BK159.out) hb); have n2_ := Aside0.mk (below_step (by repeat (first | (with_reducible first | exact HB.out | apply below_alloc | apply pw_below_drewN | apply below_drew1 | refine below_set ?_ GE157.out | refine below_set ?_ GE159.out) | exact HB.out)) hb); have n3_ := Aside0.mk (hbox); have n4_ := Aside0.mk ((by rw [hg]; exact (below_size (by repeat (first | (with_reducible first | exact HB.out | apply below_alloc | apply pw_below_drewN | apply below_drew1 | refine below_set ?_ GE157.out | refine below_set ?_ GE159.out) | exact HB.out))) : w.heap.size ≤ gb161)); have n5_ := Aside0.mk ((by rw [hg]; exact (below_size (by repeat (first | (with_reducible first | exact HB.out | apply below_alloc | apply pw_below_drewN | apply below_drew1 | refine below_set ?_ GE157.out | refine below_set ?_ GE159.out) | exact HB.out))) : w.heap.size ≤ gb161)); have n6_ := Aside0.mk ((by rw [hg]; exact Nat.ne_of_lt (blk_lt (g := gb157) (o := .cells #[.int .i64 a0_0, .int .i64 a0_1, .int .i64 a0_2, .slice (some ad158) l0_3.length c0_3] 24 (0, 0)) (by (with_reducible repeat (first | refine blk_drewN ?_ _ | refine blk_drew ?_ | refine blk_alloc ?_ _)); exact BK157.out)) : gb157 ≠ gb161)); have n7_ := Aside0.mk ((by rw [hg]; exact Nat.ne_of_gt (blk_lt (g := gb157) (o := .cells #[.int .i64 a0_0, .int .i64 a0_1, .int .i64 a0_2, .slice (some ad158) l0_3.length c0_3] 24 (0, 0)) (by (with_reducible repeat (first | refine blk_drewN ?_ _ | refine blk_drew ?_ | refine blk_alloc ?_ _)); exact BK157.out)) : gb161 ≠ gb157)); have n8_ := Aside0.mk ((by rw [hg]; exact Nat.ne_of_lt (blk_lt (g := gb159) (o := .cells #[.string ((rd_T28 l0_3 x11_1).f0), .slice (some ad160) ((rd_T28 l0_3 x11_1).f1).length c158_1, .slice A158_2 ((rd_T28 l0_3 x11_1).f2).length c158_2, .string ((rd_T28 l0_3 x11_1).f3)] 28 (0, 0)) (by (with_reducible repeat (first | refine blk_drewN ?_ _ | refine blk_drew ?_ | refine blk_alloc ?_ _)); exact BK159.out)) : gb159 ≠ gb161)); have n9_ := Aside0.mk ((by rw [hg]; exact Nat.ne_of_gt (blk_lt (g := gb159) (o := .cells #[.string ((rd_T28 l0_3 x11_1).f0), .slice (some ad160) ((rd_T28 l0_3 x11_1).f1).length c158_1, .slice A158_2 ((rd_T28 l0_3 x11_1).f2).length c158_2, .string ((rd_T28 l0_3 x11_1).f3)] 28 (0, 0)) (by (with_reducible repeat (first | refine blk_drewN ?_ _ | refine blk_drew ?_ | refine blk_alloc ?_ _)); exact BK159.out)) : gb161 ≠ gb159)); clear BK157; clear BK159; clear HB; have BK157 := n0_; have BK159 := n1_; have HB := n2_; have BK161 := n3_; have GW161 := n4_; have GE161 := n5_; have NB157_161 := n6_; have NB161_157 := n7_; have NB159_161 := n8_; have NB161_159 := n9_; clear n0_ n1_ n2_ n3_ n4_ n5_ n6_ n7_ n8_ n9_; clear hb hbox hg; have hnb24 := NB161_157.out; have hnc24 := NB157_161.out; have hnb25 := NB161_159.out; have hnc25 := NB159_161.out; have hcz26_0 : w23.cell? ⟨gb161, 0, none⟩ = some (.int .i64 0) := (blk_cell BK161.out 0).trans rfl; have hcz26_1 : w23.cell? ⟨gb161, 1, none⟩ = some (.int .i64 0) := (blk_cell BK161.out 1).trans rfl; have hcz26_2 : w23.cell? ⟨gb161, 2, none⟩ = some (.int .i64 0) := (blk_cell BK161.out 2).trans rfl; have hcz26_3 : w23.cell? ⟨gb161, 3, none⟩ = some (.string (⟨#[]⟩ : ByteArray)) := (blk_cell BK161.out 3).trans rfl; have hcz26_4 : w23.cell? ⟨gb161, 4, none⟩ = some (.string (⟨#[]⟩ : ByteArray)) := (blk_cell BK161.out 4).trans rfl; have hfz26_0 := blk_frozen BK161.out 0; have hfz26_1 := blk_frozen BK161.out 1; have hfz26_2 := blk_frozen BK161.out 2; have hfz26_3 := blk_frozen BK161.out 3; have hfz26_4 := blk_frozen BK161.out 4))
             go_roundg k2
             case measure => have := HK1.out; have := HK2.out; omega
             case rel => exact ⟨(x3_2), (wrap64 (x18_2 + 1)), (by first | rfl | (simp; done) | (simp [*]; done)), (by first | rfl | (simp; done) | (simp [*]; done)), H', ⟨by have := HK1.out; have := HK2.out; omega⟩, ⟨by (with_reducible repeat (first | refine blk_drewN ?_ _ | refine blk_drew ?_ | refine blk_alloc ?_ _)); refine blk_far ?_ NB157_161.out _; (with_reducible repeat (first | refine blk_drewN ?_ _ | refine blk_drew ?_ | refine blk_alloc ?_ _)); refine blk_far ?_ NB157_161.out _; (with_reducible repeat (first | refine blk_drewN ?_ _ | refine blk_drew ?_ | refine blk_alloc ?_ _)); refine blk_far ?_ NB157_161.out _; (with_reducible repeat (first | refine blk_drewN ?_ _ | refine blk_drew ?_ | refine blk_alloc ?_ _)); refine blk_far ?_ NB157_161.out _; (with_reducible repeat (first | refine blk_drewN ?_ _ | refine blk_drew ?_ | refine blk_alloc ?_ _)); refine blk_far ?_ NB157_161.out _; (with_reducible repeat (first | refine blk_drewN ?_ _ | refine blk_drew ?_ | refine blk_alloc ?_ _)); exact BK157.out⟩, ⟨by (with_reducible repeat (first | refine blk_drewN ?_ _ | refine blk_drew ?_ | refine blk_alloc ?_ _)); refine blk_far ?_ NB159_161.out _; (with_reducible repeat (first | refine blk_drewN ?_ _ | refine blk_drew ?_ | refine blk_alloc ?_ _)); refine blk_far ?_ NB159_161.out _; (with_reducible repeat (first | refine blk_drewN ?_ _ | refine blk_drew ?_ | refine blk_alloc ?_ _)); refine blk_far ?_ NB159_161.out _; (with_reducible repeat (first | refine blk_drewN ?_ _ | refine blk_drew ?_ | refine blk_alloc ?_ _)); refine blk_far ?_ NB159_161.out _; (with_reducible repeat (first | refine blk_drewN ?_ _ | refine blk_drew ?_ | refine blk_alloc ?_ _)); refine blk_far ?_ NB159_161.out _; (with_reducible repeat (first | refine blk_drewN ?_ _ | refine blk_drew ?_ | refine blk_alloc ?_ _)); exact BK159.out⟩, ⟨by repeat (first | (with_reducible first | exact HB.out | apply below_alloc | apply pw_below_drewN | apply below_drew1 | refine below_set ?_ GE157.out | refine below_set ?_ GE159.out | refine below_set ?_ GE161.out) | exact HB.out)⟩⟩
          ·rw [if_neg c12] at H
           exact absurd H (by simp)
         ·rw [if_neg c11] at H
          exact absurd H (by simp)
        ·rw [if_neg c10] at H
         have c10b0 : decide (x18_2 < (((rd_T28 l0_3 x11_1).f1).length : Int)) = false := decide_eq_false c10
         clear c10
         have H' := Aside0.mk H
         clear H
         go_wp2
         go_roundg k2
         case measure => have := HK1.out; have := HK2.out; omega
         case rel => exact ⟨(x3_2), (wrap64 (x11_1 + 1)), (by first | rfl | (simp; done) | (simp [*]; done)), (by first | rfl | (simp; done) | (simp [*]; done)), H', ⟨by have := HK1.out; have := HK2.out; omega⟩, ⟨by (with_reducible repeat (first | refine blk_drewN ?_ _ | refine blk_drew ?_ | refine blk_alloc ?_ _)); exact BK157.out⟩, ⟨by repeat (first | (with_reducible first | exact HB.out | apply below_alloc | apply pw_below_drewN | apply below_drew1 | refine below_set ?_ GE157.out | refine below_set ?_ GE159.out) | exact HB.out)⟩⟩
     ·rw [if_neg c6] at H
      exact absurd H (by simp)
    ·rw [if_neg c5] at H
     exact absurd H (by simp)
   ·rw [if_neg c4] at H
    have c4b0 : decide (x11_1 < (l0_3.length : Int)) = false := decide_eq_false c4
    clear c4
    obtain rfl := Option.some.inj H
    go_wp2
    go_ret
    exact ⟨by first | rfl | (simp [errW_none, errW_some] <;> rfl) | (simp [*, errW_none, errW_some] <;> rfl), by repeat (first | (with_reducible first | exact HB.out | apply below_alloc | apply pw_below_drewN | apply below_drew1 | refine below_set ?_ GE157.out) | exact HB.out)⟩

-- NOT PRINTED: function 3 (law11_PrinterAppendRung)

/-! ### api_Contact: function 31 -/
def api_Contact.l0 : Nat → List (S44) → List (S44) → Int → Int → Option (Bool)
 | 0, _, _, _, _ => none
 | k + 1, x0, x1, x12, x13 => if x13 < x12 then (if 0 ≤ x13 then (if x13 < (x0.length : Int) then (if x13 < (x1.length : Int) then (if (!(((rd_T44 x0 x13).f0) == ((rd_T44 x1 x13).f0)) || ((!(((rd_T44 x0 x13).f1.f0) == ((rd_T44 x1 x13).f1.f0)) || (!(((rd_T44 x0 x13).f1.f1) == ((rd_T44 x1 x13).f1.f1)))) || (!((((rd_T44 x0 x13).f2).toList) == (((rd_T44 x1 x13).f2).toList)) || (!((((rd_T44 x0 x13).f3).toList) == (((rd_T44 x1 x13).f3).toList)))))) = true then (some false) else (api_Contact.l0 k x0 x1 x12 (wrap64 (x13 + 1)))) else (none)) else (none)) else (none)) else (some true)
def api_Contact.f (k : Nat) (l0 : List (S44)) (l1 : List (S44)) : Option (Bool) := if (l0.length : Int) = (l1.length : Int) then (api_Contact.l0 k l0 l1 (l0.length : Int) 0) else (some false)
theorem api_Contact.mono_l : ∀ k, (∀ y0 y1 y2 y3, LeO (api_Contact.l0 k y0 y1 y2 y3) (api_Contact.l0 (k + 1) y0 y1 y2 y3))
 | 0 => fun _ _ _ _ r h => by simp [api_Contact.l0] at h
 | k + 1 => by
  have ih0 := api_Contact.mono_l k
  ·intro y0 y1 y2 y3
   unfold api_Contact.l0
   repeat' first
   | (with_reducible exact ih0 _ _ _ _)
   | (with_reducible exact LeO.refl _)
   | (with_reducible exact LeO.none _)
   | (with_reducible refine LeO.ite ?_ ?_)
   | (with_reducible refine LeO.bind ?_ (fun _ => ?_))
   | exact ih0 _ _ _ _
   | exact LeO.none _
   | refine LeO.ite ?_ ?_
   | refine LeO.bind ?_ (fun _ => ?_)
theorem api_Contact.mono : ∀ a0 a1 k, LeO (api_Contact.f k a0 a1) (api_Contact.f (k + 1) a0 a1) := by
 intro a0 a1 k
 have ih0 := api_Contact.mono_l k
 unfold api_Contact.f
 repeat' first
   | (with_reducible exact ih0 _ _ _ _)
   | (with_reducible exact LeO.refl _)
   | (with_reducible exact LeO.none _)
   | (with_reducible refine LeO.ite ?_ ?_)
   | (with_reducible refine LeO.bind ?_ (fun _ => ?_))
   | exact ih0 _ _ _ _
   | exact LeO.none _
   | refine LeO.ite ?_ ?_
   | refine LeO.bind ?_ (fun _ => ?_)
set_option maxHeartbeats 8000000 in
set_option maxRecDepth 100000 in
theorem api_Contact.calls (k : Nat) (A0 : Option Addr) (c0 : Nat) (l0 : List (S44)) (A1 : Option Addr) (c1 : Nat) (l1 : List (S44)) (r : Bool) (w : World) (hr0 : Kd.C k44 w A0 l0.length l0) (hc0 : l0.length ≤ c0) (hr1 : Kd.C k44 w A1 l1.length l1) (hc1 : l1.length ≤ c1) (h : api_Contact.f k l0 l1 = some r) :
  Calls Tryd.prog 31 #[.slice A0 l0.length c0, .slice A1 l1.length c1] w fun e w' => e = .returned (.bool r) ∧ Drawn0 w w' := by
 have hu44 := Tryd.underlying44
 have HR0 := Aside0.mk hr0
 have HC0 := Aside0.mk hc0
 clear hr0 hc0
 have HR1 := Aside0.mk hr1
 have HC1 := Aside0.mk hc1
 clear hr1 hc1
 have H : (if (l0.length : Int) = (l1.length : Int) then (api_Contact.l0 k l0 l1 (l0.length : Int) 0) else (some false)) = some r := h
 clear h
 by_cases c3 : (l0.length : Int) = (l1.length : Int)
 ·rw [if_pos c3] at H
  have c3b0 : ((l0.length : Int) == (l1.length : Int)) = true := beq_iff_eq.mpr c3
  have c3b1 : ((l0.length : Int) != (l1.length : Int)) = false := bne_eq_false_iff_eq.mpr c3
  have c3b2 : (l0.length == l1.length) = true := by first | simpa using c3 | (simp at c3 ⊢; omega)
  clear c3
  have H' := Aside0.mk H
  clear H
  go_enter Tryd.func31, Tryd.ntmps31
  go_wp2
  repeat (go_quiet (fail); try go_wp2)
  go_loopg [13] k (fun kq v13 w' => ∃ (x13_1 : Int), v13 = .int .i64 x13_1 ∧ Aside0 (api_Contact.l0 kq l0 l1 (l0.length : Int) x13_1 = some r) ∧ Aside0 (kq ≤ k) ∧ Drawn0 w w')
  case atStart => exact ⟨(0), (by first | rfl | (simp; done) | (simp [*]; done)), H', ⟨Nat.le_refl _⟩, by repeat (first | exact Drawn0.refl _ | apply Drawn0.step)⟩
  case round =>
   clear H'
   try clear c1
   try clear p2
   try clear c3
   try clear c3b0
   try clear c3b1
   try clear c3b2
   obtain ⟨x13_1, rfl, HA, HK1, ⟨m1, rfl⟩⟩ := hrel
   cases gk with
   | zero => exact absurd HA.out (by simp [api_Contact.l0])
   | succ k1 =>
    have H := HA.out
    clear HA
    simp only [api_Contact.l0] at H
    by_cases c4 : x13_1 < (l0.length : Int)
    ·rw [if_pos c4] at H
     have c4b0 : decide (x13_1 < (l0.length : Int)) = true := decide_eq_true c4
     clear c4
     by_cases c5 : 0 ≤ x13_1
     ·rw [if_pos c5] at H
      have c5b0 : decide (0 ≤ x13_1) = true := decide_eq_true c5
      clear c5
      by_cases c6 : x13_1 < (l0.length : Int)
      ·rw [if_pos c6] at H
       have c6b0 : decide (x13_1 < (l0.length : Int)) = true := decide_eq_true c6
       clear c6
       by_cases c7 : x13_1 < (l1.length : Int)
       ·rw [if_pos c7] at H
        have c7b0 : decide (x13_1 < (l1.length : Int)) = true := decide_eq_true c7
        clear c7
        by_cases c8 : (!(((rd_T44 l0 x13_1).f0) == ((rd_T44 l1 x13_1).f0)) || ((!(((rd_T44 l0 x13_1).f1.f0) == ((rd_T44 l1 x13_1).f1.f0)) || (!(((rd_T44 l0 x13_1).f1.f1) == ((rd_T44 l1 x13_1).f1.f1)))) || (!((((rd_T44 l0 x13_1).f2).toList) == (((rd_T44 l1 x13_1).f2).toList)) || (!((((rd_T44 l0 x13_1).f3).toList) == (((rd_T44 l1 x13_1).f3).toList)))))) = true
        ·rw [if_pos c8] at H
         have c8b0 : (!(((rd_T44 l0 x13_1).f0) == ((rd_T44 l1 x13_1).f0)) || ((!(((rd_T44 l0 x13_1).f1.f0) == ((rd_T44 l1 x13_1).f1.f0)) || (!(((rd_T44 l0 x13_1).f1.f1) == ((rd_T44 l1 x13_1).f1.f1)))) || (!((((rd_T44 l0 x13_1).f2).toList) == (((rd_T44 l1 x13_1).f2).toList)) || (!((((rd_T44 l0 x13_1).f3).toList) == (((rd_T44 l1 x13_1).f3).toList)))))) = true := c8
         clear c8
         obtain rfl := Option.some.inj H
         have p167 : 0 ≤ (x13_1 : Int) := of_decide_eq_true (by first | (with_reducible assumption) | assumption)
         have q167 : x13_1 < (l0.length : Int) := of_decide_eq_true (by first | (with_reducible assumption) | assumption)
         obtain ⟨ad167, e167, hx167_0, hx167_1, hx167_2, hx167_3, hx167_4⟩ := at_T44 HR0.out x13_1 p167 q167
         cases e167
         replace p167 := eq_true p167
         replace q167 := eq_true q167
         have p168 : 0 ≤ (x13_1 : Int) := of_decide_eq_true (by first | (with_reducible assumption) | assumption)
         have q168 : x13_1 < (l1.length : Int) := of_decide_eq_true (by first | (with_reducible assumption) | assumption)
         obtain ⟨ad168, e168, hx168_0, hx168_1, hx168_2, hx168_3, hx168_4⟩ := at_T44 HR1.out x13_1 p168 q168
         cases e168
         replace p168 := eq_true p168
         replace q168 := eq_true q168
         go_wp2
         repeat (go_quiet (fail); try go_wp2)
         go_ret
         exact ⟨by first | rfl | (simp; done) | (simp [*]; done), by repeat (first | exact Drawn0.refl _ | apply Drawn0.step)⟩
        ·rw [if_neg c8] at H
         have c8b0 : (!(((rd_T44 l0 x13_1).f0) == ((rd_T44 l1 x13_1).f0)) || ((!(((rd_T44 l0 x13_1).f1.f0) == ((rd_T44 l1 x13_1).f1.f0)) || (!(((rd_T44 l0 x13_1).f1.f1) == ((rd_T44 l1 x13_1).f1.f1)))) || (!((((rd_T44 l0 x13_1).f2).toList) == (((rd_T44 l1 x13_1).f2).toList)) || (!((((rd_T44 l0 x13_1).f3).toList) == (((rd_T44 l1 x13_1).f3).toList)))))) = false := by simpa using c8
         clear c8
         have H' := Aside0.mk H
         clear H
         have p167 : 0 ≤ (x13_1 : Int) := of_decide_eq_true (by first | (with_reducible assumption) | assumption)
         have q167 : x13_1 < (l0.length : Int) := of_decide_eq_true (by first | (with_reducible assumption) | assumption)
         obtain ⟨ad167, e167, hx167_0, hx167_1, hx167_2, hx167_3, hx167_4⟩ := at_T44 HR0.out x13_1 p167 q167
         cases e167
         replace p167 := eq_true p167
         replace q167 := eq_true q167
         have p168 : 0 ≤ (x13_1 : Int) := of_decide_eq_true (by first | (with_reducible assumption) | assumption)
         have q168 : x13_1 < (l1.length : Int) := of_decide_eq_true (by first | (with_reducible assumption) | assumption)
         obtain ⟨ad168, e168, hx168_0, hx168_1, hx168_2, hx168_3, hx168_4⟩ := at_T44 HR1.out x13_1 p168 q168
         cases e168
         replace p168 := eq_true p168
         replace q168 := eq_true q168
         go_wp2
         repeat (go_quiet (fail); try go_wp2)
         go_roundg k1
         case measure => have := HK1.out; omega
         case rel => exact ⟨(wrap64 (x13_1 + 1)), (by first | rfl | (simp; done) | (simp [*]; done)), H', ⟨by have := HK1.out; omega⟩, by repeat (first | exact Drawn0.refl _ | apply Drawn0.step)⟩
       ·rw [if_neg c7] at H
        exact absurd H (by simp)
      ·rw [if_neg c6] at H
       exact absurd H (by simp)
     ·rw [if_neg c5] at H
      exact absurd H (by simp)
    ·rw [if_neg c4] at H
     have c4b0 : decide (x13_1 < (l0.length : Int)) = false := decide_eq_false c4
     clear c4
     obtain rfl := Option.some.inj H
     go_wp2
     repeat (go_quiet (fail); try go_wp2)
     go_ret
     exact ⟨by first | rfl | (simp; done) | (simp [*]; done), by repeat (first | exact Drawn0.refl _ | apply Drawn0.step)⟩
 ·rw [if_neg c3] at H
  have c3b0 : ((l0.length : Int) == (l1.length : Int)) = false := beq_eq_false_iff_ne.mpr c3
  have c3b1 : ((l0.length : Int) != (l1.length : Int)) = true := bne_iff_ne.mpr c3
  have c3b2 : (l0.length == l1.length) = false := by first | simpa using c3 | (simp at c3 ⊢; omega)
  obtain rfl := Option.some.inj H
  go_enter Tryd.func31, Tryd.ntmps31
  go_wp2
  repeat (go_quiet (fail); try go_wp2)
  go_ret
  exact ⟨by first | rfl | (simp; done) | (simp [*]; done), by repeat (first | exact Drawn0.refl _ | apply Drawn0.step)⟩

/-! ### api_Coil: function 32 -/
def api_Coil.l0 : Nat → List (S47) → List (S47) → Int → Int → Option (Bool)
 | 0, _, _, _, _ => none
 | k + 1, x0, x1, x12, x13 => if x13 < x12 then (if 0 ≤ x13 then (if x13 < (x0.length : Int) then (if x13 < (x1.length : Int) then (if (!(((rd_T47 x0 x13).f0) == ((rd_T47 x1 x13).f0)) || ((!(((rd_T47 x0 x13).f1.f0) == ((rd_T47 x1 x13).f1.f0)) || (!(((rd_T47 x0 x13).f1.f1) == ((rd_T47 x1 x13).f1.f1)))))) = true then (some false) else (api_Coil.l0 k x0 x1 x12 (wrap64 (x13 + 1)))) else (none)) else (none)) else (none)) else (some true)
def api_Coil.f (k : Nat) (l0 : List (S47)) (l1 : List (S47)) : Option (Bool) := if (l0.length : Int) = (l1.length : Int) then (api_Coil.l0 k l0 l1 (l0.length : Int) 0) else (some false)
theorem api_Coil.mono_l : ∀ k, (∀ y0 y1 y2 y3, LeO (api_Coil.l0 k y0 y1 y2 y3) (api_Coil.l0 (k + 1) y0 y1 y2 y3))
 | 0 => fun _ _ _ _ r h => by simp [api_Coil.l0] at h
 | k + 1 => by
  have ih0 := api_Coil.mono_l k
  ·intro y0 y1 y2 y3
   unfold api_Coil.l0
   repeat' first
   | (with_reducible exact ih0 _ _ _ _)
   | (with_reducible exact LeO.refl _)
   | (with_reducible exact LeO.none _)
   | (with_reducible refine LeO.ite ?_ ?_)
   | (with_reducible refine LeO.bind ?_ (fun _ => ?_))
   | exact ih0 _ _ _ _
   | exact LeO.none _
   | refine LeO.ite ?_ ?_
   | refine LeO.bind ?_ (fun _ => ?_)
theorem api_Coil.mono : ∀ a0 a1 k, LeO (api_Coil.f k a0 a1) (api_Coil.f (k + 1) a0 a1) := by
 intro a0 a1 k
 have ih0 := api_Coil.mono_l k
 unfold api_Coil.f
 repeat' first
   | (with_reducible exact ih0 _ _ _ _)
   | (with_reducible exact LeO.refl _)
   | (with_reducible exact LeO.none _)
   | (with_reducible refine LeO.ite ?_ ?_)
   | (with_reducible refine LeO.bind ?_ (fun _ => ?_))
   | exact ih0 _ _ _ _
   | exact LeO.none _
   | refine LeO.ite ?_ ?_
   | refine LeO.bind ?_ (fun _ => ?_)
set_option maxHeartbeats 8000000 in
set_option maxRecDepth 100000 in
theorem api_Coil.calls (k : Nat) (A0 : Option Addr) (c0 : Nat) (l0 : List (S47)) (A1 : Option Addr) (c1 : Nat) (l1 : List (S47)) (r : Bool) (w : World) (hr0 : Kd.C k47 w A0 l0.length l0) (hc0 : l0.length ≤ c0) (hr1 : Kd.C k47 w A1 l1.length l1) (hc1 : l1.length ≤ c1) (h : api_Coil.f k l0 l1 = some r) :
  Calls Tryd.prog 32 #[.slice A0 l0.length c0, .slice A1 l1.length c1] w fun e w' => e = .returned (.bool r) ∧ Drawn0 w w' := by
 have hu47 := Tryd.underlying47
 have HR0 := Aside0.mk hr0
 have HC0 := Aside0.mk hc0
 clear hr0 hc0
 have HR1 := Aside0.mk hr1
 have HC1 := Aside0.mk hc1
 clear hr1 hc1
 have H : (if (l0.length : Int) = (l1.length : Int) then (api_Coil.l0 k l0 l1 (l0.length : Int) 0) else (some false)) = some r := h
 clear h
 by_cases c3 : (l0.length : Int) = (l1.length : Int)
 ·rw [if_pos c3] at H
  have c3b0 : ((l0.length : Int) == (l1.length : Int)) = true := beq_iff_eq.mpr c3
  have c3b1 : ((l0.length : Int) != (l1.length : Int)) = false := bne_eq_false_iff_eq.mpr c3
  have c3b2 : (l0.length == l1.length) = true := by first | simpa using c3 | (simp at c3 ⊢; omega)
  clear c3
  have H' := Aside0.mk H
  clear H
  go_enter Tryd.func32, Tryd.ntmps32
  go_wp2
  repeat (go_quiet (fail); try go_wp2)
  go_loopg [13] k (fun kq v13 w' => ∃ (x13_1 : Int), v13 = .int .i64 x13_1 ∧ Aside0 (api_Coil.l0 kq l0 l1 (l0.length : Int) x13_1 = some r) ∧ Aside0 (kq ≤ k) ∧ Drawn0 w w')
  case atStart => exact ⟨(0), (by first | rfl | (simp; done) | (simp [*]; done)), H', ⟨Nat.le_refl _⟩, by repeat (first | exact Drawn0.refl _ | apply Drawn0.step)⟩
  case round =>
   clear H'
   try clear c1
   try clear p2
   try clear c3
   try clear c3b0
   try clear c3b1
   try clear c3b2
   obtain ⟨x13_1, rfl, HA, HK1, ⟨m1, rfl⟩⟩ := hrel
   cases gk with
   | zero => exact absurd HA.out (by simp [api_Coil.l0])
   | succ k1 =>
    have H := HA.out
    clear HA
    simp only [api_Coil.l0] at H
    by_cases c4 : x13_1 < (l0.length : Int)
    ·rw [if_pos c4] at H
     have c4b0 : decide (x13_1 < (l0.length : Int)) = true := decide_eq_true c4
     clear c4
     by_cases c5 : 0 ≤ x13_1
     ·rw [if_pos c5] at H
      have c5b0 : decide (0 ≤ x13_1) = true := decide_eq_true c5
      clear c5
      by_cases c6 : x13_1 < (l0.length : Int)
      ·rw [if_pos c6] at H
       have c6b0 : decide (x13_1 < (l0.length : Int)) = true := decide_eq_true c6
       clear c6
       by_cases c7 : x13_1 < (l1.length : Int)
       ·rw [if_pos c7] at H
        have c7b0 : decide (x13_1 < (l1.length : Int)) = true := decide_eq_true c7
        clear c7
        by_cases c8 : (!(((rd_T47 l0 x13_1).f0) == ((rd_T47 l1 x13_1).f0)) || ((!(((rd_T47 l0 x13_1).f1.f0) == ((rd_T47 l1 x13_1).f1.f0)) || (!(((rd_T47 l0 x13_1).f1.f1) == ((rd_T47 l1 x13_1).f1.f1)))))) = true
        ·rw [if_pos c8] at H
         have c8b0 : (!(((rd_T47 l0 x13_1).f0) == ((rd_T47 l1 x13_1).f0)) || ((!(((rd_T47 l0 x13_1).f1.f0) == ((rd_T47 l1 x13_1).f1.f0)) || (!(((rd_T47 l0 x13_1).f1.f1) == ((rd_T47 l1 x13_1).f1.f1)))))) = true := c8
         clear c8
         obtain rfl := Option.some.inj H
         have p169 : 0 ≤ (x13_1 : Int) := of_decide_eq_true (by first | (with_reducible assumption) | assumption)
         have q169 : x13_1 < (l0.length : Int) := of_decide_eq_true (by first | (with_reducible assumption) | assumption)
         obtain ⟨ad169, e169, hx169_0, hx169_1, hx169_2⟩ := at_T47 HR0.out x13_1 p169 q169
         cases e169
         replace p169 := eq_true p169
         replace q169 := eq_true q169
         have p170 : 0 ≤ (x13_1 : Int) := of_decide_eq_true (by first | (with_reducible assumption) | assumption)
         have q170 : x13_1 < (l1.length : Int) := of_decide_eq_true (by first | (with_reducible assumption) | assumption)
         obtain ⟨ad170, e170, hx170_0, hx170_1, hx170_2⟩ := at_T47 HR1.out x13_1 p170 q170
         cases e170
         replace p170 := eq_true p170
         replace q170 := eq_true q170
         go_wp2
         repeat (go_quiet (fail); try go_wp2)
         go_ret
         exact ⟨by first | rfl | (simp; done) | (simp [*]; done), by repeat (first | exact Drawn0.refl _ | apply Drawn0.step)⟩
        ·rw [if_neg c8] at H
         have c8b0 : (!(((rd_T47 l0 x13_1).f0) == ((rd_T47 l1 x13_1).f0)) || ((!(((rd_T47 l0 x13_1).f1.f0) == ((rd_T47 l1 x13_1).f1.f0)) || (!(((rd_T47 l0 x13_1).f1.f1) == ((rd_T47 l1 x13_1).f1.f1)))))) = false := by simpa using c8
         clear c8
         have H' := Aside0.mk H
         clear H
         have p169 : 0 ≤ (x13_1 : Int) := of_decide_eq_true (by first | (with_reducible assumption) | assumption)
         have q169 : x13_1 < (l0.length : Int) := of_decide_eq_true (by first | (with_reducible assumption) | assumption)
         obtain ⟨ad169, e169, hx169_0, hx169_1, hx169_2⟩ := at_T47 HR0.out x13_1 p169 q169
         cases e169
         replace p169 := eq_true p169
         replace q169 := eq_true q169
         have p170 : 0 ≤ (x13_1 : Int) := of_decide_eq_true (by first | (with_reducible assumption) | assumption)
         have q170 : x13_1 < (l1.length : Int) := of_decide_eq_true (by first | (with_reducible assumption) | assumption)
         obtain ⟨ad170, e170, hx170_0, hx170_1, hx170_2⟩ := at_T47 HR1.out x13_1 p170 q170
         cases e170
         replace p170 := eq_true p170
         replace q170 := eq_true q170
         go_wp2
         repeat (go_quiet (fail); try go_wp2)
         go_roundg k1
         case measure => have := HK1.out; omega
         case rel => exact ⟨(wrap64 (x13_1 + 1)), (by first | rfl | (simp; done) | (simp [*]; done)), H', ⟨by have := HK1.out; omega⟩, by repeat (first | exact Drawn0.refl _ | apply Drawn0.step)⟩
       ·rw [if_neg c7] at H
        exact absurd H (by simp)
      ·rw [if_neg c6] at H
       exact absurd H (by simp)
     ·rw [if_neg c5] at H
      exact absurd H (by simp)
    ·rw [if_neg c4] at H
     have c4b0 : decide (x13_1 < (l0.length : Int)) = false := decide_eq_false c4
     clear c4
     obtain rfl := Option.some.inj H
     go_wp2
     repeat (go_quiet (fail); try go_wp2)
     go_ret
     exact ⟨by first | rfl | (simp; done) | (simp [*]; done), by repeat (first | exact Drawn0.refl _ | apply Drawn0.step)⟩
 ·rw [if_neg c3] at H
  have c3b0 : ((l0.length : Int) == (l1.length : Int)) = false := beq_eq_false_iff_ne.mpr c3
  have c3b1 : ((l0.length : Int) != (l1.length : Int)) = true := bne_iff_ne.mpr c3
  have c3b2 : (l0.length == l1.length) = false := by first | simpa using c3 | (simp at c3 ⊢; omega)
  obtain rfl := Option.some.inj H
  go_enter Tryd.func32, Tryd.ntmps32
  go_wp2
  repeat (go_quiet (fail); try go_wp2)
  go_ret
  exact ⟨by first | rfl | (simp; done) | (simp [*]; done), by repeat (first | exact Drawn0.refl _ | apply Drawn0.step)⟩

/-! ### printer_Equal_1: function 30 -/
def printer_Equal_1.f (k : Nat) (a0_0 : ByteArray) (l0_1 : List (S44)) (l0_2 : List (S47)) (a0_3 : ByteArray) (a1_0 : ByteArray) (l1_1 : List (S44)) (l1_2 : List (S47)) (a1_3 : ByteArray) : Option (Bool) := if a0_0.toList = a1_0.toList then (if a0_3.toList = a1_3.toList then ((api_Contact.f k l0_1 l1_1).bind fun t173 => (if t173 = true then ((api_Coil.f k l0_2 l1_2).bind fun t174 => (some t174)) else (some false))) else (some false)) else (some false)
theorem printer_Equal_1.mono : ∀ a0 a1 a2 a3 a4 a5 a6 a7 k, LeO (printer_Equal_1.f k a0 a1 a2 a3 a4 a5 a6 a7) (printer_Equal_1.f (k + 1) a0 a1 a2 a3 a4 a5 a6 a7) := by
 intro a0 a1 a2 a3 a4 a5 a6 a7 k
 unfold printer_Equal_1.f
 repeat' first
   | (with_reducible exact api_Coil.mono _ _ _)
   | (with_reducible exact api_Contact.mono _ _ _)
   | (with_reducible exact LeO.refl _)
   | (with_reducible exact LeO.none _)
   | (with_reducible refine LeO.ite ?_ ?_)
   | (with_reducible refine LeO.bind ?_ (fun _ => ?_))
   | exact api_Coil.mono _ _ _
   | exact api_Contact.mono _ _ _
   | exact LeO.none _
   | refine LeO.ite ?_ ?_
   | refine LeO.bind ?_ (fun _ => ?_)
set_option maxHeartbeats 8000000 in
set_option maxRecDepth 100000 in
theorem printer_Equal_1.calls (k : Nat) (a0_0 : ByteArray) (A0_1 : Option Addr) (c0_1 : Nat) (l0_1 : List (S44)) (A0_2 : Option Addr) (c0_2 : Nat) (l0_2 : List (S47)) (a0_3 : ByteArray) (a1_0 : ByteArray) (A1_1 : Option Addr) (c1_1 : Nat) (l1_1 : List (S44)) (A1_2 : Option Addr) (c1_2 : Nat) (l1_2 : List (S47)) (a1_3 : ByteArray) (r : Bool) (w : World) (hr0_1 : Kd.C k44 w A0_1 l0_1.length l0_1) (hc0_1 : l0_1.length ≤ c0_1) (hr0_2 : Kd.C k47 w A0_2 l0_2.length l0_2) (hc0_2 : l0_2.length ≤ c0_2) (hr1_1 : Kd.C k44 w A1_1 l1_1.length l1_1) (hc1_1 : l1_1.length ≤ c1_1) (hr1_2 : Kd.C k47 w A1_2 l1_2.length l1_2) (hc1_2 : l1_2.length ≤ c1_2) (h : printer_Equal_1.f k a0_0 l0_1 l0_2 a0_3 a1_0 l1_1 l1_2 a1_3 = some r) :
  Calls Tryd.prog 30 #[.agg #[.string a0_0, .slice A0_1 l0_1.length c0_1, .slice A0_2 l0_2.length c0_2, .string a0_3], .agg #[.string a1_0, .slice A1_1 l1_1.length c1_1, .slice A1_2 l1_2.length c1_2, .string a1_3]] w fun e w' => e = .returned (.bool r) ∧ Below w.heap.size w w' := by
 have hu28 := Tryd.underlying28
 have HR0_1 := Aside0.mk hr0_1
 have HC0_1 := Aside0.mk hc0_1
 clear hr0_1 hc0_1
 have HR0_2 := Aside0.mk hr0_2
 have HC0_2 := Aside0.mk hc0_2
 clear hr0_2 hc0_2
 have HR1_1 := Aside0.mk hr1_1
 have HC1_1 := Aside0.mk hc1_1
 clear hr1_1 hc1_1
 have HR1_2 := Aside0.mk hr1_2
 have HC1_2 := Aside0.mk hc1_2
 clear hr1_2 hc1_2
 have HB := Aside0.mk (Below.refl w.heap.size w)
 have H : (if a0_0.toList = a1_0.toList then (if a0_3.toList = a1_3.toList then ((api_Contact.f k l0_1 l1_1).bind fun t173 => (if t173 = true then ((api_Coil.f k l0_2 l1_2).bind fun t174 => (some t174)) else (some false))) else (some false)) else (some false)) = some r := h
 clear h
 by_cases c3 : a0_0.toList = a1_0.toList
 ·rw [if_pos c3] at H
  have c3b0 : (a0_0.toList == a1_0.toList) = true := beq_iff_eq.mpr c3
  have c3b1 : (a0_0.toList != a1_0.toList) = false := bne_eq_false_iff_eq.mpr c3
  clear c3
  by_cases c4 : a0_3.toList = a1_3.toList
  ·rw [if_pos c4] at H
   have c4b0 : (a0_3.toList == a1_3.toList) = true := beq_iff_eq.mpr c4
   have c4b1 : (a0_3.toList != a1_3.toList) = false := bne_eq_false_iff_eq.mpr c4
   clear c4
   replace H := Option.bind_eq_some_iff.mp H
   obtain ⟨t173, A50, H⟩ := H
   replace H : (if t173 = true then ((api_Coil.f k l0_2 l1_2).bind fun t174 => (some t174)) else (some false)) = some r := H
   have A5 := Aside0.mk A50
   clear A50
   by_cases c6 : t173 = true
   ·subst c6
    have H1 : ((api_Coil.f k l0_2 l1_2).bind fun t174 => (some t174)) = some r := by rw [if_pos rfl] at H; exact H
    clear H
    have H := H1
    clear H1
    replace H := Option.bind_eq_some_iff.mp H
    obtain ⟨t174, A70, H⟩ := H
    replace H : (some t174) = some r := H
    have A7 := Aside0.mk A70
    clear A70
    obtain rfl := Option.some.inj H
    go_enter Tryd.func30, Tryd.ntmps30
    go_wp2_with (first | ((with_reducible refine gate_dst (N := 2) rfl ?_); refine box_event ?hg (N := 2) ?hd (cs := #[.string a0_0, .slice A0_1 l0_1.length c0_1, .slice A0_2 l0_2.length c0_2, .string a0_3]) (t := 28) ?hr ?_; (case hd => rfl); (case hg => rfl); (case hr => first | (go_simp; done) | (go_simp; rfl)); intro gb171 hg w8 hbox hb; have n0_ := Aside0.mk (below_step (by repeat (first | (with_reducible first | exact HB.out | apply below_alloc | apply pw_below_drewN | apply below_drew1) | exact HB.out)) hb); have n1_ := Aside0.mk (hbox); have n2_ := Aside0.mk ((by rw [hg]; exact (below_size (by repeat (first | (with_reducible first | exact HB.out | apply below_alloc | apply pw_below_drewN | apply below_drew1) | exact HB.out))) : w.heap.size ≤ gb171)); have n3_ := Aside0.mk ((by rw [hg]; exact (below_size (by repeat (first | (with_reducible first | exact HB.out | apply below_alloc | apply pw_below_drewN | apply below_drew1) | exact HB.out))) : w.heap.size ≤ gb171)); clear HB; have HB := n0_; have BK171 := n1_; have GW171 := n2_; have GE171 := n3_; clear n0_ n1_ n2_ n3_; clear hb hbox hg) | ((with_reducible refine gate_dst (N := 3) rfl ?_); refine box_event ?hg (N := 3) ?hd (cs := #[.string a1_0, .slice A1_1 l1_1.length c1_1, .slice A1_2 l1_2.length c1_2, .string a1_3]) (t := 28) ?hr ?_; (case hd => rfl); (case hg => rfl); (case hr => first | (go_simp; done) | (go_simp; rfl)); intro gb172 hg w9 hbox hb; have n0_ := Aside0.mk (blk_below (g := gb171) (o := .cells #[.string a0_0, .slice A0_1 l0_1.length c0_1, .slice A0_2 l0_2.length c0_2, .string a0_3] 28 (0, 0)) (by (with_reducible repeat (first | refine blk_drewN ?_ _ | refine blk_drew ?_ | refine blk_alloc ?_ _)); exact BK171.out) hb); have n1_ := Aside0.mk (below_step (by repeat (first | (with_reducible first | exact HB.out | apply below_alloc | apply pw_below_drewN | apply below_drew1 | refine below_set ?_ GE171.out) | exact HB.out)) hb); have n2_ := Aside0.mk (hbox); have n3_ := Aside0.mk ((by rw [hg]; exact (below_size (by repeat (first | (with_reducible first | exact HB.out | apply below_alloc | apply pw_below_drewN | apply below_drew1 | refine below_set ?_ GE171.out) | exact HB.out))) : w.heap.size ≤ gb172)); have n4_ := Aside0.mk ((by rw [hg]; exact (below_size (by repeat (first | (with_reducible first | exact HB.out | apply below_alloc | apply pw_below_drewN | apply below_drew1 | refine below_set ?_ GE171.out) | exact HB.out))) : w.heap.size ≤ gb172)); have n5_ := Aside0.mk ((by rw [hg]; exact Nat.ne_of_lt (blk_lt (g := gb171) (o := .cells #[.string a0_0, .slice A0_1 l0_1.length c0_1, .slice A0_2 l0_2.length c0_2, .string a0_3] 28 (0, 0)) (by (with_reducible repeat (first | refine blk_drewN ?_ _ | refine blk_drew ?_ | refine blk_alloc ?_ _)); exact BK171.out)) : gb171 ≠ gb172)); have n6_ := Aside0.mk ((by rw [hg]; exact Nat.ne_of_gt (blk_lt (g := gb171) (o := .cells #[.string a0_0, .slice A0_1 l0_1.length c0_1, .slice A0_2 l0_2.length c0_2, .string a0_3] 28 (0, 0)) (by (with_reducible repeat (first | refine blk_drewN ?_ _ | refine blk_drew ?_ | refine blk_alloc ?_ _)); exact BK171.out)) : gb172 ≠ gb171)); clear BK171; clear HB; have BK171 := n0_; have HB := n1_; have BK172 := n2_; have GW172 := n3_; have GE172 := n4_; have NB171_172 := n5_; have NB172_171 := n6_; clear n0_ n1_ n2_ n3_ n4_ n5_ n6_; clear hb hbox hg; have hnb10 := NB171_172.out; have hnc10 := NB172_171.out; have hcz11_0 : w9.cell? ⟨gb171, 0, none⟩ = some (.string a0_0) := (blk_cell BK171.out 0).trans rfl; have hcz11_1 : w9.cell? ⟨gb171, 1, none⟩ = some (.slice A0_1 l0_1.length c0_1) := (blk_cell BK171.out 1).trans rfl; have hcz11_2 : w9.cell? ⟨gb171, 2, none⟩ = some (.slice A0_2 l0_2.length c0_2) := (blk_cell BK171.out 2).trans rfl; have hcz11_3 : w9.cell? ⟨gb171, 3, none⟩ = some (.string a0_3) := (blk_cell BK171.out 3).trans rfl; have hfz11_0 := blk_frozen BK171.out 0; have hfz11_1 := blk_frozen BK171.out 1; have hfz11_2 := blk_frozen BK171.out 2; have hfz11_3 := blk_frozen BK171.out 3; have hcz12_0 : w9.cell? ⟨gb172, 0, none⟩ = some (.string a1_0) := (blk_cell BK172.out 0).trans rfl; have hcz12_1 : w9.cell? ⟨gb172, 1, none⟩ = some (.slice A1_1 l1_1.length c1_1) := (blk_cell BK172.out 1).trans rfl; have hcz12_2 : w9.cell? ⟨gb172, 2, none⟩ = some (.slice A1_2 l1_2.length c1_2) := (blk_cell BK172.out 2).trans rfl; have hcz12_3 : w9.cell? ⟨gb172, 3, none⟩ = some (.string a1_3) := (blk_cell BK172.out 3).trans rfl; have hfz12_0 := blk_frozen BK172.out 0; have hfz12_1 := blk_frozen BK172.out 1; have hfz12_2 := blk_frozen BK172.out 2; have hfz12_3 := blk_frozen BK172.out 3) | (go_at_call 31; (with_reducible refine (api_Contact.calls k _ _ l0_1 _ _ l1_1 true _ ?side1 ?side2 ?side3 ?side4 A5.out).mono ?_); (case side1 => repeat (first | exact (Kd.C_below HR0_1.out HB.out) | (with_reducible refine Kd.C_alloc ?_ _) | (with_reducible refine Kd.C_drewN ?_ _) | (with_reducible refine Kd.C_drew ?_))); (case side2 => exact HC0_1.out); (case side3 => repeat (first | exact (Kd.C_below HR1_1.out HB.out) | (with_reducible refine Kd.C_alloc ?_ _) | (with_reducible refine Kd.C_drewN ?_ _) | (with_reducible refine Kd.C_drew ?_))); (case side4 => exact HC1_1.out); rintro e w' ⟨rfl, ⟨nd, rfl⟩⟩) | (go_at_call 32; (with_reducible refine (api_Coil.calls k _ _ l0_2 _ _ l1_2 t174 _ ?side1 ?side2 ?side3 ?side4 A7.out).mono ?_); (case side1 => repeat (first | exact (Kd.C_below HR0_2.out (by repeat (first | (with_reducible first | exact HB.out | apply below_alloc | apply pw_below_drewN | apply below_drew1 | refine below_set ?_ GE171.out | refine below_set ?_ GE172.out) | exact HB.out))) | (with_reducible refine Kd.C_alloc ?_ _) | (with_reducible refine Kd.C_drewN ?_ _) | (with_reducible refine Kd.C_drew ?_))); (case side2 => exact HC0_2.out); (case side3 => repeat (first | exact (Kd.C_below HR1_2.out (by repeat (first | (with_reducible first | exact HB.out | apply below_alloc | apply pw_below_drewN | apply below_drew1 | refine below_set ?_ GE171.out | refine below_set ?_ GE172.out) | exact HB.out))) | (with_reducible refine Kd.C_alloc ?_ _) | (with_reducible refine Kd.C_drewN ?_ _) | (with_reducible refine Kd.C_drew ?_))); (case side4 => exact HC1_2.out); rintro e w' ⟨rfl, ⟨nd, rfl⟩⟩))
    go_ret
    exact ⟨by first | rfl | (simp [errW_none, errW_some] <;> rfl) | (simp [*, errW_none, errW_some] <;> rfl), by repeat (first | (with_reducible first | exact HB.out | apply below_alloc | apply pw_below_drewN | apply below_drew1 | refine below_set ?_ GE171.out | refine below_set ?_ GE172.out) | exact HB.out)⟩
   ·replace c6 := Bool.eq_false_iff.mpr c6
    subst c6
    have H1 : (some false) = some r := by rw [if_neg (show ¬ (false = true) by decide)] at H; exact H
    clear H
    have H := H1
    clear H1
    obtain rfl := Option.some.inj H
    go_enter Tryd.func30, Tryd.ntmps30
    go_wp2_with (first | ((with_reducible refine gate_dst (N := 2) rfl ?_); refine box_event ?hg (N := 2) ?hd (cs := #[.string a0_0, .slice A0_1 l0_1.length c0_1, .slice A0_2 l0_2.length c0_2, .string a0_3]) (t := 28) ?hr ?_; (case hd => rfl); (case hg => rfl); (case hr => first | (go_simp; done) | (go_simp; rfl)); intro gb171 hg w13 hbox hb; have n0_ := Aside0.mk (below_step (by repeat (first | (with_reducible first | exact HB.out | apply below_alloc | apply pw_below_drewN | apply below_drew1) | exact HB.out)) hb); have n1_ := Aside0.mk (hbox); have n2_ := Aside0.mk ((by rw [hg]; exact (below_size (by repeat (first | (with_reducible first | exact HB.out | apply below_alloc | apply pw_below_drewN | apply below_drew1) | exact HB.out))) : w.heap.size ≤ gb171)); have n3_ := Aside0.mk ((by rw [hg]; exact (below_size (by repeat (first | (with_reducible first | exact HB.out | apply below_alloc | apply pw_below_drewN | apply below_drew1) | exact HB.out))) : w.heap.size ≤ gb171)); clear HB; have HB := n0_; have BK171 := n1_; have GW171 := n2_; have GE171 := n3_; clear n0_ n1_ n2_ n3_; clear hb hbox hg) | ((with_reducible refine gate_dst (N := 3) rfl ?_); refine box_event ?hg (N := 3) ?hd (cs := #[.string a1_0, .slice A1_1 l1_1.length c1_1, .slice A1_2 l1_2.length c1_2, .string a1_3]) (t := 28) ?hr ?_; (case hd => rfl); (case hg => rfl); (case hr => first | (go_simp; done) | (go_simp; rfl)); intro gb172 hg w14 hbox hb; have n0_ := Aside0.mk (blk_below (g := gb171) (o := .cells #[.string a0_0, .slice A0_1 l0_1.length c0_1, .slice A0_2 l0_2.length c0_2, .string a0_3] 28 (0, 0)) (by (with_reducible repeat (first | refine blk_drewN ?_ _ | refine blk_drew ?_ | refine blk_alloc ?_ _)); exact BK171.out) hb); have n1_ := Aside0.mk (below_step (by repeat (first | (with_reducible first | exact HB.out | apply below_alloc | apply pw_below_drewN | apply below_drew1 | refine below_set ?_ GE171.out) | exact HB.out)) hb); have n2_ := Aside0.mk (hbox); have n3_ := Aside0.mk ((by rw [hg]; exact (below_size (by repeat (first | (with_reducible first | exact HB.out | apply below_alloc | apply pw_below_drewN | apply below_drew1 | refine below_set ?_ GE171.out) | exact HB.out))) : w.heap.size ≤ gb172)); have n4_ := Aside0.mk ((by rw [hg]; exact (below_size (by repeat (first | (with_reducible first | exact HB.out | apply below_alloc | apply pw_below_drewN | apply below_drew1 | refine below_set ?_ GE171.out) | exact HB.out))) : w.heap.size ≤ gb172)); have n5_ := Aside0.mk ((by rw [hg]; exact Nat.ne_of_lt (blk_lt (g := gb171) (o := .cells #[.string a0_0, .slice A0_1 l0_1.length c0_1, .slice A0_2 l0_2.length c0_2, .string a0_3] 28 (0, 0)) (by (with_reducible repeat (first | refine blk_drewN ?_ _ | refine blk_drew ?_ | refine blk_alloc ?_ _)); exact BK171.out)) : gb171 ≠ gb172)); have n6_ := Aside0.mk ((by rw [hg]; exact Nat.ne_of_gt (blk_lt (g := gb171) (o := .cells #[.string a0_0, .slice A0_1 l0_1.length c0_1, .slice A0_2 l0_2.length c0_2, .string a0_3] 28 (0, 0)) (by (with_reducible repeat (first | refine blk_drewN ?_ _ | refine blk_drew ?_ | refine blk_alloc ?_ _)); exact BK171.out)) : gb172 ≠ gb171)); clear BK171; clear HB; have BK171 := n0_; have HB := n1_; have BK172 := n2_; have GW172 := n3_; have GE172 := n4_; have NB171_172 := n5_; have NB172_171 := n6_; clear n0_ n1_ n2_ n3_ n4_ n5_ n6_; clear hb hbox hg; have hnb15 := NB171_172.out; have hnc15 := NB172_171.out; have hcz16_0 : w14.cell? ⟨gb171, 0, none⟩ = some (.string a0_0) := (blk_cell BK171.out 0).trans rfl; have hcz16_1 : w14.cell? ⟨gb171, 1, none⟩ = some (.slice A0_1 l0_1.length c0_1) := (blk_cell BK171.out 1).trans rfl; have hcz16_2 : w14.cell? ⟨gb171, 2, none⟩ = some (.slice A0_2 l0_2.length c0_2) := (blk_cell BK171.out 2).trans rfl; have hcz16_3 : w14.cell? ⟨gb171, 3, none⟩ = some (.string a0_3) := (blk_cell BK171.out 3).trans rfl; have hfz16_0 := blk_frozen BK171.out 0; have hfz16_1 := blk_frozen BK171.out 1; have hfz16_2 := blk_frozen BK171.out 2; have hfz16_3 := blk_frozen BK171.out 3; have hcz17_0 : w14.cell? ⟨gb172, 0, none⟩ = some (.string a1_0) := (blk_cell BK172.out 0).trans rfl; have hcz17_1 : w14.cell? ⟨gb172, 1, none⟩ = some (.slice A1_1 l1_1.length c1_1) := (blk_cell BK172.out 1).trans rfl; have hcz17_2 : w14.cell? ⟨gb172, 2, none⟩ = some (.slice A1_2 l1_2.length c1_2) := (blk_cell BK172.out 2).trans rfl; have hcz17_3 : w14.cell? ⟨gb172, 3, none⟩ = some (.string a1_3) := (blk_cell BK172.out 3).trans rfl; have hfz17_0 := blk_frozen BK172.out 0; have hfz17_1 := blk_frozen BK172.out 1; have hfz17_2 := blk_frozen BK172.out 2; have hfz17_3 := blk_frozen BK172.out 3) | (go_at_call 31; (with_reducible refine (api_Contact.calls k _ _ l0_1 _ _ l1_1 false _ ?side1 ?side2 ?side3 ?side4 A5.out).mono ?_); (case side1 => repeat (first | exact (Kd.C_below HR0_1.out HB.out) | (with_reducible refine Kd.C_alloc ?_ _) | (with_reducible refine Kd.C_drewN ?_ _) | (with_reducible refine Kd.C_drew ?_))); (case side2 => exact HC0_1.out); (case side3 => repeat (first | exact (Kd.C_below HR1_1.out HB.out) | (with_reducible refine Kd.C_alloc ?_ _) | (with_reducible refine Kd.C_drewN ?_ _) | (with_reducible refine Kd.C_drew ?_))); (case side4 => exact HC1_1.out); rintro e w' ⟨rfl, ⟨nd, rfl⟩⟩))
    go_ret
    exact ⟨by first | rfl | (simp [errW_none, errW_some] <;> rfl) | (simp [*, errW_none, errW_some] <;> rfl), by repeat (first | (with_reducible first | exact HB.out | apply below_alloc | apply pw_below_drewN | apply below_drew1 | refine below_set ?_ GE171.out | refine below_set ?_ GE172.out) | exact HB.out)⟩
  ·rw [if_neg c4] at H
   have c4b0 : (a0_3.toList == a1_3.toList) = false := beq_eq_false_iff_ne.mpr c4
   have c4b1 : (a0_3.toList != a1_3.toList) = true := bne_iff_ne.mpr c4
   obtain rfl := Option.some.inj H
   go_enter Tryd.func30, Tryd.ntmps30
   go_wp2_with (first | ((with_reducible refine gate_dst (N := 2) rfl ?_); refine box_event ?hg (N := 2) ?hd (cs := #[.string a0_0, .slice A0_1 l0_1.length c0_1, .slice A0_2 l0_2.length c0_2, .string a0_3]) (t := 28) ?hr ?_; (case hd => rfl); (case hg => rfl); (case hr => first | (go_simp; done) | (go_simp; rfl)); intro gb171 hg w18 hbox hb; have n0_ := Aside0.mk (below_step (by repeat (first | (with_reducible first | exact HB.out | apply below_alloc | apply pw_below_drewN | apply below_drew1) | exact HB.out)) hb); have n1_ := Aside0.mk (hbox); have n2_ := Aside0.mk ((by rw [hg]; exact (below_size (by repeat (first | (with_reducible first | exact HB.out | apply below_alloc | apply pw_below_drewN | apply below_drew1) | exact HB.out))) : w.heap.size ≤ gb171)); have n3_ := Aside0.mk ((by rw [hg]; exact (below_size (by repeat (first | (with_reducible first | exact HB.out | apply below_alloc | apply pw_below_drewN | apply below_drew1) | exact HB.out))) : w.heap.size ≤ gb171)); clear HB; have HB := n0_; have BK171 := n1_; have GW171 := n2_; have GE171 := n3_; clear n0_ n1_ n2_ n3_; clear hb hbox hg) | ((with_reducible refine gate_dst (N := 3) rfl ?_); refine box_event ?hg (N := 3) ?hd (cs := #[.string a1_0, .slice A1_1 l1_1.length c1_1, .slice A1_2 l1_2.length c1_2, .string a1_3]) (t := 28) ?hr ?_; (case hd => rfl); (case hg => rfl); (case hr => first | (go_simp; done) | (go_simp; rfl)); intro gb172 hg w19 hbox hb; have n0_ := Aside0.mk (blk_below (g := gb171) (o := .cells #[.string a0_0, .slice A0_1 l0_1.length c0_1, .slice A0_2 l0_2.length c0_2, .string a0_3] 28 (0, 0)) (by (with_reducible repeat (first | refine blk_drewN ?_ _ | refine blk_drew ?_ | refine blk_alloc ?_ _)); exact BK171.out) hb); have n1_ := Aside0.mk (below_step (by repeat (first | (with_reducible first | exact HB.out | apply below_alloc | apply pw_below_drewN | apply below_drew1 | refine below_set ?_ GE171.out) | exact HB.out)) hb); have n2_ := Aside0.mk (hbox); have n3_ := Aside0.mk ((by rw [hg]; exact (below_size (by repeat (first | (with_reducible first | exact HB.out | apply below_alloc | apply pw_below_drewN | apply below_drew1 | refine below_set ?_ GE171.out) | exact HB.out))) : w.heap.size ≤ gb172)); have n4_ := Aside0.mk ((by rw [hg]; exact (below_size (by repeat (first | (with_reducible first | exact HB.out | apply below_alloc | apply pw_below_drewN | apply below_drew1 | refine below_set ?_ GE171.out) | exact HB.out))) : w.heap.size ≤ gb172)); have n5_ := Aside0.mk ((by rw [hg]; exact Nat.ne_of_lt (blk_lt (g := gb171) (o := .cells #[.string a0_0, .slice A0_1 l0_1.length c0_1, .slice A0_2 l0_2.length c0_2, .string a0_3] 28 (0, 0)) (by (with_reducible repeat (first | refine blk_drewN ?_ _ | refine blk_drew ?_ | refine blk_alloc ?_ _)); exact BK171.out)) : gb171 ≠ gb172)); have n6_ := Aside0.mk ((by rw [hg]; exact Nat.ne_of_gt (blk_lt (g := gb171) (o := .cells #[.string a0_0, .slice A0_1 l0_1.length c0_1, .slice A0_2 l0_2.length c0_2, .string a0_3] 28 (0, 0)) (by (with_reducible repeat (first | refine blk_drewN ?_ _ | refine blk_drew ?_ | refine blk_alloc ?_ _)); exact BK171.out)) : gb172 ≠ gb171)); clear BK171; clear HB; have BK171 := n0_; have HB := n1_; have BK172 := n2_; have GW172 := n3_; have GE172 := n4_; have NB171_172 := n5_; have NB172_171 := n6_; clear n0_ n1_ n2_ n3_ n4_ n5_ n6_; clear hb hbox hg; have hnb20 := NB171_172.out; have hnc20 := NB172_171.out; have hcz21_0 : w19.cell? ⟨gb171, 0, none⟩ = some (.string a0_0) := (blk_cell BK171.out 0).trans rfl; have hcz21_1 : w19.cell? ⟨gb171, 1, none⟩ = some (.slice A0_1 l0_1.length c0_1) := (blk_cell BK171.out 1).trans rfl; have hcz21_2 : w19.cell? ⟨gb171, 2, none⟩ = some (.slice A0_2 l0_2.length c0_2) := (blk_cell BK171.out 2).trans rfl; have hcz21_3 : w19.cell? ⟨gb171, 3, none⟩ = some (.string a0_3) := (blk_cell BK171.out 3).trans rfl; have hfz21_0 := blk_frozen BK171.out 0; have hfz21_1 := blk_frozen BK171.out 1; have hfz21_2 := blk_frozen BK171.out 2; have hfz21_3 := blk_frozen BK171.out 3; have hcz22_0 : w19.cell? ⟨gb172, 0, none⟩ = some (.string a1_0) := (blk_cell BK172.out 0).trans rfl; have hcz22_1 : w19.cell? ⟨gb172, 1, none⟩ = some (.slice A1_1 l1_1.length c1_1) := (blk_cell BK172.out 1).trans rfl; have hcz22_2 : w19.cell? ⟨gb172, 2, none⟩ = some (.slice A1_2 l1_2.length c1_2) := (blk_cell BK172.out 2).trans rfl; have hcz22_3 : w19.cell? ⟨gb172, 3, none⟩ = some (.string a1_3) := (blk_cell BK172.out 3).trans rfl; have hfz22_0 := blk_frozen BK172.out 0; have hfz22_1 := blk_frozen BK172.out 1; have hfz22_2 := blk_frozen BK172.out 2; have hfz22_3 := blk_frozen BK172.out 3))
   go_ret
   exact ⟨by first | rfl | (simp [errW_none, errW_some] <;> rfl) | (simp [*, errW_none, errW_some] <;> rfl), by repeat (first | (with_reducible first | exact HB.out | apply below_alloc | apply pw_below_drewN | apply below_drew1 | refine below_set ?_ GE171.out | refine below_set ?_ GE172.out) | exact HB.out)⟩
 ·rw [if_neg c3] at H
  have c3b0 : (a0_0.toList == a1_0.toList) = false := beq_eq_false_iff_ne.mpr c3
  have c3b1 : (a0_0.toList != a1_0.toList) = true := bne_iff_ne.mpr c3
  obtain rfl := Option.some.inj H
  go_enter Tryd.func30, Tryd.ntmps30
  go_wp2_with (first | ((with_reducible refine gate_dst (N := 2) rfl ?_); refine box_event ?hg (N := 2) ?hd (cs := #[.string a0_0, .slice A0_1 l0_1.length c0_1, .slice A0_2 l0_2.length c0_2, .string a0_3]) (t := 28) ?hr ?_; (case hd => rfl); (case hg => rfl); (case hr => first | (go_simp; done) | (go_simp; rfl)); intro gb171 hg w23 hbox hb; have n0_ := Aside0.mk (below_step (by repeat (first | (with_reducible first | exact HB.out | apply below_alloc | apply pw_below_drewN | apply below_drew1) | exact HB.out)) hb); have n1_ := Aside0.mk (hbox); have n2_ := Aside0.mk ((by rw [hg]; exact (below_size (by repeat (first | (with_reducible first | exact HB.out | apply below_alloc | apply pw_below_drewN | apply below_drew1) | exact HB.out))) : w.heap.size ≤ gb171)); have n3_ := Aside0.mk ((by rw [hg]; exact (below_size (by repeat (first | (with_reducible first | exact HB.out | apply below_alloc | apply pw_below_drewN | apply below_drew1) | exact HB.out))) : w.heap.size ≤ gb171)); clear HB; have HB := n0_; have BK171 := n1_; have GW171 := n2_; have GE171 := n3_; clear n0_ n1_ n2_ n3_; clear hb hbox hg) | ((with_reducible refine gate_dst (N := 3) rfl ?_); refine box_event ?hg (N := 3) ?hd (cs := #[.string a1_0, .slice A1_1 l1_1.length c1_1, .slice A1_2 l1_2.length c1_2, .string a1_3]) (t := 28) ?hr ?_; (case hd => rfl); (case hg => rfl); (case hr => first | (go_simp; done) | (go_simp; rfl)); intro gb172 hg w24 hbox hb; have n0_ := Aside0.mk (blk_below (g := gb171) (o := .cells #[.string a0_0, .slice A0_1 l0_1.length c0_1, .slice A0_2 l0_2.length c0_2, .string a0_3] 28 (0, 0)) (by (with_reducible repeat (first | refine blk_drewN ?_ _ | refine blk_drew ?_ | refine blk_alloc ?_ _)); exact BK171.out) hb); have n1_ := Aside0.mk (below_step (by repeat (first | (with_reducible first | exact HB.out | apply below_alloc | apply pw_below_drewN | apply below_drew1 | refine below_set ?_ GE171.out) | exact HB.out)) hb); have n2_ := Aside0.mk (hbox); have n3_ := Aside0.mk ((by rw [hg]; exact (below_size (by repeat (first | (with_reducible first | exact HB.out | apply below_alloc | apply pw_below_drewN | apply below_drew1 | refine below_set ?_ GE171.out) | exact HB.out))) : w.heap.size ≤ gb172)); have n4_ := Aside0.mk ((by rw [hg]; exact (below_size (by repeat (first | (with_reducible first | exact HB.out | apply below_alloc | apply pw_below_drewN | apply below_drew1 | refine below_set ?_ GE171.out) | exact HB.out))) : w.heap.size ≤ gb172)); have n5_ := Aside0.mk ((by rw [hg]; exact Nat.ne_of_lt (blk_lt (g := gb171) (o := .cells #[.string a0_0, .slice A0_1 l0_1.length c0_1, .slice A0_2 l0_2.length c0_2, .string a0_3] 28 (0, 0)) (by (with_reducible repeat (first | refine blk_drewN ?_ _ | refine blk_drew ?_ | refine blk_alloc ?_ _)); exact BK171.out)) : gb171 ≠ gb172)); have n6_ := Aside0.mk ((by rw [hg]; exact Nat.ne_of_gt (blk_lt (g := gb171) (o := .cells #[.string a0_0, .slice A0_1 l0_1.length c0_1, .slice A0_2 l0_2.length c0_2, .string a0_3] 28 (0, 0)) (by (with_reducible repeat (first | refine blk_drewN ?_ _ | refine blk_drew ?_ | refine blk_alloc ?_ _)); exact BK171.out)) : gb172 ≠ gb171)); clear BK171; clear HB; have BK171 := n0_; have HB := n1_; have BK172 := n2_; have GW172 := n3_; have GE172 := n4_; have NB171_172 := n5_; have NB172_171 := n6_; clear n0_ n1_ n2_ n3_ n4_ n5_ n6_; clear hb hbox hg; have hnb25 := NB171_172.out; have hnc25 := NB172_171.out; have hcz26_0 : w24.cell? ⟨gb171, 0, none⟩ = some (.string a0_0) := (blk_cell BK171.out 0).trans rfl; have hcz26_1 : w24.cell? ⟨gb171, 1, none⟩ = some (.slice A0_1 l0_1.length c0_1) := (blk_cell BK171.out 1).trans rfl; have hcz26_2 : w24.cell? ⟨gb171, 2, none⟩ = some (.slice A0_2 l0_2.length c0_2) := (blk_cell BK171.out 2).trans rfl; have hcz26_3 : w24.cell? ⟨gb171, 3, none⟩ = some (.string a0_3) := (blk_cell BK171.out 3).trans rfl; have hfz26_0 := blk_frozen BK171.out 0; have hfz26_1 := blk_frozen BK171.out 1; have hfz26_2 := blk_frozen BK171.out 2; have hfz26_3 := blk_frozen BK171.out 3; have hcz27_0 : w24.cell? ⟨gb172, 0, none⟩ = some (.string a1_0) := (blk_cell BK172.out 0).trans rfl; have hcz27_1 : w24.cell? ⟨gb172, 1, none⟩ = some (.slice A1_1 l1_1.length c1_1) := (blk_cell BK172.out 1).trans rfl; have hcz27_2 : w24.cell? ⟨gb172, 2, none⟩ = some (.slice A1_2 l1_2.length c1_2) := (blk_cell BK172.out 2).trans rfl; have hcz27_3 : w24.cell? ⟨gb172, 3, none⟩ = some (.string a1_3) := (blk_cell BK172.out 3).trans rfl; have hfz27_0 := blk_frozen BK172.out 0; have hfz27_1 := blk_frozen BK172.out 1; have hfz27_2 := blk_frozen BK172.out 2; have hfz27_3 := blk_frozen BK172.out 3))
  go_ret
  exact ⟨by first | rfl | (simp [errW_none, errW_some] <;> rfl) | (simp [*, errW_none, errW_some] <;> rfl), by repeat (first | (with_reducible first | exact HB.out | apply below_alloc | apply pw_below_drewN | apply below_drew1 | refine below_set ?_ GE171.out | refine below_set ?_ GE172.out) | exact HB.out)⟩

/-! ### api_Rung_29: function 29 -/
def api_Rung_29.l0 : Nat → List (S28) → List (S28) → Int → Int → Option (Bool)
 | 0, _, _, _, _ => none
 | k + 1, x1, x15, x16, x17 => if x17 < x16 then (if 0 ≤ x17 then (if x17 < (x15.length : Int) then (if x17 < (x1.length : Int) then ((printer_Equal_1.f k ((rd_T28 x15 x17).f0) ((rd_T28 x15 x17).f1) ((rd_T28 x15 x17).f2) ((rd_T28 x15 x17).f3) ((rd_T28 x1 x17).f0) ((rd_T28 x1 x17).f1) ((rd_T28 x1 x17).f2) ((rd_T28 x1 x17).f3)).bind fun t179 => (if t179 = true then (api_Rung_29.l0 k x1 x15 x16 (wrap64 (x17 + 1))) else (some false))) else (none)) else (none)) else (none)) else (some true)
def api_Rung_29.f (k : Nat) (l0 : List (S28)) (l1 : List (S28))  : Option (Bool) := if (l0.length : Int) = (l1.length : Int) then (api_Rung_29.l0 k l1 l0 (l0.length : Int) 0) else (some false)
theorem api_Rung_29.mono_l : ∀ k, (∀ y0 y1 y2 y3, LeO (api_Rung_29.l0 k y0 y1 y2 y3) (api_Rung_29.l0 (k + 1) y0 y1 y2 y3))
 | 0 => fun _ _ _ _ r h => by simp [api_Rung_29.l0] at h
 | k + 1 => by
  have ih0 := api_Rung_29.mono_l k
  ·intro y0 y1 y2 y3
   unfold api_Rung_29.l0
   repeat' first
   | (with_reducible exact ih0 _ _ _ _)
   | (with_reducible exact printer_Equal_1.mono _ _ _ _ _ _ _ _ _)
   | (with_reducible exact LeO.refl _)
   | (with_reducible exact LeO.none _)
   | (with_reducible refine LeO.ite ?_ ?_)
   | (with_reducible refine LeO.bind ?_ (fun _ => ?_))
   | exact ih0 _ _ _ _
   | exact printer_Equal_1.mono _ _ _ _ _ _ _ _ _
   | exact LeO.none _
   | refine LeO.ite ?_ ?_
   | refine LeO.bind ?_ (fun _ => ?_)
theorem api_Rung_29.mono : ∀ a0 a1 k, LeO (api_Rung_29.f k a0 a1) (api_Rung_29.f (k + 1) a0 a1) := by
 intro a0 a1 k
 have ih0 := api_Rung_29.mono_l k
 unfold api_Rung_29.f
 repeat' first
   | (with_reducible exact ih0 _ _ _ _)
   | (with_reducible exact printer_Equal_1.mono _ _ _ _ _ _ _ _ _)
   | (with_reducible exact LeO.refl _)
   | (with_reducible exact LeO.none _)
   | (with_reducible refine LeO.ite ?_ ?_)
   | (with_reducible refine LeO.bind ?_ (fun _ => ?_))
   | exact ih0 _ _ _ _
   | exact printer_Equal_1.mono _ _ _ _ _ _ _ _ _
   | exact LeO.none _
   | refine LeO.ite ?_ ?_
   | refine LeO.bind ?_ (fun _ => ?_)
set_option maxHeartbeats 8000000 in
set_option maxRecDepth 100000 in
theorem api_Rung_29.calls (k : Nat) (A0 : Option Addr) (c0 : Nat) (l0 : List (S28)) (A1 : Option Addr) (c1 : Nat) (l1 : List (S28))  (r : Bool) (w : World) (hr0 : Kd.C k28 w A0 l0.length l0) (hc0 : l0.length ≤ c0) (hr1 : Kd.C k28 w A1 l1.length l1) (hc1 : l1.length ≤ c1) (h : api_Rung_29.f k l0 l1 = some r) :
  Calls Tryd.prog 29 #[.slice A0 l0.length c0, .slice A1 l1.length c1, .func (.func 30) #[] #[]] w fun e w' => e = .returned (.bool r) ∧ Below w.heap.size w w' := by
 have hu28 := Tryd.underlying28
 have HR0 := Aside0.mk hr0
 have HC0 := Aside0.mk hc0
 clear hr0 hc0
 have HR1 := Aside0.mk hr1
 have HC1 := Aside0.mk hc1
 clear hr1 hc1
 have HB := Aside0.mk (Below.refl w.heap.size w)
 have H : (if (l0.length : Int) = (l1.length : Int) then (api_Rung_29.l0 k l1 l0 (l0.length : Int) 0) else (some false)) = some r := h
 clear h
 by_cases c4 : (l0.length : Int) = (l1.length : Int)
 ·rw [if_pos c4] at H
  have c4b0 : ((l0.length : Int) == (l1.length : Int)) = true := beq_iff_eq.mpr c4
  have c4b1 : ((l0.length : Int) != (l1.length : Int)) = false := bne_eq_false_iff_eq.mpr c4
  have c4b2 : (l0.length == l1.length) = true := by first | simpa using c4 | (simp at c4 ⊢; omega)
  clear c4
  have H' := Aside0.mk H
  clear H
  go_enter Tryd.func29, Tryd.ntmps29
  go_wp2
  go_loopg [17] k (fun kq v17 w' => ∃ (x17_1 : Int), v17 = .int .i64 x17_1 ∧ Aside0 (api_Rung_29.l0 kq l1 l0 (l0.length : Int) x17_1 = some r) ∧ Aside0 (kq ≤ k) ∧ Aside0 (Below w.heap.size w w'))
  case atStart => exact ⟨(0), (by first | rfl | (simp; done) | (simp [*]; done)), H', ⟨Nat.le_refl _⟩, ⟨by repeat (first | (with_reducible first | exact HB.out | apply below_alloc | apply pw_below_drewN | apply below_drew1) | exact HB.out)⟩⟩
  case round =>
   clear H'
   try clear c1
   try clear c2
   try clear p2
   try clear c4
   try clear c4b0
   try clear c4b1
   try clear c4b2
   obtain ⟨x17_1, rfl, HA, HK1, HB⟩ := hrel
   cases gk with
   | zero => exact absurd HA.out (by simp [api_Rung_29.l0])
   | succ k1 =>
    have H := HA.out
    clear HA
    simp only [api_Rung_29.l0] at H
    by_cases c5 : x17_1 < (l0.length : Int)
    ·rw [if_pos c5] at H
     have c5b0 : decide (x17_1 < (l0.length : Int)) = true := decide_eq_true c5
     clear c5
     by_cases c6 : 0 ≤ x17_1
     ·rw [if_pos c6] at H
      have c6b0 : decide (0 ≤ x17_1) = true := decide_eq_true c6
      clear c6
      by_cases c7 : x17_1 < (l0.length : Int)
      ·rw [if_pos c7] at H
       have c7b0 : decide (x17_1 < (l0.length : Int)) = true := decide_eq_true c7
       clear c7
       by_cases c8 : x17_1 < (l1.length : Int)
       ·rw [if_pos c8] at H
        have c8b0 : decide (x17_1 < (l1.length : Int)) = true := decide_eq_true c8
        clear c8
        replace H := Option.bind_eq_some_iff.mp H
        obtain ⟨t179, A90, H⟩ := H
        replace H : (if t179 = true then (api_Rung_29.l0 k1 l1 l0 (l0.length : Int) (wrap64 (x17_1 + 1))) else (some false)) = some r := H
        have A9 := Aside0.mk A90
        clear A90
        by_cases c10 : t179 = true
        ·subst c10
         have H1 : (api_Rung_29.l0 k1 l1 l0 (l0.length : Int) (wrap64 (x17_1 + 1))) = some r := by rw [if_pos rfl] at H; exact H
         clear H
         have H := H1
         clear H1
         have H' := Aside0.mk H
         clear H
         have p175 : 0 ≤ (x17_1 : Int) := of_decide_eq_true (by first | (with_reducible assumption) | assumption)
         have q175 : x17_1 < (l0.length : Int) := of_decide_eq_true (by first | (with_reducible assumption) | assumption)
         obtain ⟨ad175, A175_1, c175_1, A175_2, c175_2, e175, hx175_0, hx175_1, hx175_2, hx175_3, hl175_1, hi175_1, hl175_2, hi175_2⟩ := at_T28 HR0.out x17_1 p175 q175
         cases e175
         replace hx175_0 := (HB.out.cell (World.block_lt_of_cell? w _ hx175_0)).trans hx175_0
         replace hx175_1 := (HB.out.cell (World.block_lt_of_cell? w _ hx175_1)).trans hx175_1
         replace hx175_2 := (HB.out.cell (World.block_lt_of_cell? w _ hx175_2)).trans hx175_2
         replace hx175_3 := (HB.out.cell (World.block_lt_of_cell? w _ hx175_3)).trans hx175_3
         have HR175_1 := Aside0.mk hi175_1
         have HC175_1 := Aside0.mk hl175_1
         clear hi175_1 hl175_1
         have HR175_2 := Aside0.mk hi175_2
         have HC175_2 := Aside0.mk hl175_2
         clear hi175_2 hl175_2
         replace p175 := eq_true p175
         replace q175 := eq_true q175
         go_wp2_with (first | ((with_reducible refine gate_dst (N := 8) rfl ?_); refine box_event ?hg (N := 8) ?hd (cs := #[.string (⟨#[]⟩ : ByteArray), .slice none 0 0, .slice none 0 0, .string (⟨#[]⟩ : ByteArray)]) (t := 28) ?hr ?_; (case hd => rfl); (case hg => rfl); (case hr => first | (go_simp; done) | (go_simp; rfl)); intro gb176 hg w11 hbox hb; have n0_ := Aside0.mk (below_step (by repeat (first | (with_reducible first | exact HB.out | apply below_alloc | apply pw_below_drewN | apply below_drew1) | exact HB.out)) hb); have n1_ := Aside0.mk (hbox); have n2_ := Aside0.mk ((by rw [hg]; exact (below_size (by repeat (first | (with_reducible first | exact HB.out | apply below_alloc | apply pw_below_drewN | apply below_drew1) | exact HB.out))) : w.heap.size ≤ gb176)); have n3_ := Aside0.mk ((by rw [hg]; exact (below_size (by repeat (first | (with_reducible first | exact HB.out | apply below_alloc | apply pw_below_drewN | apply below_drew1) | exact HB.out))) : w.heap.size ≤ gb176)); clear HB; have HB := n0_; have BK176 := n1_; have GW176 := n2_; have GE176 := n3_; clear n0_ n1_ n2_ n3_; clear hb hbox hg; have hcz12_0 : w11.cell? ⟨gb176, 0, none⟩ = some (.string (⟨#[]⟩ : ByteArray)) := (blk_cell BK176.out 0).trans rfl; have hcz12_1 : w11.cell? ⟨gb176, 1, none⟩ = some (.slice none 0 0) := (blk_cell BK176.out 1).trans rfl; have hcz12_2 : w11.cell? ⟨gb176, 2, none⟩ = some (.slice none 0 0) := (blk_cell BK176.out 2).trans rfl; have hcz12_3 : w11.cell? ⟨gb176, 3, none⟩ = some (.string (⟨#[]⟩ : ByteArray)) := (blk_cell BK176.out 3).trans rfl; have hfz12_0 := blk_frozen BK176.out 0; have hfz12_1 := blk_frozen BK176.out 1; have hfz12_2 := blk_frozen BK176.out 2; have hfz12_3 := blk_frozen BK176.out 3; have p177 : 0 ≤ (x17_1 : Int) := of_decide_eq_true (by first | (with_reducible assumption) | assumption); have q177 : x17_1 < (l1.length : Int) := of_decide_eq_true (by first | (with_reducible assumption) | assumption); obtain ⟨ad177, A177_1, c177_1, A177_2, c177_2, e177, hx177_0, hx177_1, hx177_2, hx177_3, hl177_1, hi177_1, hl177_2, hi177_2⟩ := at_T28 HR1.out x17_1 p177 q177; cases e177; have hn177_0 : ad177.block ≠ gb176 := Nat.ne_of_lt (Nat.lt_of_lt_of_le (by have := World.block_lt_of_cell? _ _ hx177_0; first | rwa [add_block] at this | exact this) GW176.out); have hn177_1 : ad177.block ≠ gb176 := Nat.ne_of_lt (Nat.lt_of_lt_of_le (by have := World.block_lt_of_cell? _ _ hx177_0; first | rwa [add_block] at this | exact this) GW176.out); have hn177_2 : ad177.block ≠ gb176 := Nat.ne_of_lt (Nat.lt_of_lt_of_le (by have := World.block_lt_of_cell? _ _ hx177_0; first | rwa [add_block] at this | exact this) GW176.out); have hn177_3 : ad177.block ≠ gb176 := Nat.ne_of_lt (Nat.lt_of_lt_of_le (by have := World.block_lt_of_cell? _ _ hx177_0; first | rwa [add_block] at this | exact this) GW176.out); replace hx177_0 := (HB.out.cell (World.block_lt_of_cell? w _ hx177_0)).trans hx177_0; replace hx177_1 := (HB.out.cell (World.block_lt_of_cell? w _ hx177_1)).trans hx177_1; replace hx177_2 := (HB.out.cell (World.block_lt_of_cell? w _ hx177_2)).trans hx177_2; replace hx177_3 := (HB.out.cell (World.block_lt_of_cell? w _ hx177_3)).trans hx177_3; have HR177_1 := Aside0.mk hi177_1; have HC177_1 := Aside0.mk hl177_1; clear hi177_1 hl177_1; have HR177_2 := Aside0.mk hi177_2; have HC177_2 := Aside0.mk hl177_2; clear hi177_2 hl177_2; replace hx177_0 := (cell_far (p := ⟨gb176, 0, none⟩) (by first | (rw [add_block]; exact hn177_0) | (show (Addr.add _ _).block ≠ _; rw [add_block]; exact hn177_0) | exact hn177_0) (.string ((rd_T28 l0 x17_1).f0))).trans hx177_0; replace hx177_1 := (cell_far (p := ⟨gb176, 0, none⟩) (by first | (rw [add_block]; exact hn177_0) | (show (Addr.add _ _).block ≠ _; rw [add_block]; exact hn177_0) | exact hn177_0) (.string ((rd_T28 l0 x17_1).f0))).trans hx177_1; replace hx177_2 := (cell_far (p := ⟨gb176, 0, none⟩) (by first | (rw [add_block]; exact hn177_0) | (show (Addr.add _ _).block ≠ _; rw [add_block]; exact hn177_0) | exact hn177_0) (.string ((rd_T28 l0 x17_1).f0))).trans hx177_2; replace hx177_3 := (cell_far (p := ⟨gb176, 0, none⟩) (by first | (rw [add_block]; exact hn177_0) | (show (Addr.add _ _).block ≠ _; rw [add_block]; exact hn177_0) | exact hn177_0) (.string ((rd_T28 l0 x17_1).f0))).trans hx177_3; replace hx177_0 := (cell_far (p := ⟨gb176, 1, none⟩) (by first | (rw [add_block]; exact hn177_1) | (show (Addr.add _ _).block ≠ _; rw [add_block]; exact hn177_1) | exact hn177_1) (.slice A175_1 ((rd_T28 l0 x17_1).f1).length c175_1)).trans hx177_0; replace hx177_1 := (cell_far (p := ⟨gb176, 1, none⟩) (by first | (rw [add_block]; exact hn177_1) | (show (Addr.add _ _).block ≠ _; rw [add_block]; exact hn177_1) | exact hn177_1) (.slice A175_1 ((rd_T28 l0 x17_1).f1).length c175_1)).trans hx177_1; replace hx177_2 := (cell_far (p := ⟨gb176, 1, none⟩) (by first | (rw [add_block]; exact hn177_1) | (show (Addr.add _ _).block ≠ _; rw [add_block]; exact hn177_1) | exact hn177_1) (.slice A175_1 ((rd_T28 l0 x17_1).f1).length c175_1)).trans hx177_2; replace hx177_3 := (cell_far (p := ⟨gb176, 1, none⟩) (by first | (rw [add_block]; exact hn177_1) | (show (Addr.add _ _).block ≠ _; rw [add_block]; exact hn177_1) | exact hn177_1) (.slice A175_1 ((rd_T28 l0 x17_1).f1).length c175_1)).trans hx177_3; replace hx177_0 := (cell_far (p := ⟨gb176, 2, none⟩) (by first | (rw [add_block]; exact hn177_2) | (show (Addr.add _ _).block ≠ _; rw [add_block]; exact hn177_2) | exact hn177_2) (.slice A175_2 ((rd_T28 l0 x17_1).f2).length c175_2)).trans hx177_0; replace hx177_1 := (cell_far (p := ⟨gb176, 2, none⟩) (by first | (rw [add_block]; exact hn177_2) | (show (Addr.add _ _).block ≠ _; rw [add_block]; exact hn177_2) | exact hn177_2) (.slice A175_2 ((rd_T28 l0 x17_1).f2).length c175_2)).trans hx177_1; replace hx177_2 := (cell_far (p := ⟨gb176, 2, none⟩) (by first | (rw [add_block]; exact hn177_2) | (show (Addr.add _ _).block ≠ _; rw [add_block]; exact hn177_2) | exact hn177_2) (.slice A175_2 ((rd_T28 l0 x17_1).f2).length c175_2)).trans hx177_2; replace hx177_3 := (cell_far (p := ⟨gb176, 2, none⟩) (by first | (rw [add_block]; exact hn177_2) | (show (Addr.add _ _).block ≠ _; rw [add_block]; exact hn177_2) | exact hn177_2) (.slice A175_2 ((rd_T28 l0 x17_1).f2).length c175_2)).trans hx177_3; replace hx177_0 := (cell_far (p := ⟨gb176, 3, none⟩) (by first | (rw [add_block]; exact hn177_3) | (show (Addr.add _ _).block ≠ _; rw [add_block]; exact hn177_3) | exact hn177_3) (.string ((rd_T28 l0 x17_1).f3))).trans hx177_0; replace hx177_1 := (cell_far (p := ⟨gb176, 3, none⟩) (by first | (rw [add_block]; exact hn177_3) | (show (Addr.add _ _).block ≠ _; rw [add_block]; exact hn177_3) | exact hn177_3) (.string ((rd_T28 l0 x17_1).f3))).trans hx177_1; replace hx177_2 := (cell_far (p := ⟨gb176, 3, none⟩) (by first | (rw [add_block]; exact hn177_3) | (show (Addr.add _ _).block ≠ _; rw [add_block]; exact hn177_3) | exact hn177_3) (.string ((rd_T28 l0 x17_1).f3))).trans hx177_2; replace hx177_3 := (cell_far (p := ⟨gb176, 3, none⟩) (by first | (rw [add_block]; exact hn177_3) | (show (Addr.add _ _).block ≠ _; rw [add_block]; exact hn177_3) | exact hn177_3) (.string ((rd_T28 l0 x17_1).f3))).trans hx177_3; clear hn177_0; clear hn177_1; clear hn177_2; clear hn177_3; replace p177 := eq_true p177; replace q177 := eq_true q177) | ((with_reducible refine gate_dst (N := 9) rfl ?_); refine box_event ?hg (N := 9) ?hd (cs := #[.string (⟨#[]⟩ : ByteArray), .slice none 0 0, .slice none 0 0, .string (⟨#[]⟩ : ByteArray)]) (t := 28) ?hr ?_; (case hd => rfl); (case hg => rfl); (case hr => first | (go_simp; done) | (go_simp; rfl)); intro gb178 hg w13 hbox hb; have n0_ := Aside0.mk (blk_below (g := gb176) (o := .cells #[.string ((rd_T28 l0 x17_1).f0), .slice A175_1 ((rd_T28 l0 x17_1).f1).length c175_1, .slice A175_2 ((rd_T28 l0 x17_1).f2).length c175_2, .string ((rd_T28 l0 x17_1).f3)] 28 (0, 0)) (by (with_reducible repeat (first | refine blk_drewN ?_ _ | refine blk_drew ?_ | refine blk_alloc ?_ _)); refine blk_put (cs := #[.string ((rd_T28 l0 x17_1).f0), .slice A175_1 ((rd_T28 l0 x17_1).f1).length c175_1, .slice A175_2 ((rd_T28 l0 x17_1).f2).length c175_2, .string (⟨#[]⟩ : ByteArray)]) ?_ 3 _ rfl; (with_reducible repeat (first | refine blk_drewN ?_ _ | refine blk_drew ?_ | refine blk_alloc ?_ _)); refine blk_put (cs := #[.string ((rd_T28 l0 x17_1).f0), .slice A175_1 ((rd_T28 l0 x17_1).f1).length c175_1, .slice none 0 0, .string (⟨#[]⟩ : ByteArray)]) ?_ 2 _ rfl; (with_reducible repeat (first | refine blk_drewN ?_ _ | refine blk_drew ?_ | refine blk_alloc ?_ _)); refine blk_put (cs := #[.string ((rd_T28 l0 x17_1).f0), .slice none 0 0, .slice none 0 0, .string (⟨#[]⟩ : ByteArray)]) ?_ 1 _ rfl; (with_reducible repeat (first | refine blk_drewN ?_ _ | refine blk_drew ?_ | refine blk_alloc ?_ _)); refine blk_put (cs := #[.string (⟨#[]⟩ : ByteArray), .slice none 0 0, .slice none 0 0, .string (⟨#[]⟩ : ByteArray)]) ?_ 0 _ rfl; (with_reducible repeat (first | refine blk_drewN ?_ _ | refine blk_drew ?_ | refine blk_alloc ?_ _)); exact BK176.out) hb); have n1_ := Aside0.mk (below_step (by repeat (first | (with_reducible first | exact HB.out | apply below_alloc | apply pw_below_drewN | apply below_drew1 | refine below_set ?_ GE176.out) | exact HB.out)) hb); have n2_ := Aside0.mk (hbox); have n3_ := Aside0.mk ((by rw [hg]; exact (below_size (by repeat (first | (with_reducible first | exact HB.out | apply below_alloc | apply pw_below_drewN | apply below_drew1 | refine below_set ?_ GE176.out) | exact HB.out))) : w.heap.size ≤ gb178)); have n4_ := Aside0.mk ((by rw [hg]; exact (below_size (by repeat (first | (with_reducible first | exact HB.out | apply below_alloc | apply pw_below_drewN | apply below_drew1 | refine below_set ?_ GE176.out) | exact HB.out))) : w.heap.size ≤ gb178)); have n5_ := Aside0.mk ((by rw [hg]; exact Nat.ne_of_lt (blk_lt (g := gb176) (o := .cells #[.string ((rd_T28 l0 x17_1).f0), .slice A175_1 ((rd_T28 l0 x17_1).f1).length c175_1, .slice A175_2 ((rd_T28 l0 x17_1).f2).length c175_2, .string ((rd_T28 l0 x17_1).f3)] 28 (0, 0)) (by (with_reducible repeat (first | refine blk_drewN ?_ _ | refine blk_drew ?_ | refine blk_alloc ?_ _)); refine blk_put (cs := #[.string ((rd_T28 l0 x17_1).f0), .slice A175_1 ((rd_T28 l0 x17_1).f1).length c175_1, .slice A175_2 ((rd_T28 l0 x17_1).f2).length c175_2, .string (⟨#[]⟩ : ByteArray)]) ?_ 3 _ rfl; (with_reducible repeat (first | refine blk_drewN ?_ _ | refine blk_drew ?_ | refine blk_alloc ?_ _)); refine blk_put (cs := #[.string ((rd_T28 l0 x17_1).f0), .slice A175_1 ((rd_T28 l0 x17_1).f1).length c175_1, .slice none 0 0, .string (⟨#[]⟩ : ByteArray)]) ?_ 2 _ rfl; (with_reducible repeat (first | refine blk_drewN ?_ _ | refine blk_drew ?_ | refine blk_alloc ?_ _)); refine blk_put (cs := #[.string ((rd_T28 l0 x17_1).f0), .slice none 0 0, .slice none 0 0, .string (⟨#[]⟩ : ByteArray)]) ?_ 1 _ rfl; (with_reducible repeat (first | refine blk_drewN ?_ _ | refine blk_drew ?_ | refine blk_alloc ?_ _)); refine blk_put (cs := #[.string (⟨#[]⟩ : ByteArray), .slice none 0 0, .slice none 0 0, .string (⟨#[]⟩ : ByteArray)]) ?_ 0 _ rfl; (with_reducible repeat (first | refine blk_drewN ?_ _ | refine blk_drew ?_ | refine blk_alloc ?_ _)); exact BK176.out)) : gb176 ≠ gb178)); have n6_ := Aside0.mk ((by rw [hg]; exact Nat.ne_of_gt (blk_lt (g := gb176) (o := .cells #[.string ((rd_T28 l0 x17_1).f0), .slice A175_1 ((rd_T28 l0 x17_1).f1).length c175_1, .slice A175_2 ((rd_T28 l0 x17_1).f2).length c175_2, .string ((rd_T28 l0 x17_1).f3)] 28 (0, 0)) (by (with_reducible repeat (first | refine blk_drewN ?_ _ | refine blk_drew ?_ | refine blk_alloc ?_ _)); refine blk_put (cs := #[.string ((rd_T28 l0 x17_1).f0), .slice A175_1 ((rd_T28 l0 x17_1).f1).length c175_1, .slice A175_2 ((rd_T28 l0 x17_1).f2).length c175_2, .string (⟨#[]⟩ : ByteArray)]) ?_ 3 _ rfl; (with_reducible repeat (first | refine blk_drewN ?_ _ | refine blk_drew ?_ | refine blk_alloc ?_ _)); refine blk_put (cs := #[.string ((rd_T28 l0 x17_1).f0), .slice A175_1 ((rd_T28 l0 x17_1).f1).length c175_1, .slice none 0 0, .string (⟨#[]⟩ : ByteArray)]) ?_ 2 _ rfl; (with_reducible repeat (first | refine blk_drewN ?_ _ | refine blk_drew ?_ | refine blk_alloc ?_ _)); refine blk_put (cs := #[.string ((rd_T28 l0 x17_1).f0), .slice none 0 0, .slice none 0 0, .string (⟨#[]⟩ : ByteArray)]) ?_ 1 _ rfl; (with_reducible repeat (first | refine blk_drewN ?_ _ | refine blk_drew ?_ | refine blk_alloc ?_ _)); refine blk_put (cs := #[.string (⟨#[]⟩ : ByteArray), .slice none 0 0, .slice none 0 0, .string (⟨#[]⟩ : ByteArray)]) ?_ 0 _ rfl; (with_reducible repeat (first | refine blk_drewN ?_ _ | refine blk_drew ?_ | refine blk_alloc ?_ _)); exact BK176.out)) : gb178 ≠ gb176)); clear BK176; clear HB; have BK176 := n0_; have HB := n1_; have BK178 := n2_; have GW178 := n3_; have GE178 := n4_; have NB176_178 := n5_; have NB178_176 := n6_; clear n0_ n1_ n2_ n3_ n4_ n5_ n6_; clear hb hbox hg; have hnb14 := NB178_176.out; have hnc14 := NB176_178.out; have hcz15_0 : w13.cell? ⟨gb178, 0, none⟩ = some (.string (⟨#[]⟩ : ByteArray)) := (blk_cell BK178.out 0).trans rfl; have hcz15_1 : w13.cell? ⟨gb178, 1, none⟩ = some (.slice none 0 0) := (blk_cell BK178.out 1).trans rfl; have hcz15_2 : w13.cell? ⟨gb178, 2, none⟩ = some (.slice none 0 0) := (blk_cell BK178.out 2).trans rfl; have hcz15_3 : w13.cell? ⟨gb178, 3, none⟩ = some (.string (⟨#[]⟩ : ByteArray)) := (blk_cell BK178.out 3).trans rfl; have hfz15_0 := blk_frozen BK178.out 0; have hfz15_1 := blk_frozen BK178.out 1; have hfz15_2 := blk_frozen BK178.out 2; have hfz15_3 := blk_frozen BK178.out 3; have hcz16_0 : w13.cell? ⟨gb176, 0, none⟩ = some (.string ((rd_T28 l0 x17_1).f0)) := (blk_cell BK176.out 0).trans rfl; have hcz16_1 : w13.cell? ⟨gb176, 1, none⟩ = some (.slice A175_1 ((rd_T28 l0 x17_1).f1).length c175_1) := (blk_cell BK176.out 1).trans rfl; have hcz16_2 : w13.cell? ⟨gb176, 2, none⟩ = some (.slice A175_2 ((rd_T28 l0 x17_1).f2).length c175_2) := (blk_cell BK176.out 2).trans rfl; have hcz16_3 : w13.cell? ⟨gb176, 3, none⟩ = some (.string ((rd_T28 l0 x17_1).f3)) := (blk_cell BK176.out 3).trans rfl; have hfz16_0 := blk_frozen BK176.out 0; have hfz16_1 := blk_frozen BK176.out 1; have hfz16_2 := blk_frozen BK176.out 2; have hfz16_3 := blk_frozen BK176.out 3) | (go_at_call 30; (with_reducible refine (printer_Equal_1.calls k1 ((rd_T28 l0 x17_1).f0) _ _ ((rd_T28 l0 x17_1).f1) _ _ ((rd_T28 l0 x17_1).f2) ((rd_T28 l0 x17_1).f3) ((rd_T28 l1 x17_1).f0) _ _ ((rd_T28 l1 x17_1).f1) _ _ ((rd_T28 l1 x17_1).f2) ((rd_T28 l1 x17_1).f3) true _ ?side1 ?side2 ?side3 ?side4 ?side5 ?side6 ?side7 ?side8 A9.out).mono ?_); (case side1 => exact Kd.C_below HR175_1.out (by repeat (first | (with_reducible first | exact HB.out | apply below_alloc | apply pw_below_drewN | apply below_drew1 | refine below_set ?_ GE176.out | refine below_set ?_ GE178.out) | exact HB.out))); (case side2 => exact HC175_1.out); (case side3 => exact Kd.C_below HR175_2.out (by repeat (first | (with_reducible first | exact HB.out | apply below_alloc | apply pw_below_drewN | apply below_drew1 | refine below_set ?_ GE176.out | refine below_set ?_ GE178.out) | exact HB.out))); (case side4 => exact HC175_2.out); (case side5 => exact Kd.C_below HR177_1.out (by repeat (first | (with_reducible first | exact HB.out | apply below_alloc | apply pw_below_drewN | apply below_drew1 | refine below_set ?_ GE176.out | refine below_set ?_ GE178.out) | exact HB.out))); (case side6 => exact HC177_1.out); (case side7 => exact Kd.C_below HR177_2.out (by repeat (first | (with_reducible first | exact HB.out | apply below_alloc | apply pw_below_drewN | apply below_drew1 | refine below_set ?_ GE176.out | refine below_set ?_ GE178.out) | exact HB.out))); (case side8 => exact HC177_2.out); rintro e w17 ⟨rfl, hb⟩; have n0_ := Aside0.mk (blk_below (g := gb176) (o := .cells #[.string ((rd_T28 l0 x17_1).f0), .slice A175_1 ((rd_T28 l0 x17_1).f1).length c175_1, .slice A175_2 ((rd_T28 l0 x17_1).f2).length c175_2, .string ((rd_T28 l0 x17_1).f3)] 28 (0, 0)) (by (with_reducible repeat (first | refine blk_drewN ?_ _ | refine blk_drew ?_ | refine blk_alloc ?_ _)); refine blk_far ?_ NB176_178.out _; (with_reducible repeat (first | refine blk_drewN ?_ _ | refine blk_drew ?_ | refine blk_alloc ?_ _)); refine blk_far ?_ NB176_178.out _; (with_reducible repeat (first | refine blk_drewN ?_ _ | refine blk_drew ?_ | refine blk_alloc ?_ _)); refine blk_far ?_ NB176_178.out _; (with_reducible repeat (first | refine blk_drewN ?_ _ | refine blk_drew ?_ | refine blk_alloc ?_ _)); refine blk_far ?_ NB176_178.out _; (with_reducible repeat (first | refine blk_drewN ?_ _ | refine blk_drew ?_ | refine blk_alloc ?_ _)); exact BK176.out) hb); have n1_ := Aside0.mk (blk_below (g := gb178) (o := .cells #[.string ((rd_T28 l1 x17_1).f0), .slice A177_1 ((rd_T28 l1 x17_1).f1).length c177_1, .slice A177_2 ((rd_T28 l1 x17_1).f2).length c177_2, .string ((rd_T28 l1 x17_1).f3)] 28 (0, 0)) (by (with_reducible repeat (first | refine blk_drewN ?_ _ | refine blk_drew ?_ | refine blk_alloc ?_ _)); refine blk_put (cs := #[.string ((rd_T28 l1 x17_1).f0), .slice A177_1 ((rd_T28 l1 x17_1).f1).length c177_1, .slice A177_2 ((rd_T28 l1 x17_1).f2).length c177_2, .string (⟨#[]⟩ : ByteArray)]) ?_ 3 _ rfl; (with_reducible repeat (first | refine blk_drewN ?_ _ | refine blk_drew ?_ | refine blk_alloc ?_ _)); refine blk_put (cs := #[.string ((rd_T28 l1 x17_1).f0), .slice A177_1 ((rd_T28 l1 x17_1).f1).length c177_1, .slice none 0 0, .string (⟨#[]⟩ : ByteArray)]) ?_ 2 _ rfl; (with_reducible repeat (first | refine blk_drewN ?_ _ | refine blk_drew ?_ | refine blk_alloc ?_ _)); refine blk_put (cs := #[.string ((rd_T28 l1 x17_1).f0), .slice none 0 0, .slice none 0 0, .string (⟨#[]⟩ : ByteArray)]) ?_ 1 _ rfl; (with_reducible repeat (first | refine blk_drewN ?_ _ | refine blk_drew ?_ | refine blk_alloc ?_ _)); refine blk_put (cs := #[.string (⟨#[]⟩ : ByteArray), .slice none 0 0, .slice none 0 0, .string (⟨#[]⟩ : ByteArray)]) ?_ 0 _ rfl; (with_reducible repeat (first | refine blk_drewN ?_ _ | refine blk_drew ?_ | refine blk_alloc ?_ _)); exact BK178.out) hb); have n2_ := Aside0.mk (below_step (by repeat (first | (with_reducible first | exact HB.out | apply below_alloc | apply pw_below_drewN | apply below_drew1 | refine below_set ?_ GE176.out | refine below_set ?_ GE178.out) | exact HB.out)) hb); clear BK176; clear BK178; clear HB; have BK176 := n0_; have BK178 := n1_; have HB := n2_; clear n0_ n1_ n2_; (try clear hb); (try clear hb2); (try clear hk); (try clear hi)))
         go_roundg k1
         case measure => have := HK1.out; omega
         case rel => exact ⟨(wrap64 (x17_1 + 1)), (by first | rfl | (simp; done) | (simp [*]; done)), H', ⟨by have := HK1.out; omega⟩, ⟨by repeat (first | (with_reducible first | exact HB.out | apply below_alloc | apply pw_below_drewN | apply below_drew1 | refine below_set ?_ GE176.out | refine below_set ?_ GE178.out) | exact HB.out)⟩⟩
        ·replace c10 := Bool.eq_false_iff.mpr c10
         subst c10
         have H1 : (some false) = some r := by rw [if_neg (show ¬ (false = true) by decide)] at H; exact H
         clear H
         have H := H1
         clear H1
         obtain rfl := Option.some.inj H
         have p175 : 0 ≤ (x17_1 : Int) := of_decide_eq_true (by first | (with_reducible assumption) | assumption)
         have q175 : x17_1 < (l0.length : Int) := of_decide_eq_true (by first | (with_reducible assumption) | assumption)
         obtain ⟨ad175, A175_1, c175_1, A175_2, c175_2, e175, hx175_0, hx175_1, hx175_2, hx175_3, hl175_1, hi175_1, hl175_2, hi175_2⟩ := at_T28 HR0.out x17_1 p175 q175
         cases e175
         replace hx175_0 := (HB.out.cell (World.block_lt_of_cell? w _ hx175_0)).trans hx175_0
         replace hx175_1 := (HB.out.cell (World.block_lt_of_cell? w _ hx175_1)).trans hx175_1
         replace hx175_2 := (HB.out.cell (World.block_lt_of_cell? w _ hx175_2)).trans hx175_2
         replace hx175_3 := (HB.out.cell (World.block_lt_of_cell? w _ hx175_3)).trans hx175_3
         have HR175_1 := Aside0.mk hi175_1
         have HC175_1 := Aside0.mk hl175_1
         clear hi175_1 hl175_1
         have HR175_2 := Aside0.mk hi175_2
         have HC175_2 := Aside0.mk hl175_2
         clear hi175_2 hl175_2
         replace p175 := eq_true p175
         replace q175 := eq_true q175
         go_wp2_with (first | ((with_reducible refine gate_dst (N := 8) rfl ?_); refine box_event ?hg (N := 8) ?hd (cs := #[.string (⟨#[]⟩ : ByteArray), .slice none 0 0, .slice none 0 0, .string (⟨#[]⟩ : ByteArray)]) (t := 28) ?hr ?_; (case hd => rfl); (case hg => rfl); (case hr => first | (go_simp; done) | (go_simp; rfl)); intro gb176 hg w18 hbox hb; have n0_ := Aside0.mk (below_step (by repeat (first | (with_reducible first | exact HB.out | apply below_alloc | apply pw_below_drewN | apply below_drew1) | exact HB.out)) hb); have n1_ := Aside0.mk (hbox); have n2_ := Aside0.mk ((by rw [hg]; exact (below_size (by repeat (first | (with_reducible first | exact HB.out | apply below_alloc | apply pw_below_drewN | apply below_drew1) | exact HB.out))) : w.heap.size ≤ gb176)); have n3_ := Aside0.mk ((by rw [hg]; exact (below_size (by repeat (first | (with_reducible first | exact HB.out | apply below_alloc | apply pw_below_drewN | apply below_drew1) | exact HB.out))) : w.heap.size ≤ gb176)); clear HB; have HB := n0_; have BK176 := n1_; have GW176 := n2_; have GE176 := n3_; clear n0_ n1_ n2_ n3_; clear hb hbox hg; have hcz19_0 : w18.cell? ⟨gb176, 0, none⟩ = some (.string (⟨#[]⟩ : ByteArray)) := (blk_cell BK176.out 0).trans rfl; have hcz19_1 : w18.cell? ⟨gb176, 1, none⟩ = some (.slice none 0 0) := (blk_cell BK176.out 1).trans rfl; have hcz19_2 : w18.cell? ⟨gb176, 2, none⟩ = some (.slice none 0 0) := (blk_cell BK176.out 2).trans rfl; have hcz19_3 : w18.cell? ⟨gb176, 3, none⟩ = some (.string (⟨#[]⟩ : ByteArray)) := (blk_cell BK176.out 3).trans rfl; have hfz19_0 := blk_frozen BK176.out 0; have hfz19_1 := blk_frozen BK176.out 1; have hfz19_2 := blk_frozen BK176.out 2; have hfz19_3 := blk_frozen BK176.out 3; have p177 : 0 ≤ (x17_1 : Int) := of_decide_eq_true (by first | (with_reducible assumption) | assumption); have q177 : x17_1 < (l1.length : Int) := of_decide_eq_true (by first | (with_reducible assumption) | assumption); obtain ⟨ad177, A177_1, c177_1, A177_2, c177_2, e177, hx177_0, hx177_1, hx177_2, hx177_3, hl177_1, hi177_1, hl177_2, hi177_2⟩ := at_T28 HR1.out x17_1 p177 q177; cases e177; have hn177_0 : ad177.block ≠ gb176 := Nat.ne_of_lt (Nat.lt_of_lt_of_le (by have := World.block_lt_of_cell? _ _ hx177_0; first | rwa [add_block] at this | exact this) GW176.out); have hn177_1 : ad177.block ≠ gb176 := Nat.ne_of_lt (Nat.lt_of_lt_of_le (by have := World.block_lt_of_cell? _ _ hx177_0; first | rwa [add_block] at this | exact this) GW176.out); have hn177_2 : ad177.block ≠ gb176 := Nat.ne_of_lt (Nat.lt_of_lt_of_le (by have := World.block_lt_of_cell? _ _ hx177_0; first | rwa [add_block] at this | exact this) GW176.out); have hn177_3 : ad177.block ≠ gb176 := Nat.ne_of_lt (Nat.lt_of_lt_of_le (by have := World.block_lt_of_cell? _ _ hx177_0; first | rwa [add_block] at this | exact this) GW176.out); replace hx177_0 := (HB.out.cell (World.block_lt_of_cell? w _ hx177_0)).trans hx177_0; replace hx177_1 := (HB.out.cell (World.block_lt_of_cell? w _ hx177_1)).trans hx177_1; replace hx177_2 := (HB.out.cell (World.block_lt_of_cell? w _ hx177_2)).trans hx177_2; replace hx177_3 := (HB.out.cell (World.block_lt_of_cell? w _ hx177_3)).trans hx177_3; have HR177_1 := Aside0.mk hi177_1; have HC177_1 := Aside0.mk hl177_1; clear hi177_1 hl177_1; have HR177_2 := Aside0.mk hi177_2; have HC177_2 := Aside0.mk hl177_2; clear hi177_2 hl177_2; replace hx177_0 := (cell_far (p := ⟨gb176, 0, none⟩) (by first | (rw [add_block]; exact hn177_0) | (show (Addr.add _ _).block ≠ _; rw [add_block]; exact hn177_0) | exact hn177_0) (.string ((rd_T28 l0 x17_1).f0))).trans hx177_0; replace hx177_1 := (cell_far (p := ⟨gb176, 0, none⟩) (by first | (rw [add_block]; exact hn177_0) | (show (Addr.add _ _).block ≠ _; rw [add_block]; exact hn177_0) | exact hn177_0) (.string ((rd_T28 l0 x17_1).f0))).trans hx177_1; replace hx177_2 := (cell_far (p := ⟨gb176, 0, none⟩) (by first | (rw [add_block]; exact hn177_0) | (show (Addr.add _ _).block ≠ _; rw [add_block]; exact hn177_0) | exact hn177_0) (.string ((rd_T28 l0 x17_1).f0))).trans hx177_2; replace hx177_3 := (cell_far (p := ⟨gb176, 0, none⟩) (by first | (rw [add_block]; exact hn177_0) | (show (Addr.add _ _).block ≠ _; rw [add_block]; exact hn177_0) | exact hn177_0) (.string ((rd_T28 l0 x17_1).f0))).trans hx177_3; replace hx177_0 := (cell_far (p := ⟨gb176, 1, none⟩) (by first | (rw [add_block]; exact hn177_1) | (show (Addr.add _ _).block ≠ _; rw [add_block]; exact hn177_1) | exact hn177_1) (.slice A175_1 ((rd_T28 l0 x17_1).f1).length c175_1)).trans hx177_0; replace hx177_1 := (cell_far (p := ⟨gb176, 1, none⟩) (by first | (rw [add_block]; exact hn177_1) | (show (Addr.add _ _).block ≠ _; rw [add_block]; exact hn177_1) | exact hn177_1) (.slice A175_1 ((rd_T28 l0 x17_1).f1).length c175_1)).trans hx177_1; replace hx177_2 := (cell_far (p := ⟨gb176, 1, none⟩) (by first | (rw [add_block]; exact hn177_1) | (show (Addr.add _ _).block ≠ _; rw [add_block]; exact hn177_1) | exact hn177_1) (.slice A175_1 ((rd_T28 l0 x17_1).f1).length c175_1)).trans hx177_2; replace hx177_3 := (cell_far (p := ⟨gb176, 1, none⟩) (by first | (rw [add_block]; exact hn177_1) | (show (Addr.add _ _).block ≠ _; rw [add_block]; exact hn177_1) | exact hn177_1) (.slice A175_1 ((rd_T28 l0 x17_1).f1).length c175_1)).trans hx177_3; replace hx177_0 := (cell_far (p := ⟨gb176, 2, none⟩) (by first | (rw [add_block]; exact hn177_2) | (show (Addr.add _ _).block ≠ _; rw [add_block]; exact hn177_2) | exact hn177_2) (.slice A175_2 ((rd_T28 l0 x17_1).f2).length c175_2)).trans hx177_0; replace hx177_1 := (cell_far (p := ⟨gb176, 2, none⟩) (by first | (rw [add_block]; exact hn177_2) | (show (Addr.add _ _).block ≠ _; rw [add_block]; exact hn177_2) | exact hn177_2) (.slice A175_2 ((rd_T28 l0 x17_1).f2).length c175_2)).trans hx177_1; replace hx177_2 := (cell_far (p := ⟨gb176, 2, none⟩) (by first | (rw [add_block]; exact hn177_2) | (show (Addr.add _ _).block ≠ _; rw [add_block]; exact hn177_2) | exact hn177_2) (.slice A175_2 ((rd_T28 l0 x17_1).f2).length c175_2)).trans hx177_2; replace hx177_3 := (cell_far (p := ⟨gb176, 2, none⟩) (by first | (rw [add_block]; exact hn177_2) | (show (Addr.add _ _).block ≠ _; rw [add_block]; exact hn177_2) | exact hn177_2) (.slice A175_2 ((rd_T28 l0 x17_1).f2).length c175_2)).trans hx177_3; replace hx177_0 := (cell_far (p := ⟨gb176, 3, none⟩) (by first | (rw [add_block]; exact hn177_3) | (show (Addr.add _ _).block ≠ _; rw [add_block]; exact hn177_3) | exact hn177_3) (.string ((rd_T28 l0 x17_1).f3))).trans hx177_0; replace hx177_1 := (cell_far (p := ⟨gb176, 3, none⟩) (by first | (rw [add_block]; exact hn177_3) | (show (Addr.add _ _).block ≠ _; rw [add_block]; exact hn177_3) | exact hn177_3) (.string ((rd_T28 l0 x17_1).f3))).trans hx177_1; replace hx177_2 := (cell_far (p := ⟨gb176, 3, none⟩) (by first | (rw [add_block]; exact hn177_3) | (show (Addr.add _ _).block ≠ _; rw [add_block]; exact hn177_3) | exact hn177_3) (.string ((rd_T28 l0 x17_1).f3))).trans hx177_2; replace hx177_3 := (cell_far (p := ⟨gb176, 3, none⟩) (by first | (rw [add_block]; exact hn177_3) | (show (Addr.add _ _).block ≠ _; rw [add_block]; exact hn177_3) | exact hn177_3) (.string ((rd_T28 l0 x17_1).f3))).trans hx177_3; clear hn177_0; clear hn177_1; clear hn177_2; clear hn177_3; replace p177 := eq_true p177; replace q177 := eq_true q177) | ((with_reducible refine gate_dst (N := 9) rfl ?_); refine box_event ?hg (N := 9) ?hd (cs := #[.string (⟨#[]⟩ : ByteArray), .slice none 0 0, .slice none 0 0, .string (⟨#[]⟩ : ByteArray)]) (t := 28) ?hr ?_; (case hd => rfl); (case hg => rfl); (case hr => first | (go_simp; done) | (go_simp; rfl)); intro gb178 hg w20 hbox hb; have n0_ := Aside0.mk (blk_below (g := gb176) (o := .cells #[.string ((rd_T28 l0 x17_1).f0), .slice A175_1 ((rd_T28 l0 x17_1).f1).length c175_1, .slice A175_2 ((rd_T28 l0 x17_1).f2).length c175_2, .string ((rd_T28 l0 x17_1).f3)] 28 (0, 0)) (by (with_reducible repeat (first | refine blk_drewN ?_ _ | refine blk_drew ?_ | refine blk_alloc ?_ _)); refine blk_put (cs := #[.string ((rd_T28 l0 x17_1).f0), .slice A175_1 ((rd_T28 l0 x17_1).f1).length c175_1, .slice A175_2 ((rd_T28 l0 x17_1).f2).length c175_2, .string (⟨#[]⟩ : ByteArray)]) ?_ 3 _ rfl; (with_reducible repeat (first | refine blk_drewN ?_ _ | refine blk_drew ?_ | refine blk_alloc ?_ _)); refine blk_put (cs := #[.string ((rd_T28 l0 x17_1).f0), .slice A175_1 ((rd_T28 l0 x17_1).f1).length c175_1, .slice none 0 0, .string (⟨#[]⟩ : ByteArray)]) ?_ 2 _ rfl; (with_reducible repeat (first | refine blk_drewN ?_ _ | refine blk_drew ?_ | refine blk_alloc ?_ _)); refine blk_put (cs := #[.string ((rd_T28 l0 x17_1).f0), .slice none 0 0, .slice none 0 0, .string (⟨#[]⟩ : ByteArray)]) ?_ 1 _ rfl; (with_reducible repeat (first | refine blk_drewN ?_ _ | refine blk_drew ?_ | refine blk_alloc ?_ _)); refine blk_put (cs := #[.string (⟨#[]⟩ : ByteArray), .slice none 0 0, .slice none 0 0, .string (⟨#[]⟩ : ByteArray)]) ?_ 0 _ rfl; (with_reducible repeat (first | refine blk_drewN ?_ _ | refine blk_drew ?_ | refine blk_alloc ?_ _)); exact BK176.out) hb); have n1_ := Aside0.mk (below_step (by repeat (first | (with_reducible first | exact HB.out | apply below_alloc | apply pw_below_drewN | apply below_drew1 | refine below_set ?_ GE176.out) | exact HB.out)) hb); have n2_ := Aside0.mk (hbox); have n3_ := Aside0.mk ((by rw [hg]; exact (below_size (by repeat (first | (with_reducible first | exact HB.out | apply below_alloc | apply pw_below_drewN | apply below_drew1 | refine below_set ?_ GE176.out) | exact HB.out))) : w.heap.size ≤ gb178)); have n4_ := Aside0.mk ((by rw [hg]; exact (below_size (by repeat (first | (with_reducible first | exact HB.out | apply below_alloc | apply pw_below_drewN | apply below_drew1 | refine below_set ?_ GE176.out) | exact HB.out))) : w.heap.size ≤ gb178)); have n5_ := Aside0.mk ((by rw [hg]; exact Nat.ne_of_lt (blk_lt (g := gb176) (o := .cells #[.string ((rd_T28 l0 x17_1).f0), .slice A175_1 ((rd_T28 l0 x17_1).f1).length c175_1, .slice A175_2 ((rd_T28 l0 x17_1).f2).length c175_2, .string ((rd_T28 l0 x17_1).f3)] 28 (0, 0)) (by (with_reducible repeat (first | refine blk_drewN ?_ _ | refine blk_drew ?_ | refine blk_alloc ?_ _)); refine blk_put (cs := #[.string ((rd_T28 l0 x17_1).f0), .slice A175_1 ((rd_T28 l0 x17_1).f1).length c175_1, .slice A175_2 ((rd_T28 l0 x17_1).f2).length c175_2, .string (⟨#[]⟩ : ByteArray)]) ?_ 3 _ rfl; (with_reducible repeat (first | refine blk_drewN ?_ _ | refine blk_drew ?_ | refine blk_alloc ?_ _)); refine blk_put (cs := #[.string ((rd_T28 l0 x17_1).f0), .slice A175_1 ((rd_T28 l0 x17_1).f1).length c175_1, .slice none 0 0, .string (⟨#[]⟩ : ByteArray)]) ?_ 2 _ rfl; (with_reducible repeat (first | refine blk_drewN ?_ _ | refine blk_drew ?_ | refine blk_alloc ?_ _)); refine blk_put (cs := #[.string ((rd_T28 l0 x17_1).f0), .slice none 0 0, .slice none 0 0, .string (⟨#[]⟩ : ByteArray)]) ?_ 1 _ rfl; (with_reducible repeat (first | refine blk_drewN ?_ _ | refine blk_drew ?_ | refine blk_alloc ?_ _)); refine blk_put (cs := #[.string (⟨#[]⟩ : ByteArray), .slice none 0 0, .slice none 0 0, .string (⟨#[]⟩ : ByteArray)]) ?_ 0 _ rfl; (with_reducible repeat (first | refine blk_drewN ?_ _ | refine blk_drew ?_ | refine blk_alloc ?_ _)); exact BK176.out)) : gb176 ≠ gb178)); have n6_ := Aside0.mk ((by rw [hg]; exact Nat.ne_of_gt (blk_lt (g := gb176) (o := .cells #[.string ((rd_T28 l0 x17_1).f0), .slice A175_1 ((rd_T28 l0 x17_1).f1).length c175_1, .slice A175_2 ((rd_T28 l0 x17_1).f2).length c175_2, .string ((rd_T28 l0 x17_1).f3)] 28 (0, 0)) (by (with_reducible repeat (first | refine blk_drewN ?_ _ | refine blk_drew ?_ | refine blk_alloc ?_ _)); refine blk_put (cs := #[.string ((rd_T28 l0 x17_1).f0), .slice A175_1 ((rd_T28 l0 x17_1).f1).length c175_1, .slice A175_2 ((rd_T28 l0 x17_1).f2).length c175_2, .string (⟨#[]⟩ : ByteArray)]) ?_ 3 _ rfl; (with_reducible repeat (first | refine blk_drewN ?_ _ | refine blk_drew ?_ | refine blk_alloc ?_ _)); refine blk_put (cs := #[.string ((rd_T28 l0 x17_1).f0), .slice A175_1 ((rd_T28 l0 x17_1).f1).length c175_1, .slice none 0 0, .string (⟨#[]⟩ : ByteArray)]) ?_ 2 _ rfl; (with_reducible repeat (first | refine blk_drewN ?_ _ | refine blk_drew ?_ | refine blk_alloc ?_ _)); refine blk_put (cs := #[.string ((rd_T28 l0 x17_1).f0), .slice none 0 0, .slice none 0 0, .string (⟨#[]⟩ : ByteArray)]) ?_ 1 _ rfl; (with_reducible repeat (first | refine blk_drewN ?_ _ | refine blk_drew ?_ | refine blk_alloc ?_ _)); refine blk_put (cs := #[.string (⟨#[]⟩ : ByteArray), .slice none 0 0, .slice none 0 0, .string (⟨#[]⟩ : ByteArray)]) ?_ 0 _ rfl; (with_reducible repeat (first | refine blk_drewN ?_ _ | refine blk_drew ?_ | refine blk_alloc ?_ _)); exact BK176.out)) : gb178 ≠ gb176)); clear BK176; clear HB; have BK176 := n0_; have HB := n1_; have BK178 := n2_; have GW178 := n3_; have GE178 := n4_; have NB176_178 := n5_; have NB178_176 := n6_; clear n0_ n1_ n2_ n3_ n4_ n5_ n6_; clear hb hbox hg; have hnb21 := NB178_176.out; have hnc21 := NB176_178.out; have hcz22_0 : w20.cell? ⟨gb178, 0, none⟩ = some (.string (⟨#[]⟩ : ByteArray)) := (blk_cell BK178.out 0).trans rfl; have hcz22_1 : w20.cell? ⟨gb178, 1, none⟩ = some (.slice none 0 0) := (blk_cell BK178.out 1).trans rfl; have hcz22_2 : w20.cell? ⟨gb178, 2, none⟩ = some (.slice none 0 0) := (blk_cell BK178.out 2).trans rfl; have hcz22_3 : w20.cell? ⟨gb178, 3, none⟩ = some (.string (⟨#[]⟩ : ByteArray)) := (blk_cell BK178.out 3).trans rfl; have hfz22_0 := blk_frozen BK178.out 0; have hfz22_1 := blk_frozen BK178.out 1; have hfz22_2 := blk_frozen BK178.out 2; have hfz22_3 := blk_frozen BK178.out 3; have hcz23_0 : w20.cell? ⟨gb176, 0, none⟩ = some (.string ((rd_T28 l0 x17_1).f0)) := (blk_cell BK176.out 0).trans rfl; have hcz23_1 : w20.cell? ⟨gb176, 1, none⟩ = some (.slice A175_1 ((rd_T28 l0 x17_1).f1).length c175_1) := (blk_cell BK176.out 1).trans rfl; have hcz23_2 : w20.cell? ⟨gb176, 2, none⟩ = some (.slice A175_2 ((rd_T28 l0 x17_1).f2).length c175_2) := (blk_cell BK176.out 2).trans rfl; have hcz23_3 : w20.cell? ⟨gb176, 3, none⟩ = some (.string ((rd_T28 l0 x17_1).f3)) := (blk_cell BK176.out 3).trans rfl; have hfz23_0 := blk_frozen BK176.out 0; have hfz23_1 := blk_frozen BK176.out 1; have hfz23_2 := blk_frozen BK176.out 2; have hfz23_3 := blk_frozen BK176.out 3) | (go_at_call 30; (with_reducible refine (printer_Equal_1.calls k1 ((rd_T28 l0 x17_1).f0) _ _ ((rd_T28 l0 x17_1).f1) _ _ ((rd_T28 l0 x17_1).f2) ((rd_T28 l0 x17_1).f3) ((rd_T28 l1 x17_1).f0) _ _ ((rd_T28 l1 x17_1).f1) _ _ ((rd_T28 l1 x17_1).f2) ((rd_T28 l1 x17_1).f3) false _ ?side1 ?side2 ?side3 ?side4 ?side5 ?side6 ?side7 ?side8 A9.out).mono ?_); (case side1 => exact Kd.C_below HR175_1.out (by repeat (first | (with_reducible first | exact HB.out | apply below_alloc | apply pw_below_drewN | apply below_drew1 | refine below_set ?_ GE176.out | refine below_set ?_ GE178.out) | exact HB.out))); (case side2 => exact HC175_1.out); (case side3 => exact Kd.C_below HR175_2.out (by repeat (first | (with_reducible first | exact HB.out | apply below_alloc | apply pw_below_drewN | apply below_drew1 | refine below_set ?_ GE176.out | refine below_set ?_ GE178.out) | exact HB.out))); (case side4 => exact HC175_2.out); (case side5 => exact Kd.C_below HR177_1.out (by repeat (first | (with_reducible first | exact HB.out | apply below_alloc | apply pw_below_drewN | apply below_drew1 | refine below_set ?_ GE176.out | refine below_set ?_ GE178.out) | exact HB.out))); (case side6 => exact HC177_1.out); (case side7 => exact Kd.C_below HR177_2.out (by repeat (first | (with_reducible first | exact HB.out | apply below_alloc | apply pw_below_drewN | apply below_drew1 | refine below_set ?_ GE176.out | refine below_set ?_ GE178.out) | exact HB.out))); (case side8 => exact HC177_2.out); rintro e w24 ⟨rfl, hb⟩; have n0_ := Aside0.mk (blk_below (g := gb176) (o := .cells #[.string ((rd_T28 l0 x17_1).f0), .slice A175_1 ((rd_T28 l0 x17_1).f1).length c175_1, .slice A175_2 ((rd_T28 l0 x17_1).f2).length c175_2, .string ((rd_T28 l0 x17_1).f3)] 28 (0, 0)) (by (with_reducible repeat (first | refine blk_drewN ?_ _ | refine blk_drew ?_ | refine blk_alloc ?_ _)); refine blk_far ?_ NB176_178.out _; (with_reducible repeat (first | refine blk_drewN ?_ _ | refine blk_drew ?_ | refine blk_alloc ?_ _)); refine blk_far ?_ NB176_178.out _; (with_reducible repeat (first | refine blk_drewN ?_ _ | refine blk_drew ?_ | refine blk_alloc ?_ _)); refine blk_far ?_ NB176_178.out _; (with_reducible repeat (first | refine blk_drewN ?_ _ | refine blk_drew ?_ | refine blk_alloc ?_ _)); refine blk_far ?_ NB176_178.out _; (with_reducible repeat (first | refine blk_drewN ?_ _ | refine blk_drew ?_ | refine blk_alloc ?_ _)); exact BK176.out) hb); have n1_ := Aside0.mk (blk_below (g := gb178) (o := .cells #[.string ((rd_T28 l1 x17_1).f0), .slice A177_1 ((rd_T28 l1 x17_1).f1).length c177_1, .slice A177_2 ((rd_T28 l1 x17_1).f2).length c177_2, .string ((rd_T28 l1 x17_1).f3)] 28 (0, 0)) (by (with_reducible repeat (first | refine blk_drewN ?_ _ | refine blk_drew ?_ | refine blk_alloc ?_ _)); refine blk_put (cs := #[.string ((rd_T28 l1 x17_1).f0), .slice A177_1 ((rd_T28 l1 x17_1).f1).length c177_1, .slice A177_2 ((rd_T28 l1 x17_1).f2).length c177_2, .string (⟨#[]⟩ : ByteArray)]) ?_ 3 _ rfl; (with_reducible repeat (first | refine blk_drewN ?_ _ | refine blk_drew ?_ | refine blk_alloc ?_ _)); refine blk_put (cs := #[.string ((rd_T28 l1 x17_1).f0), .slice A177_1 ((rd_T28 l1 x17_1).f1).length c177_1, .slice none 0 0, .string (⟨#[]⟩ : ByteArray)]) ?_ 2 _ rfl; (with_reducible repeat (first | refine blk_drewN ?_ _ | refine blk_drew ?_ | refine blk_alloc ?_ _)); refine blk_put (cs := #[.string ((rd_T28 l1 x17_1).f0), .slice none 0 0, .slice none 0 0, .string (⟨#[]⟩ : ByteArray)]) ?_ 1 _ rfl; (with_reducible repeat (first | refine blk_drewN ?_ _ | refine blk_drew ?_ | refine blk_alloc ?_ _)); refine blk_put (cs := #[.string (⟨#[]⟩ : ByteArray), .slice none 0 0, .slice none 0 0, .string (⟨#[]⟩ : ByteArray)]) ?_ 0 _ rfl; (with_reducible repeat (first | refine blk_drewN ?_ _ | refine blk_drew ?_ | refine blk_alloc ?_ _)); exact BK178.out) hb); have n2_ := Aside0.mk (below_step (by repeat (first | (with_reducible first | exact HB.out | apply below_alloc | apply pw_below_drewN | apply below_drew1 | refine below_set ?_ GE176.out | refine below_set ?_ GE178.out) | exact HB.out)) hb); clear BK176; clear BK178; clear HB; have BK176 := n0_; have BK178 := n1_; have HB := n2_; clear n0_ n1_ n2_; (try clear hb); (try clear hb2); (try clear hk); (try clear hi)))
         go_ret
         exact ⟨by first | rfl | (simp [errW_none, errW_some] <;> rfl) | (simp [*, errW_none, errW_some] <;> rfl), by repeat (first | (with_reducible first | exact HB.out | apply below_alloc | apply pw_below_drewN | apply below_drew1 | refine below_set ?_ GE176.out | refine below_set ?_ GE178.out) | exact HB.out)⟩
       ·rw [if_neg c8] at H
        exact absurd H (by simp)
      ·rw [if_neg c7] at H
       exact absurd H (by simp)
     ·rw [if_neg c6] at H
      exact absurd H (by simp)
    ·rw [if_neg c5] at H
     have c5b0 : decide (x17_1 < (l0.length : Int)) = false := decide_eq_false c5
     clear c5
     obtain rfl := Option.some.inj H
     go_wp2
     go_ret
     exact ⟨by first | rfl | (simp [errW_none, errW_some] <;> rfl) | (simp [*, errW_none, errW_some] <;> rfl), by repeat (first | (with_reducible first | exact HB.out | apply below_alloc | apply pw_below_drewN | apply below_drew1) | exact HB.out)⟩
 ·rw [if_neg c4] at H
  have c4b0 : ((l0.length : Int) == (l1.length : Int)) = false := beq_eq_false_iff_ne.mpr c4
  have c4b1 : ((l0.length : Int) != (l1.length : Int)) = true := bne_iff_ne.mpr c4
  have c4b2 : (l0.length == l1.length) = false := by first | simpa using c4 | (simp at c4 ⊢; omega)
  obtain rfl := Option.some.inj H
  go_enter Tryd.func29, Tryd.ntmps29
  go_wp2
  go_ret
  exact ⟨by first | rfl | (simp [errW_none, errW_some] <;> rfl) | (simp [*, errW_none, errW_some] <;> rfl), by repeat (first | (with_reducible first | exact HB.out | apply below_alloc | apply pw_below_drewN | apply below_drew1) | exact HB.out)⟩

end Go.Proofs.YtdbjjbooalkkbaaDoor.P

-- Out of the translation's print, by a program. Lean checks it.
import Derived.Test.YthidobgadndclaaDoorPA0
import Derived.Test.YthidobgadndclaaDoorPA1
import Derived.Test.YthidobgadndclaaDoorPA2
import Derived.Test.YthidobgadndclaaDoorPA9
import Derived.Test.YthidobgadndclaaDoorXAddr
import Derived.Test.YthidobgadndclaaDoorXLaid
namespace Go.Proofs.YthidobgadndclaaDoor.P
open Go.RowKit Go.Proofs.YthidobgadndclaaDoorW.PrintWords Go.Proofs.YthidobgadndclaaDoorW.PrintLast Go.Proofs.YthidobgadndclaaDoorW.PrintMore
attribute [local go_sem] max2_int min2_int max_two min_two max_three min_three max_four min_four   -- for this text's walks alone
set_option linter.unusedVariables false
set_option linter.unusedSimpArgs false

attribute [local go_sem high] eqA45
/-! ### law01_AddrFormatIsInjective: function 13 -/
def law01_AddrFormatIsInjective.j0 : Nat → Bool → Int → Int → Int → Int → Option (Bool)
 | 0, _, _, _, _, _ => none
 | k + 1, x45, x202000, x202001, x203000, x203001 => if x45 = true then (some false) else ((law01_alive.f).bind fun t205 => (if t205 = true then ((addr_Compare.f k x202000 x202001 x203000 x203001).bind fun t206 => (if ((decide (t206 < 0)) == (decide ((wrap64 ((wrap64 (x202000 * 256)) + x202001)) < (wrap64 ((wrap64 (x203000 * 256)) + x203001))))) = true then ((addr_Compare.f k x202000 x202001 x203000 x203001).bind fun t207 => (some ((decide (t206 > 0)) == (decide ((wrap64 ((wrap64 (x202000 * 256)) + x202001)) > (wrap64 ((wrap64 (x203000 * 256)) + x203001))))))) else (some false))) else (some false)))
def law01_AddrFormatIsInjective.f (k : Nat) (a0 : Int) (a1 : Int) : Option (Bool) := (addr_Format.f (Int.tmod (wrap64 (Int.tdiv (wrap64 (a0)) 256)) 3) (Int.tmod (wrap64 (a0)) 256)).bind fun t203 => ((addr_Format.f (Int.tmod (wrap64 (Int.tdiv (wrap64 (a1)) 256)) 3) (Int.tmod (wrap64 (a1)) 256)).bind fun t204 => (if t203.toList = ([] : List UInt8) then (law01_AddrFormatIsInjective.j0 k true (Int.tmod (wrap64 (Int.tdiv (wrap64 (a0)) 256)) 3) (Int.tmod (wrap64 (a0)) 256) (Int.tmod (wrap64 (Int.tdiv (wrap64 (a1)) 256)) 3) (Int.tmod (wrap64 (a1)) 256)) else (if t204.toList = ([] : List UInt8) then (law01_AddrFormatIsInjective.j0 k true (Int.tmod (wrap64 (Int.tdiv (wrap64 (a0)) 256)) 3) (Int.tmod (wrap64 (a0)) 256) (Int.tmod (wrap64 (Int.tdiv (wrap64 (a1)) 256)) 3) (Int.tmod (wrap64 (a1)) 256)) else (law01_AddrFormatIsInjective.j0 k ((t203.toList == t204.toList) != ((Int.tmod (wrap64 (Int.tdiv (wrap64 (a0)) 256)) 3) == (Int.tmod (wrap64 (Int.tdiv (wrap64 (a1)) 256)) 3) && ((Int.tmod (wrap64 (a0)) 256) == (Int.tmod (wrap64 (a1)) 256)))) (Int.tmod (wrap64 (Int.tdiv (wrap64 (a0)) 256)) 3) (Int.tmod (wrap64 (a0)) 256) (Int.tmod (wrap64 (Int.tdiv (wrap64 (a1)) 256)) 3) (Int.tmod (wrap64 (a1)) 256)))))
theorem law01_AddrFormatIsInjective.mono_l : ∀ k, (∀ y0 y1 y2 y3 y4, LeO (law01_AddrFormatIsInjective.j0 k y0 y1 y2 y3 y4) (law01_AddrFormatIsInjective.j0 (k + 1) y0 y1 y2 y3 y4))
 | 0 => fun _ _ _ _ _ r h => by simp [law01_AddrFormatIsInjective.j0] at h
 | k + 1 => by
  have ih0 := law01_AddrFormatIsInjective.mono_l k
  ·intro y0 y1 y2 y3 y4
   unfold law01_AddrFormatIsInjective.j0
   repeat' first
   | (with_reducible exact ih0 _ _ _ _ _)
   | (with_reducible exact addr_Compare.mono _ _ _ _ _)
   | (with_reducible exact LeO.refl _)
   | (with_reducible exact LeO.none _)
   | (with_reducible refine LeO.ite ?_ ?_)
   | (with_reducible refine LeO.bind ?_ (fun _ => ?_))
   | exact ih0 _ _ _ _ _
   | exact addr_Compare.mono _ _ _ _ _
   | exact LeO.none _
   | refine LeO.ite ?_ ?_
   | refine LeO.bind ?_ (fun _ => ?_)
theorem law01_AddrFormatIsInjective.mono : ∀ a0 a1 k, LeO (law01_AddrFormatIsInjective.f k a0 a1) (law01_AddrFormatIsInjective.f (k + 1) a0 a1) := by
 intro a0 a1 k
 have ih0 := law01_AddrFormatIsInjective.mono_l k
 unfold law01_AddrFormatIsInjective.f
 repeat' first
   | (with_reducible exact ih0 _ _ _ _ _)
   | (with_reducible exact addr_Compare.mono _ _ _ _ _)
   | (with_reducible exact LeO.refl _)
   | (with_reducible exact LeO.none _)
   | (with_reducible refine LeO.ite ?_ ?_)
   | (with_reducible refine LeO.bind ?_ (fun _ => ?_))
   | exact ih0 _ _ _ _ _
   | exact addr_Compare.mono _ _ _ _ _
   | exact LeO.none _
   | refine LeO.ite ?_ ?_
   | refine LeO.bind ?_ (fun _ => ?_)
def law01_AddrFormatIsInjective.T6 : Bool × List (List Nat × List Nat) := (true, [([], []), ([0], [0]), ([1], [1]), ([], []), ([3], [3]), ([2, 4], [2, 4]), ([], []), ([6], [6]), ([7], [7]), ([], []), ([9], [9]), ([8, 10], [8, 10]), ([5, 0, 1, 2, 3, 4, 5], [5]), ([11, 12, 0, 1, 2, 3, 4, 5, 6, 7, 8, 9, 10, 11, 12], [11])])
def law01_AddrFormatIsInjective.B6 : List Nat := [0, 1, 3, 0, 8, 31, 0, 64, 192, 0, 512, 1984, 63, 8191]
theorem law01_AddrFormatIsInjective.tab6 : rtab .any (opsOf Tryd.f13 6) = law01_AddrFormatIsInjective.T6 := by kernel_rfl
theorem law01_AddrFormatIsInjective.bits6 : waitsOk law01_AddrFormatIsInjective.T6.2 law01_AddrFormatIsInjective.B6 = true := by kernel_rfl
set_option maxHeartbeats 8000000 in
set_option maxRecDepth 100000 in
theorem law01_AddrFormatIsInjective.calls (k : Nat) (a0 : Int) (a1 : Int) (r : Bool) (w : World) (hL : Aside0 (LaidW 22 w)) (h : law01_AddrFormatIsInjective.f k a0 a1 = some r) :
  Calls Tryd.prog 13 #[.int .u16 a0, .int .u16 a1] w fun e w' => e = .returned (.bool r) ∧ Below w.heap.size w w' := by
 have hu45 := Tryd.underlying45
 have HB := Aside0.mk (Below.refl w.heap.size w)
 have H : ((addr_Format.f (Int.tmod (wrap64 (Int.tdiv (wrap64 (a0)) 256)) 3) (Int.tmod (wrap64 (a0)) 256)).bind fun t203 => ((addr_Format.f (Int.tmod (wrap64 (Int.tdiv (wrap64 (a1)) 256)) 3) (Int.tmod (wrap64 (a1)) 256)).bind fun t204 => (if t203.toList = ([] : List UInt8) then (law01_AddrFormatIsInjective.j0 k true (Int.tmod (wrap64 (Int.tdiv (wrap64 (a0)) 256)) 3) (Int.tmod (wrap64 (a0)) 256) (Int.tmod (wrap64 (Int.tdiv (wrap64 (a1)) 256)) 3) (Int.tmod (wrap64 (a1)) 256)) else (if t204.toList = ([] : List UInt8) then (law01_AddrFormatIsInjective.j0 k true (Int.tmod (wrap64 (Int.tdiv (wrap64 (a0)) 256)) 3) (Int.tmod (wrap64 (a0)) 256) (Int.tmod (wrap64 (Int.tdiv (wrap64 (a1)) 256)) 3) (Int.tmod (wrap64 (a1)) 256)) else (law01_AddrFormatIsInjective.j0 k ((t203.toList == t204.toList) != ((Int.tmod (wrap64 (Int.tdiv (wrap64 (a0)) 256)) 3) == (Int.tmod (wrap64 (Int.tdiv (wrap64 (a1)) 256)) 3) && ((Int.tmod (wrap64 (a0)) 256) == (Int.tmod (wrap64 (a1)) 256)))) (Int.tmod (wrap64 (Int.tdiv (wrap64 (a0)) 256)) 3) (Int.tmod (wrap64 (a0)) 256) (Int.tmod (wrap64 (Int.tdiv (wrap64 (a1)) 256)) 3) (Int.tmod (wrap64 (a1)) 256)))))) = some r := h
 clear h
 replace H := Option.bind_eq_some_iff.mp H
 obtain ⟨t203, A30, H⟩ := H
 replace H : ((addr_Format.f (Int.tmod (wrap64 (Int.tdiv (wrap64 (a1)) 256)) 3) (Int.tmod (wrap64 (a1)) 256)).bind fun t204 => (if t203.toList = ([] : List UInt8) then (law01_AddrFormatIsInjective.j0 k true (Int.tmod (wrap64 (Int.tdiv (wrap64 (a0)) 256)) 3) (Int.tmod (wrap64 (a0)) 256) (Int.tmod (wrap64 (Int.tdiv (wrap64 (a1)) 256)) 3) (Int.tmod (wrap64 (a1)) 256)) else (if t204.toList = ([] : List UInt8) then (law01_AddrFormatIsInjective.j0 k true (Int.tmod (wrap64 (Int.tdiv (wrap64 (a0)) 256)) 3) (Int.tmod (wrap64 (a0)) 256) (Int.tmod (wrap64 (Int.tdiv (wrap64 (a1)) 256)) 3) (Int.tmod (wrap64 (a1)) 256)) else (law01_AddrFormatIsInjective.j0 k ((t203.toList == t204.toList) != ((Int.tmod (wrap64 (Int.tdiv (wrap64 (a0)) 256)) 3) == (Int.tmod (wrap64 (Int.tdiv (wrap64 (a1)) 256)) 3) && ((Int.tmod (wrap64 (a0)) 256) == (Int.tmod (wrap64 (a1)) 256)))) (Int.tmod (wrap64 (Int.tdiv (wrap64 (a0)) 256)) 3) (Int.tmod (wrap64 (a0)) 256) (Int.tmod (wrap64 (Int.tdiv (wrap64 (a1)) 256)) 3) (Int.tmod (wrap64 (a1)) 256))))) = some r := H
 have A3 := Aside0.mk A30
 clear A30
 replace H := Option.bind_eq_some_iff.mp H
 obtain ⟨t204, A40, H⟩ := H
 replace H : (if t203.toList = ([] : List UInt8) then (law01_AddrFormatIsInjective.j0 k true (Int.tmod (wrap64 (Int.tdiv (wrap64 (a0)) 256)) 3) (Int.tmod (wrap64 (a0)) 256) (Int.tmod (wrap64 (Int.tdiv (wrap64 (a1)) 256)) 3) (Int.tmod (wrap64 (a1)) 256)) else (if t204.toList = ([] : List UInt8) then (law01_AddrFormatIsInjective.j0 k true (Int.tmod (wrap64 (Int.tdiv (wrap64 (a0)) 256)) 3) (Int.tmod (wrap64 (a0)) 256) (Int.tmod (wrap64 (Int.tdiv (wrap64 (a1)) 256)) 3) (Int.tmod (wrap64 (a1)) 256)) else (law01_AddrFormatIsInjective.j0 k ((t203.toList == t204.toList) != ((Int.tmod (wrap64 (Int.tdiv (wrap64 (a0)) 256)) 3) == (Int.tmod (wrap64 (Int.tdiv (wrap64 (a1)) 256)) 3) && ((Int.tmod (wrap64 (a0)) 256) == (Int.tmod (wrap64 (a1)) 256)))) (Int.tmod (wrap64 (Int.tdiv (wrap64 (a0)) 256)) 3) (Int.tmod (wrap64 (a0)) 256) (Int.tmod (wrap64 (Int.tdiv (wrap64 (a1)) 256)) 3) (Int.tmod (wrap64 (a1)) 256)))) = some r := H
 have A4 := Aside0.mk A40
 clear A40
 have HC5 := Aside0.mk H
 clear H
 go_enter Tryd.func13, Tryd.ntmps13
 try go_wp2_with (first | ((with_reducible refine gate_dst (N := 5) rfl ?_); refine box_event ?hg (N := 5) ?hd (cs := #[.int .i64 0, .int .i64 0]) (t := 45) ?hr ?_; (case hd => rfl); (case hg => rfl); (case hr => first | (go_simp; done) | (go_simp; rfl)); intro gb201 hg w6 hbox hb; have n0_ := Aside0.mk (below_step (by repeat (first | (with_reducible first | exact HB.out | apply below_alloc | apply pw_below_drewN | apply below_drew1) | exact HB.out)) hb); have n1_ := Aside0.mk (hbox); have n2_ := Aside0.mk ((by rw [hg]; exact (below_size (by repeat (first | (with_reducible first | exact HB.out | apply below_alloc | apply pw_below_drewN | apply below_drew1) | exact HB.out))) : w.heap.size ≤ gb201)); have n3_ := Aside0.mk ((by rw [hg]; exact (below_size (by repeat (first | (with_reducible first | exact HB.out | apply below_alloc | apply pw_below_drewN | apply below_drew1) | exact HB.out))) : w.heap.size ≤ gb201)); clear HB; have HB := n0_; have BK201 := n1_; have GW201 := n2_; have GE201 := n3_; clear n0_ n1_ n2_ n3_; clear hb hbox hg; have hcz7_0 : w6.cell? ⟨gb201, 0, none⟩ = some (.int .i64 0) := (blk_cell BK201.out 0).trans rfl; have hcz7_1 : w6.cell? ⟨gb201, 1, none⟩ = some (.int .i64 0) := (blk_cell BK201.out 1).trans rfl; have hfz7_0 := blk_frozen BK201.out 0; have hfz7_1 := blk_frozen BK201.out 1) | ((with_reducible refine gate_dst (N := 6) rfl ?_); refine box_event ?hg (N := 6) ?hd (cs := #[.int .i64 0, .int .i64 0]) (t := 45) ?hr ?_; (case hd => rfl); (case hg => rfl); (case hr => first | (go_simp; done) | (go_simp; rfl)); intro gb202 hg w8 hbox hb; have n0_ := Aside0.mk (blk_below (g := gb201) (o := .cells #[.int .i64 (Int.tmod (wrap64 (Int.tdiv (wrap64 (a0)) 256)) 3), .int .i64 (Int.tmod (wrap64 (a0)) 256)] 45 (0, 0)) (by (with_reducible repeat (first | refine blk_drewN ?_ _ | refine blk_drew ?_ | refine blk_alloc ?_ _)); refine blk_put (cs := #[.int .i64 (Int.tmod (wrap64 (Int.tdiv (wrap64 (a0)) 256)) 3), .int .i64 0]) ?_ 1 _ rfl; (with_reducible repeat (first | refine blk_drewN ?_ _ | refine blk_drew ?_ | refine blk_alloc ?_ _)); refine blk_put (cs := #[.int .i64 0, .int .i64 0]) ?_ 0 _ rfl; (with_reducible repeat (first | refine blk_drewN ?_ _ | refine blk_drew ?_ | refine blk_alloc ?_ _)); exact BK201.out) hb); have n1_ := Aside0.mk (below_step (by repeat (first | (with_reducible first | exact HB.out | apply below_alloc | apply pw_below_drewN | apply below_drew1 | refine below_set ?_ GE201.out) | exact HB.out)) hb); have n2_ := Aside0.mk (hbox); have n3_ := Aside0.mk ((by rw [hg]; exact (below_size (by repeat (first | (with_reducible first | exact HB.out | apply below_alloc | apply pw_below_drewN | apply below_drew1 | refine below_set ?_ GE201.out) | exact HB.out))) : w.heap.size ≤ gb202)); have n4_ := Aside0.mk ((by rw [hg]; exact (below_size (by repeat (first | (with_reducible first | exact HB.out | apply below_alloc | apply pw_below_drewN | apply below_drew1 | refine below_set ?_ GE201.out) | exact HB.out))) : w.heap.size ≤ gb202)); have n5_ := Aside0.mk ((by rw [hg]; exact Nat.ne_of_lt (blk_lt (g := gb201) (o := .cells #[.int .i64 (Int.tmod (wrap64 (Int.tdiv (wrap64 (a0)) 256)) 3), .int .i64 (Int.tmod (wrap64 (a0)) 256)] 45 (0, 0)) (by (with_reducible repeat (first | refine blk_drewN ?_ _ | refine blk_drew ?_ | refine blk_alloc ?_ _)); refine blk_put (cs := #[.int .i64 (Int.tmod (wrap64 (Int.tdiv (wrap64 (a0)) 256)) 3), .int .i64 0]) ?_ 1 _ rfl; (with_reducible repeat (first | refine blk_drewN ?_ _ | refine blk_drew ?_ | refine blk_alloc ?_ _)); refine blk_put (cs := #[.int .i64 0, .int .i64 0]) ?_ 0 _ rfl; (with_reducible repeat (first | refine blk_drewN ?_ _ | refine blk_drew ?_ | refine blk_alloc ?_ _)); exact BK201.out)) : gb201 ≠ gb202)); have n6_ := Aside0.mk ((by rw [hg]; exact Nat.ne_of_gt (blk_lt (g := gb201) (o := .cells #[.int .i64 (Int.tmod (wrap64 (Int.tdiv (wrap64 (a0)) 256)) 3), .int .i64 (Int.tmod (wrap64 (a0)) 256)] 45 (0, 0)) (by (with_reducible repeat (first | refine blk_drewN ?_ _ | refine blk_drew ?_ | refine blk_alloc ?_ _)); refine blk_put (cs := #[.int .i64 (Int.tmod (wrap64 (Int.tdiv (wrap64 (a0)) 256)) 3), .int .i64 0]) ?_ 1 _ rfl; (with_reducible repeat (first | refine blk_drewN ?_ _ | refine blk_drew ?_ | refine blk_alloc ?_ _)); refine blk_put (cs := #[.int .i64 0, .int .i64 0]) ?_ 0 _ rfl; (with_reducible repeat (first | refine blk_drewN ?_ _ | refine blk_drew ?_ | refine blk_alloc ?_ _)); exact BK201.out)) : gb202 ≠ gb201)); clear BK201; clear HB; have BK201 := n0_; have HB := n1_; have BK202 := n2_; have GW202 := n3_; have GE202 := n4_; have NB201_202 := n5_; have NB202_201 := n6_; clear n0_ n1_ n2_ n3_ n4_ n5_ n6_; clear hb hbox hg; have hnb9 := NB202_201.out; have hnc9 := NB201_202.out; have hcz10_0 : w8.cell? ⟨gb202, 0, none⟩ = some (.int .i64 0) := (blk_cell BK202.out 0).trans rfl; have hcz10_1 : w8.cell? ⟨gb202, 1, none⟩ = some (.int .i64 0) := (blk_cell BK202.out 1).trans rfl; have hfz10_0 := blk_frozen BK202.out 0; have hfz10_1 := blk_frozen BK202.out 1))
 have n0_ : Aside0 (((w8.setCell ⟨gb202, 0, none⟩ (.int .i64 (Int.tmod (wrap64 (Int.tdiv (wrap64 (a1)) 256)) 3))).setCell ⟨gb202, 1, none⟩ (.int .i64 (Int.tmod (wrap64 (a1)) 256))).heap[gb201]? = some (.cells #[.int .i64 (Int.tmod (wrap64 (Int.tdiv (wrap64 (a0)) 256)) 3), .int .i64 (Int.tmod (wrap64 (a0)) 256)] 45 (0, 0))) := ⟨by (with_reducible repeat (first | refine blk_drewN ?_ _ | refine blk_drew ?_ | refine blk_alloc ?_ _)); refine blk_far ?_ NB201_202.out _; (with_reducible repeat (first | refine blk_drewN ?_ _ | refine blk_drew ?_ | refine blk_alloc ?_ _)); refine blk_far ?_ NB201_202.out _; (with_reducible repeat (first | refine blk_drewN ?_ _ | refine blk_drew ?_ | refine blk_alloc ?_ _)); exact BK201.out⟩
 have n1_ : Aside0 (((w8.setCell ⟨gb202, 0, none⟩ (.int .i64 (Int.tmod (wrap64 (Int.tdiv (wrap64 (a1)) 256)) 3))).setCell ⟨gb202, 1, none⟩ (.int .i64 (Int.tmod (wrap64 (a1)) 256))).heap[gb202]? = some (.cells #[.int .i64 (Int.tmod (wrap64 (Int.tdiv (wrap64 (a1)) 256)) 3), .int .i64 (Int.tmod (wrap64 (a1)) 256)] 45 (0, 0))) := ⟨by (with_reducible repeat (first | refine blk_drewN ?_ _ | refine blk_drew ?_ | refine blk_alloc ?_ _)); refine blk_put (cs := #[.int .i64 (Int.tmod (wrap64 (Int.tdiv (wrap64 (a1)) 256)) 3), .int .i64 0]) ?_ 1 _ rfl; (with_reducible repeat (first | refine blk_drewN ?_ _ | refine blk_drew ?_ | refine blk_alloc ?_ _)); refine blk_put (cs := #[.int .i64 0, .int .i64 0]) ?_ 0 _ rfl; (with_reducible repeat (first | refine blk_drewN ?_ _ | refine blk_drew ?_ | refine blk_alloc ?_ _)); exact BK202.out⟩
 have n2_ : Aside0 (Below w.heap.size w ((w8.setCell ⟨gb202, 0, none⟩ (.int .i64 (Int.tmod (wrap64 (Int.tdiv (wrap64 (a1)) 256)) 3))).setCell ⟨gb202, 1, none⟩ (.int .i64 (Int.tmod (wrap64 (a1)) 256)))) := ⟨by repeat (first | (with_reducible first | exact HB.out | apply below_alloc | apply pw_below_drewN | apply below_drew1 | refine below_set ?_ GE201.out | refine below_set ?_ GE202.out) | exact HB.out)⟩
 (try clear BK201)
 (try clear BK202)
 (try clear HB)
 generalize ((w8.setCell ⟨gb202, 0, none⟩ (.int .i64 (Int.tmod (wrap64 (Int.tdiv (wrap64 (a1)) 256)) 3))).setCell ⟨gb202, 1, none⟩ (.int .i64 (Int.tmod (wrap64 (a1)) 256))) = w11 at n0_ n1_ n2_ ⊢
 have BK201 := n0_
 have BK202 := n1_
 have HB := n2_
 clear n0_ n1_ n2_
 have n0_ := Aside0.mk (blk_drew BK201.out)
 have n1_ := Aside0.mk (blk_drew BK202.out)
 have n2_ := Aside0.mk (below_drew1 HB.out)
 clear BK201
 clear BK202
 clear HB
 have BK201 := n0_
 have BK202 := n1_
 have HB := n2_
 clear n0_ n1_ n2_
 refine start_ (n := 6) (S := fun w' => w'.cell? ⟨gb201, 0, none⟩ = some (.int .i64 (Int.tmod (wrap64 (Int.tdiv (wrap64 (a0)) 256)) 3)) ∧ w'.cell? ⟨gb201, 1, none⟩ = some (.int .i64 (Int.tmod (wrap64 (a0)) 256)) ∧ w'.cell? ⟨gb202, 0, none⟩ = some (.int .i64 (Int.tmod (wrap64 (Int.tdiv (wrap64 (a1)) 256)) 3)) ∧ w'.cell? ⟨gb202, 1, none⟩ = some (.int .i64 (Int.tmod (wrap64 (a1)) 256))) (ds := []) #[false, false, false, false, false, false] (by kernel_rfl) rfl rfl ⟨(blk_cell BK201.out 0).trans rfl, (blk_cell BK201.out 1).trans rfl, (blk_cell BK202.out 0).trans rfl, (blk_cell BK202.out 1).trans rfl⟩ (fun hHeld => ?_)
 generalize w11.drew = w12 at BK201 BK202 HB hHeld ⊢
 refine take_ (i := 0) (N := some 27) (v := ?_) (a' := ?_) #[true, false, false, false, false, false] rfl rfl (by kernel_rfl) (fun _ _ _ h => h) (Or.inl ⟨by rfl, ?_⟩) hHeld ?_ ?_
 rotate_left
 ·rintro w' ⟨s0, s1, s2, s3⟩
  go_simp
  with_reducible rfl
 rotate_left
 ·simp only [Act.put, List.setIfInBounds_toArray, List.set_cons_zero, List.set_cons_succ, i64_w, i32_w]
  rfl
 refine take_ (i := 2) (N := some 29) (v := ?_) (a' := ?_) #[true, false, true, false, false, false] rfl rfl (by kernel_rfl) (fun _ _ _ h => h) (Or.inl ⟨by rfl, ?_⟩) hHeld ?_ ?_
 rotate_left
 ·rintro w' ⟨s0, s1, s2, s3⟩
  go_simp
  with_reducible rfl
 rotate_left
 ·simp only [Act.put, List.setIfInBounds_toArray, List.set_cons_zero, List.set_cons_succ, i64_w, i32_w]
  rfl
 refine one_ (i := 1) (N := some 28) #[true, true, true, false, false, false] rfl rfl (by kernel_rfl) (by decide) (fun K hK => ?_)
 refine goes_ Tryd.func28 (by kernel_rfl) rfl #[.agg #[.int .i64 (Int.tmod (wrap64 (Int.tdiv (wrap64 (a0)) 256)) 3), .int .i64 (Int.tmod (wrap64 (a0)) 256)]] (by rfl) rfl rfl (by (try simp only [List.map_toArray, List.map_cons, List.map_nil]); first | done | rfl | (simp only [List.length_drop, List.length_take]; rfl)) ?_
 with_reducible refine (addr_Format.calls (Int.tmod (wrap64 (Int.tdiv (wrap64 (a0)) 256)) 3) (Int.tmod (wrap64 (a0)) 256) t203 _ (LaidW.below (m' := 18) hL rfl (by repeat (first | (with_reducible first | exact HB.out | apply below_alloc | apply pw_below_drewN | apply below_drew1 | refine below_set ?_ GE201.out | refine below_set ?_ GE202.out) | exact HB.out))) A3.out).mono ?_
 rintro e w13 ⟨rfl, hb⟩
 refine ⟨_, rfl, ?_⟩
 have n0_ := Aside0.mk (blk_below (g := gb201) (o := .cells #[.int .i64 (Int.tmod (wrap64 (Int.tdiv (wrap64 (a0)) 256)) 3), .int .i64 (Int.tmod (wrap64 (a0)) 256)] 45 (0, 0)) (by (with_reducible repeat (first | refine blk_drewN ?_ _ | refine blk_drew ?_ | refine blk_alloc ?_ _)); exact BK201.out) hb)
 have n1_ := Aside0.mk (blk_below (g := gb202) (o := .cells #[.int .i64 (Int.tmod (wrap64 (Int.tdiv (wrap64 (a1)) 256)) 3), .int .i64 (Int.tmod (wrap64 (a1)) 256)] 45 (0, 0)) (by (with_reducible repeat (first | refine blk_drewN ?_ _ | refine blk_drew ?_ | refine blk_alloc ?_ _)); exact BK202.out) hb)
 have n2_ := Aside0.mk (below_step (by repeat (first | (with_reducible first | exact HB.out | apply below_alloc | apply pw_below_drewN | apply below_drew1 | refine below_set ?_ GE201.out | refine below_set ?_ GE202.out) | exact HB.out)) hb)
 clear BK201
 clear BK202
 clear HB
 have BK201 := n0_
 have BK202 := n1_
 have HB := n2_
 clear n0_ n1_ n2_
 (try clear hb)
 (try clear hb2)
 (try clear hk)
 (try clear hi)
 refine hK.out _ _ ⟨(blk_cell BK201.out 0).trans rfl, (blk_cell BK201.out 1).trans rfl, (blk_cell BK202.out 0).trans rfl, (blk_cell BK202.out 1).trans rfl⟩ (fun hHeld => ?_)
 clear hK K
 refine norm_ (a' := ?_) ?_ ?_
 rotate_left
 ·show Act.put _ (some 28) _ = _
  simp only [Act.put, List.setIfInBounds_toArray, List.set_cons_zero, List.set_cons_succ, i64_w, i32_w]
  rfl
 refine one_ (i := 3) (N := some 30) #[true, true, true, true, false, false] rfl rfl (by kernel_rfl) (by decide) (fun K hK => ?_)
 refine goes_ Tryd.func28 (by kernel_rfl) rfl #[.agg #[.int .i64 (Int.tmod (wrap64 (Int.tdiv (wrap64 (a1)) 256)) 3), .int .i64 (Int.tmod (wrap64 (a1)) 256)]] (by rfl) rfl rfl (by (try simp only [List.map_toArray, List.map_cons, List.map_nil]); first | done | rfl | (simp only [List.length_drop, List.length_take]; rfl)) ?_
 with_reducible refine (addr_Format.calls (Int.tmod (wrap64 (Int.tdiv (wrap64 (a1)) 256)) 3) (Int.tmod (wrap64 (a1)) 256) t204 _ (LaidW.below (m' := 18) hL rfl (by repeat (first | (with_reducible first | exact HB.out | apply below_alloc | apply pw_below_drewN | apply below_drew1 | refine below_set ?_ GE201.out | refine below_set ?_ GE202.out) | exact HB.out))) A4.out).mono ?_
 rintro e w14 ⟨rfl, hb⟩
 refine ⟨_, rfl, ?_⟩
 have n0_ := Aside0.mk (blk_below (g := gb201) (o := .cells #[.int .i64 (Int.tmod (wrap64 (Int.tdiv (wrap64 (a0)) 256)) 3), .int .i64 (Int.tmod (wrap64 (a0)) 256)] 45 (0, 0)) (by (with_reducible repeat (first | refine blk_drewN ?_ _ | refine blk_drew ?_ | refine blk_alloc ?_ _)); exact BK201.out) hb)
 have n1_ := Aside0.mk (blk_below (g := gb202) (o := .cells #[.int .i64 (Int.tmod (wrap64 (Int.tdiv (wrap64 (a1)) 256)) 3), .int .i64 (Int.tmod (wrap64 (a1)) 256)] 45 (0, 0)) (by (with_reducible repeat (first | refine blk_drewN ?_ _ | refine blk_drew ?_ | refine blk_alloc ?_ _)); exact BK202.out) hb)
 have n2_ := Aside0.mk (below_step (by repeat (first | (with_reducible first | exact HB.out | apply below_alloc | apply pw_below_drewN | apply below_drew1 | refine below_set ?_ GE201.out | refine below_set ?_ GE202.out) | exact HB.out)) hb)
 clear BK201
 clear BK202
 clear HB
 have BK201 := n0_
 have BK202 := n1_
 have HB := n2_
 clear n0_ n1_ n2_
 (try clear hb)
 (try clear hb2)
 (try clear hk)
 (try clear hi)
 refine hK.out _ _ ⟨(blk_cell BK201.out 0).trans rfl, (blk_cell BK201.out 1).trans rfl, (blk_cell BK202.out 0).trans rfl, (blk_cell BK202.out 1).trans rfl⟩ (fun hHeld => ?_)
 clear hK K
 refine norm_ (a' := ?_) ?_ ?_
 rotate_left
 ·show Act.put _ (some 30) _ = _
  simp only [Act.put, List.setIfInBounds_toArray, List.set_cons_zero, List.set_cons_succ, i64_w, i32_w]
  rfl
 refine pure_ (i := 4) (N := some 7) (v := ?_) (a' := ?_) #[true, true, true, true, true, false] rfl rfl (by kernel_rfl) (fun _ _ _ h => h) (Or.inl ⟨by rfl, ?_⟩) ?_ ?_
 rotate_left
 ·intro w'
  go_simp
  with_reducible rfl
 rotate_left
 ·simp only [Act.put, List.setIfInBounds_toArray, List.set_cons_zero, List.set_cons_succ, i64_w, i32_w]
  rfl
 refine pure_ (i := 5) (N := some 8) (v := ?_) (a' := ?_) #[true, true, true, true, true, true] rfl rfl (by kernel_rfl) (fun _ _ _ h => h) (Or.inl ⟨by rfl, ?_⟩) ?_ ?_
 rotate_left
 ·intro w'
  go_simp
  with_reducible rfl
 rotate_left
 ·simp only [Act.put, List.setIfInBounds_toArray, List.set_cons_zero, List.set_cons_succ, i64_w, i32_w]
  rfl
 refine done_ (by kernel_rfl) ?_
 go_upto_region 4 with (fail)
 go_cut [45] (fun v45 wc => ∃ (kq : Nat) (x45_4 : Bool), v45 = .bool x45_4 ∧ Aside0 (law01_AddrFormatIsInjective.j0 kq x45_4 (Int.tmod (wrap64 (Int.tdiv (wrap64 (a0)) 256)) 3) (Int.tmod (wrap64 (a0)) 256) (Int.tmod (wrap64 (Int.tdiv (wrap64 (a1)) 256)) 3) (Int.tmod (wrap64 (a1)) 256) = some r) ∧ Aside0 (kq ≤ k) ∧ Aside0 (wc.heap[gb201]? = some (.cells #[.int .i64 (Int.tmod (wrap64 (Int.tdiv (wrap64 (a0)) 256)) 3), .int .i64 (Int.tmod (wrap64 (a0)) 256)] 45 (0, 0))) ∧ Aside0 (wc.heap[gb202]? = some (.cells #[.int .i64 (Int.tmod (wrap64 (Int.tdiv (wrap64 (a1)) 256)) 3), .int .i64 (Int.tmod (wrap64 (a1)) 256)] 45 (0, 0))) ∧ Aside0 (Below w.heap.size w wc))
 case first =>
  have H := HC5.out
  clear HC5
  by_cases c15 : t203.toList = ([] : List UInt8)
  ·rw [if_pos c15] at H
   have c15b0 : (t203.toList == ([] : List UInt8)) = true := beq_iff_eq.mpr c15
   have c15b1 : (t203.toList != ([] : List UInt8)) = false := bne_eq_false_iff_eq.mpr c15
   (try (have c15b2 : t203.toList.isEmpty = true := List.isEmpty_iff.mpr c15))
   (try (have c15b3 : (!t203.toList.isEmpty) = false := by rw [List.isEmpty_iff.mpr c15]; rfl))
   clear c15
   (first | rw [c15b0] | (simp only [i64_w, i32_w]; rw [c15b0]) | rw [c15b3] | rw [c15b2] | skip)
   have H' := Aside0.mk H
   clear H
   go_wp2
   go_meet
   case rel => exact ⟨_, (true), (by first | rfl | (simp; done) | (simp [*]; done)), H', ⟨by first | omega | exact Nat.le_refl _⟩, ⟨by (with_reducible repeat (first | refine blk_drewN ?_ _ | refine blk_drew ?_ | refine blk_alloc ?_ _)); exact BK201.out⟩, ⟨by (with_reducible repeat (first | refine blk_drewN ?_ _ | refine blk_drew ?_ | refine blk_alloc ?_ _)); exact BK202.out⟩, ⟨by repeat (first | (with_reducible first | exact HB.out | apply below_alloc | apply pw_below_drewN | apply below_drew1 | refine below_set ?_ GE201.out | refine below_set ?_ GE202.out) | exact HB.out)⟩⟩
  ·rw [if_neg c15] at H
   have c15b0 : (t203.toList == ([] : List UInt8)) = false := beq_eq_false_iff_ne.mpr c15
   have c15b1 : (t203.toList != ([] : List UInt8)) = true := bne_iff_ne.mpr c15
   (try (have c15b2 : t203.toList.isEmpty = false := List.isEmpty_eq_false_iff.mpr c15))
   (try (have c15b3 : (!t203.toList.isEmpty) = true := by rw [List.isEmpty_eq_false_iff.mpr c15]; rfl))
   (first | rw [c15b0] | (simp only [i64_w, i32_w]; rw [c15b0]) | rw [c15b3] | rw [c15b2] | skip)
   by_cases c16 : t204.toList = ([] : List UInt8)
   ·rw [if_pos c16] at H
    have c16b0 : (t204.toList == ([] : List UInt8)) = true := beq_iff_eq.mpr c16
    have c16b1 : (t204.toList != ([] : List UInt8)) = false := bne_eq_false_iff_eq.mpr c16
    (try (have c16b2 : t204.toList.isEmpty = true := List.isEmpty_iff.mpr c16))
    (try (have c16b3 : (!t204.toList.isEmpty) = false := by rw [List.isEmpty_iff.mpr c16]; rfl))
    clear c16
    have H' := Aside0.mk H
    clear H
    go_wp2
    go_meet
    case rel => exact ⟨_, (true), (by first | rfl | (simp; done) | (simp [*]; done)), H', ⟨by first | omega | exact Nat.le_refl _⟩, ⟨by (with_reducible repeat (first | refine blk_drewN ?_ _ | refine blk_drew ?_ | refine blk_alloc ?_ _)); exact BK201.out⟩, ⟨by (with_reducible repeat (first | refine blk_drewN ?_ _ | refine blk_drew ?_ | refine blk_alloc ?_ _)); exact BK202.out⟩, ⟨by repeat (first | (with_reducible first | exact HB.out | apply below_alloc | apply pw_below_drewN | apply below_drew1 | refine below_set ?_ GE201.out | refine below_set ?_ GE202.out) | exact HB.out)⟩⟩
   ·rw [if_neg c16] at H
    have c16b0 : (t204.toList == ([] : List UInt8)) = false := beq_eq_false_iff_ne.mpr c16
    have c16b1 : (t204.toList != ([] : List UInt8)) = true := bne_iff_ne.mpr c16
    (try (have c16b2 : t204.toList.isEmpty = false := List.isEmpty_eq_false_iff.mpr c16))
    (try (have c16b3 : (!t204.toList.isEmpty) = true := by rw [List.isEmpty_eq_false_iff.mpr c16]; rfl))
    have H' := Aside0.mk H
    clear H
    have hnb17 := NB201_202.out
    have hnc17 := NB202_201.out
    have hcz18_0 : w14.cell? ⟨gb201, 0, none⟩ = some (.int .i64 (Int.tmod (wrap64 (Int.tdiv (wrap64 (a0)) 256)) 3)) := (blk_cell BK201.out 0).trans rfl
    have hcz18_1 : w14.cell? ⟨gb201, 1, none⟩ = some (.int .i64 (Int.tmod (wrap64 (a0)) 256)) := (blk_cell BK201.out 1).trans rfl
    have hfz18_0 := blk_frozen BK201.out 0
    have hfz18_1 := blk_frozen BK201.out 1
    have hcz19_0 : w14.cell? ⟨gb202, 0, none⟩ = some (.int .i64 (Int.tmod (wrap64 (Int.tdiv (wrap64 (a1)) 256)) 3)) := (blk_cell BK202.out 0).trans rfl
    have hcz19_1 : w14.cell? ⟨gb202, 1, none⟩ = some (.int .i64 (Int.tmod (wrap64 (a1)) 256)) := (blk_cell BK202.out 1).trans rfl
    have hfz19_0 := blk_frozen BK202.out 0
    have hfz19_1 := blk_frozen BK202.out 1
    go_wp2
    go_meet
    case rel => exact ⟨_, (((t203.toList == t204.toList) != ((Int.tmod (wrap64 (Int.tdiv (wrap64 (a0)) 256)) 3) == (Int.tmod (wrap64 (Int.tdiv (wrap64 (a1)) 256)) 3) && ((Int.tmod (wrap64 (a0)) 256) == (Int.tmod (wrap64 (a1)) 256))))), (by first | rfl | (simp; done) | (simp [*]; done)), H', ⟨by first | omega | exact Nat.le_refl _⟩, ⟨by (with_reducible repeat (first | refine blk_drewN ?_ _ | refine blk_drew ?_ | refine blk_alloc ?_ _)); exact BK201.out⟩, ⟨by (with_reducible repeat (first | refine blk_drewN ?_ _ | refine blk_drew ?_ | refine blk_alloc ?_ _)); exact BK202.out⟩, ⟨by repeat (first | (with_reducible first | exact HB.out | apply below_alloc | apply pw_below_drewN | apply below_drew1 | refine below_set ?_ GE201.out | refine below_set ?_ GE202.out) | exact HB.out)⟩⟩
 case rest =>
  clear HC5
  try clear c1
  try clear c2
  try clear p2
  try clear p6
  try clear c9
  try clear c13
  try clear c15
  try clear c15b0
  try clear c15b1
  try clear c15b2
  try clear c16
  try clear c16b0
  try clear c16b1
  try clear c16b2
  try clear c17
  try clear hcz10_0
  try clear hcz10_1
  try clear hcz18_0
  try clear hcz18_1
  try clear hcz19_0
  try clear hcz19_1
  try clear hcz7_0
  try clear hcz7_1
  try clear hfz10_0
  try clear hfz10_1
  try clear hfz18_0
  try clear hfz18_1
  try clear hfz19_0
  try clear hfz19_1
  try clear hfz7_0
  try clear hfz7_1
  obtain ⟨kq, x45_4, rfl, HA, HJ4, BK201, BK202, HB⟩ := hcut
  cases kq with
  | zero => exact absurd HA.out (by simp [law01_AddrFormatIsInjective.j0])
  | succ kj4 =>
   have H := HA.out
   clear HA
   simp only [law01_AddrFormatIsInjective.j0] at H
   by_cases c20 : x45_4 = true
   ·subst c20
    have H1 : (some false) = some r := by rw [if_pos rfl] at H; exact H
    clear H
    have H := H1
    clear H1
    obtain rfl := Option.some.inj H
    go_wp2
    go_ret
    exact ⟨by first | rfl | (simp [errW_none, errW_some] <;> rfl) | (simp [*, errW_none, errW_some] <;> rfl), by repeat (first | (with_reducible first | exact HB.out | apply below_alloc | apply pw_below_drewN | apply below_drew1 | refine below_set ?_ GE201.out | refine below_set ?_ GE202.out) | exact HB.out)⟩
   ·replace c20 := Bool.eq_false_iff.mpr c20
    subst c20
    have H1 : ((law01_alive.f).bind fun t205 => (if t205 = true then ((addr_Compare.f kj4 (Int.tmod (wrap64 (Int.tdiv (wrap64 (a0)) 256)) 3) (Int.tmod (wrap64 (a0)) 256) (Int.tmod (wrap64 (Int.tdiv (wrap64 (a1)) 256)) 3) (Int.tmod (wrap64 (a1)) 256)).bind fun t206 => (if ((decide (t206 < 0)) == (decide ((wrap64 ((wrap64 ((Int.tmod (wrap64 (Int.tdiv (wrap64 (a0)) 256)) 3) * 256)) + (Int.tmod (wrap64 (a0)) 256))) < (wrap64 ((wrap64 ((Int.tmod (wrap64 (Int.tdiv (wrap64 (a1)) 256)) 3) * 256)) + (Int.tmod (wrap64 (a1)) 256)))))) = true then ((addr_Compare.f kj4 (Int.tmod (wrap64 (Int.tdiv (wrap64 (a0)) 256)) 3) (Int.tmod (wrap64 (a0)) 256) (Int.tmod (wrap64 (Int.tdiv (wrap64 (a1)) 256)) 3) (Int.tmod (wrap64 (a1)) 256)).bind fun t207 => (some ((decide (t206 > 0)) == (decide ((wrap64 ((wrap64 ((Int.tmod (wrap64 (Int.tdiv (wrap64 (a0)) 256)) 3) * 256)) + (Int.tmod (wrap64 (a0)) 256))) > (wrap64 ((wrap64 ((Int.tmod (wrap64 (Int.tdiv (wrap64 (a1)) 256)) 3) * 256)) + (Int.tmod (wrap64 (a1)) 256)))))))) else (some false))) else (some false))) = some r := by rw [if_neg (show ¬ (false = true) by decide)] at H; exact H
    clear H
    have H := H1
    clear H1
    replace H := Option.bind_eq_some_iff.mp H
    obtain ⟨t205, A210, H⟩ := H
    replace H : (if t205 = true then ((addr_Compare.f kj4 (Int.tmod (wrap64 (Int.tdiv (wrap64 (a0)) 256)) 3) (Int.tmod (wrap64 (a0)) 256) (Int.tmod (wrap64 (Int.tdiv (wrap64 (a1)) 256)) 3) (Int.tmod (wrap64 (a1)) 256)).bind fun t206 => (if ((decide (t206 < 0)) == (decide ((wrap64 ((wrap64 ((Int.tmod (wrap64 (Int.tdiv (wrap64 (a0)) 256)) 3) * 256)) + (Int.tmod (wrap64 (a0)) 256))) < (wrap64 ((wrap64 ((Int.tmod (wrap64 (Int.tdiv (wrap64 (a1)) 256)) 3) * 256)) + (Int.tmod (wrap64 (a1)) 256)))))) = true then ((addr_Compare.f kj4 (Int.tmod (wrap64 (Int.tdiv (wrap64 (a0)) 256)) 3) (Int.tmod (wrap64 (a0)) 256) (Int.tmod (wrap64 (Int.tdiv (wrap64 (a1)) 256)) 3) (Int.tmod (wrap64 (a1)) 256)).bind fun t207 => (some ((decide (t206 > 0)) == (decide ((wrap64 ((wrap64 ((Int.tmod (wrap64 (Int.tdiv (wrap64 (a0)) 256)) 3) * 256)) + (Int.tmod (wrap64 (a0)) 256))) > (wrap64 ((wrap64 ((Int.tmod (wrap64 (Int.tdiv (wrap64 (a1)) 256)) 3) * 256)) + (Int.tmod (wrap64 (a1)) 256)))))))) else (some false))) else (some false)) = some r := H
    have A21 := Aside0.mk A210
    clear A210
    by_cases c22 : t205 = true
    ·subst c22
     have H1 : ((addr_Compare.f kj4 (Int.tmod (wrap64 (Int.tdiv (wrap64 (a0)) 256)) 3) (Int.tmod (wrap64 (a0)) 256) (Int.tmod (wrap64 (Int.tdiv (wrap64 (a1)) 256)) 3) (Int.tmod (wrap64 (a1)) 256)).bind fun t206 => (if ((decide (t206 < 0)) == (decide ((wrap64 ((wrap64 ((Int.tmod (wrap64 (Int.tdiv (wrap64 (a0)) 256)) 3) * 256)) + (Int.tmod (wrap64 (a0)) 256))) < (wrap64 ((wrap64 ((Int.tmod (wrap64 (Int.tdiv (wrap64 (a1)) 256)) 3) * 256)) + (Int.tmod (wrap64 (a1)) 256)))))) = true then ((addr_Compare.f kj4 (Int.tmod (wrap64 (Int.tdiv (wrap64 (a0)) 256)) 3) (Int.tmod (wrap64 (a0)) 256) (Int.tmod (wrap64 (Int.tdiv (wrap64 (a1)) 256)) 3) (Int.tmod (wrap64 (a1)) 256)).bind fun t207 => (some ((decide (t206 > 0)) == (decide ((wrap64 ((wrap64 ((Int.tmod (wrap64 (Int.tdiv (wrap64 (a0)) 256)) 3) * 256)) + (Int.tmod (wrap64 (a0)) 256))) > (wrap64 ((wrap64 ((Int.tmod (wrap64 (Int.tdiv (wrap64 (a1)) 256)) 3) * 256)) + (Int.tmod (wrap64 (a1)) 256)))))))) else (some false))) = some r := by rw [if_pos rfl] at H; exact H
     clear H
     have H := H1
     clear H1
     replace H := Option.bind_eq_some_iff.mp H
     obtain ⟨t206, A230, H⟩ := H
     replace H : (if ((decide (t206 < 0)) == (decide ((wrap64 ((wrap64 ((Int.tmod (wrap64 (Int.tdiv (wrap64 (a0)) 256)) 3) * 256)) + (Int.tmod (wrap64 (a0)) 256))) < (wrap64 ((wrap64 ((Int.tmod (wrap64 (Int.tdiv (wrap64 (a1)) 256)) 3) * 256)) + (Int.tmod (wrap64 (a1)) 256)))))) = true then ((addr_Compare.f kj4 (Int.tmod (wrap64 (Int.tdiv (wrap64 (a0)) 256)) 3) (Int.tmod (wrap64 (a0)) 256) (Int.tmod (wrap64 (Int.tdiv (wrap64 (a1)) 256)) 3) (Int.tmod (wrap64 (a1)) 256)).bind fun t207 => (some ((decide (t206 > 0)) == (decide ((wrap64 ((wrap64 ((Int.tmod (wrap64 (Int.tdiv (wrap64 (a0)) 256)) 3) * 256)) + (Int.tmod (wrap64 (a0)) 256))) > (wrap64 ((wrap64 ((Int.tmod (wrap64 (Int.tdiv (wrap64 (a1)) 256)) 3) * 256)) + (Int.tmod (wrap64 (a1)) 256)))))))) else (some false)) = some r := H
     have A23 := Aside0.mk A230
     clear A230
     by_cases c24 : ((decide (t206 < 0)) == (decide ((wrap64 ((wrap64 ((Int.tmod (wrap64 (Int.tdiv (wrap64 (a0)) 256)) 3) * 256)) + (Int.tmod (wrap64 (a0)) 256))) < (wrap64 ((wrap64 ((Int.tmod (wrap64 (Int.tdiv (wrap64 (a1)) 256)) 3) * 256)) + (Int.tmod (wrap64 (a1)) 256)))))) = true
     ·rw [if_pos c24] at H
      have c24b0 : ((decide (t206 < 0)) == (decide ((wrap64 ((wrap64 ((Int.tmod (wrap64 (Int.tdiv (wrap64 (a0)) 256)) 3) * 256)) + (Int.tmod (wrap64 (a0)) 256))) < (wrap64 ((wrap64 ((Int.tmod (wrap64 (Int.tdiv (wrap64 (a1)) 256)) 3) * 256)) + (Int.tmod (wrap64 (a1)) 256)))))) = true := c24
      (try (have c24b1 : decide ((decide (t206 < 0)) = (decide ((wrap64 ((wrap64 ((Int.tmod (wrap64 (Int.tdiv (wrap64 (a0)) 256)) 3) * 256)) + (Int.tmod (wrap64 (a0)) 256))) < (wrap64 ((wrap64 ((Int.tmod (wrap64 (Int.tdiv (wrap64 (a1)) 256)) 3) * 256)) + (Int.tmod (wrap64 (a1)) 256)))))) = true := by simpa using c24))
      (try (have c24b2 : ((decide (t206 < 0)) == (decide ((wrap64 ((wrap64 ((Int.tmod (wrap64 (Int.tdiv (wrap64 (a0)) 256)) 3) * 256)) + (Int.tmod (wrap64 (a0)) 256))) < (wrap64 ((wrap64 ((Int.tmod (wrap64 (Int.tdiv (wrap64 (a1)) 256)) 3) * 256)) + (Int.tmod (wrap64 (a1)) 256)))))) = true := by simpa using c24))
      clear c24
      replace H := Option.bind_eq_some_iff.mp H
      obtain ⟨t207, A250, H⟩ := H
      replace H : (some ((decide (t206 > 0)) == (decide ((wrap64 ((wrap64 ((Int.tmod (wrap64 (Int.tdiv (wrap64 (a0)) 256)) 3) * 256)) + (Int.tmod (wrap64 (a0)) 256))) > (wrap64 ((wrap64 ((Int.tmod (wrap64 (Int.tdiv (wrap64 (a1)) 256)) 3) * 256)) + (Int.tmod (wrap64 (a1)) 256))))))) = some r := H
      have A25 := Aside0.mk A250
      clear A250
      obtain rfl := Option.some.inj H
      try go_wp2
      have n0_ := Aside0.mk (blk_drew BK201.out)
      have n1_ := Aside0.mk (blk_drew BK202.out)
      have n2_ := Aside0.mk (below_drew1 HB.out)
      clear BK201
      clear BK202
      clear HB
      have BK201 := n0_
      have BK202 := n1_
      have HB := n2_
      clear n0_ n1_ n2_
      refine start_ (n := 14) (S := fun w' => w'.cell? ⟨gb201, 0, none⟩ = some (.int .i64 (Int.tmod (wrap64 (Int.tdiv (wrap64 (a0)) 256)) 3)) ∧ w'.cell? ⟨gb201, 1, none⟩ = some (.int .i64 (Int.tmod (wrap64 (a0)) 256)) ∧ w'.cell? ⟨gb202, 0, none⟩ = some (.int .i64 (Int.tmod (wrap64 (Int.tdiv (wrap64 (a1)) 256)) 3)) ∧ w'.cell? ⟨gb202, 1, none⟩ = some (.int .i64 (Int.tmod (wrap64 (a1)) 256))) (ds := []) #[false, false, false, false, false, false, false, false, false, false, false, false, false, false] (by kernel_rfl) rfl rfl ⟨(blk_cell BK201.out 0).trans rfl, (blk_cell BK201.out 1).trans rfl, (blk_cell BK202.out 0).trans rfl, (blk_cell BK202.out 1).trans rfl⟩ (fun hHeld => ?_); refine with_tabW law01_AddrFormatIsInjective.tab6 law01_AddrFormatIsInjective.bits6 (fun HT_ HW_ => ?_)
      generalize wc.drew = w26 at BK201 BK202 HB hHeld ⊢
      refine pure_ (i := 0) (N := some 46) (v := ?_) (a' := ?_) #[true, false, false, false, false, false, false, false, false, false, false, false, false, false] rfl rfl (any_of HT_.out (by kernel_rfl)) (fun _ _ _ h => h) (Or.inl ⟨by rfl, ?_⟩) ?_ ?_
      rotate_left
      ·intro w'
       go_simp
       with_reducible rfl
      rotate_left
      ·simp only [Act.put, List.setIfInBounds_toArray, List.set_cons_zero, List.set_cons_succ, i64_w, i32_w]
       rfl
      refine pure_ (i := 3) (N := some 49) (v := ?_) (a' := ?_) #[true, false, false, true, false, false, false, false, false, false, false, false, false, false] rfl rfl (any_of HT_.out (by kernel_rfl)) (fun _ _ _ h => h) (Or.inl ⟨by rfl, ?_⟩) ?_ ?_
      rotate_left
      ·intro w'
       go_simp
       with_reducible rfl
      rotate_left
      ·simp only [Act.put, List.setIfInBounds_toArray, List.set_cons_zero, List.set_cons_succ, i64_w, i32_w]
       rfl
      refine pure_ (i := 6) (N := some 52) (v := ?_) (a' := ?_) #[true, false, false, true, false, false, true, false, false, false, false, false, false, false] rfl rfl (any_of HT_.out (by kernel_rfl)) (fun _ _ _ h => h) (Or.inl ⟨by rfl, ?_⟩) ?_ ?_
      rotate_left
      ·intro w'
       go_simp
       with_reducible rfl
      rotate_left
      ·simp only [Act.put, List.setIfInBounds_toArray, List.set_cons_zero, List.set_cons_succ, i64_w, i32_w]
       rfl
      refine pure_ (i := 9) (N := some 55) (v := ?_) (a' := ?_) #[true, false, false, true, false, false, true, false, false, true, false, false, false, false] rfl rfl (any_of HT_.out (by kernel_rfl)) (fun _ _ _ h => h) (Or.inl ⟨by rfl, ?_⟩) ?_ ?_
      rotate_left
      ·intro w'
       go_simp
       with_reducible rfl
      rotate_left
      ·simp only [Act.put, List.setIfInBounds_toArray, List.set_cons_zero, List.set_cons_succ, i64_w, i32_w]
       rfl
      refine take_ (i := 1) (N := some 47) (v := ?_) (a' := ?_) #[true, true, false, true, false, false, true, false, false, true, false, false, false, false] rfl rfl (take_ofW HT_.out HW_.out (by kernel_rfl)) (fun _ _ _ h => h) (Or.inl ⟨by rfl, ?_⟩) hHeld ?_ ?_
      rotate_left
      ·rintro w' ⟨s0, s1, s2, s3⟩
       go_simp
       with_reducible rfl
      rotate_left
      ·simp only [Act.put, List.setIfInBounds_toArray, List.set_cons_zero, List.set_cons_succ, i64_w, i32_w]
       rfl
      refine pure_ (i := 2) (N := some 48) (v := ?_) (a' := ?_) #[true, true, true, true, false, false, true, false, false, true, false, false, false, false] rfl rfl (any_of HT_.out (by kernel_rfl)) (fun _ _ _ h => h) (Or.inl ⟨by rfl, ?_⟩) ?_ ?_
      rotate_left
      ·intro w'
       go_simp
       with_reducible rfl
      rotate_left
      ·simp only [Act.put, List.setIfInBounds_toArray, List.set_cons_zero, List.set_cons_succ, i64_w, i32_w]
       rfl
      refine take_ (i := 4) (N := some 50) (v := ?_) (a' := ?_) #[true, true, true, true, true, false, true, false, false, true, false, false, false, false] rfl rfl (take_ofW HT_.out HW_.out (by kernel_rfl)) (fun _ _ _ h => h) (Or.inl ⟨by rfl, ?_⟩) hHeld ?_ ?_
      rotate_left
      ·rintro w' ⟨s0, s1, s2, s3⟩
       go_simp
       with_reducible rfl
      rotate_left
      ·simp only [Act.put, List.setIfInBounds_toArray, List.set_cons_zero, List.set_cons_succ, i64_w, i32_w]
       rfl
      refine pure_ (i := 5) (N := some 51) (v := ?_) (a' := ?_) #[true, true, true, true, true, true, true, false, false, true, false, false, false, false] rfl rfl (any_of HT_.out (by kernel_rfl)) (fun _ _ _ h => h) (Or.inl ⟨by rfl, ?_⟩) ?_ ?_
      rotate_left
      ·intro w'
       go_simp
       with_reducible rfl
      rotate_left
      ·simp only [Act.put, List.setIfInBounds_toArray, List.set_cons_zero, List.set_cons_succ, i64_w, i32_w]
       rfl
      refine pure_ (i := 12) (N := some 9) (v := ?_) (a' := ?_) #[true, true, true, true, true, true, true, false, false, true, false, false, true, false] rfl rfl (any_of HT_.out (by kernel_rfl)) (fun _ _ _ h => h) (Or.inl ⟨by rfl, ?_⟩) ?_ ?_
      rotate_left
      ·intro w'
       go_simp
       with_reducible rfl
      rotate_left
      ·simp only [Act.put, List.setIfInBounds_toArray, List.set_cons_zero, List.set_cons_succ, i64_w, i32_w]
       rfl
      refine take_ (i := 7) (N := some 53) (v := ?_) (a' := ?_) #[true, true, true, true, true, true, true, true, false, true, false, false, true, false] rfl rfl (take_ofW HT_.out HW_.out (by kernel_rfl)) (fun _ _ _ h => h) (Or.inl ⟨by rfl, ?_⟩) hHeld ?_ ?_
      rotate_left
      ·rintro w' ⟨s0, s1, s2, s3⟩
       go_simp
       with_reducible rfl
      rotate_left
      ·simp only [Act.put, List.setIfInBounds_toArray, List.set_cons_zero, List.set_cons_succ, i64_w, i32_w]
       rfl
      refine pure_ (i := 8) (N := some 54) (v := ?_) (a' := ?_) #[true, true, true, true, true, true, true, true, true, true, false, false, true, false] rfl rfl (any_of HT_.out (by kernel_rfl)) (fun _ _ _ h => h) (Or.inl ⟨by rfl, ?_⟩) ?_ ?_
      rotate_left
      ·intro w'
       go_simp
       with_reducible rfl
      rotate_left
      ·simp only [Act.put, List.setIfInBounds_toArray, List.set_cons_zero, List.set_cons_succ, i64_w, i32_w]
       rfl
      refine take_ (i := 10) (N := some 56) (v := ?_) (a' := ?_) #[true, true, true, true, true, true, true, true, true, true, true, false, true, false] rfl rfl (take_ofW HT_.out HW_.out (by kernel_rfl)) (fun _ _ _ h => h) (Or.inl ⟨by rfl, ?_⟩) hHeld ?_ ?_
      rotate_left
      ·rintro w' ⟨s0, s1, s2, s3⟩
       go_simp
       with_reducible rfl
      rotate_left
      ·simp only [Act.put, List.setIfInBounds_toArray, List.set_cons_zero, List.set_cons_succ, i64_w, i32_w]
       rfl
      refine pure_ (i := 11) (N := some 57) (v := ?_) (a' := ?_) #[true, true, true, true, true, true, true, true, true, true, true, true, true, false] rfl rfl (any_of HT_.out (by kernel_rfl)) (fun _ _ _ h => h) (Or.inl ⟨by rfl, ?_⟩) ?_ ?_
      rotate_left
      ·intro w'
       go_simp
       with_reducible rfl
      rotate_left
      ·simp only [Act.put, List.setIfInBounds_toArray, List.set_cons_zero, List.set_cons_succ, i64_w, i32_w]
       rfl
      refine pure_ (i := 13) (N := some 10) (v := ?_) (a' := ?_) #[true, true, true, true, true, true, true, true, true, true, true, true, true, true] rfl rfl (any_of HT_.out (by kernel_rfl)) (fun _ _ _ h => h) (Or.inl ⟨by rfl, ?_⟩) ?_ ?_
      rotate_left
      ·intro w'
       go_simp
       with_reducible rfl
      rotate_left
      ·simp only [Act.put, List.setIfInBounds_toArray, List.set_cons_zero, List.set_cons_succ, i64_w, i32_w]
       rfl
      refine done_ (done_of HT_.out (by kernel_rfl)) ?_
      try go_wp2_with (first | ((with_reducible refine gate_callee (f := 25) rfl ?_); refine goesL_ (some 58) rfl rfl Tryd.func25 (by kernel_rfl) rfl #[] rfl (by (try simp only [List.map_toArray, List.map_cons, List.map_nil]); first | done | rfl | (simp only [List.length_drop, List.length_take]; rfl)) ?_; (with_reducible refine (law01_alive.calls  true _ (LaidW.below (m' := 22) hL rfl (by repeat (first | (with_reducible first | exact HB.out | apply below_alloc | apply pw_below_drewN | apply below_drew1 | refine below_set ?_ GE201.out | refine below_set ?_ GE202.out) | exact HB.out))) A21.out).mono ?_); rintro e w27 ⟨rfl, hb⟩; refine ⟨_, rfl, ?_⟩; have n0_ := Aside0.mk (blk_below (g := gb201) (o := .cells #[.int .i64 (Int.tmod (wrap64 (Int.tdiv (wrap64 (a0)) 256)) 3), .int .i64 (Int.tmod (wrap64 (a0)) 256)] 45 (0, 0)) (by (with_reducible repeat (first | refine blk_drewN ?_ _ | refine blk_drew ?_ | refine blk_alloc ?_ _)); exact BK201.out) hb); have n1_ := Aside0.mk (blk_below (g := gb202) (o := .cells #[.int .i64 (Int.tmod (wrap64 (Int.tdiv (wrap64 (a1)) 256)) 3), .int .i64 (Int.tmod (wrap64 (a1)) 256)] 45 (0, 0)) (by (with_reducible repeat (first | refine blk_drewN ?_ _ | refine blk_drew ?_ | refine blk_alloc ?_ _)); exact BK202.out) hb); have n2_ := Aside0.mk (below_step (by repeat (first | (with_reducible first | exact HB.out | apply below_alloc | apply pw_below_drewN | apply below_drew1 | refine below_set ?_ GE201.out | refine below_set ?_ GE202.out) | exact HB.out)) hb); clear BK201; clear BK202; clear HB; have BK201 := n0_; have BK202 := n1_; have HB := n2_; clear n0_ n1_ n2_; (try clear hb); (try clear hb2); (try clear hk); (try clear hi); have hnb28 := NB201_202.out; have hnc28 := NB202_201.out; have hcz29_0 : w27.cell? ⟨gb201, 0, none⟩ = some (.int .i64 (Int.tmod (wrap64 (Int.tdiv (wrap64 (a0)) 256)) 3)) := (blk_cell BK201.out 0).trans rfl; have hcz29_1 : w27.cell? ⟨gb201, 1, none⟩ = some (.int .i64 (Int.tmod (wrap64 (a0)) 256)) := (blk_cell BK201.out 1).trans rfl; have hfz29_0 := blk_frozen BK201.out 0; have hfz29_1 := blk_frozen BK201.out 1; have hcz30_0 : w27.cell? ⟨gb202, 0, none⟩ = some (.int .i64 (Int.tmod (wrap64 (Int.tdiv (wrap64 (a1)) 256)) 3)) := (blk_cell BK202.out 0).trans rfl; have hcz30_1 : w27.cell? ⟨gb202, 1, none⟩ = some (.int .i64 (Int.tmod (wrap64 (a1)) 256)) := (blk_cell BK202.out 1).trans rfl; have hfz30_0 := blk_frozen BK202.out 0; have hfz30_1 := blk_frozen BK202.out 1) | (go_at_call 33; (with_reducible refine (addr_Compare.calls kj4 (Int.tmod (wrap64 (Int.tdiv (wrap64 (a0)) 256)) 3) (Int.tmod (wrap64 (a0)) 256) (Int.tmod (wrap64 (Int.tdiv (wrap64 (a1)) 256)) 3) (Int.tmod (wrap64 (a1)) 256) t206 _ A23.out).mono ?_); rintro e w31 ⟨rfl, hb⟩; have n0_ := Aside0.mk (blk_below (g := gb201) (o := .cells #[.int .i64 (Int.tmod (wrap64 (Int.tdiv (wrap64 (a0)) 256)) 3), .int .i64 (Int.tmod (wrap64 (a0)) 256)] 45 (0, 0)) (by (with_reducible repeat (first | refine blk_drewN ?_ _ | refine blk_drew ?_ | refine blk_alloc ?_ _)); exact BK201.out) hb); have n1_ := Aside0.mk (blk_below (g := gb202) (o := .cells #[.int .i64 (Int.tmod (wrap64 (Int.tdiv (wrap64 (a1)) 256)) 3), .int .i64 (Int.tmod (wrap64 (a1)) 256)] 45 (0, 0)) (by (with_reducible repeat (first | refine blk_drewN ?_ _ | refine blk_drew ?_ | refine blk_alloc ?_ _)); exact BK202.out) hb); have n2_ := Aside0.mk (below_step (by repeat (first | (with_reducible first | exact HB.out | apply below_alloc | apply pw_below_drewN | apply below_drew1 | refine below_set ?_ GE201.out | refine below_set ?_ GE202.out) | exact HB.out)) hb); clear BK201; clear BK202; clear HB; have BK201 := n0_; have BK202 := n1_; have HB := n2_; clear n0_ n1_ n2_; (try clear hb); (try clear hb2); (try clear hk); (try clear hi); have hcz32_0 : w31.cell? ⟨gb201, 0, none⟩ = some (.int .i64 (Int.tmod (wrap64 (Int.tdiv (wrap64 (a0)) 256)) 3)) := (blk_cell BK201.out 0).trans rfl; have hcz32_1 : w31.cell? ⟨gb201, 1, none⟩ = some (.int .i64 (Int.tmod (wrap64 (a0)) 256)) := (blk_cell BK201.out 1).trans rfl; have hfz32_0 := blk_frozen BK201.out 0; have hfz32_1 := blk_frozen BK201.out 1; have hcz33_0 : w31.cell? ⟨gb202, 0, none⟩ = some (.int .i64 (Int.tmod (wrap64 (Int.tdiv (wrap64 (a1)) 256)) 3)) := (blk_cell BK202.out 0).trans rfl; have hcz33_1 : w31.cell? ⟨gb202, 1, none⟩ = some (.int .i64 (Int.tmod (wrap64 (a1)) 256)) := (blk_cell BK202.out 1).trans rfl; have hfz33_0 := blk_frozen BK202.out 0; have hfz33_1 := blk_frozen BK202.out 1) | (go_at_call 33; (with_reducible refine (addr_Compare.calls kj4 (Int.tmod (wrap64 (Int.tdiv (wrap64 (a0)) 256)) 3) (Int.tmod (wrap64 (a0)) 256) (Int.tmod (wrap64 (Int.tdiv (wrap64 (a1)) 256)) 3) (Int.tmod (wrap64 (a1)) 256) t207 _ A25.out).mono ?_); rintro e w34 ⟨rfl, hb⟩; have n0_ := Aside0.mk (blk_below (g := gb201) (o := .cells #[.int .i64 (Int.tmod (wrap64 (Int.tdiv (wrap64 (a0)) 256)) 3), .int .i64 (Int.tmod (wrap64 (a0)) 256)] 45 (0, 0)) (by (with_reducible repeat (first | refine blk_drewN ?_ _ | refine blk_drew ?_ | refine blk_alloc ?_ _)); exact BK201.out) hb); have n1_ := Aside0.mk (blk_below (g := gb202) (o := .cells #[.int .i64 (Int.tmod (wrap64 (Int.tdiv (wrap64 (a1)) 256)) 3), .int .i64 (Int.tmod (wrap64 (a1)) 256)] 45 (0, 0)) (by (with_reducible repeat (first | refine blk_drewN ?_ _ | refine blk_drew ?_ | refine blk_alloc ?_ _)); exact BK202.out) hb); have n2_ := Aside0.mk (below_step (by repeat (first | (with_reducible first | exact HB.out | apply below_alloc | apply pw_below_drewN | apply below_drew1 | refine below_set ?_ GE201.out | refine below_set ?_ GE202.out) | exact HB.out)) hb); clear BK201; clear BK202; clear HB; have BK201 := n0_; have BK202 := n1_; have HB := n2_; clear n0_ n1_ n2_; (try clear hb); (try clear hb2); (try clear hk); (try clear hi)))
      go_ret
      exact ⟨by first | rfl | (simp [errW_none, errW_some] <;> rfl) | (simp [*, errW_none, errW_some] <;> rfl), by repeat (first | (with_reducible first | exact HB.out | apply below_alloc | apply pw_below_drewN | apply below_drew1 | refine below_set ?_ GE201.out | refine below_set ?_ GE202.out) | exact HB.out)⟩
     ·rw [if_neg c24] at H
      have c24b0 : ((decide (t206 < 0)) == (decide ((wrap64 ((wrap64 ((Int.tmod (wrap64 (Int.tdiv (wrap64 (a0)) 256)) 3) * 256)) + (Int.tmod (wrap64 (a0)) 256))) < (wrap64 ((wrap64 ((Int.tmod (wrap64 (Int.tdiv (wrap64 (a1)) 256)) 3) * 256)) + (Int.tmod (wrap64 (a1)) 256)))))) = false := by simpa using c24
      (try (have c24b1 : decide ((decide (t206 < 0)) = (decide ((wrap64 ((wrap64 ((Int.tmod (wrap64 (Int.tdiv (wrap64 (a0)) 256)) 3) * 256)) + (Int.tmod (wrap64 (a0)) 256))) < (wrap64 ((wrap64 ((Int.tmod (wrap64 (Int.tdiv (wrap64 (a1)) 256)) 3) * 256)) + (Int.tmod (wrap64 (a1)) 256)))))) = false := by simpa using c24))
      (try (have c24b2 : ((decide (t206 < 0)) == (decide ((wrap64 ((wrap64 ((Int.tmod (wrap64 (Int.tdiv (wrap64 (a0)) 256)) 3) * 256)) + (Int.tmod (wrap64 (a0)) 256))) < (wrap64 ((wrap64 ((Int.tmod (wrap64 (Int.tdiv (wrap64 (a1)) 256)) 3) * 256)) + (Int.tmod (wrap64 (a1)) 256)))))) = false := by simpa using c24))
      (try (have c24b3 : ¬ ((decide (t206 < 0)) = (decide ((wrap64 ((wrap64 ((Int.tmod (wrap64 (Int.tdiv (wrap64 (a0)) 256)) 3) * 256)) + (Int.tmod (wrap64 (a0)) 256))) < (wrap64 ((wrap64 ((Int.tmod (wrap64 (Int.tdiv (wrap64 (a1)) 256)) 3) * 256)) + (Int.tmod (wrap64 (a1)) 256)))))) := by simpa using c24))
      clear c24
      obtain rfl := Option.some.inj H
      try go_wp2
      have n0_ := Aside0.mk (blk_drew BK201.out)
      have n1_ := Aside0.mk (blk_drew BK202.out)
      have n2_ := Aside0.mk (below_drew1 HB.out)
      clear BK201
      clear BK202
      clear HB
      have BK201 := n0_
      have BK202 := n1_
      have HB := n2_
      clear n0_ n1_ n2_
      refine start_ (n := 14) (S := fun w' => w'.cell? ⟨gb201, 0, none⟩ = some (.int .i64 (Int.tmod (wrap64 (Int.tdiv (wrap64 (a0)) 256)) 3)) ∧ w'.cell? ⟨gb201, 1, none⟩ = some (.int .i64 (Int.tmod (wrap64 (a0)) 256)) ∧ w'.cell? ⟨gb202, 0, none⟩ = some (.int .i64 (Int.tmod (wrap64 (Int.tdiv (wrap64 (a1)) 256)) 3)) ∧ w'.cell? ⟨gb202, 1, none⟩ = some (.int .i64 (Int.tmod (wrap64 (a1)) 256))) (ds := []) #[false, false, false, false, false, false, false, false, false, false, false, false, false, false] (by kernel_rfl) rfl rfl ⟨(blk_cell BK201.out 0).trans rfl, (blk_cell BK201.out 1).trans rfl, (blk_cell BK202.out 0).trans rfl, (blk_cell BK202.out 1).trans rfl⟩ (fun hHeld => ?_); refine with_tabW law01_AddrFormatIsInjective.tab6 law01_AddrFormatIsInjective.bits6 (fun HT_ HW_ => ?_)
      generalize wc.drew = w35 at BK201 BK202 HB hHeld ⊢
      refine pure_ (i := 0) (N := some 46) (v := ?_) (a' := ?_) #[true, false, false, false, false, false, false, false, false, false, false, false, false, false] rfl rfl (any_of HT_.out (by kernel_rfl)) (fun _ _ _ h => h) (Or.inl ⟨by rfl, ?_⟩) ?_ ?_
      rotate_left
      ·intro w'
       go_simp
       with_reducible rfl
      rotate_left
      ·simp only [Act.put, List.setIfInBounds_toArray, List.set_cons_zero, List.set_cons_succ, i64_w, i32_w]
       rfl
      refine pure_ (i := 3) (N := some 49) (v := ?_) (a' := ?_) #[true, false, false, true, false, false, false, false, false, false, false, false, false, false] rfl rfl (any_of HT_.out (by kernel_rfl)) (fun _ _ _ h => h) (Or.inl ⟨by rfl, ?_⟩) ?_ ?_
      rotate_left
      ·intro w'
       go_simp
       with_reducible rfl
      rotate_left
      ·simp only [Act.put, List.setIfInBounds_toArray, List.set_cons_zero, List.set_cons_succ, i64_w, i32_w]
       rfl
      refine pure_ (i := 6) (N := some 52) (v := ?_) (a' := ?_) #[true, false, false, true, false, false, true, false, false, false, false, false, false, false] rfl rfl (any_of HT_.out (by kernel_rfl)) (fun _ _ _ h => h) (Or.inl ⟨by rfl, ?_⟩) ?_ ?_
      rotate_left
      ·intro w'
       go_simp
       with_reducible rfl
      rotate_left
      ·simp only [Act.put, List.setIfInBounds_toArray, List.set_cons_zero, List.set_cons_succ, i64_w, i32_w]
       rfl
      refine pure_ (i := 9) (N := some 55) (v := ?_) (a' := ?_) #[true, false, false, true, false, false, true, false, false, true, false, false, false, false] rfl rfl (any_of HT_.out (by kernel_rfl)) (fun _ _ _ h => h) (Or.inl ⟨by rfl, ?_⟩) ?_ ?_
      rotate_left
      ·intro w'
       go_simp
       with_reducible rfl
      rotate_left
      ·simp only [Act.put, List.setIfInBounds_toArray, List.set_cons_zero, List.set_cons_succ, i64_w, i32_w]
       rfl
      refine take_ (i := 1) (N := some 47) (v := ?_) (a' := ?_) #[true, true, false, true, false, false, true, false, false, true, false, false, false, false] rfl rfl (take_ofW HT_.out HW_.out (by kernel_rfl)) (fun _ _ _ h => h) (Or.inl ⟨by rfl, ?_⟩) hHeld ?_ ?_
      rotate_left
      ·rintro w' ⟨s0, s1, s2, s3⟩
       go_simp
       with_reducible rfl
      rotate_left
      ·simp only [Act.put, List.setIfInBounds_toArray, List.set_cons_zero, List.set_cons_succ, i64_w, i32_w]
       rfl
      refine pure_ (i := 2) (N := some 48) (v := ?_) (a' := ?_) #[true, true, true, true, false, false, true, false, false, true, false, false, false, false] rfl rfl (any_of HT_.out (by kernel_rfl)) (fun _ _ _ h => h) (Or.inl ⟨by rfl, ?_⟩) ?_ ?_
      rotate_left
      ·intro w'
       go_simp
       with_reducible rfl
      rotate_left
      ·simp only [Act.put, List.setIfInBounds_toArray, List.set_cons_zero, List.set_cons_succ, i64_w, i32_w]
       rfl
      refine take_ (i := 4) (N := some 50) (v := ?_) (a' := ?_) #[true, true, true, true, true, false, true, false, false, true, false, false, false, false] rfl rfl (take_ofW HT_.out HW_.out (by kernel_rfl)) (fun _ _ _ h => h) (Or.inl ⟨by rfl, ?_⟩) hHeld ?_ ?_
      rotate_left
      ·rintro w' ⟨s0, s1, s2, s3⟩
       go_simp
       with_reducible rfl
      rotate_left
      ·simp only [Act.put, List.setIfInBounds_toArray, List.set_cons_zero, List.set_cons_succ, i64_w, i32_w]
       rfl
      refine pure_ (i := 5) (N := some 51) (v := ?_) (a' := ?_) #[true, true, true, true, true, true, true, false, false, true, false, false, false, false] rfl rfl (any_of HT_.out (by kernel_rfl)) (fun _ _ _ h => h) (Or.inl ⟨by rfl, ?_⟩) ?_ ?_
      rotate_left
      ·intro w'
       go_simp
       with_reducible rfl
      rotate_left
      ·simp only [Act.put, List.setIfInBounds_toArray, List.set_cons_zero, List.set_cons_succ, i64_w, i32_w]
       rfl
      refine pure_ (i := 12) (N := some 9) (v := ?_) (a' := ?_) #[true, true, true, true, true, true, true, false, false, true, false, false, true, false] rfl rfl (any_of HT_.out (by kernel_rfl)) (fun _ _ _ h => h) (Or.inl ⟨by rfl, ?_⟩) ?_ ?_
      rotate_left
      ·intro w'
       go_simp
       with_reducible rfl
      rotate_left
      ·simp only [Act.put, List.setIfInBounds_toArray, List.set_cons_zero, List.set_cons_succ, i64_w, i32_w]
       rfl
      refine take_ (i := 7) (N := some 53) (v := ?_) (a' := ?_) #[true, true, true, true, true, true, true, true, false, true, false, false, true, false] rfl rfl (take_ofW HT_.out HW_.out (by kernel_rfl)) (fun _ _ _ h => h) (Or.inl ⟨by rfl, ?_⟩) hHeld ?_ ?_
      rotate_left
      ·rintro w' ⟨s0, s1, s2, s3⟩
       go_simp
       with_reducible rfl
      rotate_left
      ·simp only [Act.put, List.setIfInBounds_toArray, List.set_cons_zero, List.set_cons_succ, i64_w, i32_w]
       rfl
      refine pure_ (i := 8) (N := some 54) (v := ?_) (a' := ?_) #[true, true, true, true, true, true, true, true, true, true, false, false, true, false] rfl rfl (any_of HT_.out (by kernel_rfl)) (fun _ _ _ h => h) (Or.inl ⟨by rfl, ?_⟩) ?_ ?_
      rotate_left
      ·intro w'
       go_simp
       with_reducible rfl
      rotate_left
      ·simp only [Act.put, List.setIfInBounds_toArray, List.set_cons_zero, List.set_cons_succ, i64_w, i32_w]
       rfl
      refine take_ (i := 10) (N := some 56) (v := ?_) (a' := ?_) #[true, true, true, true, true, true, true, true, true, true, true, false, true, false] rfl rfl (take_ofW HT_.out HW_.out (by kernel_rfl)) (fun _ _ _ h => h) (Or.inl ⟨by rfl, ?_⟩) hHeld ?_ ?_
      rotate_left
      ·rintro w' ⟨s0, s1, s2, s3⟩
       go_simp
       with_reducible rfl
      rotate_left
      ·simp only [Act.put, List.setIfInBounds_toArray, List.set_cons_zero, List.set_cons_succ, i64_w, i32_w]
       rfl
      refine pure_ (i := 11) (N := some 57) (v := ?_) (a' := ?_) #[true, true, true, true, true, true, true, true, true, true, true, true, true, false] rfl rfl (any_of HT_.out (by kernel_rfl)) (fun _ _ _ h => h) (Or.inl ⟨by rfl, ?_⟩) ?_ ?_
      rotate_left
      ·intro w'
       go_simp
       with_reducible rfl
      rotate_left
      ·simp only [Act.put, List.setIfInBounds_toArray, List.set_cons_zero, List.set_cons_succ, i64_w, i32_w]
       rfl
      refine pure_ (i := 13) (N := some 10) (v := ?_) (a' := ?_) #[true, true, true, true, true, true, true, true, true, true, true, true, true, true] rfl rfl (any_of HT_.out (by kernel_rfl)) (fun _ _ _ h => h) (Or.inl ⟨by rfl, ?_⟩) ?_ ?_
      rotate_left
      ·intro w'
       go_simp
       with_reducible rfl
      rotate_left
      ·simp only [Act.put, List.setIfInBounds_toArray, List.set_cons_zero, List.set_cons_succ, i64_w, i32_w]
       rfl
      refine done_ (done_of HT_.out (by kernel_rfl)) ?_
      try go_wp2_with (first | ((with_reducible refine gate_callee (f := 25) rfl ?_); refine goesL_ (some 58) rfl rfl Tryd.func25 (by kernel_rfl) rfl #[] rfl (by (try simp only [List.map_toArray, List.map_cons, List.map_nil]); first | done | rfl | (simp only [List.length_drop, List.length_take]; rfl)) ?_; (with_reducible refine (law01_alive.calls  true _ (LaidW.below (m' := 22) hL rfl (by repeat (first | (with_reducible first | exact HB.out | apply below_alloc | apply pw_below_drewN | apply below_drew1 | refine below_set ?_ GE201.out | refine below_set ?_ GE202.out) | exact HB.out))) A21.out).mono ?_); rintro e w36 ⟨rfl, hb⟩; refine ⟨_, rfl, ?_⟩; have n0_ := Aside0.mk (blk_below (g := gb201) (o := .cells #[.int .i64 (Int.tmod (wrap64 (Int.tdiv (wrap64 (a0)) 256)) 3), .int .i64 (Int.tmod (wrap64 (a0)) 256)] 45 (0, 0)) (by (with_reducible repeat (first | refine blk_drewN ?_ _ | refine blk_drew ?_ | refine blk_alloc ?_ _)); exact BK201.out) hb); have n1_ := Aside0.mk (blk_below (g := gb202) (o := .cells #[.int .i64 (Int.tmod (wrap64 (Int.tdiv (wrap64 (a1)) 256)) 3), .int .i64 (Int.tmod (wrap64 (a1)) 256)] 45 (0, 0)) (by (with_reducible repeat (first | refine blk_drewN ?_ _ | refine blk_drew ?_ | refine blk_alloc ?_ _)); exact BK202.out) hb); have n2_ := Aside0.mk (below_step (by repeat (first | (with_reducible first | exact HB.out | apply below_alloc | apply pw_below_drewN | apply below_drew1 | refine below_set ?_ GE201.out | refine below_set ?_ GE202.out) | exact HB.out)) hb); clear BK201; clear BK202; clear HB; have BK201 := n0_; have BK202 := n1_; have HB := n2_; clear n0_ n1_ n2_; (try clear hb); (try clear hb2); (try clear hk); (try clear hi); have hnb37 := NB201_202.out; have hnc37 := NB202_201.out; have hcz38_0 : w36.cell? ⟨gb201, 0, none⟩ = some (.int .i64 (Int.tmod (wrap64 (Int.tdiv (wrap64 (a0)) 256)) 3)) := (blk_cell BK201.out 0).trans rfl; have hcz38_1 : w36.cell? ⟨gb201, 1, none⟩ = some (.int .i64 (Int.tmod (wrap64 (a0)) 256)) := (blk_cell BK201.out 1).trans rfl; have hfz38_0 := blk_frozen BK201.out 0; have hfz38_1 := blk_frozen BK201.out 1; have hcz39_0 : w36.cell? ⟨gb202, 0, none⟩ = some (.int .i64 (Int.tmod (wrap64 (Int.tdiv (wrap64 (a1)) 256)) 3)) := (blk_cell BK202.out 0).trans rfl; have hcz39_1 : w36.cell? ⟨gb202, 1, none⟩ = some (.int .i64 (Int.tmod (wrap64 (a1)) 256)) := (blk_cell BK202.out 1).trans rfl; have hfz39_0 := blk_frozen BK202.out 0; have hfz39_1 := blk_frozen BK202.out 1) | (go_at_call 33; (with_reducible refine (addr_Compare.calls kj4 (Int.tmod (wrap64 (Int.tdiv (wrap64 (a0)) 256)) 3) (Int.tmod (wrap64 (a0)) 256) (Int.tmod (wrap64 (Int.tdiv (wrap64 (a1)) 256)) 3) (Int.tmod (wrap64 (a1)) 256) t206 _ A23.out).mono ?_); rintro e w40 ⟨rfl, hb⟩; have n0_ := Aside0.mk (blk_below (g := gb201) (o := .cells #[.int .i64 (Int.tmod (wrap64 (Int.tdiv (wrap64 (a0)) 256)) 3), .int .i64 (Int.tmod (wrap64 (a0)) 256)] 45 (0, 0)) (by (with_reducible repeat (first | refine blk_drewN ?_ _ | refine blk_drew ?_ | refine blk_alloc ?_ _)); exact BK201.out) hb); have n1_ := Aside0.mk (blk_below (g := gb202) (o := .cells #[.int .i64 (Int.tmod (wrap64 (Int.tdiv (wrap64 (a1)) 256)) 3), .int .i64 (Int.tmod (wrap64 (a1)) 256)] 45 (0, 0)) (by (with_reducible repeat (first | refine blk_drewN ?_ _ | refine blk_drew ?_ | refine blk_alloc ?_ _)); exact BK202.out) hb); have n2_ := Aside0.mk (below_step (by repeat (first | (with_reducible first | exact HB.out | apply below_alloc | apply pw_below_drewN | apply below_drew1 | refine below_set ?_ GE201.out | refine below_set ?_ GE202.out) | exact HB.out)) hb); clear BK201; clear BK202; clear HB; have BK201 := n0_; have BK202 := n1_; have HB := n2_; clear n0_ n1_ n2_; (try clear hb); (try clear hb2); (try clear hk); (try clear hi)))
      go_ret
      exact ⟨by first | rfl | (simp [errW_none, errW_some] <;> rfl) | (simp [*, errW_none, errW_some] <;> rfl), by repeat (first | (with_reducible first | exact HB.out | apply below_alloc | apply pw_below_drewN | apply below_drew1 | refine below_set ?_ GE201.out | refine below_set ?_ GE202.out) | exact HB.out)⟩
    ·replace c22 := Bool.eq_false_iff.mpr c22
     subst c22
     have H1 : (some false) = some r := by rw [if_neg (show ¬ (false = true) by decide)] at H; exact H
     clear H
     have H := H1
     clear H1
     obtain rfl := Option.some.inj H
     try go_wp2
     have n0_ := Aside0.mk (blk_drew BK201.out)
     have n1_ := Aside0.mk (blk_drew BK202.out)
     have n2_ := Aside0.mk (below_drew1 HB.out)
     clear BK201
     clear BK202
     clear HB
     have BK201 := n0_
     have BK202 := n1_
     have HB := n2_
     clear n0_ n1_ n2_
     refine start_ (n := 14) (S := fun w' => w'.cell? ⟨gb201, 0, none⟩ = some (.int .i64 (Int.tmod (wrap64 (Int.tdiv (wrap64 (a0)) 256)) 3)) ∧ w'.cell? ⟨gb201, 1, none⟩ = some (.int .i64 (Int.tmod (wrap64 (a0)) 256)) ∧ w'.cell? ⟨gb202, 0, none⟩ = some (.int .i64 (Int.tmod (wrap64 (Int.tdiv (wrap64 (a1)) 256)) 3)) ∧ w'.cell? ⟨gb202, 1, none⟩ = some (.int .i64 (Int.tmod (wrap64 (a1)) 256))) (ds := []) #[false, false, false, false, false, false, false, false, false, false, false, false, false, false] (by kernel_rfl) rfl rfl ⟨(blk_cell BK201.out 0).trans rfl, (blk_cell BK201.out 1).trans rfl, (blk_cell BK202.out 0).trans rfl, (blk_cell BK202.out 1).trans rfl⟩ (fun hHeld => ?_); refine with_tabW law01_AddrFormatIsInjective.tab6 law01_AddrFormatIsInjective.bits6 (fun HT_ HW_ => ?_)
     generalize wc.drew = w41 at BK201 BK202 HB hHeld ⊢
     refine pure_ (i := 0) (N := some 46) (v := ?_) (a' := ?_) #[true, false, false, false, false, false, false, false, false, false, false, false, false, false] rfl rfl (any_of HT_.out (by kernel_rfl)) (fun _ _ _ h => h) (Or.inl ⟨by rfl, ?_⟩) ?_ ?_
     rotate_left
     ·intro w'
      go_simp
      with_reducible rfl
     rotate_left
     ·simp only [Act.put, List.setIfInBounds_toArray, List.set_cons_zero, List.set_cons_succ, i64_w, i32_w]
      rfl
     refine pure_ (i := 3) (N := some 49) (v := ?_) (a' := ?_) #[true, false, false, true, false, false, false, false, false, false, false, false, false, false] rfl rfl (any_of HT_.out (by kernel_rfl)) (fun _ _ _ h => h) (Or.inl ⟨by rfl, ?_⟩) ?_ ?_
     rotate_left
     ·intro w'
      go_simp
      with_reducible rfl
     rotate_left
     ·simp only [Act.put, List.setIfInBounds_toArray, List.set_cons_zero, List.set_cons_succ, i64_w, i32_w]
      rfl
     refine pure_ (i := 6) (N := some 52) (v := ?_) (a' := ?_) #[true, false, false, true, false, false, true, false, false, false, false, false, false, false] rfl rfl (any_of HT_.out (by kernel_rfl)) (fun _ _ _ h => h) (Or.inl ⟨by rfl, ?_⟩) ?_ ?_
     rotate_left
     ·intro w'
      go_simp
      with_reducible rfl
     rotate_left
     ·simp only [Act.put, List.setIfInBounds_toArray, List.set_cons_zero, List.set_cons_succ, i64_w, i32_w]
      rfl
     refine pure_ (i := 9) (N := some 55) (v := ?_) (a' := ?_) #[true, false, false, true, false, false, true, false, false, true, false, false, false, false] rfl rfl (any_of HT_.out (by kernel_rfl)) (fun _ _ _ h => h) (Or.inl ⟨by rfl, ?_⟩) ?_ ?_
     rotate_left
     ·intro w'
      go_simp
      with_reducible rfl
     rotate_left
     ·simp only [Act.put, List.setIfInBounds_toArray, List.set_cons_zero, List.set_cons_succ, i64_w, i32_w]
      rfl
     refine take_ (i := 1) (N := some 47) (v := ?_) (a' := ?_) #[true, true, false, true, false, false, true, false, false, true, false, false, false, false] rfl rfl (take_ofW HT_.out HW_.out (by kernel_rfl)) (fun _ _ _ h => h) (Or.inl ⟨by rfl, ?_⟩) hHeld ?_ ?_
     rotate_left
     ·rintro w' ⟨s0, s1, s2, s3⟩
      go_simp
      with_reducible rfl
     rotate_left
     ·simp only [Act.put, List.setIfInBounds_toArray, List.set_cons_zero, List.set_cons_succ, i64_w, i32_w]
      rfl
     refine pure_ (i := 2) (N := some 48) (v := ?_) (a' := ?_) #[true, true, true, true, false, false, true, false, false, true, false, false, false, false] rfl rfl (any_of HT_.out (by kernel_rfl)) (fun _ _ _ h => h) (Or.inl ⟨by rfl, ?_⟩) ?_ ?_
     rotate_left
     ·intro w'
      go_simp
      with_reducible rfl
     rotate_left
     ·simp only [Act.put, List.setIfInBounds_toArray, List.set_cons_zero, List.set_cons_succ, i64_w, i32_w]
      rfl
     refine take_ (i := 4) (N := some 50) (v := ?_) (a' := ?_) #[true, true, true, true, true, false, true, false, false, true, false, false, false, false] rfl rfl (take_ofW HT_.out HW_.out (by kernel_rfl)) (fun _ _ _ h => h) (Or.inl ⟨by rfl, ?_⟩) hHeld ?_ ?_
     rotate_left
     ·rintro w' ⟨s0, s1, s2, s3⟩
      go_simp
      with_reducible rfl
     rotate_left
     ·simp only [Act.put, List.setIfInBounds_toArray, List.set_cons_zero, List.set_cons_succ, i64_w, i32_w]
      rfl
     refine pure_ (i := 5) (N := some 51) (v := ?_) (a' := ?_) #[true, true, true, true, true, true, true, false, false, true, false, false, false, false] rfl rfl (any_of HT_.out (by kernel_rfl)) (fun _ _ _ h => h) (Or.inl ⟨by rfl, ?_⟩) ?_ ?_
     rotate_left
     ·intro w'
      go_simp
      with_reducible rfl
     rotate_left
     ·simp only [Act.put, List.setIfInBounds_toArray, List.set_cons_zero, List.set_cons_succ, i64_w, i32_w]
      rfl
     refine pure_ (i := 12) (N := some 9) (v := ?_) (a' := ?_) #[true, true, true, true, true, true, true, false, false, true, false, false, true, false] rfl rfl (any_of HT_.out (by kernel_rfl)) (fun _ _ _ h => h) (Or.inl ⟨by rfl, ?_⟩) ?_ ?_
     rotate_left
     ·intro w'
      go_simp
      with_reducible rfl
     rotate_left
     ·simp only [Act.put, List.setIfInBounds_toArray, List.set_cons_zero, List.set_cons_succ, i64_w, i32_w]
      rfl
     refine take_ (i := 7) (N := some 53) (v := ?_) (a' := ?_) #[true, true, true, true, true, true, true, true, false, true, false, false, true, false] rfl rfl (take_ofW HT_.out HW_.out (by kernel_rfl)) (fun _ _ _ h => h) (Or.inl ⟨by rfl, ?_⟩) hHeld ?_ ?_
     rotate_left
     ·rintro w' ⟨s0, s1, s2, s3⟩
      go_simp
      with_reducible rfl
     rotate_left
     ·simp only [Act.put, List.setIfInBounds_toArray, List.set_cons_zero, List.set_cons_succ, i64_w, i32_w]
      rfl
     refine pure_ (i := 8) (N := some 54) (v := ?_) (a' := ?_) #[true, true, true, true, true, true, true, true, true, true, false, false, true, false] rfl rfl (any_of HT_.out (by kernel_rfl)) (fun _ _ _ h => h) (Or.inl ⟨by rfl, ?_⟩) ?_ ?_
     rotate_left
     ·intro w'
      go_simp
      with_reducible rfl
     rotate_left
     ·simp only [Act.put, List.setIfInBounds_toArray, List.set_cons_zero, List.set_cons_succ, i64_w, i32_w]
      rfl
     refine take_ (i := 10) (N := some 56) (v := ?_) (a' := ?_) #[true, true, true, true, true, true, true, true, true, true, true, false, true, false] rfl rfl (take_ofW HT_.out HW_.out (by kernel_rfl)) (fun _ _ _ h => h) (Or.inl ⟨by rfl, ?_⟩) hHeld ?_ ?_
     rotate_left
     ·rintro w' ⟨s0, s1, s2, s3⟩
      go_simp
      with_reducible rfl
     rotate_left
     ·simp only [Act.put, List.setIfInBounds_toArray, List.set_cons_zero, List.set_cons_succ, i64_w, i32_w]
      rfl
     refine pure_ (i := 11) (N := some 57) (v := ?_) (a' := ?_) #[true, true, true, true, true, true, true, true, true, true, true, true, true, false] rfl rfl (any_of HT_.out (by kernel_rfl)) (fun _ _ _ h => h) (Or.inl ⟨by rfl, ?_⟩) ?_ ?_
     rotate_left
     ·intro w'
      go_simp
      with_reducible rfl
     rotate_left
     ·simp only [Act.put, List.setIfInBounds_toArray, List.set_cons_zero, List.set_cons_succ, i64_w, i32_w]
      rfl
     refine pure_ (i := 13) (N := some 10) (v := ?_) (a' := ?_) #[true, true, true, true, true, true, true, true, true, true, true, true, true, true] rfl rfl (any_of HT_.out (by kernel_rfl)) (fun _ _ _ h => h) (Or.inl ⟨by rfl, ?_⟩) ?_ ?_
     rotate_left
     ·intro w'
      go_simp
      with_reducible rfl
     rotate_left
     ·simp only [Act.put, List.setIfInBounds_toArray, List.set_cons_zero, List.set_cons_succ, i64_w, i32_w]
      rfl
     refine done_ (done_of HT_.out (by kernel_rfl)) ?_
     try go_wp2_with (first | ((with_reducible refine gate_callee (f := 25) rfl ?_); refine goesL_ (some 58) rfl rfl Tryd.func25 (by kernel_rfl) rfl #[] rfl (by (try simp only [List.map_toArray, List.map_cons, List.map_nil]); first | done | rfl | (simp only [List.length_drop, List.length_take]; rfl)) ?_; (with_reducible refine (law01_alive.calls  false _ (LaidW.below (m' := 22) hL rfl (by repeat (first | (with_reducible first | exact HB.out | apply below_alloc | apply pw_below_drewN | apply below_drew1 | refine below_set ?_ GE201.out | refine below_set ?_ GE202.out) | exact HB.out))) A21.out).mono ?_); rintro e w42 ⟨rfl, hb⟩; refine ⟨_, rfl, ?_⟩; have n0_ := Aside0.mk (blk_below (g := gb201) (o := .cells #[.int .i64 (Int.tmod (wrap64 (Int.tdiv (wrap64 (a0)) 256)) 3), .int .i64 (Int.tmod (wrap64 (a0)) 256)] 45 (0, 0)) (by (with_reducible repeat (first | refine blk_drewN ?_ _ | refine blk_drew ?_ | refine blk_alloc ?_ _)); exact BK201.out) hb); have n1_ := Aside0.mk (blk_below (g := gb202) (o := .cells #[.int .i64 (Int.tmod (wrap64 (Int.tdiv (wrap64 (a1)) 256)) 3), .int .i64 (Int.tmod (wrap64 (a1)) 256)] 45 (0, 0)) (by (with_reducible repeat (first | refine blk_drewN ?_ _ | refine blk_drew ?_ | refine blk_alloc ?_ _)); exact BK202.out) hb); have n2_ := Aside0.mk (below_step (by repeat (first | (with_reducible first | exact HB.out | apply below_alloc | apply pw_below_drewN | apply below_drew1 | refine below_set ?_ GE201.out | refine below_set ?_ GE202.out) | exact HB.out)) hb); clear BK201; clear BK202; clear HB; have BK201 := n0_; have BK202 := n1_; have HB := n2_; clear n0_ n1_ n2_; (try clear hb); (try clear hb2); (try clear hk); (try clear hi)))
     go_ret
     exact ⟨by first | rfl | (simp [errW_none, errW_some] <;> rfl) | (simp [*, errW_none, errW_some] <;> rfl), by repeat (first | (with_reducible first | exact HB.out | apply below_alloc | apply pw_below_drewN | apply below_drew1 | refine below_set ?_ GE201.out | refine below_set ?_ GE202.out) | exact HB.out)⟩

/-- THE ONE PURE STATEMENT of law01_AddrFormatIsInjective: yours. -/
def law01_AddrFormatIsInjective.Pure : Prop := ∀ (a0 : Int) (a1 : Int), (Lit.int .u16 a0).wf = true → (Lit.int .u16 a1).wf = true → ∃ k, law01_AddrFormatIsInjective.f k a0 a1 = some true
theorem law01_AddrFormatIsInjective.walk (P : law01_AddrFormatIsInjective.Pure) (a0 : Int) (a1 : Int) (w : World) (w0 : (Lit.int .u16 a0).wf = true) (w1 : (Lit.int .u16 a1).wf = true) (hL : Aside0 (LaidW 22 w)) :
  Calls Tryd.prog 13 #[.int .u16 a0, .int .u16 a1] w fun e w' => e = .returned (.bool true) ∧ Below w.heap.size w w' := by
 obtain ⟨k, h⟩ := P a0 a1 w0 w1
 refine (law01_AddrFormatIsInjective.calls k a0 a1 true w hL h).mono ?_
 rintro e w' ⟨rfl, hd⟩
 exact ⟨rfl, hd⟩

end Go.Proofs.YthidobgadndclaaDoor.P

-- Out of the translation's print, by a program. Lean checks it.
import Derived.Test.YtdbjjbooalkkbaaDoorPQ0
import Derived.Test.YtdbjjbooalkkbaaDoorPQ4
import Derived.Test.YtdbjjbooalkkbaaDoorXContains
import Derived.Test.YtdbjjbooalkkbaaDoorXName
namespace Go.Proofs.YtdbjjbooalkkbaaDoor.P
open Go.RowKit Go.Proofs.YtdbjjbooalkkbaaDoorW.PrintWords Go.Proofs.YtdbjjbooalkkbaaDoorW.PrintLast Go.Proofs.YtdbjjbooalkkbaaDoorW.PrintMore
attribute [local go_sem] max2_int min2_int max_two min_two max_three min_three max_four min_four   -- for this text's walks alone
set_option linter.unusedVariables false
set_option linter.unusedSimpArgs false

/-! ### printer_rung: function 25 -/
mutual
def printer_rung.j0 : Nat → Int → Int → Int → Int → ByteArray → List (S44) → List (S47) → ByteArray → Option (Int)
 | 0, _, _, _, _, _, _, _, _ => none
 | k + 1, x123000, x123001, x123002, x123003, x124000, x124001, x124002, x124003 => if (x124001.length : Int) > 256 then (some 10) else (printer_rung.l0 k x124001 (x124001.length : Int) 0 x123000 x123001 x123002 x123003 x124000 x124001 x124002 x124003)
def printer_rung.l0 : Nat → List (S44) → Int → Int → Int → Int → Int → Int → ByteArray → List (S44) → List (S47) → ByteArray → Option (Int)
 | 0, _, _, _, _, _, _, _, _, _, _, _ => none
 | k + 1, x30, x31, x32, x123000, x123001, x123002, x123003, x124000, x124001, x124002, x124003 => if x32 < x31 then (if 0 ≤ x32 then (if x32 < (x30.length : Int) then ((printer_part.f x123000 x123001 x123002 x123003 ((rd_T44 x30 x32).f0) ((rd_T44 x30 x32).f1.f0) ((rd_T44 x30 x32).f1.f1)).bind fun t128 => (if t128 = 0 then ((lex_IsName.f ((rd_T44 x30 x32).f2)).bind fun t129 => (if t129 = true then ((lex_IsName.f ((rd_T44 x30 x32).f3)).bind fun t130 => (if t130 = true then (printer_rung.l0 k x30 x31 (wrap64 (x32 + 1)) x123000 x123001 x123002 x123003 x124000 x124001 x124002 x124003) else (some 6))) else (some 6))) else (some t128))) else (none)) else (none)) else (if (x124002.length : Int) > 16 then (some 10) else (printer_rung.l1 k x124002 (x124002.length : Int) 0 x123000 x123001 x123002 x123003 x124000 x124001 x124002 x124003))
def printer_rung.l1 : Nat → List (S47) → Int → Int → Int → Int → Int → Int → ByteArray → List (S44) → List (S47) → ByteArray → Option (Int)
 | 0, _, _, _, _, _, _, _, _, _, _, _ => none
 | k + 1, x61, x62, x63, x123000, x123001, x123002, x123003, x124000, x124001, x124002, x124003 => if x63 < x62 then (if 0 ≤ x63 then (if x63 < (x61.length : Int) then ((printer_part.f x123000 x123001 x123002 x123003 ((rd_T47 x61 x63).f0) ((rd_T47 x61 x63).f1.f0) ((rd_T47 x61 x63).f1.f1)).bind fun t134 => (if t134 = 0 then (if ((rd_T47 x61 x63).f1.f0) = 0 then (some 2) else (printer_rung.l1 k x61 x62 (wrap64 (x63 + 1)) x123000 x123001 x123002 x123003 x124000 x124001 x124002 x124003)) else (some t134))) else (none)) else (none)) else (if x124003.toList = ([] : List UInt8) then (some 0) else ((lex_IsName.f x124003).bind fun t131 => (if t131 = true then (some 0) else (some 6))))
end
def printer_rung.f (k : Nat) (a0_0 : Int) (a0_1 : Int) (a0_2 : Int) (a0_3 : Int) (l1 : List (S28)) (a2_0 : ByteArray) (l2_1 : List (S44)) (l2_2 : List (S47)) (a2_3 : ByteArray) : Option (Int) := if a2_0.toList = ([] : List UInt8) then (printer_rung.j0 k a0_0 a0_1 a0_2 a0_3 a2_0 l2_1 l2_2 a2_3) else ((lex_IsName.f a2_0).bind fun t124 => (if t124 = true then ((printer_rung_1.f l1 a2_0).bind fun t125 => (if t125 = true then (some 9) else (printer_rung.j0 k a0_0 a0_1 a0_2 a0_3 a2_0 l2_1 l2_2 a2_3))) else (some 6)))
theorem printer_rung.mono_l : ∀ k, (∀ y0 y1 y2 y3 y4 y5 y6 y7, LeO (printer_rung.j0 k y0 y1 y2 y3 y4 y5 y6 y7) (printer_rung.j0 (k + 1) y0 y1 y2 y3 y4 y5 y6 y7)) ∧ (∀ y0 y1 y2 y3 y4 y5 y6 y7 y8 y9 y10, LeO (printer_rung.l0 k y0 y1 y2 y3 y4 y5 y6 y7 y8 y9 y10) (printer_rung.l0 (k + 1) y0 y1 y2 y3 y4 y5 y6 y7 y8 y9 y10)) ∧ (∀ y0 y1 y2 y3 y4 y5 y6 y7 y8 y9 y10, LeO (printer_rung.l1 k y0 y1 y2 y3 y4 y5 y6 y7 y8 y9 y10) (printer_rung.l1 (k + 1) y0 y1 y2 y3 y4 y5 y6 y7 y8 y9 y10))
 | 0 => ⟨fun _ _ _ _ _ _ _ _ r h => by simp [printer_rung.j0] at h, fun _ _ _ _ _ _ _ _ _ _ _ r h => by simp [printer_rung.l0] at h, fun _ _ _ _ _ _ _ _ _ _ _ r h => by simp [printer_rung.l1] at h⟩
 | k + 1 => by
  obtain ⟨ih0, ih1, ih2⟩ := printer_rung.mono_l k
  refine ⟨?_, ?_, ?_⟩
  ·intro y0 y1 y2 y3 y4 y5 y6 y7
   unfold printer_rung.j0
   repeat' first
   | (with_reducible exact ih0 _ _ _ _ _ _ _ _)
   | (with_reducible exact ih1 _ _ _ _ _ _ _ _ _ _ _)
   | (with_reducible exact ih2 _ _ _ _ _ _ _ _ _ _ _)
   | (with_reducible exact LeO.refl _)
   | (with_reducible exact LeO.none _)
   | (with_reducible refine LeO.ite ?_ ?_)
   | (with_reducible refine LeO.bind ?_ (fun _ => ?_))
   | exact ih0 _ _ _ _ _ _ _ _
   | exact ih1 _ _ _ _ _ _ _ _ _ _ _
   | exact ih2 _ _ _ _ _ _ _ _ _ _ _
   | exact LeO.none _
   | refine LeO.ite ?_ ?_
   | refine LeO.bind ?_ (fun _ => ?_)
  ·intro y0 y1 y2 y3 y4 y5 y6 y7 y8 y9 y10
   unfold printer_rung.l0
   repeat' first
   | (with_reducible exact ih0 _ _ _ _ _ _ _ _)
   | (with_reducible exact ih1 _ _ _ _ _ _ _ _ _ _ _)
   | (with_reducible exact ih2 _ _ _ _ _ _ _ _ _ _ _)
   | (with_reducible exact LeO.refl _)
   | (with_reducible exact LeO.none _)
   | (with_reducible refine LeO.ite ?_ ?_)
   | (with_reducible refine LeO.bind ?_ (fun _ => ?_))
   | exact ih0 _ _ _ _ _ _ _ _
   | exact ih1 _ _ _ _ _ _ _ _ _ _ _
   | exact ih2 _ _ _ _ _ _ _ _ _ _ _
   | exact LeO.none _
   | refine LeO.ite ?_ ?_
   | refine LeO.bind ?_ (fun _ => ?_)
  ·intro y0 y1 y2 y3 y4 y5 y6 y7 y8 y9 y10
   unfold printer_rung.l1
   repeat' first
   | (with_reducible exact ih0 _ _ _ _ _ _ _ _)
   | (with_reducible exact ih1 _ _ _ _ _ _ _ _ _ _ _)
   | (with_reducible exact ih2 _ _ _ _ _ _ _ _ _ _ _)
   | (with_reducible exact LeO.refl _)
   | (with_reducible exact LeO.none _)
   | (with_reducible refine LeO.ite ?_ ?_)
   | (with_reducible refine LeO.bind ?_ (fun _ => ?_))
   | exact ih0 _ _ _ _ _ _ _ _
   | exact ih1 _ _ _ _ _ _ _ _ _ _ _
   | exact ih2 _ _ _ _ _ _ _ _ _ _ _
   | exact LeO.none _
   | refine LeO.ite ?_ ?_
   | refine LeO.bind ?_ (fun _ => ?_)
theorem printer_rung.mono : ∀ a0 a1 a2 a3 a4 a5 a6 a7 a8 k, LeO (printer_rung.f k a0 a1 a2 a3 a4 a5 a6 a7 a8) (printer_rung.f (k + 1) a0 a1 a2 a3 a4 a5 a6 a7 a8) := by
 intro a0 a1 a2 a3 a4 a5 a6 a7 a8 k
 obtain ⟨ih0, ih1, ih2⟩ := printer_rung.mono_l k
 unfold printer_rung.f
 repeat' first
   | (with_reducible exact ih0 _ _ _ _ _ _ _ _)
   | (with_reducible exact ih1 _ _ _ _ _ _ _ _ _ _ _)
   | (with_reducible exact ih2 _ _ _ _ _ _ _ _ _ _ _)
   | (with_reducible exact LeO.refl _)
   | (with_reducible exact LeO.none _)
   | (with_reducible refine LeO.ite ?_ ?_)
   | (with_reducible refine LeO.bind ?_ (fun _ => ?_))
   | exact ih0 _ _ _ _ _ _ _ _
   | exact ih1 _ _ _ _ _ _ _ _ _ _ _
   | exact ih2 _ _ _ _ _ _ _ _ _ _ _
   | exact LeO.none _
   | refine LeO.ite ?_ ?_
   | refine LeO.bind ?_ (fun _ => ?_)
set_option maxHeartbeats 8000000 in
set_option maxRecDepth 100000 in
theorem printer_rung.calls (k : Nat) (a0_0 : Int) (a0_1 : Int) (a0_2 : Int) (a0_3 : Int) (A1 : Option Addr) (c1 : Nat) (l1 : List (S28)) (a2_0 : ByteArray) (A2_1 : Option Addr) (c2_1 : Nat) (l2_1 : List (S44)) (A2_2 : Option Addr) (c2_2 : Nat) (l2_2 : List (S47)) (a2_3 : ByteArray) (r : Int) (w : World) (hr1 : Kd.C k28 w A1 l1.length l1) (hc1 : l1.length ≤ c1) (hr2_1 : Kd.C k44 w A2_1 l2_1.length l2_1) (hc2_1 : l2_1.length ≤ c2_1) (hr2_2 : Kd.C k47 w A2_2 l2_2.length l2_2) (hc2_2 : l2_2.length ≤ c2_2) (h : printer_rung.f k a0_0 a0_1 a0_2 a0_3 l1 a2_0 l2_1 l2_2 a2_3 = some r) :
  Calls Tryd.prog 25 #[.agg #[.int .i64 a0_0, .int .i64 a0_1, .int .i64 a0_2, .int .i64 a0_3], .slice A1 l1.length c1, .agg #[.string a2_0, .slice A2_1 l2_1.length c2_1, .slice A2_2 l2_2.length c2_2, .string a2_3]] w fun e w' => e = .returned (.int .i64 r) ∧ Below w.heap.size w w' := by
 have hu70 := Tryd.underlying70
 have hu28 := Tryd.underlying28
 have hu44 := Tryd.underlying44
 have hu42 := Tryd.underlying42
 have hu47 := Tryd.underlying47
 have HR1 := Aside0.mk hr1
 have HC1 := Aside0.mk hc1
 clear hr1 hc1
 have HR2_1 := Aside0.mk hr2_1
 have HC2_1 := Aside0.mk hc2_1
 clear hr2_1 hc2_1
 have HR2_2 := Aside0.mk hr2_2
 have HC2_2 := Aside0.mk hc2_2
 clear hr2_2 hc2_2
 have HB := Aside0.mk (Below.refl w.heap.size w)
 have H : (if a2_0.toList = ([] : List UInt8) then (printer_rung.j0 k a0_0 a0_1 a0_2 a0_3 a2_0 l2_1 l2_2 a2_3) else ((lex_IsName.f a2_0).bind fun t124 => (if t124 = true then ((printer_rung_1.f l1 a2_0).bind fun t125 => (if t125 = true then (some 9) else (printer_rung.j0 k a0_0 a0_1 a0_2 a0_3 a2_0 l2_1 l2_2 a2_3))) else (some 6)))) = some r := h
 clear h
 have HC4 := Aside0.mk H
 clear H
 go_enter Tryd.func25, Tryd.ntmps25
 go_upto_if 15 with (first | ((with_reducible refine gate_dst (N := 3) rfl ?_); refine box_event ?hg (N := 3) ?hd (cs := #[.int .i64 a0_0, .int .i64 a0_1, .int .i64 a0_2, .int .i64 a0_3]) (t := 70) ?hr ?_; (case hd => rfl); (case hg => rfl); (case hr => first | (go_simp; done) | (go_simp; rfl)); intro gb122 hg w5 hbox hb; have n0_ := Aside0.mk (below_step (by repeat (first | (with_reducible first | exact HB.out | apply below_alloc | apply pw_below_drewN | apply below_drew1) | exact HB.out)) hb); have n1_ := Aside0.mk (hbox); have n2_ := Aside0.mk ((by rw [hg]; exact (below_size (by repeat (first | (with_reducible first | exact HB.out | apply below_alloc | apply pw_below_drewN | apply below_drew1) | exact HB.out))) : w.heap.size ≤ gb122)); have n3_ := Aside0.mk ((by rw [hg]; exact (below_size (by repeat (first | (with_reducible first | exact HB.out | apply below_alloc | apply pw_below_drewN | apply below_drew1) | exact HB.out))) : w.heap.size ≤ gb122)); clear HB; have HB := n0_; have BK122 := n1_; have GW122 := n2_; have GE122 := n3_; clear n0_ n1_ n2_ n3_; clear hb hbox hg) | ((with_reducible refine gate_dst (N := 5) rfl ?_); refine box_event ?hg (N := 5) ?hd (cs := #[.string a2_0, .slice A2_1 l2_1.length c2_1, .slice A2_2 l2_2.length c2_2, .string a2_3]) (t := 28) ?hr ?_; (case hd => rfl); (case hg => rfl); (case hr => first | (go_simp; done) | (go_simp; rfl)); intro gb123 hg w6 hbox hb; have n0_ := Aside0.mk (blk_below (g := gb122) (o := .cells #[.int .i64 a0_0, .int .i64 a0_1, .int .i64 a0_2, .int .i64 a0_3] 70 (0, 0)) (by (with_reducible repeat (first | refine blk_drewN ?_ _ | refine blk_drew ?_ | refine blk_alloc ?_ _)); exact BK122.out) hb); have n1_ := Aside0.mk (below_step (by repeat (first | (with_reducible first | exact HB.out | apply below_alloc | apply pw_below_drewN | apply below_drew1 | refine below_set ?_ GE122.out) | exact HB.out)) hb); have n2_ := Aside0.mk (hbox); have n3_ := Aside0.mk ((by rw [hg]; exact (below_size (by repeat (first | (with_reducible first | exact HB.out | apply below_alloc | apply pw_below_drewN | apply below_drew1 | refine below_set ?_ GE122.out) | exact HB.out))) : w.heap.size ≤ gb123)); have n4_ := Aside0.mk ((by rw [hg]; exact (below_size (by repeat (first | (with_reducible first | exact HB.out | apply below_alloc | apply pw_below_drewN | apply below_drew1 | refine below_set ?_ GE122.out) | exact HB.out))) : w.heap.size ≤ gb123)); have n5_ := Aside0.mk ((by rw [hg]; exact Nat.ne_of_lt (blk_lt (g := gb122) (o := .cells #[.int .i64 a0_0, .int .i64 a0_1, .int .i64 a0_2, .int .i64 a0_3] 70 (0, 0)) (by (with_reducible repeat (first | refine blk_drewN ?_ _ | refine blk_drew ?_ | refine blk_alloc ?_ _)); exact BK122.out)) : gb122 ≠ gb123)); have n6_ := Aside0.mk ((by rw [hg]; exact Nat.ne_of_gt (blk_lt (g := gb122) (o := .cells #[.int .i64 a0_0, .int .i64 a0_1, .int .i64 a0_2, .int .i64 a0_3] 70 (0, 0)) (by (with_reducible repeat (first | refine blk_drewN ?_ _ | refine blk_drew ?_ | refine blk_alloc ?_ _)); exact BK122.out)) : gb123 ≠ gb122)); clear BK122; clear HB; have BK122 := n0_; have HB := n1_; have BK123 := n2_; have GW123 := n3_; have GE123 := n4_; have NB122_123 := n5_; have NB123_122 := n6_; clear n0_ n1_ n2_ n3_ n4_ n5_ n6_; clear hb hbox hg; have hnb7 := NB123_122.out; have hnc7 := NB122_123.out; have hcz8_0 : w6.cell? ⟨gb123, 0, none⟩ = some (.string a2_0) := (blk_cell BK123.out 0).trans rfl; have hcz8_1 : w6.cell? ⟨gb123, 1, none⟩ = some (.slice A2_1 l2_1.length c2_1) := (blk_cell BK123.out 1).trans rfl; have hcz8_2 : w6.cell? ⟨gb123, 2, none⟩ = some (.slice A2_2 l2_2.length c2_2) := (blk_cell BK123.out 2).trans rfl; have hcz8_3 : w6.cell? ⟨gb123, 3, none⟩ = some (.string a2_3) := (blk_cell BK123.out 3).trans rfl; have hfz8_0 := blk_frozen BK123.out 0; have hfz8_1 := blk_frozen BK123.out 1; have hfz8_2 := blk_frozen BK123.out 2; have hfz8_3 := blk_frozen BK123.out 3))
 (try simp only [Act.put, List.setIfInBounds_toArray, List.set_cons_zero, List.set_cons_succ])
 go_cut [] (fun wc => ∃ (kq : Nat), Aside0 (printer_rung.j0 kq a0_0 a0_1 a0_2 a0_3 a2_0 l2_1 l2_2 a2_3 = some r) ∧ Aside0 (kq ≤ k) ∧ Aside0 (wc.heap[gb122]? = some (.cells #[.int .i64 a0_0, .int .i64 a0_1, .int .i64 a0_2, .int .i64 a0_3] 70 (0, 0))) ∧ Aside0 (wc.heap[gb123]? = some (.cells #[.string a2_0, (.slice A2_1 l2_1.length c2_1), (.slice A2_2 l2_2.length c2_2), .string a2_3] 28 (0, 0))) ∧ Aside0 (Below w.heap.size w wc))
 case first =>
  have H := HC4.out
  clear HC4
  by_cases c9 : a2_0.toList = ([] : List UInt8)
  ·rw [if_pos c9] at H
   have c9b0 : (a2_0.toList == ([] : List UInt8)) = true := beq_iff_eq.mpr c9
   have c9b1 : (a2_0.toList != ([] : List UInt8)) = false := bne_eq_false_iff_eq.mpr c9
   (try (have c9b2 : a2_0.toList.isEmpty = true := List.isEmpty_iff.mpr c9))
   (try (have c9b3 : (!a2_0.toList.isEmpty) = false := by rw [List.isEmpty_iff.mpr c9]; rfl))
   clear c9
   (first | rw [c9b0] | (simp only [i64_w, i32_w]; rw [c9b0]) | rw [c9b3] | rw [c9b2] | skip)
   have H' := Aside0.mk H
   clear H
   go_wp2
   go_meet
   case rel => exact ⟨_, H', ⟨by first | omega | exact Nat.le_refl _⟩, ⟨by (with_reducible repeat (first | refine blk_drewN ?_ _ | refine blk_drew ?_ | refine blk_alloc ?_ _)); exact BK122.out⟩, ⟨by (with_reducible repeat (first | refine blk_drewN ?_ _ | refine blk_drew ?_ | refine blk_alloc ?_ _)); exact BK123.out⟩, ⟨by repeat (first | (with_reducible first | exact HB.out | apply below_alloc | apply pw_below_drewN | apply below_drew1 | refine below_set ?_ GE122.out | refine below_set ?_ GE123.out) | exact HB.out)⟩⟩
  ·rw [if_neg c9] at H
   have c9b0 : (a2_0.toList == ([] : List UInt8)) = false := beq_eq_false_iff_ne.mpr c9
   have c9b1 : (a2_0.toList != ([] : List UInt8)) = true := bne_iff_ne.mpr c9
   (try (have c9b2 : a2_0.toList.isEmpty = false := List.isEmpty_eq_false_iff.mpr c9))
   (try (have c9b3 : (!a2_0.toList.isEmpty) = true := by rw [List.isEmpty_eq_false_iff.mpr c9]; rfl))
   (first | rw [c9b0] | (simp only [i64_w, i32_w]; rw [c9b0]) | rw [c9b3] | rw [c9b2] | skip)
   replace H := Option.bind_eq_some_iff.mp H
   obtain ⟨t124, A100, H⟩ := H
   replace H : (if t124 = true then ((printer_rung_1.f l1 a2_0).bind fun t125 => (if t125 = true then (some 9) else (printer_rung.j0 k a0_0 a0_1 a0_2 a0_3 a2_0 l2_1 l2_2 a2_3))) else (some 6)) = some r := H
   have A10 := Aside0.mk A100
   clear A100
   by_cases c11 : t124 = true
   ·subst c11
    have H1 : ((printer_rung_1.f l1 a2_0).bind fun t125 => (if t125 = true then (some 9) else (printer_rung.j0 k a0_0 a0_1 a0_2 a0_3 a2_0 l2_1 l2_2 a2_3))) = some r := by rw [if_pos rfl] at H; exact H
    clear H
    have H := H1
    clear H1
    replace H := Option.bind_eq_some_iff.mp H
    obtain ⟨t125, A120, H⟩ := H
    replace H : (if t125 = true then (some 9) else (printer_rung.j0 k a0_0 a0_1 a0_2 a0_3 a2_0 l2_1 l2_2 a2_3)) = some r := H
    have A12 := Aside0.mk A120
    clear A120
    by_cases c13 : t125 = true
    ·subst c13
     have H1 : (some 9) = some r := by rw [if_pos rfl] at H; exact H
     clear H
     have H := H1
     clear H1
     obtain rfl := Option.some.inj H
     have hnb14 := NB123_122.out
     have hnc14 := NB122_123.out
     have hcz15_0 : w6.cell? ⟨gb123, 0, none⟩ = some (.string a2_0) := (blk_cell BK123.out 0).trans rfl
     have hcz15_1 : w6.cell? ⟨gb123, 1, none⟩ = some (.slice A2_1 l2_1.length c2_1) := (blk_cell BK123.out 1).trans rfl
     have hcz15_2 : w6.cell? ⟨gb123, 2, none⟩ = some (.slice A2_2 l2_2.length c2_2) := (blk_cell BK123.out 2).trans rfl
     have hcz15_3 : w6.cell? ⟨gb123, 3, none⟩ = some (.string a2_3) := (blk_cell BK123.out 3).trans rfl
     have hfz15_0 := blk_frozen BK123.out 0
     have hfz15_1 := blk_frozen BK123.out 1
     have hfz15_2 := blk_frozen BK123.out 2
     have hfz15_3 := blk_frozen BK123.out 3
     go_wp2_with (first | ((with_reducible refine gate_callee (f := 43) rfl ?_); refine goesL_ (some 19) rfl rfl Tryd.func43 (by kernel_rfl) rfl #[.string a2_0] rfl (by (try simp only [List.map_toArray, List.map_cons, List.map_nil]); first | done | rfl | (simp only [List.length_drop, List.length_take]; rfl)) ?_; (with_reducible refine (lex_IsName.calls a2_0 true _ A10.out).mono ?_); rintro e w16 ⟨rfl, hb⟩; refine ⟨_, rfl, ?_⟩; have n0_ := Aside0.mk (blk_below (g := gb122) (o := .cells #[.int .i64 a0_0, .int .i64 a0_1, .int .i64 a0_2, .int .i64 a0_3] 70 (0, 0)) (by (with_reducible repeat (first | refine blk_drewN ?_ _ | refine blk_drew ?_ | refine blk_alloc ?_ _)); exact BK122.out) hb); have n1_ := Aside0.mk (blk_below (g := gb123) (o := .cells #[.string a2_0, .slice A2_1 l2_1.length c2_1, .slice A2_2 l2_2.length c2_2, .string a2_3] 28 (0, 0)) (by (with_reducible repeat (first | refine blk_drewN ?_ _ | refine blk_drew ?_ | refine blk_alloc ?_ _)); exact BK123.out) hb); have n2_ := Aside0.mk (below_step (by repeat (first | (with_reducible first | exact HB.out | apply below_alloc | apply pw_below_drewN | apply below_drew1 | refine below_set ?_ GE122.out | refine below_set ?_ GE123.out) | exact HB.out)) hb); clear BK122; clear BK123; clear HB; have BK122 := n0_; have BK123 := n1_; have HB := n2_; clear n0_ n1_ n2_; (try clear hb); (try clear hb2); (try clear hk); (try clear hi)) | (go_at_call 26; (with_reducible refine (printer_rung_1.calls _ _ l1 a2_0 true _ ?side3 ?side1 ?side2 A12.out).mono ?_); (case side1 => repeat (first | exact (Kd.C_below HR1.out HB.out) | (with_reducible refine Kd.C_alloc ?_ _) | (with_reducible refine Kd.C_drewN ?_ _) | (with_reducible refine Kd.C_drew ?_))); (case side2 => exact HC1.out); (case side3 => apply box_fact; ((with_reducible repeat (first | refine blk_drewN ?_ _ | refine blk_drew ?_ | refine blk_alloc ?_ _)); exact BK123.out); rfl); rintro e w17 ⟨rfl, hb⟩; have n0_ := Aside0.mk (blk_below (g := gb122) (o := .cells #[.int .i64 a0_0, .int .i64 a0_1, .int .i64 a0_2, .int .i64 a0_3] 70 (0, 0)) (by (with_reducible repeat (first | refine blk_drewN ?_ _ | refine blk_drew ?_ | refine blk_alloc ?_ _)); exact BK122.out) hb); have n1_ := Aside0.mk (blk_below (g := gb123) (o := .cells #[.string a2_0, .slice A2_1 l2_1.length c2_1, .slice A2_2 l2_2.length c2_2, .string a2_3] 28 (0, 0)) (by (with_reducible repeat (first | refine blk_drewN ?_ _ | refine blk_drew ?_ | refine blk_alloc ?_ _)); exact BK123.out) hb); have n2_ := Aside0.mk (below_step (by repeat (first | (with_reducible first | exact HB.out | apply below_alloc | apply pw_below_drewN | apply below_drew1 | refine below_set ?_ GE122.out | refine below_set ?_ GE123.out) | exact HB.out)) hb); clear BK122; clear BK123; clear HB; have BK122 := n0_; have BK123 := n1_; have HB := n2_; clear n0_ n1_ n2_; (try clear hb); (try clear hb2); (try clear hk); (try clear hi)))
     go_ret
     exact ⟨by first | rfl | (simp [errW_none, errW_some] <;> rfl) | (simp [*, errW_none, errW_some] <;> rfl), by repeat (first | (with_reducible first | exact HB.out | apply below_alloc | apply pw_below_drewN | apply below_drew1 | refine below_set ?_ GE122.out | refine below_set ?_ GE123.out) | exact HB.out)⟩
    ·replace c13 := Bool.eq_false_iff.mpr c13
     subst c13
     have H1 : (printer_rung.j0 k a0_0 a0_1 a0_2 a0_3 a2_0 l2_1 l2_2 a2_3) = some r := by rw [if_neg (show ¬ (false = true) by decide)] at H; exact H
     clear H
     have H := H1
     clear H1
     have H' := Aside0.mk H
     clear H
     have hnb18 := NB123_122.out
     have hnc18 := NB122_123.out
     have hcz19_0 : w6.cell? ⟨gb123, 0, none⟩ = some (.string a2_0) := (blk_cell BK123.out 0).trans rfl
     have hcz19_1 : w6.cell? ⟨gb123, 1, none⟩ = some (.slice A2_1 l2_1.length c2_1) := (blk_cell BK123.out 1).trans rfl
     have hcz19_2 : w6.cell? ⟨gb123, 2, none⟩ = some (.slice A2_2 l2_2.length c2_2) := (blk_cell BK123.out 2).trans rfl
     have hcz19_3 : w6.cell? ⟨gb123, 3, none⟩ = some (.string a2_3) := (blk_cell BK123.out 3).trans rfl
     have hfz19_0 := blk_frozen BK123.out 0
     have hfz19_1 := blk_frozen BK123.out 1
     have hfz19_2 := blk_frozen BK123.out 2
     have hfz19_3 := blk_frozen BK123.out 3
     go_wp2_with (first | ((with_reducible refine gate_callee (f := 43) rfl ?_); refine goesL_ (some 19) rfl rfl Tryd.func43 (by kernel_rfl) rfl #[.string a2_0] rfl (by (try simp only [List.map_toArray, List.map_cons, List.map_nil]); first | done | rfl | (simp only [List.length_drop, List.length_take]; rfl)) ?_; (with_reducible refine (lex_IsName.calls a2_0 true _ A10.out).mono ?_); rintro e w20 ⟨rfl, hb⟩; refine ⟨_, rfl, ?_⟩; have n0_ := Aside0.mk (blk_below (g := gb122) (o := .cells #[.int .i64 a0_0, .int .i64 a0_1, .int .i64 a0_2, .int .i64 a0_3] 70 (0, 0)) (by (with_reducible repeat (first | refine blk_drewN ?_ _ | refine blk_drew ?_ | refine blk_alloc ?_ _)); exact BK122.out) hb); have n1_ := Aside0.mk (blk_below (g := gb123) (o := .cells #[.string a2_0, .slice A2_1 l2_1.length c2_1, .slice A2_2 l2_2.length c2_2, .string a2_3] 28 (0, 0)) (by (with_reducible repeat (first | refine blk_drewN ?_ _ | refine blk_drew ?_ | refine blk_alloc ?_ _)); exact BK123.out) hb); have n2_ := Aside0.mk (below_step (by repeat (first | (with_reducible first | exact HB.out | apply below_alloc | apply pw_below_drewN | apply below_drew1 | refine below_set ?_ GE122.out | refine below_set ?_ GE123.out) | exact HB.out)) hb); clear BK122; clear BK123; clear HB; have BK122 := n0_; have BK123 := n1_; have HB := n2_; clear n0_ n1_ n2_; (try clear hb); (try clear hb2); (try clear hk); (try clear hi)) | (go_at_call 26; (with_reducible refine (printer_rung_1.calls _ _ l1 a2_0 false _ ?side3 ?side1 ?side2 A12.out).mono ?_); (case side1 => repeat (first | exact (Kd.C_below HR1.out HB.out) | (with_reducible refine Kd.C_alloc ?_ _) | (with_reducible refine Kd.C_drewN ?_ _) | (with_reducible refine Kd.C_drew ?_))); (case side2 => exact HC1.out); (case side3 => apply box_fact; ((with_reducible repeat (first | refine blk_drewN ?_ _ | refine blk_drew ?_ | refine blk_alloc ?_ _)); exact BK123.out); rfl); rintro e w21 ⟨rfl, hb⟩; have n0_ := Aside0.mk (blk_below (g := gb122) (o := .cells #[.int .i64 a0_0, .int .i64 a0_1, .int .i64 a0_2, .int .i64 a0_3] 70 (0, 0)) (by (with_reducible repeat (first | refine blk_drewN ?_ _ | refine blk_drew ?_ | refine blk_alloc ?_ _)); exact BK122.out) hb); have n1_ := Aside0.mk (blk_below (g := gb123) (o := .cells #[.string a2_0, .slice A2_1 l2_1.length c2_1, .slice A2_2 l2_2.length c2_2, .string a2_3] 28 (0, 0)) (by (with_reducible repeat (first | refine blk_drewN ?_ _ | refine blk_drew ?_ | refine blk_alloc ?_ _)); exact BK123.out) hb); have n2_ := Aside0.mk (below_step (by repeat (first | (with_reducible first | exact HB.out | apply below_alloc | apply pw_below_drewN | apply below_drew1 | refine below_set ?_ GE122.out | refine below_set ?_ GE123.out) | exact HB.out)) hb); clear BK122; clear BK123; clear HB; have BK122 := n0_; have BK123 := n1_; have HB := n2_; clear n0_ n1_ n2_; (try clear hb); (try clear hb2); (try clear hk); (try clear hi)))
     go_meet
     case rel => exact ⟨_, H', ⟨by first | omega | exact Nat.le_refl _⟩, ⟨by (with_reducible repeat (first | refine blk_drewN ?_ _ | refine blk_drew ?_ | refine blk_alloc ?_ _)); exact BK122.out⟩, ⟨by (with_reducible repeat (first | refine blk_drewN ?_ _ | refine blk_drew ?_ | refine blk_alloc ?_ _)); exact BK123.out⟩, ⟨by repeat (first | (with_reducible first | exact HB.out | apply below_alloc | apply pw_below_drewN | apply below_drew1 | refine below_set ?_ GE122.out | refine below_set ?_ GE123.out) | exact HB.out)⟩⟩
   ·replace c11 := Bool.eq_false_iff.mpr c11
    subst c11
    have H1 : (some 6) = some r := by rw [if_neg (show ¬ (false = true) by decide)] at H; exact H
    clear H
    have H := H1
    clear H1
    obtain rfl := Option.some.inj H
    have hnb22 := NB123_122.out
    have hnc22 := NB122_123.out
    have hcz23_0 : w6.cell? ⟨gb123, 0, none⟩ = some (.string a2_0) := (blk_cell BK123.out 0).trans rfl
    have hcz23_1 : w6.cell? ⟨gb123, 1, none⟩ = some (.slice A2_1 l2_1.length c2_1) := (blk_cell BK123.out 1).trans rfl
    have hcz23_2 : w6.cell? ⟨gb123, 2, none⟩ = some (.slice A2_2 l2_2.length c2_2) := (blk_cell BK123.out 2).trans rfl
    have hcz23_3 : w6.cell? ⟨gb123, 3, none⟩ = some (.string a2_3) := (blk_cell BK123.out 3).trans rfl
    have hfz23_0 := blk_frozen BK123.out 0
    have hfz23_1 := blk_frozen BK123.out 1
    have hfz23_2 := blk_frozen BK123.out 2
    have hfz23_3 := blk_frozen BK123.out 3
    go_wp2_with (first | ((with_reducible refine gate_callee (f := 43) rfl ?_); refine goesL_ (some 19) rfl rfl Tryd.func43 (by kernel_rfl) rfl #[.string a2_0] rfl (by (try simp only [List.map_toArray, List.map_cons, List.map_nil]); first | done | rfl | (simp only [List.length_drop, List.length_take]; rfl)) ?_; (with_reducible refine (lex_IsName.calls a2_0 false _ A10.out).mono ?_); rintro e w24 ⟨rfl, hb⟩; refine ⟨_, rfl, ?_⟩; have n0_ := Aside0.mk (blk_below (g := gb122) (o := .cells #[.int .i64 a0_0, .int .i64 a0_1, .int .i64 a0_2, .int .i64 a0_3] 70 (0, 0)) (by (with_reducible repeat (first | refine blk_drewN ?_ _ | refine blk_drew ?_ | refine blk_alloc ?_ _)); exact BK122.out) hb); have n1_ := Aside0.mk (blk_below (g := gb123) (o := .cells #[.string a2_0, .slice A2_1 l2_1.length c2_1, .slice A2_2 l2_2.length c2_2, .string a2_3] 28 (0, 0)) (by (with_reducible repeat (first | refine blk_drewN ?_ _ | refine blk_drew ?_ | refine blk_alloc ?_ _)); exact BK123.out) hb); have n2_ := Aside0.mk (below_step (by repeat (first | (with_reducible first | exact HB.out | apply below_alloc | apply pw_below_drewN | apply below_drew1 | refine below_set ?_ GE122.out | refine below_set ?_ GE123.out) | exact HB.out)) hb); clear BK122; clear BK123; clear HB; have BK122 := n0_; have BK123 := n1_; have HB := n2_; clear n0_ n1_ n2_; (try clear hb); (try clear hb2); (try clear hk); (try clear hi)))
    go_ret
    exact ⟨by first | rfl | (simp [errW_none, errW_some] <;> rfl) | (simp [*, errW_none, errW_some] <;> rfl), by repeat (first | (with_reducible first | exact HB.out | apply below_alloc | apply pw_below_drewN | apply below_drew1 | refine below_set ?_ GE122.out | refine below_set ?_ GE123.out) | exact HB.out)⟩
 case rest =>
  clear HC4
  try clear c1
  try clear c2
  try clear p2
  try clear c4
  try clear c7
  try clear c9
  try clear c9b0
  try clear c9b1
  try clear c9b2
  try clear c11
  try clear c13
  try clear c14
  try clear c18
  try clear c22
  try clear hcz15_0
  try clear hcz15_1
  try clear hcz15_2
  try clear hcz15_3
  try clear hcz19_0
  try clear hcz19_1
  try clear hcz19_2
  try clear hcz19_3
  try clear hcz23_0
  try clear hcz23_1
  try clear hcz23_2
  try clear hcz23_3
  try clear hcz8_0
  try clear hcz8_1
  try clear hcz8_2
  try clear hcz8_3
  try clear hfz15_0
  try clear hfz15_1
  try clear hfz15_2
  try clear hfz15_3
  try clear hfz19_0
  try clear hfz19_1
  try clear hfz19_2
  try clear hfz19_3
  try clear hfz23_0
  try clear hfz23_1
  try clear hfz23_2
  try clear hfz23_3
  try clear hfz8_0
  try clear hfz8_1
  try clear hfz8_2
  try clear hfz8_3
  obtain ⟨kq, HA, HJ3, BK122, BK123, HB⟩ := hcut
  cases kq with
  | zero => exact absurd HA.out (by simp [printer_rung.j0])
  | succ kj3 =>
   have H := HA.out
   clear HA
   simp only [printer_rung.j0] at H
   by_cases c25 : (l2_1.length : Int) > 256
   ·rw [if_pos c25] at H
    have c25b0 : decide (256 < (l2_1.length : Int)) = true := decide_eq_true c25
    have c25b1 : decide (256 < l2_1.length) = true := decide_eq_true (by omega)
    clear c25
    obtain rfl := Option.some.inj H
    have hnb26 := NB123_122.out
    have hnc26 := NB122_123.out
    have hcz27_0 : wc.cell? ⟨gb123, 0, none⟩ = some (.string a2_0) := (blk_cell BK123.out 0).trans rfl
    have hcz27_1 : wc.cell? ⟨gb123, 1, none⟩ = some (.slice A2_1 l2_1.length c2_1) := (blk_cell BK123.out 1).trans rfl
    have hcz27_2 : wc.cell? ⟨gb123, 2, none⟩ = some (.slice A2_2 l2_2.length c2_2) := (blk_cell BK123.out 2).trans rfl
    have hcz27_3 : wc.cell? ⟨gb123, 3, none⟩ = some (.string a2_3) := (blk_cell BK123.out 3).trans rfl
    have hfz27_0 := blk_frozen BK123.out 0
    have hfz27_1 := blk_frozen BK123.out 1
    have hfz27_2 := blk_frozen BK123.out 2
    have hfz27_3 := blk_frozen BK123.out 3
    go_wp2
    go_ret
    exact ⟨by first | rfl | (simp [errW_none, errW_some] <;> rfl) | (simp [*, errW_none, errW_some] <;> rfl), by repeat (first | (with_reducible first | exact HB.out | apply below_alloc | apply pw_below_drewN | apply below_drew1 | refine below_set ?_ GE122.out | refine below_set ?_ GE123.out) | exact HB.out)⟩
   ·rw [if_neg c25] at H
    have c25b0 : decide (256 < (l2_1.length : Int)) = false := decide_eq_false c25
    have c25b1 : decide (256 < l2_1.length) = false := decide_eq_false (by omega)
    clear c25
    have H' := Aside0.mk H
    clear H
    have hnb28 := NB123_122.out
    have hnc28 := NB122_123.out
    have hcz29_0 : wc.cell? ⟨gb123, 0, none⟩ = some (.string a2_0) := (blk_cell BK123.out 0).trans rfl
    have hcz29_1 : wc.cell? ⟨gb123, 1, none⟩ = some (.slice A2_1 l2_1.length c2_1) := (blk_cell BK123.out 1).trans rfl
    have hcz29_2 : wc.cell? ⟨gb123, 2, none⟩ = some (.slice A2_2 l2_2.length c2_2) := (blk_cell BK123.out 2).trans rfl
    have hcz29_3 : wc.cell? ⟨gb123, 3, none⟩ = some (.string a2_3) := (blk_cell BK123.out 3).trans rfl
    have hfz29_0 := blk_frozen BK123.out 0
    have hfz29_1 := blk_frozen BK123.out 1
    have hfz29_2 := blk_frozen BK123.out 2
    have hfz29_3 := blk_frozen BK123.out 3
    go_wp2
    go_loopg [32] kj3 (fun kq v32 w' => ∃ (x32_2 : Int), v32 = .int .i64 x32_2 ∧ Aside0 (printer_rung.l0 kq l2_1 (l2_1.length : Int) x32_2 a0_0 a0_1 a0_2 a0_3 a2_0 l2_1 l2_2 a2_3 = some r) ∧ Aside0 (kq ≤ kj3) ∧ Aside0 (w'.heap[gb122]? = some (.cells #[.int .i64 a0_0, .int .i64 a0_1, .int .i64 a0_2, .int .i64 a0_3] 70 (0, 0))) ∧ Aside0 (w'.heap[gb123]? = some (.cells #[.string a2_0, (.slice A2_1 l2_1.length c2_1), (.slice A2_2 l2_2.length c2_2), .string a2_3] 28 (0, 0))) ∧ Aside0 (Below w.heap.size w w'))
    case atStart => exact ⟨(0), (by first | rfl | (simp; done) | (simp [*]; done)), H', ⟨Nat.le_refl _⟩, ⟨by (with_reducible repeat (first | refine blk_drewN ?_ _ | refine blk_drew ?_ | refine blk_alloc ?_ _)); exact BK122.out⟩, ⟨by (with_reducible repeat (first | refine blk_drewN ?_ _ | refine blk_drew ?_ | refine blk_alloc ?_ _)); exact BK123.out⟩, ⟨by repeat (first | (with_reducible first | exact HB.out | apply below_alloc | apply pw_below_drewN | apply below_drew1 | refine below_set ?_ GE122.out | refine below_set ?_ GE123.out) | exact HB.out)⟩⟩
    case round =>
     clear H'
     try clear c1
     try clear c2
     try clear p2
     try clear c4
     try clear c7
     try clear c9
     try clear c9b0
     try clear c9b1
     try clear c9b2
     try clear c11
     try clear c13
     try clear c14
     try clear c18
     try clear c22
     try clear c25
     try clear c25b0
     try clear c25b1
     try clear c26
     try clear c28
     try clear hcz15_0
     try clear hcz15_1
     try clear hcz15_2
     try clear hcz15_3
     try clear hcz19_0
     try clear hcz19_1
     try clear hcz19_2
     try clear hcz19_3
     try clear hcz23_0
     try clear hcz23_1
     try clear hcz23_2
     try clear hcz23_3
     try clear hcz27_0
     try clear hcz27_1
     try clear hcz27_2
     try clear hcz27_3
     try clear hcz29_0
     try clear hcz29_1
     try clear hcz29_2
     try clear hcz29_3
     try clear hcz8_0
     try clear hcz8_1
     try clear hcz8_2
     try clear hcz8_3
     try clear hfz15_0
     try clear hfz15_1
     try clear hfz15_2
     try clear hfz15_3
     try clear hfz19_0
     try clear hfz19_1
     try clear hfz19_2
     try clear hfz19_3
     try clear hfz23_0
     try clear hfz23_1
     try clear hfz23_2
     try clear hfz23_3
     try clear hfz27_0
     try clear hfz27_1
     try clear hfz27_2
     try clear hfz27_3
     try clear hfz29_0
     try clear hfz29_1
     try clear hfz29_2
     try clear hfz29_3
     try clear hfz8_0
     try clear hfz8_1
     try clear hfz8_2
     try clear hfz8_3
     try clear p2
     obtain ⟨x32_2, rfl, HA, HK2, BK122, BK123, HB⟩ := hrel
     cases gk with
     | zero => exact absurd HA.out (by simp [printer_rung.l0])
     | succ k2 =>
      have H := HA.out
      clear HA
      simp only [printer_rung.l0] at H
      by_cases c30 : x32_2 < (l2_1.length : Int)
      ·rw [if_pos c30] at H
       have c30b0 : decide (x32_2 < (l2_1.length : Int)) = true := decide_eq_true c30
       clear c30
       by_cases c31 : 0 ≤ x32_2
       ·rw [if_pos c31] at H
        have c31b0 : decide (0 ≤ x32_2) = true := decide_eq_true c31
        clear c31
        by_cases c32 : x32_2 < (l2_1.length : Int)
        ·rw [if_pos c32] at H
         have c32b0 : decide (x32_2 < (l2_1.length : Int)) = true := decide_eq_true c32
         clear c32
         replace H := Option.bind_eq_some_iff.mp H
         obtain ⟨t128, A330, H⟩ := H
         replace H : (if t128 = 0 then ((lex_IsName.f ((rd_T44 l2_1 x32_2).f2)).bind fun t129 => (if t129 = true then ((lex_IsName.f ((rd_T44 l2_1 x32_2).f3)).bind fun t130 => (if t130 = true then (printer_rung.l0 k2 l2_1 (l2_1.length : Int) (wrap64 (x32_2 + 1)) a0_0 a0_1 a0_2 a0_3 a2_0 l2_1 l2_2 a2_3) else (some 6))) else (some 6))) else (some t128)) = some r := H
         have A33 := Aside0.mk A330
         clear A330
         by_cases c34 : t128 = 0
         ·rw [if_pos c34] at H
          have c34b0 : (t128 == 0) = true := beq_iff_eq.mpr c34
          have c34b1 : (t128 != 0) = false := bne_eq_false_iff_eq.mpr c34
          clear c34
          replace H := Option.bind_eq_some_iff.mp H
          obtain ⟨t129, A350, H⟩ := H
          replace H : (if t129 = true then ((lex_IsName.f ((rd_T44 l2_1 x32_2).f3)).bind fun t130 => (if t130 = true then (printer_rung.l0 k2 l2_1 (l2_1.length : Int) (wrap64 (x32_2 + 1)) a0_0 a0_1 a0_2 a0_3 a2_0 l2_1 l2_2 a2_3) else (some 6))) else (some 6)) = some r := H
          have A35 := Aside0.mk A350
          clear A350
          by_cases c36 : t129 = true
          ·subst c36
           have H1 : ((lex_IsName.f ((rd_T44 l2_1 x32_2).f3)).bind fun t130 => (if t130 = true then (printer_rung.l0 k2 l2_1 (l2_1.length : Int) (wrap64 (x32_2 + 1)) a0_0 a0_1 a0_2 a0_3 a2_0 l2_1 l2_2 a2_3) else (some 6))) = some r := by rw [if_pos rfl] at H; exact H
           clear H
           have H := H1
           clear H1
           replace H := Option.bind_eq_some_iff.mp H
           obtain ⟨t130, A370, H⟩ := H
           replace H : (if t130 = true then (printer_rung.l0 k2 l2_1 (l2_1.length : Int) (wrap64 (x32_2 + 1)) a0_0 a0_1 a0_2 a0_3 a2_0 l2_1 l2_2 a2_3) else (some 6)) = some r := H
           have A37 := Aside0.mk A370
           clear A370
           by_cases c38 : t130 = true
           ·subst c38
            have H1 : (printer_rung.l0 k2 l2_1 (l2_1.length : Int) (wrap64 (x32_2 + 1)) a0_0 a0_1 a0_2 a0_3 a2_0 l2_1 l2_2 a2_3) = some r := by rw [if_pos rfl] at H; exact H
            clear H
            have H := H1
            clear H1
            have H' := Aside0.mk H
            clear H
            have p126 : 0 ≤ (x32_2 : Int) := of_decide_eq_true (by first | (with_reducible assumption) | assumption)
            have q126 : x32_2 < (l2_1.length : Int) := of_decide_eq_true (by first | (with_reducible assumption) | assumption)
            obtain ⟨ad126, e126, hx126_0, hx126_1, hx126_2, hx126_3, hx126_4⟩ := at_T44 HR2_1.out x32_2 p126 q126
            cases e126
            replace hx126_0 := (HB.out.cell (World.block_lt_of_cell? w _ hx126_0)).trans hx126_0
            replace hx126_1 := (HB.out.cell (World.block_lt_of_cell? w _ hx126_1)).trans hx126_1
            replace hx126_2 := (HB.out.cell (World.block_lt_of_cell? w _ hx126_2)).trans hx126_2
            replace hx126_3 := (HB.out.cell (World.block_lt_of_cell? w _ hx126_3)).trans hx126_3
            replace hx126_4 := (HB.out.cell (World.block_lt_of_cell? w _ hx126_4)).trans hx126_4
            replace p126 := eq_true p126
            replace q126 := eq_true q126
            go_wp2_with (first | ((with_reducible refine gate_dst (N := 8) rfl ?_); refine box_event ?hg (N := 8) ?hd (cs := #[.int .i64 0, .int .i64 0, .int .i64 0, .string (⟨#[]⟩ : ByteArray), .string (⟨#[]⟩ : ByteArray)]) (t := 44) ?hr ?_; (case hd => rfl); (case hg => rfl); (case hr => first | (go_simp; done) | (go_simp; rfl)); intro gb127 hg w39 hbox hb; have n0_ := Aside0.mk (blk_below (g := gb122) (o := .cells #[.int .i64 a0_0, .int .i64 a0_1, .int .i64 a0_2, .int .i64 a0_3] 70 (0, 0)) (by (with_reducible repeat (first | refine blk_drewN ?_ _ | refine blk_drew ?_ | refine blk_alloc ?_ _)); exact BK122.out) hb); have n1_ := Aside0.mk (blk_below (g := gb123) (o := .cells #[.string a2_0, .slice (some ad126) l2_1.length c2_1, .slice A2_2 l2_2.length c2_2, .string a2_3] 28 (0, 0)) (by (with_reducible repeat (first | refine blk_drewN ?_ _ | refine blk_drew ?_ | refine blk_alloc ?_ _)); exact BK123.out) hb); have n2_ := Aside0.mk (below_step (by repeat (first | (with_reducible first | exact HB.out | apply below_alloc | apply pw_below_drewN | apply below_drew1 | refine below_set ?_ GE122.out | refine below_set ?_ GE123.out) | exact HB.out)) hb); have n3_ := Aside0.mk (hbox); have n4_ := Aside0.mk ((by rw [hg]; exact (below_size (by repeat (first | (with_reducible first | exact HB.out | apply below_alloc | apply pw_below_drewN | apply below_drew1 | refine below_set ?_ GE122.out | refine below_set ?_ GE123.out) | exact HB.out))) : w.heap.size ≤ gb127)); have n5_ := Aside0.mk ((by rw [hg]; exact (below_size (by repeat (first | (with_reducible first | exact HB.out | apply below_alloc | apply pw_below_drewN | apply below_drew1 | refine below_set ?_ GE122.out | refine below_set ?_ GE123.out) | exact HB.out))) : w.heap.size ≤ gb127)); have n6_ := Aside0.mk ((by rw [hg]; exact Nat.ne_of_lt (blk_lt (g := gb122) (o := .cells #[.int .i64 a0_0, .int .i64 a0_1, .int .i64 a0_2, .int .i64 a0_3] 70 (0, 0)) (by (with_reducible repeat (first | refine blk_drewN ?_ _ | refine blk_drew ?_ | refine blk_alloc ?_ _)); exact BK122.out)) : gb122 ≠ gb127)); have n7_ := Aside0.mk ((by rw [hg]; exact Nat.ne_of_gt (blk_lt (g := gb122) (o := .cells #[.int .i64 a0_0, .int .i64 a0_1, .int .i64 a0_2, .int .i64 a0_3] 70 (0, 0)) (by (with_reducible repeat (first | refine blk_drewN ?_ _ | refine blk_drew ?_ | refine blk_alloc ?_ _)); exact BK122.out)) : gb127 ≠ gb122)); have n8_ := Aside0.mk ((by rw [hg]; exact Nat.ne_of_lt (blk_lt (g := gb123) (o := .cells #[.string a2_0, .slice (some ad126) l2_1.length c2_1, .slice A2_2 l2_2.length c2_2, .string a2_3] 28 (0, 0)) (by (with_reducible repeat (first | refine blk_drewN ?_ _ | refine blk_drew ?_ | refine blk_alloc ?_ _)); exact BK123.out)) : gb123 ≠ gb127)); have n9_ := Aside0.mk ((by rw [hg]; exact Nat.ne_of_gt (blk_lt (g := gb123) (o := .cells #[.string a2_0, .slice (some ad126) l2_1.length c2_1, .slice A2_2 l2_2.length c2_2, .string a2_3] 28 (0, 0)) (by (with_reducible repeat (first | refine blk_drewN ?_ _ | refine blk_drew ?_ | refine blk_alloc ?_ _)); exact BK123.out)) : gb127 ≠ gb123)); clear BK122; clear BK123; clear HB; have BK122 := n0_; have BK123 := n1_; have HB := n2_; have BK127 := n3_; have GW127 := n4_; have GE127 := n5_; have NB122_127 := n6_; have NB127_122 := n7_; have NB123_127 := n8_; have NB127_123 := n9_; clear n0_ n1_ n2_ n3_ n4_ n5_ n6_ n7_ n8_ n9_; clear hb hbox hg; have hnb40 := NB127_122.out; have hnc40 := NB122_127.out; have hnb41 := NB127_123.out; have hnc41 := NB123_127.out; have hcz42_0 : w39.cell? ⟨gb127, 0, none⟩ = some (.int .i64 0) := (blk_cell BK127.out 0).trans rfl; have hcz42_1 : w39.cell? ⟨gb127, 1, none⟩ = some (.int .i64 0) := (blk_cell BK127.out 1).trans rfl; have hcz42_2 : w39.cell? ⟨gb127, 2, none⟩ = some (.int .i64 0) := (blk_cell BK127.out 2).trans rfl; have hcz42_3 : w39.cell? ⟨gb127, 3, none⟩ = some (.string (⟨#[]⟩ : ByteArray)) := (blk_cell BK127.out 3).trans rfl; have hcz42_4 : w39.cell? ⟨gb127, 4, none⟩ = some (.string (⟨#[]⟩ : ByteArray)) := (blk_cell BK127.out 4).trans rfl; have hfz42_0 := blk_frozen BK127.out 0; have hfz42_1 := blk_frozen BK127.out 1; have hfz42_2 := blk_frozen BK127.out 2; have hfz42_3 := blk_frozen BK127.out 3; have hfz42_4 := blk_frozen BK127.out 4; have hnb43 := NB122_123.out; have hnc43 := NB123_122.out; have hcz44_0 : w39.cell? ⟨gb122, 0, none⟩ = some (.int .i64 a0_0) := (blk_cell BK122.out 0).trans rfl; have hcz44_1 : w39.cell? ⟨gb122, 1, none⟩ = some (.int .i64 a0_1) := (blk_cell BK122.out 1).trans rfl; have hcz44_2 : w39.cell? ⟨gb122, 2, none⟩ = some (.int .i64 a0_2) := (blk_cell BK122.out 2).trans rfl; have hcz44_3 : w39.cell? ⟨gb122, 3, none⟩ = some (.int .i64 a0_3) := (blk_cell BK122.out 3).trans rfl; have hfz44_0 := blk_frozen BK122.out 0; have hfz44_1 := blk_frozen BK122.out 1; have hfz44_2 := blk_frozen BK122.out 2; have hfz44_3 := blk_frozen BK122.out 3) | ((with_reducible refine gate_callee (f := 45) rfl ?_); refine goesL_ (some 41) rfl rfl Tryd.func45 (by kernel_rfl) rfl #[.agg #[.int .i64 a0_0, .int .i64 a0_1, .int .i64 a0_2, .int .i64 a0_3], .int .i64 ((rd_T44 l2_1 x32_2).f0), .agg #[.int .i64 ((rd_T44 l2_1 x32_2).f1.f0), .int .i64 ((rd_T44 l2_1 x32_2).f1.f1)]] rfl (by (try simp only [List.map_toArray, List.map_cons, List.map_nil]); first | done | rfl | (simp only [List.length_drop, List.length_take]; rfl)) ?_; (with_reducible refine (printer_part.calls a0_0 a0_1 a0_2 a0_3 ((rd_T44 l2_1 x32_2).f0) ((rd_T44 l2_1 x32_2).f1.f0) ((rd_T44 l2_1 x32_2).f1.f1) t128 _ A33.out).mono ?_); rintro e w45 ⟨rfl, hb⟩; refine ⟨_, rfl, ?_⟩; have n0_ := Aside0.mk (blk_below (g := gb122) (o := .cells #[.int .i64 a0_0, .int .i64 a0_1, .int .i64 a0_2, .int .i64 a0_3] 70 (0, 0)) (by (with_reducible repeat (first | refine blk_drewN ?_ _ | refine blk_drew ?_ | refine blk_alloc ?_ _)); refine blk_far ?_ NB122_127.out _; (with_reducible repeat (first | refine blk_drewN ?_ _ | refine blk_drew ?_ | refine blk_alloc ?_ _)); refine blk_far ?_ NB122_127.out _; (with_reducible repeat (first | refine blk_drewN ?_ _ | refine blk_drew ?_ | refine blk_alloc ?_ _)); refine blk_far ?_ NB122_127.out _; (with_reducible repeat (first | refine blk_drewN ?_ _ | refine blk_drew ?_ | refine blk_alloc ?_ _)); refine blk_far ?_ NB122_127.out _; (with_reducible repeat (first | refine blk_drewN ?_ _ | refine blk_drew ?_ | refine blk_alloc ?_ _)); refine blk_far ?_ NB122_127.out _; (with_reducible repeat (first | refine blk_drewN ?_ _ | refine blk_drew ?_ | refine blk_alloc ?_ _)); exact BK122.out) hb); have n1_ := Aside0.mk (blk_below (g := gb123) (o := .cells #[.string a2_0, .slice (some ad126) l2_1.length c2_1, .slice A2_2 l2_2.length c2_2, .string a2_3] 28 (0, 0)) (by (with_reducible repeat (first | refine blk_drewN ?_ _ | refine blk_drew ?_ | refine blk_alloc ?_ _)); refine blk_far ?_ NB123_127.out _; (with_reducible repeat (first | refine blk_drewN ?_ _ | refine blk_drew ?_ | refine blk_alloc ?_ _)); refine blk_far ?_ NB123_127.out _; (with_reducible repeat (first | refine blk_drewN ?_ _ | refine blk_drew ?_ | refine blk_alloc ?_ _)); refine blk_far ?_ NB123_127.out _; (with_reducible repeat (first | refine blk_drewN ?_ _ | refine blk_drew ?_ | refine blk_alloc ?_ _)); refine blk_far ?_ NB123_127.out _; (with_reducible repeat (first | refine blk_drewN ?_ _ | refine blk_drew ?_ | refine blk_alloc ?_ _)); refine blk_far ?_ NB123_127.out _; (with_reducible repeat (first | refine blk_drewN ?_ _ | refine blk_drew ?_ | refine blk_alloc ?_ _)); exact BK123.out) hb); have n2_ := Aside0.mk (blk_below (g := gb127) (o := .cells #[.int .i64 ((rd_T44 l2_1 x32_2).f0), .int .i64 ((rd_T44 l2_1 x32_2).f1.f0), .int .i64 ((rd_T44 l2_1 x32_2).f1.f1), .string ((rd_T44 l2_1 x32_2).f2), .string ((rd_T44 l2_1 x32_2).f3)] 44 (0, 0)) (by (with_reducible repeat (first | refine blk_drewN ?_ _ | refine blk_drew ?_ | refine blk_alloc ?_ _)); refine blk_put (cs := #[.int .i64 ((rd_T44 l2_1 x32_2).f0), .int .i64 ((rd_T44 l2_1 x32_2).f1.f0), .int .i64 ((rd_T44 l2_1 x32_2).f1.f1), .string ((rd_T44 l2_1 x32_2).f2), .string (⟨#[]⟩ : ByteArray)]) ?_ 4 _ rfl; (with_reducible repeat (first | refine blk_drewN ?_ _ | refine blk_drew ?_ | refine blk_alloc ?_ _)); refine blk_put (cs := #[.int .i64 ((rd_T44 l2_1 x32_2).f0), .int .i64 ((rd_T44 l2_1 x32_2).f1.f0), .int .i64 ((rd_T44 l2_1 x32_2).f1.f1), .string (⟨#[]⟩ : ByteArray), .string (⟨#[]⟩ : ByteArray)]) ?_ 3 _ rfl; (with_reducible repeat (first | refine blk_drewN ?_ _ | refine blk_drew ?_ | refine blk_alloc ?_ _)); refine blk_put (cs := #[.int .i64 ((rd_T44 l2_1 x32_2).f0), .int .i64 ((rd_T44 l2_1 x32_2).f1.f0), .int .i64 0, .string (⟨#[]⟩ : ByteArray), .string (⟨#[]⟩ : ByteArray)]) ?_ 2 _ rfl; (with_reducible repeat (first | refine blk_drewN ?_ _ | refine blk_drew ?_ | refine blk_alloc ?_ _)); refine blk_put (cs := #[.int .i64 ((rd_T44 l2_1 x32_2).f0), .int .i64 0, .int .i64 0, .string (⟨#[]⟩ : ByteArray), .string (⟨#[]⟩ : ByteArray)]) ?_ 1 _ rfl; (with_reducible repeat (first | refine blk_drewN ?_ _ | refine blk_drew ?_ | refine blk_alloc ?_ _)); refine blk_put (cs := #[.int .i64 0, .int .i64 0, .int .i64 0, .string (⟨#[]⟩ : ByteArray), .string (⟨#[]⟩ : ByteArray)]) ?_ 0 _ rfl; (with_reducible repeat (first | refine blk_drewN ?_ _ | refine blk_drew ?_ | refine blk_alloc ?_ _)); exact BK127.out) hb); have n3_ := Aside0.mk (below_step (by repeat (first | (with_reducible first | exact HB.out | apply below_alloc | apply pw_below_drewN | apply below_drew1 | refine below_set ?_ GE122.out | refine below_set ?_ GE123.out | refine below_set ?_ GE127.out) | exact HB.out)) hb); clear BK122; clear BK123; clear BK127; clear HB; have BK122 := n0_; have BK123 := n1_; have BK127 := n2_; have HB := n3_; clear n0_ n1_ n2_ n3_; (try clear hb); (try clear hb2); (try clear hk); (try clear hi); have hcz46_0 : w45.cell? ⟨gb127, 0, none⟩ = some (.int .i64 ((rd_T44 l2_1 x32_2).f0)) := (blk_cell BK127.out 0).trans rfl; have hcz46_1 : w45.cell? ⟨gb127, 1, none⟩ = some (.int .i64 ((rd_T44 l2_1 x32_2).f1.f0)) := (blk_cell BK127.out 1).trans rfl; have hcz46_2 : w45.cell? ⟨gb127, 2, none⟩ = some (.int .i64 ((rd_T44 l2_1 x32_2).f1.f1)) := (blk_cell BK127.out 2).trans rfl; have hcz46_3 : w45.cell? ⟨gb127, 3, none⟩ = some (.string ((rd_T44 l2_1 x32_2).f2)) := (blk_cell BK127.out 3).trans rfl; have hcz46_4 : w45.cell? ⟨gb127, 4, none⟩ = some (.string ((rd_T44 l2_1 x32_2).f3)) := (blk_cell BK127.out 4).trans rfl; have hfz46_0 := blk_frozen BK127.out 0; have hfz46_1 := blk_frozen BK127.out 1; have hfz46_2 := blk_frozen BK127.out 2; have hfz46_3 := blk_frozen BK127.out 3; have hfz46_4 := blk_frozen BK127.out 4) | ((with_reducible refine gate_callee (f := 43) rfl ?_); refine goesL_ (some 47) rfl rfl Tryd.func43 (by kernel_rfl) rfl #[.string ((rd_T44 l2_1 x32_2).f2)] rfl (by (try simp only [List.map_toArray, List.map_cons, List.map_nil]); first | done | rfl | (simp only [List.length_drop, List.length_take]; rfl)) ?_; (with_reducible refine (lex_IsName.calls ((rd_T44 l2_1 x32_2).f2) true _ A35.out).mono ?_); rintro e w47 ⟨rfl, hb⟩; refine ⟨_, rfl, ?_⟩; have n0_ := Aside0.mk (blk_below (g := gb122) (o := .cells #[.int .i64 a0_0, .int .i64 a0_1, .int .i64 a0_2, .int .i64 a0_3] 70 (0, 0)) (by (with_reducible repeat (first | refine blk_drewN ?_ _ | refine blk_drew ?_ | refine blk_alloc ?_ _)); exact BK122.out) hb); have n1_ := Aside0.mk (blk_below (g := gb123) (o := .cells #[.string a2_0, .slice (some ad126) l2_1.length c2_1, .slice A2_2 l2_2.length c2_2, .string a2_3] 28 (0, 0)) (by (with_reducible repeat (first | refine blk_drewN ?_ _ | refine blk_drew ?_ | refine blk_alloc ?_ _)); exact BK123.out) hb); have n2_ := Aside0.mk (blk_below (g := gb127) (o := .cells #[.int .i64 ((rd_T44 l2_1 x32_2).f0), .int .i64 ((rd_T44 l2_1 x32_2).f1.f0), .int .i64 ((rd_T44 l2_1 x32_2).f1.f1), .string ((rd_T44 l2_1 x32_2).f2), .string ((rd_T44 l2_1 x32_2).f3)] 44 (0, 0)) (by (with_reducible repeat (first | refine blk_drewN ?_ _ | refine blk_drew ?_ | refine blk_alloc ?_ _)); exact BK127.out) hb); have n3_ := Aside0.mk (below_step (by repeat (first | (with_reducible first | exact HB.out | apply below_alloc | apply pw_below_drewN | apply below_drew1 | refine below_set ?_ GE122.out | refine below_set ?_ GE123.out | refine below_set ?_ GE127.out) | exact HB.out)) hb); clear BK122; clear BK123; clear BK127; clear HB; have BK122 := n0_; have BK123 := n1_; have BK127 := n2_; have HB := n3_; clear n0_ n1_ n2_ n3_; (try clear hb); (try clear hb2); (try clear hk); (try clear hi); have hcz48_0 : w47.cell? ⟨gb127, 0, none⟩ = some (.int .i64 ((rd_T44 l2_1 x32_2).f0)) := (blk_cell BK127.out 0).trans rfl; have hcz48_1 : w47.cell? ⟨gb127, 1, none⟩ = some (.int .i64 ((rd_T44 l2_1 x32_2).f1.f0)) := (blk_cell BK127.out 1).trans rfl; have hcz48_2 : w47.cell? ⟨gb127, 2, none⟩ = some (.int .i64 ((rd_T44 l2_1 x32_2).f1.f1)) := (blk_cell BK127.out 2).trans rfl; have hcz48_3 : w47.cell? ⟨gb127, 3, none⟩ = some (.string ((rd_T44 l2_1 x32_2).f2)) := (blk_cell BK127.out 3).trans rfl; have hcz48_4 : w47.cell? ⟨gb127, 4, none⟩ = some (.string ((rd_T44 l2_1 x32_2).f3)) := (blk_cell BK127.out 4).trans rfl; have hfz48_0 := blk_frozen BK127.out 0; have hfz48_1 := blk_frozen BK127.out 1; have hfz48_2 := blk_frozen BK127.out 2; have hfz48_3 := blk_frozen BK127.out 3; have hfz48_4 := blk_frozen BK127.out 4) | (go_at_call 43; (with_reducible refine (lex_IsName.calls ((rd_T44 l2_1 x32_2).f3) true _ A37.out).mono ?_); rintro e w49 ⟨rfl, hb⟩; have n0_ := Aside0.mk (blk_below (g := gb122) (o := .cells #[.int .i64 a0_0, .int .i64 a0_1, .int .i64 a0_2, .int .i64 a0_3] 70 (0, 0)) (by (with_reducible repeat (first | refine blk_drewN ?_ _ | refine blk_drew ?_ | refine blk_alloc ?_ _)); exact BK122.out) hb); have n1_ := Aside0.mk (blk_below (g := gb123) (o := .cells #[.string a2_0, .slice (some ad126) l2_1.length c2_1, .slice A2_2 l2_2.length c2_2, .string a2_3] 28 (0, 0)) (by (with_reducible repeat (first | refine blk_drewN ?_ _ | refine blk_drew ?_ | refine blk_alloc ?_ _)); exact BK123.out) hb); have n2_ := Aside0.mk (blk_below (g := gb127) (o := .cells #[.int .i64 ((rd_T44 l2_1 x32_2).f0), .int .i64 ((rd_T44 l2_1 x32_2).f1.f0), .int .i64 ((rd_T44 l2_1 x32_2).f1.f1), .string ((rd_T44 l2_1 x32_2).f2), .string ((rd_T44 l2_1 x32_2).f3)] 44 (0, 0)) (by (with_reducible repeat (first | refine blk_drewN ?_ _ | refine blk_drew ?_ | refine blk_alloc ?_ _)); exact BK127.out) hb); have n3_ := Aside0.mk (below_step (by repeat (first | (with_reducible first | exact HB.out | apply below_alloc | apply pw_below_drewN | apply below_drew1 | refine below_set ?_ GE122.out | refine below_set ?_ GE123.out | refine below_set ?_ GE127.out) | exact HB.out)) hb); clear BK122; clear BK123; clear BK127; clear HB; have BK122 := n0_; have BK123 := n1_; have BK127 := n2_; have HB := n3_; clear n0_ n1_ n2_ n3_; (try clear hb); (try clear hb2); (try clear hk); (try clear hi)))
            go_roundg k2
            case measure => have := HJ3.out; have := HK2.out; omega
            case rel => exact ⟨(wrap64 (x32_2 + 1)), (by first | rfl | (simp; done) | (simp [*]; done)), H', ⟨by have := HJ3.out; have := HK2.out; omega⟩, ⟨by (with_reducible repeat (first | refine blk_drewN ?_ _ | refine blk_drew ?_ | refine blk_alloc ?_ _)); exact BK122.out⟩, ⟨by (with_reducible repeat (first | refine blk_drewN ?_ _ | refine blk_drew ?_ | refine blk_alloc ?_ _)); exact BK123.out⟩, ⟨by repeat (first | (with_reducible first | exact HB.out | apply below_alloc | apply pw_below_drewN | apply below_drew1 | refine below_set ?_ GE122.out | refine below_set ?_ GE123.out | refine below_set ?_ GE127.out) | exact HB.out)⟩⟩
           ·replace c38 := Bool.eq_false_iff.mpr c38
            subst c38
            have H1 : (some 6) = some r := by rw [if_neg (show ¬ (false = true) by decide)] at H; exact H
            clear H
            have H := H1
            clear H1
            obtain rfl := Option.some.inj H
            have p126 : 0 ≤ (x32_2 : Int) := of_decide_eq_true (by first | (with_reducible assumption) | assumption)
            have q126 : x32_2 < (l2_1.length : Int) := of_decide_eq_true (by first | (with_reducible assumption) | assumption)
            obtain ⟨ad126, e126, hx126_0, hx126_1, hx126_2, hx126_3, hx126_4⟩ := at_T44 HR2_1.out x32_2 p126 q126
            cases e126
            replace hx126_0 := (HB.out.cell (World.block_lt_of_cell? w _ hx126_0)).trans hx126_0
            replace hx126_1 := (HB.out.cell (World.block_lt_of_cell? w _ hx126_1)).trans hx126_1
            replace hx126_2 := (HB.out.cell (World.block_lt_of_cell? w _ hx126_2)).trans hx126_2
            replace hx126_3 := (HB.out.cell (World.block_lt_of_cell? w _ hx126_3)).trans hx126_3
            replace hx126_4 := (HB.out.cell (World.block_lt_of_cell? w _ hx126_4)).trans hx126_4
            replace p126 := eq_true p126
            replace q126 := eq_true q126
            go_wp2_with (first | ((with_reducible refine gate_dst (N := 8) rfl ?_); refine box_event ?hg (N := 8) ?hd (cs := #[.int .i64 0, .int .i64 0, .int .i64 0, .string (⟨#[]⟩ : ByteArray), .string (⟨#[]⟩ : ByteArray)]) (t := 44) ?hr ?_; (case hd => rfl); (case hg => rfl); (case hr => first | (go_simp; done) | (go_simp; rfl)); intro gb127 hg w50 hbox hb; have n0_ := Aside0.mk (blk_below (g := gb122) (o := .cells #[.int .i64 a0_0, .int .i64 a0_1, .int .i64 a0_2, .int .i64 a0_3] 70 (0, 0)) (by (with_reducible repeat (first | refine blk_drewN ?_ _ | refine blk_drew ?_ | refine blk_alloc ?_ _)); exact BK122.out) hb); have n1_ := Aside0.mk (blk_below (g := gb123) (o := .cells #[.string a2_0, .slice (some ad126) l2_1.length c2_1, .slice A2_2 l2_2.length c2_2, .string a2_3] 28 (0, 0)) (by (with_reducible repeat (first | refine blk_drewN ?_ _ | refine blk_drew ?_ | refine blk_alloc ?_ _)); exact BK123.out) hb); have n2_ := Aside0.mk (below_step (by repeat (first | (with_reducible first | exact HB.out | apply below_alloc | apply pw_below_drewN | apply below_drew1 | refine below_set ?_ GE122.out | refine below_set ?_ GE123.out) | exact HB.out)) hb); have n3_ := Aside0.mk (hbox); have n4_ := Aside0.mk ((by rw [hg]; exact (below_size (by repeat (first | (with_reducible first | exact HB.out | apply below_alloc | apply pw_below_drewN | apply below_drew1 | refine below_set ?_ GE122.out | refine below_set ?_ GE123.out) | exact HB.out))) : w.heap.size ≤ gb127)); have n5_ := Aside0.mk ((by rw [hg]; exact (below_size (by repeat (first | (with_reducible first | exact HB.out | apply below_alloc | apply pw_below_drewN | apply below_drew1 | refine below_set ?_ GE122.out | refine below_set ?_ GE123.out) | exact HB.out))) : w.heap.size ≤ gb127)); have n6_ := Aside0.mk ((by rw [hg]; exact Nat.ne_of_lt (blk_lt (g := gb122) (o := .cells #[.int .i64 a0_0, .int .i64 a0_1, .int .i64 a0_2, .int .i64 a0_3] 70 (0, 0)) (by (with_reducible repeat (first | refine blk_drewN ?_ _ | refine blk_drew ?_ | refine blk_alloc ?_ _)); exact BK122.out)) : gb122 ≠ gb127)); have n7_ := Aside0.mk ((by rw [hg]; exact Nat.ne_of_gt (blk_lt (g := gb122) (o := .cells #[.int .i64 a0_0, .int .i64 a0_1, .int .i64 a0_2, .int .i64 a0_3] 70 (0, 0)) (by (with_reducible repeat (first | refine blk_drewN ?_ _ | refine blk_drew ?_ | refine blk_alloc ?_ _)); exact BK122.out)) : gb127 ≠ gb122)); have n8_ := Aside0.mk ((by rw [hg]; exact Nat.ne_of_lt (blk_lt (g := gb123) (o := .cells #[.string a2_0, .slice (some ad126) l2_1.length c2_1, .slice A2_2 l2_2.length c2_2, .string a2_3] 28 (0, 0)) (by (with_reducible repeat (first | refine blk_drewN ?_ _ | refine blk_drew ?_ | refine blk_alloc ?_ _)); exact BK123.out)) : gb123 ≠ gb127)); have n9_ := Aside0.mk ((by rw [hg]; exact Nat.ne_of_gt (blk_lt (g := gb123) (o := .cells #[.string a2_0, .slice (some ad126) l2_1.length c2_1, .slice A2_2 l2_2.length c2_2, .string a2_3] 28 (0, 0)) (by (with_reducible repeat (first | refine blk_drewN ?_ _ | refine blk_drew ?_ | refine blk_alloc ?_ _)); exact BK123.out)) : gb127 ≠ gb123)); clear BK122; clear BK123; clear HB; have BK122 := n0_; have BK123 := n1_; have HB := n2_; have BK127 := n3_; have GW127 := n4_; have GE127 := n5_; have NB122_127 := n6_; have NB127_122 := n7_; have NB123_127 := n8_; have NB127_123 := n9_; clear n0_ n1_ n2_ n3_ n4_ n5_ n6_ n7_ n8_ n9_; clear hb hbox hg; have hnb51 := NB127_122.out; have hnc51 := NB122_127.out; have hnb52 := NB127_123.out; have hnc52 := NB123_127.out; have hcz53_0 : w50.cell? ⟨gb127, 0, none⟩ = some (.int .i64 0) := (blk_cell BK127.out 0).trans rfl; have hcz53_1 : w50.cell? ⟨gb127, 1, none⟩ = some (.int .i64 0) := (blk_cell BK127.out 1).trans rfl; have hcz53_2 : w50.cell? ⟨gb127, 2, none⟩ = some (.int .i64 0) := (blk_cell BK127.out 2).trans rfl; have hcz53_3 : w50.cell? ⟨gb127, 3, none⟩ = some (.string (⟨#[]⟩ : ByteArray)) := (blk_cell BK127.out 3).trans rfl; have hcz53_4 : w50.cell? ⟨gb127, 4, none⟩ = some (.string (⟨#[]⟩ : ByteArray)) := (blk_cell BK127.out 4).trans rfl; have hfz53_0 := blk_frozen BK127.out 0; have hfz53_1 := blk_frozen BK127.out 1; have hfz53_2 := blk_frozen BK127.out 2; have hfz53_3 := blk_frozen BK127.out 3; have hfz53_4 := blk_frozen BK127.out 4; have hnb54 := NB122_123.out; have hnc54 := NB123_122.out; have hcz55_0 : w50.cell? ⟨gb122, 0, none⟩ = some (.int .i64 a0_0) := (blk_cell BK122.out 0).trans rfl; have hcz55_1 : w50.cell? ⟨gb122, 1, none⟩ = some (.int .i64 a0_1) := (blk_cell BK122.out 1).trans rfl; have hcz55_2 : w50.cell? ⟨gb122, 2, none⟩ = some (.int .i64 a0_2) := (blk_cell BK122.out 2).trans rfl; have hcz55_3 : w50.cell? ⟨gb122, 3, none⟩ = some (.int .i64 a0_3) := (blk_cell BK122.out 3).trans rfl; have hfz55_0 := blk_frozen BK122.out 0; have hfz55_1 := blk_frozen BK122.out 1; have hfz55_2 := blk_frozen BK122.out 2; have hfz55_3 := blk_frozen BK122.out 3) | ((with_reducible refine gate_callee (f := 45) rfl ?_); refine goesL_ (some 41) rfl rfl Tryd.func45 (by kernel_rfl) rfl #[.agg #[.int .i64 a0_0, .int .i64 a0_1, .int .i64 a0_2, .int .i64 a0_3], .int .i64 ((rd_T44 l2_1 x32_2).f0), .agg #[.int .i64 ((rd_T44 l2_1 x32_2).f1.f0), .int .i64 ((rd_T44 l2_1 x32_2).f1.f1)]] rfl (by (try simp only [List.map_toArray, List.map_cons, List.map_nil]); first | done | rfl | (simp only [List.length_drop, List.length_take]; rfl)) ?_; (with_reducible refine (printer_part.calls a0_0 a0_1 a0_2 a0_3 ((rd_T44 l2_1 x32_2).f0) ((rd_T44 l2_1 x32_2).f1.f0) ((rd_T44 l2_1 x32_2).f1.f1) t128 _ A33.out).mono ?_); rintro e w56 ⟨rfl, hb⟩; refine ⟨_, rfl, ?_⟩; have n0_ := Aside0.mk (blk_below (g := gb122) (o := .cells #[.int .i64 a0_0, .int .i64 a0_1, .int .i64 a0_2, .int .i64 a0_3] 70 (0, 0)) (by (with_reducible repeat (first | refine blk_drewN ?_ _ | refine blk_drew ?_ | refine blk_alloc ?_ _)); refine blk_far ?_ NB122_127.out _; (with_reducible repeat (first | refine blk_drewN ?_ _ | refine blk_drew ?_ | refine blk_alloc ?_ _)); refine blk_far ?_ NB122_127.out _; (with_reducible repeat (first | refine blk_drewN ?_ _ | refine blk_drew ?_ | refine blk_alloc ?_ _)); refine blk_far ?_ NB122_127.out _; (with_reducible repeat (first | refine blk_drewN ?_ _ | refine blk_drew ?_ | refine blk_alloc ?_ _)); refine blk_far ?_ NB122_127.out _; (with_reducible repeat (first | refine blk_drewN ?_ _ | refine blk_drew ?_ | refine blk_alloc ?_ _)); refine blk_far ?_ NB122_127.out _; (with_reducible repeat (first | refine blk_drewN ?_ _ | refine blk_drew ?_ | refine blk_alloc ?_ _)); exact BK122.out) hb); have n1_ := Aside0.mk (blk_below (g := gb123) (o := .cells #[.string a2_0, .slice (some ad126) l2_1.length c2_1, .slice A2_2 l2_2.length c2_2, .string a2_3] 28 (0, 0)) (by (with_reducible repeat (first | refine blk_drewN ?_ _ | refine blk_drew ?_ | refine blk_alloc ?_ _)); refine blk_far ?_ NB123_127.out _; (with_reducible repeat (first | refine blk_drewN ?_ _ | refine blk_drew ?_ | refine blk_alloc ?_ _)); refine blk_far ?_ NB123_127.out _; (with_reducible repeat (first | refine blk_drewN ?_ _ | refine blk_drew ?_ | refine blk_alloc ?_ _)); refine blk_far ?_ NB123_127.out _; (with_reducible repeat (first | refine blk_drewN ?_ _ | refine blk_drew ?_ | refine blk_alloc ?_ _)); refine blk_far ?_ NB123_127.out _; (with_reducible repeat (first | refine blk_drewN ?_ _ | refine blk_drew ?_ | refine blk_alloc ?_ _)); refine blk_far ?_ NB123_127.out _; (with_reducible repeat (first | refine blk_drewN ?_ _ | refine blk_drew ?_ | refine blk_alloc ?_ _)); exact BK123.out) hb); have n2_ := Aside0.mk (blk_below (g := gb127) (o := .cells #[.int .i64 ((rd_T44 l2_1 x32_2).f0), .int .i64 ((rd_T44 l2_1 x32_2).f1.f0), .int .i64 ((rd_T44 l2_1 x32_2).f1.f1), .string ((rd_T44 l2_1 x32_2).f2), .string ((rd_T44 l2_1 x32_2).f3)] 44 (0, 0)) (by (with_reducible repeat (first | refine blk_drewN ?_ _ | refine blk_drew ?_ | refine blk_alloc ?_ _)); refine blk_put (cs := #[.int .i64 ((rd_T44 l2_1 x32_2).f0), .int .i64 ((rd_T44 l2_1 x32_2).f1.f0), .int .i64 ((rd_T44 l2_1 x32_2).f1.f1), .string ((rd_T44 l2_1 x32_2).f2), .string (⟨#[]⟩ : ByteArray)]) ?_ 4 _ rfl; (with_reducible repeat (first | refine blk_drewN ?_ _ | refine blk_drew ?_ | refine blk_alloc ?_ _)); refine blk_put (cs := #[.int .i64 ((rd_T44 l2_1 x32_2).f0), .int .i64 ((rd_T44 l2_1 x32_2).f1.f0), .int .i64 ((rd_T44 l2_1 x32_2).f1.f1), .string (⟨#[]⟩ : ByteArray), .string (⟨#[]⟩ : ByteArray)]) ?_ 3 _ rfl; (with_reducible repeat (first | refine blk_drewN ?_ _ | refine blk_drew ?_ | refine blk_alloc ?_ _)); refine blk_put (cs := #[.int .i64 ((rd_T44 l2_1 x32_2).f0), .int .i64 ((rd_T44 l2_1 x32_2).f1.f0), .int .i64 0, .string (⟨#[]⟩ : ByteArray), .string (⟨#[]⟩ : ByteArray)]) ?_ 2 _ rfl; (with_reducible repeat (first | refine blk_drewN ?_ _ | refine blk_drew ?_ | refine blk_alloc ?_ _)); refine blk_put (cs := #[.int .i64 ((rd_T44 l2_1 x32_2).f0), .int .i64 0, .int .i64 0, .string (⟨#[]⟩ : ByteArray), .string (⟨#[]⟩ : ByteArray)]) ?_ 1 _ rfl; (with_reducible repeat (first | refine blk_drewN ?_ _ | refine blk_drew ?_ | refine blk_alloc ?_ _)); refine blk_put (cs := #[.int .i64 0, .int .i64 0, .int .i64 0, .string (⟨#[]⟩ : ByteArray), .string (⟨#[]⟩ : ByteArray)]) ?_ 0 _ rfl; (with_reducible repeat (first | refine blk_drewN ?_ _ | refine blk_drew ?_ | refine blk_alloc ?_ _)); exact BK127.out) hb); have n3_ := Aside0.mk (below_step (by repeat (first | (with_reducible first | exact HB.out | apply below_alloc | apply pw_below_drewN | apply below_drew1 | refine below_set ?_ GE122.out | refine below_set ?_ GE123.out | refine below_set ?_ GE127.out) | exact HB.out)) hb); clear BK122; clear BK123; clear BK127; clear HB; have BK122 := n0_; have BK123 := n1_; have BK127 := n2_; have HB := n3_; clear n0_ n1_ n2_ n3_; (try clear hb); (try clear hb2); (try clear hk); (try clear hi); have hcz57_0 : w56.cell? ⟨gb127, 0, none⟩ = some (.int .i64 ((rd_T44 l2_1 x32_2).f0)) := (blk_cell BK127.out 0).trans rfl; have hcz57_1 : w56.cell? ⟨gb127, 1, none⟩ = some (.int .i64 ((rd_T44 l2_1 x32_2).f1.f0)) := (blk_cell BK127.out 1).trans rfl; have hcz57_2 : w56.cell? ⟨gb127, 2, none⟩ = some (.int .i64 ((rd_T44 l2_1 x32_2).f1.f1)) := (blk_cell BK127.out 2).trans rfl; have hcz57_3 : w56.cell? ⟨gb127, 3, none⟩ = some (.string ((rd_T44 l2_1 x32_2).f2)) := (blk_cell BK127.out 3).trans rfl; have hcz57_4 : w56.cell? ⟨gb127, 4, none⟩ = some (.string ((rd_T44 l2_1 x32_2).f3)) := (blk_cell BK127.out 4).trans rfl; have hfz57_0 := blk_frozen BK127.out 0; have hfz57_1 := blk_frozen BK127.out 1; have hfz57_2 := blk_frozen BK127.out 2; have hfz57_3 := blk_frozen BK127.out 3; have hfz57_4 := blk_frozen BK127.out 4) | ((with_reducible refine gate_callee (f := 43) rfl ?_); refine goesL_ (some 47) rfl rfl Tryd.func43 (by kernel_rfl) rfl #[.string ((rd_T44 l2_1 x32_2).f2)] rfl (by (try simp only [List.map_toArray, List.map_cons, List.map_nil]); first | done | rfl | (simp only [List.length_drop, List.length_take]; rfl)) ?_; (with_reducible refine (lex_IsName.calls ((rd_T44 l2_1 x32_2).f2) true _ A35.out).mono ?_); rintro e w58 ⟨rfl, hb⟩; refine ⟨_, rfl, ?_⟩; have n0_ := Aside0.mk (blk_below (g := gb122) (o := .cells #[.int .i64 a0_0, .int .i64 a0_1, .int .i64 a0_2, .int .i64 a0_3] 70 (0, 0)) (by (with_reducible repeat (first | refine blk_drewN ?_ _ | refine blk_drew ?_ | refine blk_alloc ?_ _)); exact BK122.out) hb); have n1_ := Aside0.mk (blk_below (g := gb123) (o := .cells #[.string a2_0, .slice (some ad126) l2_1.length c2_1, .slice A2_2 l2_2.length c2_2, .string a2_3] 28 (0, 0)) (by (with_reducible repeat (first | refine blk_drewN ?_ _ | refine blk_drew ?_ | refine blk_alloc ?_ _)); exact BK123.out) hb); have n2_ := Aside0.mk (blk_below (g := gb127) (o := .cells #[.int .i64 ((rd_T44 l2_1 x32_2).f0), .int .i64 ((rd_T44 l2_1 x32_2).f1.f0), .int .i64 ((rd_T44 l2_1 x32_2).f1.f1), .string ((rd_T44 l2_1 x32_2).f2), .string ((rd_T44 l2_1 x32_2).f3)] 44 (0, 0)) (by (with_reducible repeat (first | refine blk_drewN ?_ _ | refine blk_drew ?_ | refine blk_alloc ?_ _)); exact BK127.out) hb); have n3_ := Aside0.mk (below_step (by repeat (first | (with_reducible first | exact HB.out | apply below_alloc | apply pw_below_drewN | apply below_drew1 | refine below_set ?_ GE122.out | refine below_set ?_ GE123.out | refine below_set ?_ GE127.out) | exact HB.out)) hb); clear BK122; clear BK123; clear BK127; clear HB; have BK122 := n0_; have BK123 := n1_; have BK127 := n2_; have HB := n3_; clear n0_ n1_ n2_ n3_; (try clear hb); (try clear hb2); (try clear hk); (try clear hi); have hcz59_0 : w58.cell? ⟨gb127, 0, none⟩ = some (.int .i64 ((rd_T44 l2_1 x32_2).f0)) := (blk_cell BK127.out 0).trans rfl; have hcz59_1 : w58.cell? ⟨gb127, 1, none⟩ = some (.int .i64 ((rd_T44 l2_1 x32_2).f1.f0)) := (blk_cell BK127.out 1).trans rfl; have hcz59_2 : w58.cell? ⟨gb127, 2, none⟩ = some (.int .i64 ((rd_T44 l2_1 x32_2).f1.f1)) := (blk_cell BK127.out 2).trans rfl; have hcz59_3 : w58.cell? ⟨gb127, 3, none⟩ = some (.string ((rd_T44 l2_1 x32_2).f2)) := (blk_cell BK127.out 3).trans rfl; have hcz59_4 : w58.cell? ⟨gb127, 4, none⟩ = some (.string ((rd_T44 l2_1 x32_2).f3)) := (blk_cell BK127.out 4).trans rfl; have hfz59_0 := blk_frozen BK127.out 0; have hfz59_1 := blk_frozen BK127.out 1; have hfz59_2 := blk_frozen BK127.out 2; have hfz59_3 := blk_frozen BK127.out 3; have hfz59_4 := blk_frozen BK127.out 4) | (go_at_call 43; (with_reducible refine (lex_IsName.calls ((rd_T44 l2_1 x32_2).f3) false _ A37.out).mono ?_); rintro e w60 ⟨rfl, hb⟩; have n0_ := Aside0.mk (blk_below (g := gb122) (o := .cells #[.int .i64 a0_0, .int .i64 a0_1, .int .i64 a0_2, .int .i64 a0_3] 70 (0, 0)) (by (with_reducible repeat (first | refine blk_drewN ?_ _ | refine blk_drew ?_ | refine blk_alloc ?_ _)); exact BK122.out) hb); have n1_ := Aside0.mk (blk_below (g := gb123) (o := .cells #[.string a2_0, .slice (some ad126) l2_1.length c2_1, .slice A2_2 l2_2.length c2_2, .string a2_3] 28 (0, 0)) (by (with_reducible repeat (first | refine blk_drewN ?_ _ | refine blk_drew ?_ | refine blk_alloc ?_ _)); exact BK123.out) hb); have n2_ := Aside0.mk (blk_below (g := gb127) (o := .cells #[.int .i64 ((rd_T44 l2_1 x32_2).f0), .int .i64 ((rd_T44 l2_1 x32_2).f1.f0), .int .i64 ((rd_T44 l2_1 x32_2).f1.f1), .string ((rd_T44 l2_1 x32_2).f2), .string ((rd_T44 l2_1 x32_2).f3)] 44 (0, 0)) (by (with_reducible repeat (first | refine blk_drewN ?_ _ | refine blk_drew ?_ | refine blk_alloc ?_ _)); exact BK127.out) hb); have n3_ := Aside0.mk (below_step (by repeat (first | (with_reducible first | exact HB.out | apply below_alloc | apply pw_below_drewN | apply below_drew1 | refine below_set ?_ GE122.out | refine below_set ?_ GE123.out | refine below_set ?_ GE127.out) | exact HB.out)) hb); clear BK122; clear BK123; clear BK127; clear HB; have BK122 := n0_; have BK123 := n1_; have BK127 := n2_; have HB := n3_; clear n0_ n1_ n2_ n3_; (try clear hb); (try clear hb2); (try clear hk); (try clear hi)))
            go_ret
            exact ⟨by first | rfl | (simp [errW_none, errW_some] <;> rfl) | (simp [*, errW_none, errW_some] <;> rfl), by repeat (first | (with_reducible first | exact HB.out | apply below_alloc | apply pw_below_drewN | apply below_drew1 | refine below_set ?_ GE122.out | refine below_set ?_ GE123.out | refine below_set ?_ GE127.out) | exact HB.out)⟩
          ·replace c36 := Bool.eq_false_iff.mpr c36
           subst c36
           have H1 : (some 6) = some r := by rw [if_neg (show ¬ (false = true) by decide)] at H; exact H
           clear H
           have H := H1
           clear H1
           obtain rfl := Option.some.inj H
           have p126 : 0 ≤ (x32_2 : Int) := of_decide_eq_true (by first | (with_reducible assumption) | assumption)
           have q126 : x32_2 < (l2_1.length : Int) := of_decide_eq_true (by first | (with_reducible assumption) | assumption)
           obtain ⟨ad126, e126, hx126_0, hx126_1, hx126_2, hx126_3, hx126_4⟩ := at_T44 HR2_1.out x32_2 p126 q126
           cases e126
           replace hx126_0 := (HB.out.cell (World.block_lt_of_cell? w _ hx126_0)).trans hx126_0
           replace hx126_1 := (HB.out.cell (World.block_lt_of_cell? w _ hx126_1)).trans hx126_1
           replace hx126_2 := (HB.out.cell (World.block_lt_of_cell? w _ hx126_2)).trans hx126_2
           replace hx126_3 := (HB.out.cell (World.block_lt_of_cell? w _ hx126_3)).trans hx126_3
           replace hx126_4 := (HB.out.cell (World.block_lt_of_cell? w _ hx126_4)).trans hx126_4
           replace p126 := eq_true p126
           replace q126 := eq_true q126
           go_wp2_with (first | ((with_reducible refine gate_dst (N := 8) rfl ?_); refine box_event ?hg (N := 8) ?hd (cs := #[.int .i64 0, .int .i64 0, .int .i64 0, .string (⟨#[]⟩ : ByteArray), .string (⟨#[]⟩ : ByteArray)]) (t := 44) ?hr ?_; (case hd => rfl); (case hg => rfl); (case hr => first | (go_simp; done) | (go_simp; rfl)); intro gb127 hg w61 hbox hb; have n0_ := Aside0.mk (blk_below (g := gb122) (o := .cells #[.int .i64 a0_0, .int .i64 a0_1, .int .i64 a0_2, .int .i64 a0_3] 70 (0, 0)) (by (with_reducible repeat (first | refine blk_drewN ?_ _ | refine blk_drew ?_ | refine blk_alloc ?_ _)); exact BK122.out) hb); have n1_ := Aside0.mk (blk_below (g := gb123) (o := .cells #[.string a2_0, .slice (some ad126) l2_1.length c2_1, .slice A2_2 l2_2.length c2_2, .string a2_3] 28 (0, 0)) (by (with_reducible repeat (first | refine blk_drewN ?_ _ | refine blk_drew ?_ | refine blk_alloc ?_ _)); exact BK123.out) hb); have n2_ := Aside0.mk (below_step (by repeat (first | (with_reducible first | exact HB.out | apply below_alloc | apply pw_below_drewN | apply below_drew1 | refine below_set ?_ GE122.out | refine below_set ?_ GE123.out) | exact HB.out)) hb); have n3_ := Aside0.mk (hbox); have n4_ := Aside0.mk ((by rw [hg]; exact (below_size (by repeat (first | (with_reducible first | exact HB.out | apply below_alloc | apply pw_below_drewN | apply below_drew1 | refine below_set ?_ GE122.out | refine below_set ?_ GE123.out) | exact HB.out))) : w.heap.size ≤ gb127)); have n5_ := Aside0.mk ((by rw [hg]; exact (below_size (by repeat (first | (with_reducible first | exact HB.out | apply below_alloc | apply pw_below_drewN | apply below_drew1 | refine below_set ?_ GE122.out | refine below_set ?_ GE123.out) | exact HB.out))) : w.heap.size ≤ gb127)); have n6_ := Aside0.mk ((by rw [hg]; exact Nat.ne_of_lt (blk_lt (g := gb122) (o := .cells #[.int .i64 a0_0, .int .i64 a0_1, .int .i64 a0_2, .int .i64 a0_3] 70 (0, 0)) (by (with_reducible repeat (first | refine blk_drewN ?_ _ | refine blk_drew ?_ | refine blk_alloc ?_ _)); exact BK122.out)) : gb122 ≠ gb127)); have n7_ := Aside0.mk ((by rw [hg]; exact Nat.ne_of_gt (blk_lt (g := gb122) (o := .cells #[.int .i64 a0_0, .int .i64 a0_1, .int .i64 a0_2, .int .i64 a0_3] 70 (0, 0)) (by (with_reducible repeat (first | refine blk_drewN ?_ _ | refine blk_drew ?_ | refine blk_alloc ?_ _)); exact BK122.out)) : gb127 ≠ gb122)); have n8_ := Aside0.mk ((by rw [hg]; exact Nat.ne_of_lt (blk_lt (g := gb123) (o := .cells #[.string a2_0, .slice (some ad126) l2_1.length c2_1, .slice A2_2 l2_2.length c2_2, .string a2_3] 28 (0, 0)) (by (with_reducible repeat (first | refine blk_drewN ?_ _ | refine blk_drew ?_ | refine blk_alloc ?_ _)); exact BK123.out)) : gb123 ≠ gb127)); have n9_ := Aside0.mk ((by rw [hg]; exact Nat.ne_of_gt (blk_lt (g := gb123) (o := .cells #[.string a2_0, .slice (some ad126) l2_1.length c2_1, .slice A2_2 l2_2.length c2_2, .string a2_3] 28 (0, 0)) (by (with_reducible repeat (first | refine blk_drewN ?_ _ | refine blk_drew ?_ | refine blk_alloc ?_ _)); exact BK123.out)) : gb127 ≠ gb123)); clear BK122; clear BK123; clear HB; have BK122 := n0_; have BK123 := n1_; have HB := n2_; have BK127 := n3_; have GW127 := n4_; have GE127 := n5_; have NB122_127 := n6_; have NB127_122 := n7_; have NB123_127 := n8_; have NB127_123 := n9_; clear n0_ n1_ n2_ n3_ n4_ n5_ n6_ n7_ n8_ n9_; clear hb hbox hg; have hnb62 := NB127_122.out; have hnc62 := NB122_127.out; have hnb63 := NB127_123.out; have hnc63 := NB123_127.out; have hcz64_0 : w61.cell? ⟨gb127, 0, none⟩ = some (.int .i64 0) := (blk_cell BK127.out 0).trans rfl; have hcz64_1 : w61.cell? ⟨gb127, 1, none⟩ = some (.int .i64 0) := (blk_cell BK127.out 1).trans rfl; have hcz64_2 : w61.cell? ⟨gb127, 2, none⟩ = some (.int .i64 0) := (blk_cell BK127.out 2).trans rfl; have hcz64_3 : w61.cell? ⟨gb127, 3, none⟩ = some (.string (⟨#[]⟩ : ByteArray)) := (blk_cell BK127.out 3).trans rfl; have hcz64_4 : w61.cell? ⟨gb127, 4, none⟩ = some (.string (⟨#[]⟩ : ByteArray)) := (blk_cell BK127.out 4).trans rfl; have hfz64_0 := blk_frozen BK127.out 0; have hfz64_1 := blk_frozen BK127.out 1; have hfz64_2 := blk_frozen BK127.out 2; have hfz64_3 := blk_frozen BK127.out 3; have hfz64_4 := blk_frozen BK127.out 4; have hnb65 := NB122_123.out; have hnc65 := NB123_122.out; have hcz66_0 : w61.cell? ⟨gb122, 0, none⟩ = some (.int .i64 a0_0) := (blk_cell BK122.out 0).trans rfl; have hcz66_1 : w61.cell? ⟨gb122, 1, none⟩ = some (.int .i64 a0_1) := (blk_cell BK122.out 1).trans rfl; have hcz66_2 : w61.cell? ⟨gb122, 2, none⟩ = some (.int .i64 a0_2) := (blk_cell BK122.out 2).trans rfl; have hcz66_3 : w61.cell? ⟨gb122, 3, none⟩ = some (.int .i64 a0_3) := (blk_cell BK122.out 3).trans rfl; have hfz66_0 := blk_frozen BK122.out 0; have hfz66_1 := blk_frozen BK122.out 1; have hfz66_2 := blk_frozen BK122.out 2; have hfz66_3 := blk_frozen BK122.out 3) | ((with_reducible refine gate_callee (f := 45) rfl ?_); refine goesL_ (some 41) rfl rfl Tryd.func45 (by kernel_rfl) rfl #[.agg #[.int .i64 a0_0, .int .i64 a0_1, .int .i64 a0_2, .int .i64 a0_3], .int .i64 ((rd_T44 l2_1 x32_2).f0), .agg #[.int .i64 ((rd_T44 l2_1 x32_2).f1.f0), .int .i64 ((rd_T44 l2_1 x32_2).f1.f1)]] rfl (by (try simp only [List.map_toArray, List.map_cons, List.map_nil]); first | done | rfl | (simp only [List.length_drop, List.length_take]; rfl)) ?_; (with_reducible refine (printer_part.calls a0_0 a0_1 a0_2 a0_3 ((rd_T44 l2_1 x32_2).f0) ((rd_T44 l2_1 x32_2).f1.f0) ((rd_T44 l2_1 x32_2).f1.f1) t128 _ A33.out).mono ?_); rintro e w67 ⟨rfl, hb⟩; refine ⟨_, rfl, ?_⟩; have n0_ := Aside0.mk (blk_below (g := gb122) (o := .cells #[.int .i64 a0_0, .int .i64 a0_1, .int .i64 a0_2, .int .i64 a0_3] 70 (0, 0)) (by (with_reducible repeat (first | refine blk_drewN ?_ _ | refine blk_drew ?_ | refine blk_alloc ?_ _)); refine blk_far ?_ NB122_127.out _; (with_reducible repeat (first | refine blk_drewN ?_ _ | refine blk_drew ?_ | refine blk_alloc ?_ _)); refine blk_far ?_ NB122_127.out _; (with_reducible repeat (first | refine blk_drewN ?_ _ | refine blk_drew ?_ | refine blk_alloc ?_ _)); refine blk_far ?_ NB122_127.out _; (with_reducible repeat (first | refine blk_drewN ?_ _ | refine blk_drew ?_ | refine blk_alloc ?_ _)); refine blk_far ?_ NB122_127.out _; (with_reducible repeat (first | refine blk_drewN ?_ _ | refine blk_drew ?_ | refine blk_alloc ?_ _)); refine blk_far ?_ NB122_127.out _; (with_reducible repeat (first | refine blk_drewN ?_ _ | refine blk_drew ?_ | refine blk_alloc ?_ _)); exact BK122.out) hb); have n1_ := Aside0.mk (blk_below (g := gb123) (o := .cells #[.string a2_0, .slice (some ad126) l2_1.length c2_1, .slice A2_2 l2_2.length c2_2, .string a2_3] 28 (0, 0)) (by (with_reducible repeat (first | refine blk_drewN ?_ _ | refine blk_drew ?_ | refine blk_alloc ?_ _)); refine blk_far ?_ NB123_127.out _; (with_reducible repeat (first | refine blk_drewN ?_ _ | refine blk_drew ?_ | refine blk_alloc ?_ _)); refine blk_far ?_ NB123_127.out _; (with_reducible repeat (first | refine blk_drewN ?_ _ | refine blk_drew ?_ | refine blk_alloc ?_ _)); refine blk_far ?_ NB123_127.out _; (with_reducible repeat (first | refine blk_drewN ?_ _ | refine blk_drew ?_ | refine blk_alloc ?_ _)); refine blk_far ?_ NB123_127.out _; (with_reducible repeat (first | refine blk_drewN ?_ _ | refine blk_drew ?_ | refine blk_alloc ?_ _)); refine blk_far ?_ NB123_127.out _; (with_reducible repeat (first | refine blk_drewN ?_ _ | refine blk_drew ?_ | refine blk_alloc ?_ _)); exact BK123.out) hb); have n2_ := Aside0.mk (blk_below (g := gb127) (o := .cells #[.int .i64 ((rd_T44 l2_1 x32_2).f0), .int .i64 ((rd_T44 l2_1 x32_2).f1.f0), .int .i64 ((rd_T44 l2_1 x32_2).f1.f1), .string ((rd_T44 l2_1 x32_2).f2), .string ((rd_T44 l2_1 x32_2).f3)] 44 (0, 0)) (by (with_reducible repeat (first | refine blk_drewN ?_ _ | refine blk_drew ?_ | refine blk_alloc ?_ _)); refine blk_put (cs := #[.int .i64 ((rd_T44 l2_1 x32_2).f0), .int .i64 ((rd_T44 l2_1 x32_2).f1.f0), .int .i64 ((rd_T44 l2_1 x32_2).f1.f1), .string ((rd_T44 l2_1 x32_2).f2), .string (⟨#[]⟩ : ByteArray)]) ?_ 4 _ rfl; (with_reducible repeat (first | refine blk_drewN ?_ _ | refine blk_drew ?_ | refine blk_alloc ?_ _)); refine blk_put (cs := #[.int .i64 ((rd_T44 l2_1 x32_2).f0), .int .i64 ((rd_T44 l2_1 x32_2).f1.f0), .int .i64 ((rd_T44 l2_1 x32_2).f1.f1), .string (⟨#[]⟩ : ByteArray), .string (⟨#[]⟩ : ByteArray)]) ?_ 3 _ rfl; (with_reducible repeat (first | refine blk_drewN ?_ _ | refine blk_drew ?_ | refine blk_alloc ?_ _)); refine blk_put (cs := #[.int .i64 ((rd_T44 l2_1 x32_2).f0), .int .i64 ((rd_T44 l2_1 x32_2).f1.f0), .int .i64 0, .string (⟨#[]⟩ : ByteArray), .string (⟨#[]⟩ : ByteArray)]) ?_ 2 _ rfl; (with_reducible repeat (first | refine blk_drewN ?_ _ | refine blk_drew ?_ | refine blk_alloc ?_ _)); refine blk_put (cs := #[.int .i64 ((rd_T44 l2_1 x32_2).f0), .int .i64 0, .int .i64 0, .string (⟨#[]⟩ : ByteArray), .string (⟨#[]⟩ : ByteArray)]) ?_ 1 _ rfl; (with_reducible repeat (first | refine blk_drewN ?_ _ | refine blk_drew ?_ | refine blk_alloc ?_ _)); refine blk_put (cs := #[.int .i64 0, .int .i64 0, .int .i64 0, .string (⟨#[]⟩ : ByteArray), .string (⟨#[]⟩ : ByteArray)]) ?_ 0 _ rfl; (with_reducible repeat (first | refine blk_drewN ?_ _ | refine blk_drew ?_ | refine blk_alloc ?_ _)); exact BK127.out) hb); have n3_ := Aside0.mk (below_step (by repeat (first | (with_reducible first | exact HB.out | apply below_alloc | apply pw_below_drewN | apply below_drew1 | refine below_set ?_ GE122.out | refine below_set ?_ GE123.out | refine below_set ?_ GE127.out) | exact HB.out)) hb); clear BK122; clear BK123; clear BK127; clear HB; have BK122 := n0_; have BK123 := n1_; have BK127 := n2_; have HB := n3_; clear n0_ n1_ n2_ n3_; (try clear hb); (try clear hb2); (try clear hk); (try clear hi); have hcz68_0 : w67.cell? ⟨gb127, 0, none⟩ = some (.int .i64 ((rd_T44 l2_1 x32_2).f0)) := (blk_cell BK127.out 0).trans rfl; have hcz68_1 : w67.cell? ⟨gb127, 1, none⟩ = some (.int .i64 ((rd_T44 l2_1 x32_2).f1.f0)) := (blk_cell BK127.out 1).trans rfl; have hcz68_2 : w67.cell? ⟨gb127, 2, none⟩ = some (.int .i64 ((rd_T44 l2_1 x32_2).f1.f1)) := (blk_cell BK127.out 2).trans rfl; have hcz68_3 : w67.cell? ⟨gb127, 3, none⟩ = some (.string ((rd_T44 l2_1 x32_2).f2)) := (blk_cell BK127.out 3).trans rfl; have hcz68_4 : w67.cell? ⟨gb127, 4, none⟩ = some (.string ((rd_T44 l2_1 x32_2).f3)) := (blk_cell BK127.out 4).trans rfl; have hfz68_0 := blk_frozen BK127.out 0; have hfz68_1 := blk_frozen BK127.out 1; have hfz68_2 := blk_frozen BK127.out 2; have hfz68_3 := blk_frozen BK127.out 3; have hfz68_4 := blk_frozen BK127.out 4) | ((with_reducible refine gate_callee (f := 43) rfl ?_); refine goesL_ (some 47) rfl rfl Tryd.func43 (by kernel_rfl) rfl #[.string ((rd_T44 l2_1 x32_2).f2)] rfl (by (try simp only [List.map_toArray, List.map_cons, List.map_nil]); first | done | rfl | (simp only [List.length_drop, List.length_take]; rfl)) ?_; (with_reducible refine (lex_IsName.calls ((rd_T44 l2_1 x32_2).f2) false _ A35.out).mono ?_); rintro e w69 ⟨rfl, hb⟩; refine ⟨_, rfl, ?_⟩; have n0_ := Aside0.mk (blk_below (g := gb122) (o := .cells #[.int .i64 a0_0, .int .i64 a0_1, .int .i64 a0_2, .int .i64 a0_3] 70 (0, 0)) (by (with_reducible repeat (first | refine blk_drewN ?_ _ | refine blk_drew ?_ | refine blk_alloc ?_ _)); exact BK122.out) hb); have n1_ := Aside0.mk (blk_below (g := gb123) (o := .cells #[.string a2_0, .slice (some ad126) l2_1.length c2_1, .slice A2_2 l2_2.length c2_2, .string a2_3] 28 (0, 0)) (by (with_reducible repeat (first | refine blk_drewN ?_ _ | refine blk_drew ?_ | refine blk_alloc ?_ _)); exact BK123.out) hb); have n2_ := Aside0.mk (blk_below (g := gb127) (o := .cells #[.int .i64 ((rd_T44 l2_1 x32_2).f0), .int .i64 ((rd_T44 l2_1 x32_2).f1.f0), .int .i64 ((rd_T44 l2_1 x32_2).f1.f1), .string ((rd_T44 l2_1 x32_2).f2), .string ((rd_T44 l2_1 x32_2).f3)] 44 (0, 0)) (by (with_reducible repeat (first | refine blk_drewN ?_ _ | refine blk_drew ?_ | refine blk_alloc ?_ _)); exact BK127.out) hb); have n3_ := Aside0.mk (below_step (by repeat (first | (with_reducible first | exact HB.out | apply below_alloc | apply pw_below_drewN | apply below_drew1 | refine below_set ?_ GE122.out | refine below_set ?_ GE123.out | refine below_set ?_ GE127.out) | exact HB.out)) hb); clear BK122; clear BK123; clear BK127; clear HB; have BK122 := n0_; have BK123 := n1_; have BK127 := n2_; have HB := n3_; clear n0_ n1_ n2_ n3_; (try clear hb); (try clear hb2); (try clear hk); (try clear hi)))
           go_ret
           exact ⟨by first | rfl | (simp [errW_none, errW_some] <;> rfl) | (simp [*, errW_none, errW_some] <;> rfl), by repeat (first | (with_reducible first | exact HB.out | apply below_alloc | apply pw_below_drewN | apply below_drew1 | refine below_set ?_ GE122.out | refine below_set ?_ GE123.out | refine below_set ?_ GE127.out) | exact HB.out)⟩
         ·rw [if_neg c34] at H
          have c34b0 : (t128 == 0) = false := beq_eq_false_iff_ne.mpr c34
          have c34b1 : (t128 != 0) = true := bne_iff_ne.mpr c34
          obtain rfl := Option.some.inj H
          have p126 : 0 ≤ (x32_2 : Int) := of_decide_eq_true (by first | (with_reducible assumption) | assumption)
          have q126 : x32_2 < (l2_1.length : Int) := of_decide_eq_true (by first | (with_reducible assumption) | assumption)
          obtain ⟨ad126, e126, hx126_0, hx126_1, hx126_2, hx126_3, hx126_4⟩ := at_T44 HR2_1.out x32_2 p126 q126
          cases e126
          replace hx126_0 := (HB.out.cell (World.block_lt_of_cell? w _ hx126_0)).trans hx126_0
          replace hx126_1 := (HB.out.cell (World.block_lt_of_cell? w _ hx126_1)).trans hx126_1
          replace hx126_2 := (HB.out.cell (World.block_lt_of_cell? w _ hx126_2)).trans hx126_2
          replace hx126_3 := (HB.out.cell (World.block_lt_of_cell? w _ hx126_3)).trans hx126_3
          replace hx126_4 := (HB.out.cell (World.block_lt_of_cell? w _ hx126_4)).trans hx126_4
          replace p126 := eq_true p126
          replace q126 := eq_true q126
          go_wp2_with (first | ((with_reducible refine gate_dst (N := 8) rfl ?_); refine box_event ?hg (N := 8) ?hd (cs := #[.int .i64 0, .int .i64 0, .int .i64 0, .string (⟨#[]⟩ : ByteArray), .string (⟨#[]⟩ : ByteArray)]) (t := 44) ?hr ?_; (case hd => rfl); (case hg => rfl); (case hr => first | (go_simp; done) | (go_simp; rfl)); intro gb127 hg w70 hbox hb; have n0_ := Aside0.mk (blk_below (g := gb122) (o := .cells #[.int .i64 a0_0, .int .i64 a0_1, .int .i64 a0_2, .int .i64 a0_3] 70 (0, 0)) (by (with_reducible repeat (first | refine blk_drewN ?_ _ | refine blk_drew ?_ | refine blk_alloc ?_ _)); exact BK122.out) hb); have n1_ := Aside0.mk (blk_below (g := gb123) (o := .cells #[.string a2_0, .slice (some ad126) l2_1.length c2_1, .slice A2_2 l2_2.length c2_2, .string a2_3] 28 (0, 0)) (by (with_reducible repeat (first | refine blk_drewN ?_ _ | refine blk_drew ?_ | refine blk_alloc ?_ _)); exact BK123.out) hb); have n2_ := Aside0.mk (below_step (by repeat (first | (with_reducible first | exact HB.out | apply below_alloc | apply pw_below_drewN | apply below_drew1 | refine below_set ?_ GE122.out | refine below_set ?_ GE123.out) | exact HB.out)) hb); have n3_ := Aside0.mk (hbox); have n4_ := Aside0.mk ((by rw [hg]; exact (below_size (by repeat (first | (with_reducible first | exact HB.out | apply below_alloc | apply pw_below_drewN | apply below_drew1 | refine below_set ?_ GE122.out | refine below_set ?_ GE123.out) | exact HB.out))) : w.heap.size ≤ gb127)); have n5_ := Aside0.mk ((by rw [hg]; exact (below_size (by repeat (first | (with_reducible first | exact HB.out | apply below_alloc | apply pw_below_drewN | apply below_drew1 | refine below_set ?_ GE122.out | refine below_set ?_ GE123.out) | exact HB.out))) : w.heap.size ≤ gb127)); have n6_ := Aside0.mk ((by rw [hg]; exact Nat.ne_of_lt (blk_lt (g := gb122) (o := .cells #[.int .i64 a0_0, .int .i64 a0_1, .int .i64 a0_2, .int .i64 a0_3] 70 (0, 0)) (by (with_reducible repeat (first | refine blk_drewN ?_ _ | refine blk_drew ?_ | refine blk_alloc ?_ _)); exact BK122.out)) : gb122 ≠ gb127)); have n7_ := Aside0.mk ((by rw [hg]; exact Nat.ne_of_gt (blk_lt (g := gb122) (o := .cells #[.int .i64 a0_0, .int .i64 a0_1, .int .i64 a0_2, .int .i64 a0_3] 70 (0, 0)) (by (with_reducible repeat (first | refine blk_drewN ?_ _ | refine blk_drew ?_ | refine blk_alloc ?_ _)); exact BK122.out)) : gb127 ≠ gb122)); have n8_ := Aside0.mk ((by rw [hg]; exact Nat.ne_of_lt (blk_lt (g := gb123) (o := .cells #[.string a2_0, .slice (some ad126) l2_1.length c2_1, .slice A2_2 l2_2.length c2_2, .string a2_3] 28 (0, 0)) (by (with_reducible repeat (first | refine blk_drewN ?_ _ | refine blk_drew ?_ | refine blk_alloc ?_ _)); exact BK123.out)) : gb123 ≠ gb127)); have n9_ := Aside0.mk ((by rw [hg]; exact Nat.ne_of_gt (blk_lt (g := gb123) (o := .cells #[.string a2_0, .slice (some ad126) l2_1.length c2_1, .slice A2_2 l2_2.length c2_2, .string a2_3] 28 (0, 0)) (by (with_reducible repeat (first | refine blk_drewN ?_ _ | refine blk_drew ?_ | refine blk_alloc ?_ _)); exact BK123.out)) : gb127 ≠ gb123)); clear BK122; clear BK123; clear HB; have BK122 := n0_; have BK123 := n1_; have HB := n2_; have BK127 := n3_; have GW127 := n4_; have GE127 := n5_; have NB122_127 := n6_; have NB127_122 := n7_; have NB123_127 := n8_; have NB127_123 := n9_; clear n0_ n1_ n2_ n3_ n4_ n5_ n6_ n7_ n8_ n9_; clear hb hbox hg; have hnb71 := NB127_122.out; have hnc71 := NB122_127.out; have hnb72 := NB127_123.out; have hnc72 := NB123_127.out; have hcz73_0 : w70.cell? ⟨gb127, 0, none⟩ = some (.int .i64 0) := (blk_cell BK127.out 0).trans rfl; have hcz73_1 : w70.cell? ⟨gb127, 1, none⟩ = some (.int .i64 0) := (blk_cell BK127.out 1).trans rfl; have hcz73_2 : w70.cell? ⟨gb127, 2, none⟩ = some (.int .i64 0) := (blk_cell BK127.out 2).trans rfl; have hcz73_3 : w70.cell? ⟨gb127, 3, none⟩ = some (.string (⟨#[]⟩ : ByteArray)) := (blk_cell BK127.out 3).trans rfl; have hcz73_4 : w70.cell? ⟨gb127, 4, none⟩ = some (.string (⟨#[]⟩ : ByteArray)) := (blk_cell BK127.out 4).trans rfl; have hfz73_0 := blk_frozen BK127.out 0; have hfz73_1 := blk_frozen BK127.out 1; have hfz73_2 := blk_frozen BK127.out 2; have hfz73_3 := blk_frozen BK127.out 3; have hfz73_4 := blk_frozen BK127.out 4; have hnb74 := NB122_123.out; have hnc74 := NB123_122.out; have hcz75_0 : w70.cell? ⟨gb122, 0, none⟩ = some (.int .i64 a0_0) := (blk_cell BK122.out 0).trans rfl; have hcz75_1 : w70.cell? ⟨gb122, 1, none⟩ = some (.int .i64 a0_1) := (blk_cell BK122.out 1).trans rfl; have hcz75_2 : w70.cell? ⟨gb122, 2, none⟩ = some (.int .i64 a0_2) := (blk_cell BK122.out 2).trans rfl; have hcz75_3 : w70.cell? ⟨gb122, 3, none⟩ = some (.int .i64 a0_3) := (blk_cell BK122.out 3).trans rfl; have hfz75_0 := blk_frozen BK122.out 0; have hfz75_1 := blk_frozen BK122.out 1; have hfz75_2 := blk_frozen BK122.out 2; have hfz75_3 := blk_frozen BK122.out 3) | ((with_reducible refine gate_callee (f := 45) rfl ?_); refine goesL_ (some 41) rfl rfl Tryd.func45 (by kernel_rfl) rfl #[.agg #[.int .i64 a0_0, .int .i64 a0_1, .int .i64 a0_2, .int .i64 a0_3], .int .i64 ((rd_T44 l2_1 x32_2).f0), .agg #[.int .i64 ((rd_T44 l2_1 x32_2).f1.f0), .int .i64 ((rd_T44 l2_1 x32_2).f1.f1)]] rfl (by (try simp only [List.map_toArray, List.map_cons, List.map_nil]); first | done | rfl | (simp only [List.length_drop, List.length_take]; rfl)) ?_; (with_reducible refine (printer_part.calls a0_0 a0_1 a0_2 a0_3 ((rd_T44 l2_1 x32_2).f0) ((rd_T44 l2_1 x32_2).f1.f0) ((rd_T44 l2_1 x32_2).f1.f1) t128 _ A33.out).mono ?_); rintro e w76 ⟨rfl, hb⟩; refine ⟨_, rfl, ?_⟩; have n0_ := Aside0.mk (blk_below (g := gb122) (o := .cells #[.int .i64 a0_0, .int .i64 a0_1, .int .i64 a0_2, .int .i64 a0_3] 70 (0, 0)) (by (with_reducible repeat (first | refine blk_drewN ?_ _ | refine blk_drew ?_ | refine blk_alloc ?_ _)); refine blk_far ?_ NB122_127.out _; (with_reducible repeat (first | refine blk_drewN ?_ _ | refine blk_drew ?_ | refine blk_alloc ?_ _)); refine blk_far ?_ NB122_127.out _; (with_reducible repeat (first | refine blk_drewN ?_ _ | refine blk_drew ?_ | refine blk_alloc ?_ _)); refine blk_far ?_ NB122_127.out _; (with_reducible repeat (first | refine blk_drewN ?_ _ | refine blk_drew ?_ | refine blk_alloc ?_ _)); refine blk_far ?_ NB122_127.out _; (with_reducible repeat (first | refine blk_drewN ?_ _ | refine blk_drew ?_ | refine blk_alloc ?_ _)); refine blk_far ?_ NB122_127.out _; (with_reducible repeat (first | refine blk_drewN ?_ _ | refine blk_drew ?_ | refine blk_alloc ?_ _)); exact BK122.out) hb); have n1_ := Aside0.mk (blk_below (g := gb123) (o := .cells #[.string a2_0, .slice (some ad126) l2_1.length c2_1, .slice A2_2 l2_2.length c2_2, .string a2_3] 28 (0, 0)) (by (with_reducible repeat (first | refine blk_drewN ?_ _ | refine blk_drew ?_ | refine blk_alloc ?_ _)); refine blk_far ?_ NB123_127.out _; (with_reducible repeat (first | refine blk_drewN ?_ _ | refine blk_drew ?_ | refine blk_alloc ?_ _)); refine blk_far ?_ NB123_127.out _; (with_reducible repeat (first | refine blk_drewN ?_ _ | refine blk_drew ?_ | refine blk_alloc ?_ _)); refine blk_far ?_ NB123_127.out _; (with_reducible repeat (first | refine blk_drewN ?_ _ | refine blk_drew ?_ | refine blk_alloc ?_ _)); refine blk_far ?_ NB123_127.out _; (with_reducible repeat (first | refine blk_drewN ?_ _ | refine blk_drew ?_ | refine blk_alloc ?_ _)); refine blk_far ?_ NB123_127.out _; (with_reducible repeat (first | refine blk_drewN ?_ _ | refine blk_drew ?_ | refine blk_alloc ?_ _)); exact BK123.out) hb); have n2_ := Aside0.mk (blk_below (g := gb127) (o := .cells #[.int .i64 ((rd_T44 l2_1 x32_2).f0), .int .i64 ((rd_T44 l2_1 x32_2).f1.f0), .int .i64 ((rd_T44 l2_1 x32_2).f1.f1), .string ((rd_T44 l2_1 x32_2).f2), .string ((rd_T44 l2_1 x32_2).f3)] 44 (0, 0)) (by (with_reducible repeat (first | refine blk_drewN ?_ _ | refine blk_drew ?_ | refine blk_alloc ?_ _)); refine blk_put (cs := #[.int .i64 ((rd_T44 l2_1 x32_2).f0), .int .i64 ((rd_T44 l2_1 x32_2).f1.f0), .int .i64 ((rd_T44 l2_1 x32_2).f1.f1), .string ((rd_T44 l2_1 x32_2).f2), .string (⟨#[]⟩ : ByteArray)]) ?_ 4 _ rfl; (with_reducible repeat (first | refine blk_drewN ?_ _ | refine blk_drew ?_ | refine blk_alloc ?_ _)); refine blk_put (cs := #[.int .i64 ((rd_T44 l2_1 x32_2).f0), .int .i64 ((rd_T44 l2_1 x32_2).f1.f0), .int .i64 ((rd_T44 l2_1 x32_2).f1.f1), .string (⟨#[]⟩ : ByteArray), .string (⟨#[]⟩ : ByteArray)]) ?_ 3 _ rfl; (with_reducible repeat (first | refine blk_drewN ?_ _ | refine blk_drew ?_ | refine blk_alloc ?_ _)); refine blk_put (cs := #[.int .i64 ((rd_T44 l2_1 x32_2).f0), .int .i64 ((rd_T44 l2_1 x32_2).f1.f0), .int .i64 0, .string (⟨#[]⟩ : ByteArray), .string (⟨#[]⟩ : ByteArray)]) ?_ 2 _ rfl; (with_reducible repeat (first | refine blk_drewN ?_ _ | refine blk_drew ?_ | refine blk_alloc ?_ _)); refine blk_put (cs := #[.int .i64 ((rd_T44 l2_1 x32_2).f0), .int .i64 0, .int .i64 0, .string (⟨#[]⟩ : ByteArray), .string (⟨#[]⟩ : ByteArray)]) ?_ 1 _ rfl; (with_reducible repeat (first | refine blk_drewN ?_ _ | refine blk_drew ?_ | refine blk_alloc ?_ _)); refine blk_put (cs := #[.int .i64 0, .int .i64 0, .int .i64 0, .string (⟨#[]⟩ : ByteArray), .string (⟨#[]⟩ : ByteArray)]) ?_ 0 _ rfl; (with_reducible repeat (first | refine blk_drewN ?_ _ | refine blk_drew ?_ | refine blk_alloc ?_ _)); exact BK127.out) hb); have n3_ := Aside0.mk (below_step (by repeat (first | (with_reducible first | exact HB.out | apply below_alloc | apply pw_below_drewN | apply below_drew1 | refine below_set ?_ GE122.out | refine below_set ?_ GE123.out | refine below_set ?_ GE127.out) | exact HB.out)) hb); clear BK122; clear BK123; clear BK127; clear HB; have BK122 := n0_; have BK123 := n1_; have BK127 := n2_; have HB := n3_; clear n0_ n1_ n2_ n3_; (try clear hb); (try clear hb2); (try clear hk); (try clear hi)))
          go_ret
          exact ⟨by first | rfl | (simp [errW_none, errW_some] <;> rfl) | (simp [*, errW_none, errW_some] <;> rfl), by repeat (first | (with_reducible first | exact HB.out | apply below_alloc | apply pw_below_drewN | apply below_drew1 | refine below_set ?_ GE122.out | refine below_set ?_ GE123.out | refine below_set ?_ GE127.out) | exact HB.out)⟩
        ·rw [if_neg c32] at H
         exact absurd H (by simp)
       ·rw [if_neg c31] at H
        exact absurd H (by simp)
      ·rw [if_neg c30] at H
       have c30b0 : decide (x32_2 < (l2_1.length : Int)) = false := decide_eq_false c30
       clear c30
       by_cases c77 : (l2_2.length : Int) > 16
       ·rw [if_pos c77] at H
        have c77b0 : decide (16 < (l2_2.length : Int)) = true := decide_eq_true c77
        have c77b1 : decide (16 < l2_2.length) = true := decide_eq_true (by omega)
        clear c77
        obtain rfl := Option.some.inj H
        have hnb78 := NB123_122.out
        have hnc78 := NB122_123.out
        have hcz79_0 : wr.cell? ⟨gb123, 0, none⟩ = some (.string a2_0) := (blk_cell BK123.out 0).trans rfl
        have hcz79_1 : wr.cell? ⟨gb123, 1, none⟩ = some (.slice A2_1 l2_1.length c2_1) := (blk_cell BK123.out 1).trans rfl
        have hcz79_2 : wr.cell? ⟨gb123, 2, none⟩ = some (.slice A2_2 l2_2.length c2_2) := (blk_cell BK123.out 2).trans rfl
        have hcz79_3 : wr.cell? ⟨gb123, 3, none⟩ = some (.string a2_3) := (blk_cell BK123.out 3).trans rfl
        have hfz79_0 := blk_frozen BK123.out 0
        have hfz79_1 := blk_frozen BK123.out 1
        have hfz79_2 := blk_frozen BK123.out 2
        have hfz79_3 := blk_frozen BK123.out 3
        go_wp2
        go_ret
        exact ⟨by first | rfl | (simp [errW_none, errW_some] <;> rfl) | (simp [*, errW_none, errW_some] <;> rfl), by repeat (first | (with_reducible first | exact HB.out | apply below_alloc | apply pw_below_drewN | apply below_drew1 | refine below_set ?_ GE122.out | refine below_set ?_ GE123.out) | exact HB.out)⟩
       ·rw [if_neg c77] at H
        have c77b0 : decide (16 < (l2_2.length : Int)) = false := decide_eq_false c77
        have c77b1 : decide (16 < l2_2.length) = false := decide_eq_false (by omega)
        clear c77
        have H' := Aside0.mk H
        clear H
        have hnb80 := NB123_122.out
        have hnc80 := NB122_123.out
        have hcz81_0 : wr.cell? ⟨gb123, 0, none⟩ = some (.string a2_0) := (blk_cell BK123.out 0).trans rfl
        have hcz81_1 : wr.cell? ⟨gb123, 1, none⟩ = some (.slice A2_1 l2_1.length c2_1) := (blk_cell BK123.out 1).trans rfl
        have hcz81_2 : wr.cell? ⟨gb123, 2, none⟩ = some (.slice A2_2 l2_2.length c2_2) := (blk_cell BK123.out 2).trans rfl
        have hcz81_3 : wr.cell? ⟨gb123, 3, none⟩ = some (.string a2_3) := (blk_cell BK123.out 3).trans rfl
        have hfz81_0 := blk_frozen BK123.out 0
        have hfz81_1 := blk_frozen BK123.out 1
        have hfz81_2 := blk_frozen BK123.out 2
        have hfz81_3 := blk_frozen BK123.out 3
        go_wp2
        go_loopg [63] k2 (fun kq v63 w' => ∃ (x63_3 : Int), v63 = .int .i64 x63_3 ∧ Aside0 (printer_rung.l1 kq l2_2 (l2_2.length : Int) x63_3 a0_0 a0_1 a0_2 a0_3 a2_0 l2_1 l2_2 a2_3 = some r) ∧ Aside0 (kq ≤ k2) ∧ Aside0 (w'.heap[gb122]? = some (.cells #[.int .i64 a0_0, .int .i64 a0_1, .int .i64 a0_2, .int .i64 a0_3] 70 (0, 0))) ∧ Aside0 (w'.heap[gb123]? = some (.cells #[.string a2_0, (.slice A2_1 l2_1.length c2_1), (.slice A2_2 l2_2.length c2_2), .string a2_3] 28 (0, 0))) ∧ Aside0 (Below w.heap.size w w'))
        case atStart => exact ⟨(0), (by first | rfl | (simp; done) | (simp [*]; done)), H', ⟨Nat.le_refl _⟩, ⟨by (with_reducible repeat (first | refine blk_drewN ?_ _ | refine blk_drew ?_ | refine blk_alloc ?_ _)); exact BK122.out⟩, ⟨by (with_reducible repeat (first | refine blk_drewN ?_ _ | refine blk_drew ?_ | refine blk_alloc ?_ _)); exact BK123.out⟩, ⟨by repeat (first | (with_reducible first | exact HB.out | apply below_alloc | apply pw_below_drewN | apply below_drew1 | refine below_set ?_ GE122.out | refine below_set ?_ GE123.out) | exact HB.out)⟩⟩
        case round =>
         clear H'
         try clear c1
         try clear p1
         try clear q1
         try clear hx1
         try clear c2
         try clear p2
         try clear c3
         try clear c4
         try clear c5
         try clear c6
         try clear p6
         try clear c7
         try clear c8
         try clear c9
         try clear c9b0
         try clear c9b1
         try clear c9b2
         try clear c11
         try clear p12
         try clear q12
         try clear hx12
         try clear c13
         try clear c14
         try clear c18
         try clear c22
         try clear c25
         try clear c25b0
         try clear c25b1
         try clear c26
         try clear c28
         try clear c30
         try clear c30b0
         try clear c31
         try clear c31b0
         try clear c32
         try clear c32b0
         try clear c34
         try clear c34b0
         try clear c34b1
         try clear c36
         try clear c38
         try clear c40
         try clear c41
         try clear c43
         try clear c45
         try clear c51
         try clear c52
         try clear c54
         try clear c62
         try clear c63
         try clear p64
         try clear c65
         try clear c71
         try clear c72
         try clear c74
         try clear c77
         try clear c77b0
         try clear c77b1
         try clear c78
         try clear c80
         try clear hcz15_0
         try clear hcz15_1
         try clear hcz15_2
         try clear hcz15_3
         try clear hcz19_0
         try clear hcz19_1
         try clear hcz19_2
         try clear hcz19_3
         try clear hcz23_0
         try clear hcz23_1
         try clear hcz23_2
         try clear hcz23_3
         try clear hcz27_0
         try clear hcz27_1
         try clear hcz27_2
         try clear hcz27_3
         try clear hcz29_0
         try clear hcz29_1
         try clear hcz29_2
         try clear hcz29_3
         try clear hcz42_0
         try clear hcz42_1
         try clear hcz42_2
         try clear hcz42_3
         try clear hcz42_4
         try clear hcz44_0
         try clear hcz44_1
         try clear hcz44_2
         try clear hcz44_3
         try clear hcz46_0
         try clear hcz46_1
         try clear hcz46_2
         try clear hcz46_3
         try clear hcz46_4
         try clear hcz48_0
         try clear hcz48_1
         try clear hcz48_2
         try clear hcz48_3
         try clear hcz48_4
         try clear hcz53_0
         try clear hcz53_1
         try clear hcz53_2
         try clear hcz53_3
         try clear hcz53_4
         try clear hcz55_0
         try clear hcz55_1
         try clear hcz55_2
         try clear hcz55_3
         try clear hcz57_0
         try clear hcz57_1
         try clear hcz57_2
         try clear hcz57_3
         try clear hcz57_4
         try clear hcz59_0
         try clear hcz59_1
         try clear hcz59_2
         try clear hcz59_3
         try clear hcz59_4
         try clear hcz64_0
         try clear hcz64_1
         try clear hcz64_2
         try clear hcz64_3
         try clear hcz64_4
         try clear hcz66_0
         try clear hcz66_1
         try clear hcz66_2
         try clear hcz66_3
         try clear hcz68_0
         try clear hcz68_1
         try clear hcz68_2
         try clear hcz68_3
         try clear hcz68_4
         try clear hcz73_0
         try clear hcz73_1
         try clear hcz73_2
         try clear hcz73_3
         try clear hcz73_4
         try clear hcz75_0
         try clear hcz75_1
         try clear hcz75_2
         try clear hcz75_3
         try clear hcz79_0
         try clear hcz79_1
         try clear hcz79_2
         try clear hcz79_3
         try clear hcz81_0
         try clear hcz81_1
         try clear hcz81_2
         try clear hcz81_3
         try clear hcz8_0
         try clear hcz8_1
         try clear hcz8_2
         try clear hcz8_3
         try clear hfz15_0
         try clear hfz15_1
         try clear hfz15_2
         try clear hfz15_3
         try clear hfz19_0
         try clear hfz19_1
         try clear hfz19_2
         try clear hfz19_3
         try clear hfz23_0
         try clear hfz23_1
         try clear hfz23_2
         try clear hfz23_3
         try clear hfz27_0
         try clear hfz27_1
         try clear hfz27_2
         try clear hfz27_3
         try clear hfz29_0
         try clear hfz29_1
         try clear hfz29_2
         try clear hfz29_3
         try clear hfz42_0
         try clear hfz42_1
         try clear hfz42_2
         try clear hfz42_3
         try clear hfz42_4
         try clear hfz44_0
         try clear hfz44_1
         try clear hfz44_2
         try clear hfz44_3
         try clear hfz46_0
         try clear hfz46_1
         try clear hfz46_2
         try clear hfz46_3
         try clear hfz46_4
         try clear hfz48_0
         try clear hfz48_1
         try clear hfz48_2
         try clear hfz48_3
         try clear hfz48_4
         try clear hfz53_0
         try clear hfz53_1
         try clear hfz53_2
         try clear hfz53_3
         try clear hfz53_4
         try clear hfz55_0
         try clear hfz55_1
         try clear hfz55_2
         try clear hfz55_3
         try clear hfz57_0
         try clear hfz57_1
         try clear hfz57_2
         try clear hfz57_3
         try clear hfz57_4
         try clear hfz59_0
         try clear hfz59_1
         try clear hfz59_2
         try clear hfz59_3
         try clear hfz59_4
         try clear hfz64_0
         try clear hfz64_1
         try clear hfz64_2
         try clear hfz64_3
         try clear hfz64_4
         try clear hfz66_0
         try clear hfz66_1
         try clear hfz66_2
         try clear hfz66_3
         try clear hfz68_0
         try clear hfz68_1
         try clear hfz68_2
         try clear hfz68_3
         try clear hfz68_4
         try clear hfz73_0
         try clear hfz73_1
         try clear hfz73_2
         try clear hfz73_3
         try clear hfz73_4
         try clear hfz75_0
         try clear hfz75_1
         try clear hfz75_2
         try clear hfz75_3
         try clear hfz79_0
         try clear hfz79_1
         try clear hfz79_2
         try clear hfz79_3
         try clear hfz81_0
         try clear hfz81_1
         try clear hfz81_2
         try clear hfz81_3
         try clear hfz8_0
         try clear hfz8_1
         try clear hfz8_2
         try clear hfz8_3
         try clear hx126_0
         try clear hx126_1
         try clear hx126_2
         try clear hx126_3
         try clear hx126_4
         try clear p126
         try clear p2
         try clear q126
         obtain ⟨x63_3, rfl, HA, HK3, BK122, BK123, HB⟩ := hrel
         cases gk with
         | zero => exact absurd HA.out (by simp [printer_rung.l1])
         | succ k3 =>
          have H := HA.out
          clear HA
          simp only [printer_rung.l1] at H
          by_cases c82 : x63_3 < (l2_2.length : Int)
          ·rw [if_pos c82] at H
           have c82b0 : decide (x63_3 < (l2_2.length : Int)) = true := decide_eq_true c82
           clear c82
           by_cases c83 : 0 ≤ x63_3
           ·rw [if_pos c83] at H
            have c83b0 : decide (0 ≤ x63_3) = true := decide_eq_true c83
            clear c83
            by_cases c84 : x63_3 < (l2_2.length : Int)
            ·rw [if_pos c84] at H
             have c84b0 : decide (x63_3 < (l2_2.length : Int)) = true := decide_eq_true c84
             clear c84
             replace H := Option.bind_eq_some_iff.mp H
             obtain ⟨t134, A850, H⟩ := H
             replace H : (if t134 = 0 then (if ((rd_T47 l2_2 x63_3).f1.f0) = 0 then (some 2) else (printer_rung.l1 k3 l2_2 (l2_2.length : Int) (wrap64 (x63_3 + 1)) a0_0 a0_1 a0_2 a0_3 a2_0 l2_1 l2_2 a2_3)) else (some t134)) = some r := H
             have A85 := Aside0.mk A850
             clear A850
             by_cases c86 : t134 = 0
             ·rw [if_pos c86] at H
              have c86b0 : (t134 == 0) = true := beq_iff_eq.mpr c86
              have c86b1 : (t134 != 0) = false := bne_eq_false_iff_eq.mpr c86
              clear c86
              by_cases c87 : ((rd_T47 l2_2 x63_3).f1.f0) = 0
              ·rw [if_pos c87] at H
               have c87b0 : (((rd_T47 l2_2 x63_3).f1.f0) == 0) = true := beq_iff_eq.mpr c87
               have c87b1 : (((rd_T47 l2_2 x63_3).f1.f0) != 0) = false := bne_eq_false_iff_eq.mpr c87
               clear c87
               obtain rfl := Option.some.inj H
               have p132 : 0 ≤ (x63_3 : Int) := of_decide_eq_true (by first | (with_reducible assumption) | assumption)
               have q132 : x63_3 < (l2_2.length : Int) := of_decide_eq_true (by first | (with_reducible assumption) | assumption)
               obtain ⟨ad132, e132, hx132_0, hx132_1, hx132_2⟩ := at_T47 HR2_2.out x63_3 p132 q132
               cases e132
               replace hx132_0 := (HB.out.cell (World.block_lt_of_cell? w _ hx132_0)).trans hx132_0
               replace hx132_1 := (HB.out.cell (World.block_lt_of_cell? w _ hx132_1)).trans hx132_1
               replace hx132_2 := (HB.out.cell (World.block_lt_of_cell? w _ hx132_2)).trans hx132_2
               replace p132 := eq_true p132
               replace q132 := eq_true q132
               go_wp2_with (first | ((with_reducible refine gate_dst (N := 11) rfl ?_); refine box_event ?hg (N := 11) ?hd (cs := #[.int .i64 0, .int .i64 0, .int .i64 0]) (t := 47) ?hr ?_; (case hd => rfl); (case hg => rfl); (case hr => first | (go_simp; done) | (go_simp; rfl)); intro gb133 hg w88 hbox hb; have n0_ := Aside0.mk (blk_below (g := gb122) (o := .cells #[.int .i64 a0_0, .int .i64 a0_1, .int .i64 a0_2, .int .i64 a0_3] 70 (0, 0)) (by (with_reducible repeat (first | refine blk_drewN ?_ _ | refine blk_drew ?_ | refine blk_alloc ?_ _)); exact BK122.out) hb); have n1_ := Aside0.mk (blk_below (g := gb123) (o := .cells #[.string a2_0, .slice A2_1 l2_1.length c2_1, .slice (some ad132) l2_2.length c2_2, .string a2_3] 28 (0, 0)) (by (with_reducible repeat (first | refine blk_drewN ?_ _ | refine blk_drew ?_ | refine blk_alloc ?_ _)); exact BK123.out) hb); have n2_ := Aside0.mk (below_step (by repeat (first | (with_reducible first | exact HB.out | apply below_alloc | apply pw_below_drewN | apply below_drew1 | refine below_set ?_ GE122.out | refine below_set ?_ GE123.out) | exact HB.out)) hb); have n3_ := Aside0.mk (hbox); have n4_ := Aside0.mk ((by rw [hg]; exact (below_size (by repeat (first | (with_reducible first | exact HB.out | apply below_alloc | apply pw_below_drewN | apply below_drew1 | refine below_set ?_ GE122.out | refine below_set ?_ GE123.out) | exact HB.out))) : w.heap.size ≤ gb133)); have n5_ := Aside0.mk ((by rw [hg]; exact (below_size (by repeat (first | (with_reducible first | exact HB.out | apply below_alloc | apply pw_below_drewN | apply below_drew1 | refine below_set ?_ GE122.out | refine below_set ?_ GE123.out) | exact HB.out))) : w.heap.size ≤ gb133)); have n6_ := Aside0.mk ((by rw [hg]; exact Nat.ne_of_lt (blk_lt (g := gb122) (o := .cells #[.int .i64 a0_0, .int .i64 a0_1, .int .i64 a0_2, .int .i64 a0_3] 70 (0, 0)) (by (with_reducible repeat (first | refine blk_drewN ?_ _ | refine blk_drew ?_ | refine blk_alloc ?_ _)); exact BK122.out)) : gb122 ≠ gb133)); have n7_ := Aside0.mk ((by rw [hg]; exact Nat.ne_of_gt (blk_lt (g := gb122) (o := .cells #[.int .i64 a0_0, .int .i64 a0_1, .int .i64 a0_2, .int .i64 a0_3] 70 (0, 0)) (by (with_reducible repeat (first | refine blk_drewN ?_ _ | refine blk_drew ?_ | refine blk_alloc ?_ _)); exact BK122.out)) : gb133 ≠ gb122)); have n8_ := Aside0.mk ((by rw [hg]; exact Nat.ne_of_lt (blk_lt (g := gb123) (o := .cells #[.string a2_0, .slice A2_1 l2_1.length c2_1, .slice (some ad132) l2_2.length c2_2, .string a2_3] 28 (0, 0)) (by (with_reducible repeat (first | refine blk_drewN ?_ _ | refine blk_drew ?_ | refine blk_alloc ?_ _)); exact BK123.out)) : gb123 ≠ gb133)); have n9_ := Aside0.mk ((by rw [hg]; exact Nat.ne_of_gt (blk_lt (g := gb123) (o := .cells #[.string a2_0, .slice A2_1 l2_1.length c2_1, .slice (some ad132) l2_2.length c2_2, .string a2_3] 28 (0, 0)) (by (with_reducible repeat (first | refine blk_drewN ?_ _ | refine blk_drew ?_ | refine blk_alloc ?_ _)); exact BK123.out)) : gb133 ≠ gb123)); clear BK122; clear BK123; clear HB; have BK122 := n0_; have BK123 := n1_; have HB := n2_; have BK133 := n3_; have GW133 := n4_; have GE133 := n5_; have NB122_133 := n6_; have NB133_122 := n7_; have NB123_133 := n8_; have NB133_123 := n9_; clear n0_ n1_ n2_ n3_ n4_ n5_ n6_ n7_ n8_ n9_; clear hb hbox hg; have hnb89 := NB133_122.out; have hnc89 := NB122_133.out; have hnb90 := NB133_123.out; have hnc90 := NB123_133.out; have hcz91_0 : w88.cell? ⟨gb133, 0, none⟩ = some (.int .i64 0) := (blk_cell BK133.out 0).trans rfl; have hcz91_1 : w88.cell? ⟨gb133, 1, none⟩ = some (.int .i64 0) := (blk_cell BK133.out 1).trans rfl; have hcz91_2 : w88.cell? ⟨gb133, 2, none⟩ = some (.int .i64 0) := (blk_cell BK133.out 2).trans rfl; have hfz91_0 := blk_frozen BK133.out 0; have hfz91_1 := blk_frozen BK133.out 1; have hfz91_2 := blk_frozen BK133.out 2; have hnb92 := NB122_123.out; have hnc92 := NB123_122.out; have hcz93_0 : w88.cell? ⟨gb122, 0, none⟩ = some (.int .i64 a0_0) := (blk_cell BK122.out 0).trans rfl; have hcz93_1 : w88.cell? ⟨gb122, 1, none⟩ = some (.int .i64 a0_1) := (blk_cell BK122.out 1).trans rfl; have hcz93_2 : w88.cell? ⟨gb122, 2, none⟩ = some (.int .i64 a0_2) := (blk_cell BK122.out 2).trans rfl; have hcz93_3 : w88.cell? ⟨gb122, 3, none⟩ = some (.int .i64 a0_3) := (blk_cell BK122.out 3).trans rfl; have hfz93_0 := blk_frozen BK122.out 0; have hfz93_1 := blk_frozen BK122.out 1; have hfz93_2 := blk_frozen BK122.out 2; have hfz93_3 := blk_frozen BK122.out 3) | ((with_reducible refine gate_callee (f := 45) rfl ?_); refine goesL_ (some 72) rfl rfl Tryd.func45 (by kernel_rfl) rfl #[.agg #[.int .i64 a0_0, .int .i64 a0_1, .int .i64 a0_2, .int .i64 a0_3], .int .i64 ((rd_T47 l2_2 x63_3).f0), .agg #[.int .i64 ((rd_T47 l2_2 x63_3).f1.f0), .int .i64 ((rd_T47 l2_2 x63_3).f1.f1)]] rfl (by (try simp only [List.map_toArray, List.map_cons, List.map_nil]); first | done | rfl | (simp only [List.length_drop, List.length_take]; rfl)) ?_; (with_reducible refine (printer_part.calls a0_0 a0_1 a0_2 a0_3 ((rd_T47 l2_2 x63_3).f0) ((rd_T47 l2_2 x63_3).f1.f0) ((rd_T47 l2_2 x63_3).f1.f1) t134 _ A85.out).mono ?_); rintro e w94 ⟨rfl, hb⟩; refine ⟨_, rfl, ?_⟩; have n0_ := Aside0.mk (blk_below (g := gb122) (o := .cells #[.int .i64 a0_0, .int .i64 a0_1, .int .i64 a0_2, .int .i64 a0_3] 70 (0, 0)) (by (with_reducible repeat (first | refine blk_drewN ?_ _ | refine blk_drew ?_ | refine blk_alloc ?_ _)); refine blk_far ?_ NB122_133.out _; (with_reducible repeat (first | refine blk_drewN ?_ _ | refine blk_drew ?_ | refine blk_alloc ?_ _)); refine blk_far ?_ NB122_133.out _; (with_reducible repeat (first | refine blk_drewN ?_ _ | refine blk_drew ?_ | refine blk_alloc ?_ _)); refine blk_far ?_ NB122_133.out _; (with_reducible repeat (first | refine blk_drewN ?_ _ | refine blk_drew ?_ | refine blk_alloc ?_ _)); exact BK122.out) hb); have n1_ := Aside0.mk (blk_below (g := gb123) (o := .cells #[.string a2_0, .slice A2_1 l2_1.length c2_1, .slice (some ad132) l2_2.length c2_2, .string a2_3] 28 (0, 0)) (by (with_reducible repeat (first | refine blk_drewN ?_ _ | refine blk_drew ?_ | refine blk_alloc ?_ _)); refine blk_far ?_ NB123_133.out _; (with_reducible repeat (first | refine blk_drewN ?_ _ | refine blk_drew ?_ | refine blk_alloc ?_ _)); refine blk_far ?_ NB123_133.out _; (with_reducible repeat (first | refine blk_drewN ?_ _ | refine blk_drew ?_ | refine blk_alloc ?_ _)); refine blk_far ?_ NB123_133.out _; (with_reducible repeat (first | refine blk_drewN ?_ _ | refine blk_drew ?_ | refine blk_alloc ?_ _)); exact BK123.out) hb); have n2_ := Aside0.mk (blk_below (g := gb133) (o := .cells #[.int .i64 ((rd_T47 l2_2 x63_3).f0), .int .i64 ((rd_T47 l2_2 x63_3).f1.f0), .int .i64 ((rd_T47 l2_2 x63_3).f1.f1)] 47 (0, 0)) (by (with_reducible repeat (first | refine blk_drewN ?_ _ | refine blk_drew ?_ | refine blk_alloc ?_ _)); refine blk_put (cs := #[.int .i64 ((rd_T47 l2_2 x63_3).f0), .int .i64 ((rd_T47 l2_2 x63_3).f1.f0), .int .i64 0]) ?_ 2 _ rfl; (with_reducible repeat (first | refine blk_drewN ?_ _ | refine blk_drew ?_ | refine blk_alloc ?_ _)); refine blk_put (cs := #[.int .i64 ((rd_T47 l2_2 x63_3).f0), .int .i64 0, .int .i64 0]) ?_ 1 _ rfl; (with_reducible repeat (first | refine blk_drewN ?_ _ | refine blk_drew ?_ | refine blk_alloc ?_ _)); refine blk_put (cs := #[.int .i64 0, .int .i64 0, .int .i64 0]) ?_ 0 _ rfl; (with_reducible repeat (first | refine blk_drewN ?_ _ | refine blk_drew ?_ | refine blk_alloc ?_ _)); exact BK133.out) hb); have n3_ := Aside0.mk (below_step (by repeat (first | (with_reducible first | exact HB.out | apply below_alloc | apply pw_below_drewN | apply below_drew1 | refine below_set ?_ GE122.out | refine below_set ?_ GE123.out | refine below_set ?_ GE133.out) | exact HB.out)) hb); clear BK122; clear BK123; clear BK133; clear HB; have BK122 := n0_; have BK123 := n1_; have BK133 := n2_; have HB := n3_; clear n0_ n1_ n2_ n3_; (try clear hb); (try clear hb2); (try clear hk); (try clear hi); have hcz95_0 : w94.cell? ⟨gb133, 0, none⟩ = some (.int .i64 ((rd_T47 l2_2 x63_3).f0)) := (blk_cell BK133.out 0).trans rfl; have hcz95_1 : w94.cell? ⟨gb133, 1, none⟩ = some (.int .i64 ((rd_T47 l2_2 x63_3).f1.f0)) := (blk_cell BK133.out 1).trans rfl; have hcz95_2 : w94.cell? ⟨gb133, 2, none⟩ = some (.int .i64 ((rd_T47 l2_2 x63_3).f1.f1)) := (blk_cell BK133.out 2).trans rfl; have hfz95_0 := blk_frozen BK133.out 0; have hfz95_1 := blk_frozen BK133.out 1; have hfz95_2 := blk_frozen BK133.out 2))
               go_ret
               exact ⟨by first | rfl | (simp [errW_none, errW_some] <;> rfl) | (simp [*, errW_none, errW_some] <;> rfl), by repeat (first | (with_reducible first | exact HB.out | apply below_alloc | apply pw_below_drewN | apply below_drew1 | refine below_set ?_ GE122.out | refine below_set ?_ GE123.out | refine below_set ?_ GE133.out) | exact HB.out)⟩
              ·rw [if_neg c87] at H
               have c87b0 : (((rd_T47 l2_2 x63_3).f1.f0) == 0) = false := beq_eq_false_iff_ne.mpr c87
               have c87b1 : (((rd_T47 l2_2 x63_3).f1.f0) != 0) = true := bne_iff_ne.mpr c87
               have H' := Aside0.mk H
               clear H
               have p132 : 0 ≤ (x63_3 : Int) := of_decide_eq_true (by first | (with_reducible assumption) | assumption)
               have q132 : x63_3 < (l2_2.length : Int) := of_decide_eq_true (by first | (with_reducible assumption) | assumption)
               obtain ⟨ad132, e132, hx132_0, hx132_1, hx132_2⟩ := at_T47 HR2_2.out x63_3 p132 q132
               cases e132
               replace hx132_0 := (HB.out.cell (World.block_lt_of_cell? w _ hx132_0)).trans hx132_0
               replace hx132_1 := (HB.out.cell (World.block_lt_of_cell? w _ hx132_1)).trans hx132_1
               replace hx132_2 := (HB.out.cell (World.block_lt_of_cell? w _ hx132_2)).trans hx132_2
               replace p132 := eq_true p132
               replace q132 := eq_true q132
               go_wp2_with (first | ((with_reducible refine gate_dst (N := 11) rfl ?_); refine box_event ?hg (N := 11) ?hd (cs := #[.int .i64 0, .int .i64 0, .int .i64 0]) (t := 47) ?hr ?_; (case hd => rfl); (case hg => rfl); (case hr => first | (go_simp; done) | (go_simp; rfl)); intro gb133 hg w96 hbox hb; have n0_ := Aside0.mk (blk_below (g := gb122) (o := .cells #[.int .i64 a0_0, .int .i64 a0_1, .int .i64 a0_2, .int .i64 a0_3] 70 (0, 0)) (by (with_reducible repeat (first | refine blk_drewN ?_ _ | refine blk_drew ?_ | refine blk_alloc ?_ _)); exact BK122.out) hb); have n1_ := Aside0.mk (blk_below (g := gb123) (o := .cells #[.string a2_0, .slice A2_1 l2_1.length c2_1, .slice (some ad132) l2_2.length c2_2, .string a2_3] 28 (0, 0)) (by (with_reducible repeat (first | refine blk_drewN ?_ _ | refine blk_drew ?_ | refine blk_alloc ?_ _)); exact BK123.out) hb); have n2_ := Aside0.mk (below_step (by repeat (first | (with_reducible first | exact HB.out | apply below_alloc | apply pw_below_drewN | apply below_drew1 | refine below_set ?_ GE122.out | refine below_set ?_ GE123.out) | exact HB.out)) hb); have n3_ := Aside0.mk (hbox); have n4_ := Aside0.mk ((by rw [hg]; exact (below_size (by repeat (first | (with_reducible first | exact HB.out | apply below_alloc | apply pw_below_drewN | apply below_drew1 | refine below_set ?_ GE122.out | refine below_set ?_ GE123.out) | exact HB.out))) : w.heap.size ≤ gb133)); have n5_ := Aside0.mk ((by rw [hg]; exact (below_size (by repeat (first | (with_reducible first | exact HB.out | apply below_alloc | apply pw_below_drewN | apply below_drew1 | refine below_set ?_ GE122.out | refine below_set ?_ GE123.out) | exact HB.out))) : w.heap.size ≤ gb133)); have n6_ := Aside0.mk ((by rw [hg]; exact Nat.ne_of_lt (blk_lt (g := gb122) (o := .cells #[.int .i64 a0_0, .int .i64 a0_1, .int .i64 a0_2, .int .i64 a0_3] 70 (0, 0)) (by (with_reducible repeat (first | refine blk_drewN ?_ _ | refine blk_drew ?_ | refine blk_alloc ?_ _)); exact BK122.out)) : gb122 ≠ gb133)); have n7_ := Aside0.mk ((by rw [hg]; exact Nat.ne_of_gt (blk_lt (g := gb122) (o := .cells #[.int .i64 a0_0, .int .i64 a0_1, .int .i64 a0_2, .int .i64 a0_3] 70 (0, 0)) (by (with_reducible repeat (first | refine blk_drewN ?_ _ | refine blk_drew ?_ | refine blk_alloc ?_ _)); exact BK122.out)) : gb133 ≠ gb122)); have n8_ := Aside0.mk ((by rw [hg]; exact Nat.ne_of_lt (blk_lt (g := gb123) (o := .cells #[.string a2_0, .slice A2_1 l2_1.length c2_1, .slice (some ad132) l2_2.length c2_2, .string a2_3] 28 (0, 0)) (by (with_reducible repeat (first | refine blk_drewN ?_ _ | refine blk_drew ?_ | refine blk_alloc ?_ _)); exact BK123.out)) : gb123 ≠ gb133)); have n9_ := Aside0.mk ((by rw [hg]; exact Nat.ne_of_gt (blk_lt (g := gb123) (o := .cells #[.string a2_0, .slice A2_1 l2_1.length c2_1, .slice (some ad132) l2_2.length c2_2, .string a2_3] 28 (0, 0)) (by (with_reducible repeat (first | refine blk_drewN ?_ _ | refine blk_drew ?_ | refine blk_alloc ?_ _)); exact BK123.out)) : gb133 ≠ gb123)); clear BK122; clear BK123; clear HB; have BK122 := n0_; have BK123 := n1_; have HB := n2_; have BK133 := n3_; have GW133 := n4_; have GE133 := n5_; have NB122_133 := n6_; have NB133_122 := n7_; have NB123_133 := n8_; have NB133_123 := n9_; clear n0_ n1_ n2_ n3_ n4_ n5_ n6_ n7_ n8_ n9_; clear hb hbox hg; have hnb97 := NB133_122.out; have hnc97 := NB122_133.out; have hnb98 := NB133_123.out; have hnc98 := NB123_133.out; have hcz99_0 : w96.cell? ⟨gb133, 0, none⟩ = some (.int .i64 0) := (blk_cell BK133.out 0).trans rfl; have hcz99_1 : w96.cell? ⟨gb133, 1, none⟩ = some (.int .i64 0) := (blk_cell BK133.out 1).trans rfl; have hcz99_2 : w96.cell? ⟨gb133, 2, none⟩ = some (.int .i64 0) := (blk_cell BK133.out 2).trans rfl; have hfz99_0 := blk_frozen BK133.out 0; have hfz99_1 := blk_frozen BK133.out 1; have hfz99_2 := blk_frozen BK133.out 2; have hnb100 := NB122_123.out; have hnc100 := NB123_122.out; have hcz101_0 : w96.cell? ⟨gb122, 0, none⟩ = some (.int .i64 a0_0) := (blk_cell BK122.out 0).trans rfl; have hcz101_1 : w96.cell? ⟨gb122, 1, none⟩ = some (.int .i64 a0_1) := (blk_cell BK122.out 1).trans rfl; have hcz101_2 : w96.cell? ⟨gb122, 2, none⟩ = some (.int .i64 a0_2) := (blk_cell BK122.out 2).trans rfl; have hcz101_3 : w96.cell? ⟨gb122, 3, none⟩ = some (.int .i64 a0_3) := (blk_cell BK122.out 3).trans rfl; have hfz101_0 := blk_frozen BK122.out 0; have hfz101_1 := blk_frozen BK122.out 1; have hfz101_2 := blk_frozen BK122.out 2; have hfz101_3 := blk_frozen BK122.out 3) | ((with_reducible refine gate_callee (f := 45) rfl ?_); refine goesL_ (some 72) rfl rfl Tryd.func45 (by kernel_rfl) rfl #[.agg #[.int .i64 a0_0, .int .i64 a0_1, .int .i64 a0_2, .int .i64 a0_3], .int .i64 ((rd_T47 l2_2 x63_3).f0), .agg #[.int .i64 ((rd_T47 l2_2 x63_3).f1.f0), .int .i64 ((rd_T47 l2_2 x63_3).f1.f1)]] rfl (by (try simp only [List.map_toArray, List.map_cons, List.map_nil]); first | done | rfl | (simp only [List.length_drop, List.length_take]; rfl)) ?_; (with_reducible refine (printer_part.calls a0_0 a0_1 a0_2 a0_3 ((rd_T47 l2_2 x63_3).f0) ((rd_T47 l2_2 x63_3).f1.f0) ((rd_T47 l2_2 x63_3).f1.f1) t134 _ A85.out).mono ?_); rintro e w102 ⟨rfl, hb⟩; refine ⟨_, rfl, ?_⟩; have n0_ := Aside0.mk (blk_below (g := gb122) (o := .cells #[.int .i64 a0_0, .int .i64 a0_1, .int .i64 a0_2, .int .i64 a0_3] 70 (0, 0)) (by (with_reducible repeat (first | refine blk_drewN ?_ _ | refine blk_drew ?_ | refine blk_alloc ?_ _)); refine blk_far ?_ NB122_133.out _; (with_reducible repeat (first | refine blk_drewN ?_ _ | refine blk_drew ?_ | refine blk_alloc ?_ _)); refine blk_far ?_ NB122_133.out _; (with_reducible repeat (first | refine blk_drewN ?_ _ | refine blk_drew ?_ | refine blk_alloc ?_ _)); refine blk_far ?_ NB122_133.out _; (with_reducible repeat (first | refine blk_drewN ?_ _ | refine blk_drew ?_ | refine blk_alloc ?_ _)); exact BK122.out) hb); have n1_ := Aside0.mk (blk_below (g := gb123) (o := .cells #[.string a2_0, .slice A2_1 l2_1.length c2_1, .slice (some ad132) l2_2.length c2_2, .string a2_3] 28 (0, 0)) (by (with_reducible repeat (first | refine blk_drewN ?_ _ | refine blk_drew ?_ | refine blk_alloc ?_ _)); refine blk_far ?_ NB123_133.out _; (with_reducible repeat (first | refine blk_drewN ?_ _ | refine blk_drew ?_ | refine blk_alloc ?_ _)); refine blk_far ?_ NB123_133.out _; (with_reducible repeat (first | refine blk_drewN ?_ _ | refine blk_drew ?_ | refine blk_alloc ?_ _)); refine blk_far ?_ NB123_133.out _; (with_reducible repeat (first | refine blk_drewN ?_ _ | refine blk_drew ?_ | refine blk_alloc ?_ _)); exact BK123.out) hb); have n2_ := Aside0.mk (blk_below (g := gb133) (o := .cells #[.int .i64 ((rd_T47 l2_2 x63_3).f0), .int .i64 ((rd_T47 l2_2 x63_3).f1.f0), .int .i64 ((rd_T47 l2_2 x63_3).f1.f1)] 47 (0, 0)) (by (with_reducible repeat (first | refine blk_drewN ?_ _ | refine blk_drew ?_ | refine blk_alloc ?_ _)); refine blk_put (cs := #[.int .i64 ((rd_T47 l2_2 x63_3).f0), .int .i64 ((rd_T47 l2_2 x63_3).f1.f0), .int .i64 0]) ?_ 2 _ rfl; (with_reducible repeat (first | refine blk_drewN ?_ _ | refine blk_drew ?_ | refine blk_alloc ?_ _)); refine blk_put (cs := #[.int .i64 ((rd_T47 l2_2 x63_3).f0), .int .i64 0, .int .i64 0]) ?_ 1 _ rfl; (with_reducible repeat (first | refine blk_drewN ?_ _ | refine blk_drew ?_ | refine blk_alloc ?_ _)); refine blk_put (cs := #[.int .i64 0, .int .i64 0, .int .i64 0]) ?_ 0 _ rfl; (with_reducible repeat (first | refine blk_drewN ?_ _ | refine blk_drew ?_ | refine blk_alloc ?_ _)); exact BK133.out) hb); have n3_ := Aside0.mk (below_step (by repeat (first | (with_reducible first | exact HB.out | apply below_alloc | apply pw_below_drewN | apply below_drew1 | refine below_set ?_ GE122.out | refine below_set ?_ GE123.out | refine below_set ?_ GE133.out) | exact HB.out)) hb); clear BK122; clear BK123; clear BK133; clear HB; have BK122 := n0_; have BK123 := n1_; have BK133 := n2_; have HB := n3_; clear n0_ n1_ n2_ n3_; (try clear hb); (try clear hb2); (try clear hk); (try clear hi); have hcz103_0 : w102.cell? ⟨gb133, 0, none⟩ = some (.int .i64 ((rd_T47 l2_2 x63_3).f0)) := (blk_cell BK133.out 0).trans rfl; have hcz103_1 : w102.cell? ⟨gb133, 1, none⟩ = some (.int .i64 ((rd_T47 l2_2 x63_3).f1.f0)) := (blk_cell BK133.out 1).trans rfl; have hcz103_2 : w102.cell? ⟨gb133, 2, none⟩ = some (.int .i64 ((rd_T47 l2_2 x63_3).f1.f1)) := (blk_cell BK133.out 2).trans rfl; have hfz103_0 := blk_frozen BK133.out 0; have hfz103_1 := blk_frozen BK133.out 1; have hfz103_2 := blk_frozen BK133.out 2))
               go_roundg k3
               case measure => have := HJ3.out; have := HK2.out; have := HK3.out; omega
               case rel => exact ⟨(wrap64 (x63_3 + 1)), (by first | rfl | (simp; done) | (simp [*]; done)), H', ⟨by have := HJ3.out; have := HK2.out; have := HK3.out; omega⟩, ⟨by (with_reducible repeat (first | refine blk_drewN ?_ _ | refine blk_drew ?_ | refine blk_alloc ?_ _)); exact BK122.out⟩, ⟨by (with_reducible repeat (first | refine blk_drewN ?_ _ | refine blk_drew ?_ | refine blk_alloc ?_ _)); exact BK123.out⟩, ⟨by repeat (first | (with_reducible first | exact HB.out | apply below_alloc | apply pw_below_drewN | apply below_drew1 | refine below_set ?_ GE122.out | refine below_set ?_ GE123.out | refine below_set ?_ GE133.out) | exact HB.out)⟩⟩
             ·rw [if_neg c86] at H
              have c86b0 : (t134 == 0) = false := beq_eq_false_iff_ne.mpr c86
              have c86b1 : (t134 != 0) = true := bne_iff_ne.mpr c86
              obtain rfl := Option.some.inj H
              have p132 : 0 ≤ (x63_3 : Int) := of_decide_eq_true (by first | (with_reducible assumption) | assumption)
              have q132 : x63_3 < (l2_2.length : Int) := of_decide_eq_true (by first | (with_reducible assumption) | assumption)
              obtain ⟨ad132, e132, hx132_0, hx132_1, hx132_2⟩ := at_T47 HR2_2.out x63_3 p132 q132
              cases e132
              replace hx132_0 := (HB.out.cell (World.block_lt_of_cell? w _ hx132_0)).trans hx132_0
              replace hx132_1 := (HB.out.cell (World.block_lt_of_cell? w _ hx132_1)).trans hx132_1
              replace hx132_2 := (HB.out.cell (World.block_lt_of_cell? w _ hx132_2)).trans hx132_2
              replace p132 := eq_true p132
              replace q132 := eq_true q132
              go_wp2_with (first | ((with_reducible refine gate_dst (N := 11) rfl ?_); refine box_event ?hg (N := 11) ?hd (cs := #[.int .i64 0, .int .i64 0, .int .i64 0]) (t := 47) ?hr ?_; (case hd => rfl); (case hg => rfl); (case hr => first | (go_simp; done) | (go_simp; rfl)); intro gb133 hg w104 hbox hb; have n0_ := Aside0.mk (blk_below (g := gb122) (o := .cells #[.int .i64 a0_0, .int .i64 a0_1, .int .i64 a0_2, .int .i64 a0_3] 70 (0, 0)) (by (with_reducible repeat (first | refine blk_drewN ?_ _ | refine blk_drew ?_ | refine blk_alloc ?_ _)); exact BK122.out) hb); have n1_ := Aside0.mk (blk_below (g := gb123) (o := .cells #[.string a2_0, .slice A2_1 l2_1.length c2_1, .slice (some ad132) l2_2.length c2_2, .string a2_3] 28 (0, 0)) (by (with_reducible repeat (first | refine blk_drewN ?_ _ | refine blk_drew ?_ | refine blk_alloc ?_ _)); exact BK123.out) hb); have n2_ := Aside0.mk (below_step (by repeat (first | (with_reducible first | exact HB.out | apply below_alloc | apply pw_below_drewN | apply below_drew1 | refine below_set ?_ GE122.out | refine below_set ?_ GE123.out) | exact HB.out)) hb); have n3_ := Aside0.mk (hbox); have n4_ := Aside0.mk ((by rw [hg]; exact (below_size (by repeat (first | (with_reducible first | exact HB.out | apply below_alloc | apply pw_below_drewN | apply below_drew1 | refine below_set ?_ GE122.out | refine below_set ?_ GE123.out) | exact HB.out))) : w.heap.size ≤ gb133)); have n5_ := Aside0.mk ((by rw [hg]; exact (below_size (by repeat (first | (with_reducible first | exact HB.out | apply below_alloc | apply pw_below_drewN | apply below_drew1 | refine below_set ?_ GE122.out | refine below_set ?_ GE123.out) | exact HB.out))) : w.heap.size ≤ gb133)); have n6_ := Aside0.mk ((by rw [hg]; exact Nat.ne_of_lt (blk_lt (g := gb122) (o := .cells #[.int .i64 a0_0, .int .i64 a0_1, .int .i64 a0_2, .int .i64 a0_3] 70 (0, 0)) (by (with_reducible repeat (first | refine blk_drewN ?_ _ | refine blk_drew ?_ | refine blk_alloc ?_ _)); exact BK122.out)) : gb122 ≠ gb133)); have n7_ := Aside0.mk ((by rw [hg]; exact Nat.ne_of_gt (blk_lt (g := gb122) (o := .cells #[.int .i64 a0_0, .int .i64 a0_1, .int .i64 a0_2, .int .i64 a0_3] 70 (0, 0)) (by (with_reducible repeat (first | refine blk_drewN ?_ _ | refine blk_drew ?_ | refine blk_alloc ?_ _)); exact BK122.out)) : gb133 ≠ gb122)); have n8_ := Aside0.mk ((by rw [hg]; exact Nat.ne_of_lt (blk_lt (g := gb123) (o := .cells #[.string a2_0, .slice A2_1 l2_1.length c2_1, .slice (some ad132) l2_2.length c2_2, .string a2_3] 28 (0, 0)) (by (with_reducible repeat (first | refine blk_drewN ?_ _ | refine blk_drew ?_ | refine blk_alloc ?_ _)); exact BK123.out)) : gb123 ≠ gb133)); have n9_ := Aside0.mk ((by rw [hg]; exact Nat.ne_of_gt (blk_lt (g := gb123) (o := .cells #[.string a2_0, .slice A2_1 l2_1.length c2_1, .slice (some ad132) l2_2.length c2_2, .string a2_3] 28 (0, 0)) (by (with_reducible repeat (first | refine blk_drewN ?_ _ | refine blk_drew ?_ | refine blk_alloc ?_ _)); exact BK123.out)) : gb133 ≠ gb123)); clear BK122; clear BK123; clear HB; have BK122 := n0_; have BK123 := n1_; have HB := n2_; have BK133 := n3_; have GW133 := n4_; have GE133 := n5_; have NB122_133 := n6_; have NB133_122 := n7_; have NB123_133 := n8_; have NB133_123 := n9_; clear n0_ n1_ n2_ n3_ n4_ n5_ n6_ n7_ n8_ n9_; clear hb hbox hg; have hnb105 := NB133_122.out; have hnc105 := NB122_133.out; have hnb106 := NB133_123.out; have hnc106 := NB123_133.out; have hcz107_0 : w104.cell? ⟨gb133, 0, none⟩ = some (.int .i64 0) := (blk_cell BK133.out 0).trans rfl; have hcz107_1 : w104.cell? ⟨gb133, 1, none⟩ = some (.int .i64 0) := (blk_cell BK133.out 1).trans rfl; have hcz107_2 : w104.cell? ⟨gb133, 2, none⟩ = some (.int .i64 0) := (blk_cell BK133.out 2).trans rfl; have hfz107_0 := blk_frozen BK133.out 0; have hfz107_1 := blk_frozen BK133.out 1; have hfz107_2 := blk_frozen BK133.out 2; have hnb108 := NB122_123.out; have hnc108 := NB123_122.out; have hcz109_0 : w104.cell? ⟨gb122, 0, none⟩ = some (.int .i64 a0_0) := (blk_cell BK122.out 0).trans rfl; have hcz109_1 : w104.cell? ⟨gb122, 1, none⟩ = some (.int .i64 a0_1) := (blk_cell BK122.out 1).trans rfl; have hcz109_2 : w104.cell? ⟨gb122, 2, none⟩ = some (.int .i64 a0_2) := (blk_cell BK122.out 2).trans rfl; have hcz109_3 : w104.cell? ⟨gb122, 3, none⟩ = some (.int .i64 a0_3) := (blk_cell BK122.out 3).trans rfl; have hfz109_0 := blk_frozen BK122.out 0; have hfz109_1 := blk_frozen BK122.out 1; have hfz109_2 := blk_frozen BK122.out 2; have hfz109_3 := blk_frozen BK122.out 3) | ((with_reducible refine gate_callee (f := 45) rfl ?_); refine goesL_ (some 72) rfl rfl Tryd.func45 (by kernel_rfl) rfl #[.agg #[.int .i64 a0_0, .int .i64 a0_1, .int .i64 a0_2, .int .i64 a0_3], .int .i64 ((rd_T47 l2_2 x63_3).f0), .agg #[.int .i64 ((rd_T47 l2_2 x63_3).f1.f0), .int .i64 ((rd_T47 l2_2 x63_3).f1.f1)]] rfl (by (try simp only [List.map_toArray, List.map_cons, List.map_nil]); first | done | rfl | (simp only [List.length_drop, List.length_take]; rfl)) ?_; (with_reducible refine (printer_part.calls a0_0 a0_1 a0_2 a0_3 ((rd_T47 l2_2 x63_3).f0) ((rd_T47 l2_2 x63_3).f1.f0) ((rd_T47 l2_2 x63_3).f1.f1) t134 _ A85.out).mono ?_); rintro e w110 ⟨rfl, hb⟩; refine ⟨_, rfl, ?_⟩; have n0_ := Aside0.mk (blk_below (g := gb122) (o := .cells #[.int .i64 a0_0, .int .i64 a0_1, .int .i64 a0_2, .int .i64 a0_3] 70 (0, 0)) (by (with_reducible repeat (first | refine blk_drewN ?_ _ | refine blk_drew ?_ | refine blk_alloc ?_ _)); refine blk_far ?_ NB122_133.out _; (with_reducible repeat (first | refine blk_drewN ?_ _ | refine blk_drew ?_ | refine blk_alloc ?_ _)); refine blk_far ?_ NB122_133.out _; (with_reducible repeat (first | refine blk_drewN ?_ _ | refine blk_drew ?_ | refine blk_alloc ?_ _)); refine blk_far ?_ NB122_133.out _; (with_reducible repeat (first | refine blk_drewN ?_ _ | refine blk_drew ?_ | refine blk_alloc ?_ _)); exact BK122.out) hb); have n1_ := Aside0.mk (blk_below (g := gb123) (o := .cells #[.string a2_0, .slice A2_1 l2_1.length c2_1, .slice (some ad132) l2_2.length c2_2, .string a2_3] 28 (0, 0)) (by (with_reducible repeat (first | refine blk_drewN ?_ _ | refine blk_drew ?_ | refine blk_alloc ?_ _)); refine blk_far ?_ NB123_133.out _; (with_reducible repeat (first | refine blk_drewN ?_ _ | refine blk_drew ?_ | refine blk_alloc ?_ _)); refine blk_far ?_ NB123_133.out _; (with_reducible repeat (first | refine blk_drewN ?_ _ | refine blk_drew ?_ | refine blk_alloc ?_ _)); refine blk_far ?_ NB123_133.out _; (with_reducible repeat (first | refine blk_drewN ?_ _ | refine blk_drew ?_ | refine blk_alloc ?_ _)); exact BK123.out) hb); have n2_ := Aside0.mk (blk_below (g := gb133) (o := .cells #[.int .i64 ((rd_T47 l2_2 x63_3).f0), .int .i64 ((rd_T47 l2_2 x63_3).f1.f0), .int .i64 ((rd_T47 l2_2 x63_3).f1.f1)] 47 (0, 0)) (by (with_reducible repeat (first | refine blk_drewN ?_ _ | refine blk_drew ?_ | refine blk_alloc ?_ _)); refine blk_put (cs := #[.int .i64 ((rd_T47 l2_2 x63_3).f0), .int .i64 ((rd_T47 l2_2 x63_3).f1.f0), .int .i64 0]) ?_ 2 _ rfl; (with_reducible repeat (first | refine blk_drewN ?_ _ | refine blk_drew ?_ | refine blk_alloc ?_ _)); refine blk_put (cs := #[.int .i64 ((rd_T47 l2_2 x63_3).f0), .int .i64 0, .int .i64 0]) ?_ 1 _ rfl; (with_reducible repeat (first | refine blk_drewN ?_ _ | refine blk_drew ?_ | refine blk_alloc ?_ _)); refine blk_put (cs := #[.int .i64 0, .int .i64 0, .int .i64 0]) ?_ 0 _ rfl; (with_reducible repeat (first | refine blk_drewN ?_ _ | refine blk_drew ?_ | refine blk_alloc ?_ _)); exact BK133.out) hb); have n3_ := Aside0.mk (below_step (by repeat (first | (with_reducible first | exact HB.out | apply below_alloc | apply pw_below_drewN | apply below_drew1 | refine below_set ?_ GE122.out | refine below_set ?_ GE123.out | refine below_set ?_ GE133.out) | exact HB.out)) hb); clear BK122; clear BK123; clear BK133; clear HB; have BK122 := n0_; have BK123 := n1_; have BK133 := n2_; have HB := n3_; clear n0_ n1_ n2_ n3_; (try clear hb); (try clear hb2); (try clear hk); (try clear hi)))
              go_ret
              exact ⟨by first | rfl | (simp [errW_none, errW_some] <;> rfl) | (simp [*, errW_none, errW_some] <;> rfl), by repeat (first | (with_reducible first | exact HB.out | apply below_alloc | apply pw_below_drewN | apply below_drew1 | refine below_set ?_ GE122.out | refine below_set ?_ GE123.out | refine below_set ?_ GE133.out) | exact HB.out)⟩
            ·rw [if_neg c84] at H
             exact absurd H (by simp)
           ·rw [if_neg c83] at H
            exact absurd H (by simp)
          ·rw [if_neg c82] at H
           have c82b0 : decide (x63_3 < (l2_2.length : Int)) = false := decide_eq_false c82
           clear c82
           by_cases c111 : a2_3.toList = ([] : List UInt8)
           ·rw [if_pos c111] at H
            have c111b0 : (a2_3.toList == ([] : List UInt8)) = true := beq_iff_eq.mpr c111
            have c111b1 : (a2_3.toList != ([] : List UInt8)) = false := bne_eq_false_iff_eq.mpr c111
            (try (have c111b2 : a2_3.toList.isEmpty = true := List.isEmpty_iff.mpr c111))
            (try (have c111b3 : (!a2_3.toList.isEmpty) = false := by rw [List.isEmpty_iff.mpr c111]; rfl))
            clear c111
            obtain rfl := Option.some.inj H
            have hnb112 := NB123_122.out
            have hnc112 := NB122_123.out
            have hcz113_0 : wr.cell? ⟨gb123, 0, none⟩ = some (.string a2_0) := (blk_cell BK123.out 0).trans rfl
            have hcz113_1 : wr.cell? ⟨gb123, 1, none⟩ = some (.slice A2_1 l2_1.length c2_1) := (blk_cell BK123.out 1).trans rfl
            have hcz113_2 : wr.cell? ⟨gb123, 2, none⟩ = some (.slice A2_2 l2_2.length c2_2) := (blk_cell BK123.out 2).trans rfl
            have hcz113_3 : wr.cell? ⟨gb123, 3, none⟩ = some (.string a2_3) := (blk_cell BK123.out 3).trans rfl
            have hfz113_0 := blk_frozen BK123.out 0
            have hfz113_1 := blk_frozen BK123.out 1
            have hfz113_2 := blk_frozen BK123.out 2
            have hfz113_3 := blk_frozen BK123.out 3
            go_wp2
            go_ret
            exact ⟨by first | rfl | (simp [errW_none, errW_some] <;> rfl) | (simp [*, errW_none, errW_some] <;> rfl), by repeat (first | (with_reducible first | exact HB.out | apply below_alloc | apply pw_below_drewN | apply below_drew1 | refine below_set ?_ GE122.out | refine below_set ?_ GE123.out) | exact HB.out)⟩
           ·rw [if_neg c111] at H
            have c111b0 : (a2_3.toList == ([] : List UInt8)) = false := beq_eq_false_iff_ne.mpr c111
            have c111b1 : (a2_3.toList != ([] : List UInt8)) = true := bne_iff_ne.mpr c111
            (try (have c111b2 : a2_3.toList.isEmpty = false := List.isEmpty_eq_false_iff.mpr c111))
            (try (have c111b3 : (!a2_3.toList.isEmpty) = true := by rw [List.isEmpty_eq_false_iff.mpr c111]; rfl))
            replace H := Option.bind_eq_some_iff.mp H
            obtain ⟨t131, A1140, H⟩ := H
            replace H : (if t131 = true then (some 0) else (some 6)) = some r := H
            have A114 := Aside0.mk A1140
            clear A1140
            by_cases c115 : t131 = true
            ·subst c115
             have H1 : (some 0) = some r := by rw [if_pos rfl] at H; exact H
             clear H
             have H := H1
             clear H1
             obtain rfl := Option.some.inj H
             have hnb116 := NB123_122.out
             have hnc116 := NB122_123.out
             have hcz117_0 : wr.cell? ⟨gb123, 0, none⟩ = some (.string a2_0) := (blk_cell BK123.out 0).trans rfl
             have hcz117_1 : wr.cell? ⟨gb123, 1, none⟩ = some (.slice A2_1 l2_1.length c2_1) := (blk_cell BK123.out 1).trans rfl
             have hcz117_2 : wr.cell? ⟨gb123, 2, none⟩ = some (.slice A2_2 l2_2.length c2_2) := (blk_cell BK123.out 2).trans rfl
             have hcz117_3 : wr.cell? ⟨gb123, 3, none⟩ = some (.string a2_3) := (blk_cell BK123.out 3).trans rfl
             have hfz117_0 := blk_frozen BK123.out 0
             have hfz117_1 := blk_frozen BK123.out 1
             have hfz117_2 := blk_frozen BK123.out 2
             have hfz117_3 := blk_frozen BK123.out 3
             go_wp2_with (first | (go_at_call 43; (with_reducible refine (lex_IsName.calls a2_3 true _ A114.out).mono ?_); rintro e w118 ⟨rfl, hb⟩; have n0_ := Aside0.mk (blk_below (g := gb122) (o := .cells #[.int .i64 a0_0, .int .i64 a0_1, .int .i64 a0_2, .int .i64 a0_3] 70 (0, 0)) (by (with_reducible repeat (first | refine blk_drewN ?_ _ | refine blk_drew ?_ | refine blk_alloc ?_ _)); exact BK122.out) hb); have n1_ := Aside0.mk (blk_below (g := gb123) (o := .cells #[.string a2_0, .slice A2_1 l2_1.length c2_1, .slice A2_2 l2_2.length c2_2, .string a2_3] 28 (0, 0)) (by (with_reducible repeat (first | refine blk_drewN ?_ _ | refine blk_drew ?_ | refine blk_alloc ?_ _)); exact BK123.out) hb); have n2_ := Aside0.mk (below_step (by repeat (first | (with_reducible first | exact HB.out | apply below_alloc | apply pw_below_drewN | apply below_drew1 | refine below_set ?_ GE122.out | refine below_set ?_ GE123.out) | exact HB.out)) hb); clear BK122; clear BK123; clear HB; have BK122 := n0_; have BK123 := n1_; have HB := n2_; clear n0_ n1_ n2_; (try clear hb); (try clear hb2); (try clear hk); (try clear hi)))
             go_ret
             exact ⟨by first | rfl | (simp [errW_none, errW_some] <;> rfl) | (simp [*, errW_none, errW_some] <;> rfl), by repeat (first | (with_reducible first | exact HB.out | apply below_alloc | apply pw_below_drewN | apply below_drew1 | refine below_set ?_ GE122.out | refine below_set ?_ GE123.out) | exact HB.out)⟩
            ·replace c115 := Bool.eq_false_iff.mpr c115
             subst c115
             have H1 : (some 6) = some r := by rw [if_neg (show ¬ (false = true) by decide)] at H; exact H
             clear H
             have H := H1
             clear H1
             obtain rfl := Option.some.inj H
             have hnb119 := NB123_122.out
             have hnc119 := NB122_123.out
             have hcz120_0 : wr.cell? ⟨gb123, 0, none⟩ = some (.string a2_0) := (blk_cell BK123.out 0).trans rfl
             have hcz120_1 : wr.cell? ⟨gb123, 1, none⟩ = some (.slice A2_1 l2_1.length c2_1) := (blk_cell BK123.out 1).trans rfl
             have hcz120_2 : wr.cell? ⟨gb123, 2, none⟩ = some (.slice A2_2 l2_2.length c2_2) := (blk_cell BK123.out 2).trans rfl
             have hcz120_3 : wr.cell? ⟨gb123, 3, none⟩ = some (.string a2_3) := (blk_cell BK123.out 3).trans rfl
             have hfz120_0 := blk_frozen BK123.out 0
             have hfz120_1 := blk_frozen BK123.out 1
             have hfz120_2 := blk_frozen BK123.out 2
             have hfz120_3 := blk_frozen BK123.out 3
             go_wp2_with (first | (go_at_call 43; (with_reducible refine (lex_IsName.calls a2_3 false _ A114.out).mono ?_); rintro e w121 ⟨rfl, hb⟩; have n0_ := Aside0.mk (blk_below (g := gb122) (o := .cells #[.int .i64 a0_0, .int .i64 a0_1, .int .i64 a0_2, .int .i64 a0_3] 70 (0, 0)) (by (with_reducible repeat (first | refine blk_drewN ?_ _ | refine blk_drew ?_ | refine blk_alloc ?_ _)); exact BK122.out) hb); have n1_ := Aside0.mk (blk_below (g := gb123) (o := .cells #[.string a2_0, .slice A2_1 l2_1.length c2_1, .slice A2_2 l2_2.length c2_2, .string a2_3] 28 (0, 0)) (by (with_reducible repeat (first | refine blk_drewN ?_ _ | refine blk_drew ?_ | refine blk_alloc ?_ _)); exact BK123.out) hb); have n2_ := Aside0.mk (below_step (by repeat (first | (with_reducible first | exact HB.out | apply below_alloc | apply pw_below_drewN | apply below_drew1 | refine below_set ?_ GE122.out | refine below_set ?_ GE123.out) | exact HB.out)) hb); clear BK122; clear BK123; clear HB; have BK122 := n0_; have BK123 := n1_; have HB := n2_; clear n0_ n1_ n2_; (try clear hb); (try clear hb2); (try clear hk); (try clear hi)))
             go_ret
             exact ⟨by first | rfl | (simp [errW_none, errW_some] <;> rfl) | (simp [*, errW_none, errW_some] <;> rfl), by repeat (first | (with_reducible first | exact HB.out | apply below_alloc | apply pw_below_drewN | apply below_drew1 | refine below_set ?_ GE122.out | refine below_set ?_ GE123.out) | exact HB.out)⟩

end Go.Proofs.YtdbjjbooalkkbaaDoor.P

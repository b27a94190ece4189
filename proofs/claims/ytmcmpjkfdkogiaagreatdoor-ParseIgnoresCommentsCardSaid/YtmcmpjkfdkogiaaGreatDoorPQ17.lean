-- Out of the translation's print, by a program. Lean checks it.
import Derived.Test.YtmcmpjkfdkogiaaGreatDoorPQ0
import Derived.Test.YtmcmpjkfdkogiaaGreatDoorPQ10
import Derived.Test.YtmcmpjkfdkogiaaGreatDoorXAlive10
import Derived.Test.YtmcmpjkfdkogiaaGreatDoorXLaid
import Derived.Test.YtmcmpjkfdkogiaaGreatDoorXParseAll
import Derived.Test.YtmcmpjkfdkogiaaGreatDoorXStrings
namespace Go.Proofs.YtmcmpjkfdkogiaaGreatDoor.P
open Go.RowKit Go.Proofs.YtmcmpjkfdkogiaaGreatDoorW.PrintWords Go.Proofs.YtmcmpjkfdkogiaaGreatDoorW.PrintLast Go.Proofs.YtmcmpjkfdkogiaaGreatDoorW.PrintMore
attribute [local go_sem] max2_int min2_int max_two min_two max_three min_three max_four min_four   -- for this text's walks alone
set_option linter.unusedVariables false
set_option linter.unusedSimpArgs false

/-! ### law10_ParseIgnoresComments: function 7 -/
mutual
def law10_ParseIgnoresComments.j0 : Nat → Int → List Int → Int → List Int → Int → Bool → Option (Bool)
 | 0, _, _, _, _, _, _ => none
 | k + 1, x5, x7, x8, x11, x12, x55 => if x55 = true then (some false) else (if x8 > 0 then (if x12 = (wrap64 (x8 + x5)) then (if x8 = 0 then (law10_ParseIgnoresComments.j1 k x5 x7 x11 (x12 != 0)) else (law10_ParseIgnoresComments.j1 k x5 x7 x11 false)) else (law10_ParseIgnoresComments.j1 k x5 x7 x11 true)) else (if x8 = 0 then (law10_ParseIgnoresComments.j1 k x5 x7 x11 (x12 != 0)) else (law10_ParseIgnoresComments.j1 k x5 x7 x11 false)))
def law10_ParseIgnoresComments.j1 : Nat → Int → List Int → List Int → Bool → Option (Bool)
 | 0, _, _, _, _ => none
 | k + 1, x5, x7, x11, x72 => if x72 = true then (some false) else (law10_ParseIgnoresComments.l0 k x5 x7 x11 (x7.length : Int) 0)
def law10_ParseIgnoresComments.l0 : Nat → Int → List Int → List Int → Int → Int → Option (Bool)
 | 0, _, _, _, _, _ => none
 | k + 1, x5, x7, x11, x74, x75 => if x75 < x74 then (if 0 ≤ x75 then (if x75 < (x11.length : Int) then (if x75 < (x7.length : Int) then (if (rd x11 x75) = (wrap64 ((rd x7 x75) + x5)) then (law10_ParseIgnoresComments.l0 k x5 x7 x11 x74 (wrap64 (x75 + 1))) else (some false)) else (none)) else (none)) else (none)) else ((law10_alive.f).bind fun t438 => (some t438))
end
def law10_ParseIgnoresComments.f (k : Nat) (a0 : ByteArray) (a1 : Int) : Option (Bool) := if (a0.size : Int) > 3000 then ((law10_alive.f).bind fun t408 => (some t408)) else ((parse_Parse.f a0).bind fun bt409 => ((strings_Repeat.f (⟨#[59, 32, 120, 10]⟩ : ByteArray) (wrap64 (Int.tmod a1 20))).bind fun t421 => ((strings_ReplaceAll.f a0 (⟨#[10]⟩ : ByteArray) (⟨#[32, 9, 59, 32, 121, 10]⟩ : ByteArray)).bind fun t422 => (if t421.size + t422.size ≤ 9223372036854775807 then ((parse_Parse.f (t421 ++ t422)).bind fun bt423 => (if bt409.2.2.2.2.2.2 = bt423.2.2.2.2.2.2 then ((ref10_Same.f k bt409.1 bt409.2.1 bt409.2.2.1 bt409.2.2.2.1 bt423.1 bt423.2.1 bt423.2.2.1 bt423.2.2.2.1).bind fun t435 => (if t435 = true then (law10_ParseIgnoresComments.j0 k (wrap64 (Int.tmod a1 20)) bt409.2.2.2.2.1 bt409.2.2.2.2.2.1 bt423.2.2.2.2.1 bt423.2.2.2.2.2.1 ((bt409.2.2.2.2.1.length : Int) != (bt423.2.2.2.2.1.length : Int))) else (law10_ParseIgnoresComments.j0 k (wrap64 (Int.tmod a1 20)) bt409.2.2.2.2.1 bt409.2.2.2.2.2.1 bt423.2.2.2.2.1 bt423.2.2.2.2.2.1 true))) else (law10_ParseIgnoresComments.j0 k (wrap64 (Int.tmod a1 20)) bt409.2.2.2.2.1 bt409.2.2.2.2.2.1 bt423.2.2.2.2.1 bt423.2.2.2.2.2.1 true))) else (none)))))
theorem law10_ParseIgnoresComments.mono_l : ∀ k, (∀ y0 y1 y2 y3 y4 y5, LeO (law10_ParseIgnoresComments.j0 k y0 y1 y2 y3 y4 y5) (law10_ParseIgnoresComments.j0 (k + 1) y0 y1 y2 y3 y4 y5)) ∧ (∀ y0 y1 y2 y3, LeO (law10_ParseIgnoresComments.j1 k y0 y1 y2 y3) (law10_ParseIgnoresComments.j1 (k + 1) y0 y1 y2 y3)) ∧ (∀ y0 y1 y2 y3 y4, LeO (law10_ParseIgnoresComments.l0 k y0 y1 y2 y3 y4) (law10_ParseIgnoresComments.l0 (k + 1) y0 y1 y2 y3 y4))
 | 0 => ⟨fun _ _ _ _ _ _ r h => by simp [law10_ParseIgnoresComments.j0] at h, fun _ _ _ _ r h => by simp [law10_ParseIgnoresComments.j1] at h, fun _ _ _ _ _ r h => by simp [law10_ParseIgnoresComments.l0] at h⟩
 | k + 1 => by
  obtain ⟨ih0, ih1, ih2⟩ := law10_ParseIgnoresComments.mono_l k
  refine ⟨?_, ?_, ?_⟩
  ·intro y0 y1 y2 y3 y4 y5
   unfold law10_ParseIgnoresComments.j0
   repeat' first
   | (with_reducible exact ih0 _ _ _ _ _ _)
   | (with_reducible exact ih1 _ _ _ _)
   | (with_reducible exact ih2 _ _ _ _ _)
   | (with_reducible exact ref10_Same.mono _ _ _ _ _ _ _ _ _)
   | (with_reducible exact LeO.refl _)
   | (with_reducible exact LeO.none _)
   | (with_reducible refine LeO.ite ?_ ?_)
   | (with_reducible refine LeO.bind ?_ (fun _ => ?_))
   | exact ih0 _ _ _ _ _ _
   | exact ih1 _ _ _ _
   | exact ih2 _ _ _ _ _
   | exact ref10_Same.mono _ _ _ _ _ _ _ _ _
   | exact LeO.none _
   | refine LeO.ite ?_ ?_
   | refine LeO.bind ?_ (fun _ => ?_)
  ·intro y0 y1 y2 y3
   unfold law10_ParseIgnoresComments.j1
   repeat' first
   | (with_reducible exact ih0 _ _ _ _ _ _)
   | (with_reducible exact ih1 _ _ _ _)
   | (with_reducible exact ih2 _ _ _ _ _)
   | (with_reducible exact ref10_Same.mono _ _ _ _ _ _ _ _ _)
   | (with_reducible exact LeO.refl _)
   | (with_reducible exact LeO.none _)
   | (with_reducible refine LeO.ite ?_ ?_)
   | (with_reducible refine LeO.bind ?_ (fun _ => ?_))
   | exact ih0 _ _ _ _ _ _
   | exact ih1 _ _ _ _
   | exact ih2 _ _ _ _ _
   | exact ref10_Same.mono _ _ _ _ _ _ _ _ _
   | exact LeO.none _
   | refine LeO.ite ?_ ?_
   | refine LeO.bind ?_ (fun _ => ?_)
  ·intro y0 y1 y2 y3 y4
   unfold law10_ParseIgnoresComments.l0
   repeat' first
   | (with_reducible exact ih0 _ _ _ _ _ _)
   | (with_reducible exact ih1 _ _ _ _)
   | (with_reducible exact ih2 _ _ _ _ _)
   | (with_reducible exact ref10_Same.mono _ _ _ _ _ _ _ _ _)
   | (with_reducible exact LeO.refl _)
   | (with_reducible exact LeO.none _)
   | (with_reducible refine LeO.ite ?_ ?_)
   | (with_reducible refine LeO.bind ?_ (fun _ => ?_))
   | exact ih0 _ _ _ _ _ _
   | exact ih1 _ _ _ _
   | exact ih2 _ _ _ _ _
   | exact ref10_Same.mono _ _ _ _ _ _ _ _ _
   | exact LeO.none _
   | refine LeO.ite ?_ ?_
   | refine LeO.bind ?_ (fun _ => ?_)
theorem law10_ParseIgnoresComments.mono : ∀ a0 a1 k, LeO (law10_ParseIgnoresComments.f k a0 a1) (law10_ParseIgnoresComments.f (k + 1) a0 a1) := by
 intro a0 a1 k
 obtain ⟨ih0, ih1, ih2⟩ := law10_ParseIgnoresComments.mono_l k
 unfold law10_ParseIgnoresComments.f
 repeat' first
   | (with_reducible exact ih0 _ _ _ _ _ _)
   | (with_reducible exact ih1 _ _ _ _)
   | (with_reducible exact ih2 _ _ _ _ _)
   | (with_reducible exact ref10_Same.mono _ _ _ _ _ _ _ _ _)
   | (with_reducible exact LeO.refl _)
   | (with_reducible exact LeO.none _)
   | (with_reducible refine LeO.ite ?_ ?_)
   | (with_reducible refine LeO.bind ?_ (fun _ => ?_))
   | exact ih0 _ _ _ _ _ _
   | exact ih1 _ _ _ _
   | exact ih2 _ _ _ _ _
   | exact ref10_Same.mono _ _ _ _ _ _ _ _ _
   | exact LeO.none _
   | refine LeO.ite ?_ ?_
   | refine LeO.bind ?_ (fun _ => ?_)
set_option maxHeartbeats 8000000 in
set_option maxRecDepth 100000 in
theorem law10_ParseIgnoresComments.calls (k : Nat) (a0 : ByteArray) (a1 : Int) (r : Bool) (w : World) (hL : Aside0 (LaidW 47 w)) (h : law10_ParseIgnoresComments.f k a0 a1 = some r) :
  Calls Tryz.prog 7 #[.string a0, .int .u8 a1] w fun e w' => e = .returned (.bool r) ∧ Below w.heap.size w w' := by
 have hu25 := Tryz.underlying25
 have HB := Aside0.mk (Below.refl w.heap.size w)
 have H : (if (a0.size : Int) > 3000 then ((law10_alive.f).bind fun t408 => (some t408)) else ((parse_Parse.f a0).bind fun bt409 => ((strings_Repeat.f (⟨#[59, 32, 120, 10]⟩ : ByteArray) (wrap64 (Int.tmod a1 20))).bind fun t421 => ((strings_ReplaceAll.f a0 (⟨#[10]⟩ : ByteArray) (⟨#[32, 9, 59, 32, 121, 10]⟩ : ByteArray)).bind fun t422 => (if t421.size + t422.size ≤ 9223372036854775807 then ((parse_Parse.f (t421 ++ t422)).bind fun bt423 => (if bt409.2.2.2.2.2.2 = bt423.2.2.2.2.2.2 then ((ref10_Same.f k bt409.1 bt409.2.1 bt409.2.2.1 bt409.2.2.2.1 bt423.1 bt423.2.1 bt423.2.2.1 bt423.2.2.2.1).bind fun t435 => (if t435 = true then (law10_ParseIgnoresComments.j0 k (wrap64 (Int.tmod a1 20)) bt409.2.2.2.2.1 bt409.2.2.2.2.2.1 bt423.2.2.2.2.1 bt423.2.2.2.2.2.1 ((bt409.2.2.2.2.1.length : Int) != (bt423.2.2.2.2.1.length : Int))) else (law10_ParseIgnoresComments.j0 k (wrap64 (Int.tmod a1 20)) bt409.2.2.2.2.1 bt409.2.2.2.2.2.1 bt423.2.2.2.2.1 bt423.2.2.2.2.2.1 true))) else (law10_ParseIgnoresComments.j0 k (wrap64 (Int.tmod a1 20)) bt409.2.2.2.2.1 bt409.2.2.2.2.2.1 bt423.2.2.2.2.1 bt423.2.2.2.2.2.1 true))) else (none)))))) = some r := h
 clear h
 by_cases c3 : (a0.size : Int) > 3000
 ·rw [if_pos c3] at H
  have c3b0 : decide (3000 < (a0.size : Int)) = true := decide_eq_true c3
  have c3b1 : decide (3000 < a0.size) = true := decide_eq_true (by omega)
  clear c3
  replace H := Option.bind_eq_some_iff.mp H
  obtain ⟨t408, A40, H⟩ := H
  replace H : (some t408) = some r := H
  have A4 := Aside0.mk A40
  clear A40
  obtain rfl := Option.some.inj H
  go_enter Tryz.func7, Tryz.ntmps7
  go_wp2_with (first | (go_at_call 8; (with_reducible refine (law10_alive.calls  t408 _ (LaidW.below (m' := 47) hL rfl (by repeat (first | (with_reducible first | exact HB.out | apply below_alloc | apply pw_below_drewN | apply below_drew1) | exact HB.out))) A4.out).mono ?_); rintro e w5 ⟨rfl, hb⟩; have n0_ := Aside0.mk (below_step (by repeat (first | (with_reducible first | exact HB.out | apply below_alloc | apply pw_below_drewN | apply below_drew1) | exact HB.out)) hb); clear HB; have HB := n0_; clear n0_; (try clear hb); (try clear hb2); (try clear hk); (try clear hi)))
  repeat (go_quiet (first | (go_at_call 8; (with_reducible refine (law10_alive.calls  t408 _ (LaidW.below (m' := 47) hL rfl (by repeat (first | (with_reducible first | exact HB.out | apply below_alloc | apply pw_below_drewN | apply below_drew1) | exact HB.out))) A4.out).mono ?_); rintro e w5 ⟨rfl, hb⟩; have n0_ := Aside0.mk (below_step (by repeat (first | (with_reducible first | exact HB.out | apply below_alloc | apply pw_below_drewN | apply below_drew1) | exact HB.out)) hb); clear HB; have HB := n0_; clear n0_; (try clear hb); (try clear hb2); (try clear hk); (try clear hi))); try go_wp2_with (first | (go_at_call 8; (with_reducible refine (law10_alive.calls  t408 _ (LaidW.below (m' := 47) hL rfl (by repeat (first | (with_reducible first | exact HB.out | apply below_alloc | apply pw_below_drewN | apply below_drew1) | exact HB.out))) A4.out).mono ?_); rintro e w5 ⟨rfl, hb⟩; have n0_ := Aside0.mk (below_step (by repeat (first | (with_reducible first | exact HB.out | apply below_alloc | apply pw_below_drewN | apply below_drew1) | exact HB.out)) hb); clear HB; have HB := n0_; clear n0_; (try clear hb); (try clear hb2); (try clear hk); (try clear hi))))
  go_ret
  exact ⟨by first | rfl | (simp [errW_none, errW_some] <;> rfl) | (simp [*, errW_none, errW_some] <;> rfl), by repeat (first | (with_reducible first | exact HB.out | apply below_alloc | apply pw_below_drewN | apply below_drew1) | exact HB.out)⟩
 ·rw [if_neg c3] at H
  have c3b0 : decide (3000 < (a0.size : Int)) = false := decide_eq_false c3
  have c3b1 : decide (3000 < a0.size) = false := decide_eq_false (by omega)
  clear c3
  replace H := Option.bind_eq_some_iff.mp H
  obtain ⟨⟨t409, t410, t411, t412, t415, t418, t419⟩, A60, H⟩ := H
  replace H : ((strings_Repeat.f (⟨#[59, 32, 120, 10]⟩ : ByteArray) (wrap64 (Int.tmod a1 20))).bind fun t421 => ((strings_ReplaceAll.f a0 (⟨#[10]⟩ : ByteArray) (⟨#[32, 9, 59, 32, 121, 10]⟩ : ByteArray)).bind fun t422 => (if t421.size + t422.size ≤ 9223372036854775807 then ((parse_Parse.f (t421 ++ t422)).bind fun bt423 => (if t419 = bt423.2.2.2.2.2.2 then ((ref10_Same.f k t409 t410 t411 t412 bt423.1 bt423.2.1 bt423.2.2.1 bt423.2.2.2.1).bind fun t435 => (if t435 = true then (law10_ParseIgnoresComments.j0 k (wrap64 (Int.tmod a1 20)) t415 t418 bt423.2.2.2.2.1 bt423.2.2.2.2.2.1 ((t415.length : Int) != (bt423.2.2.2.2.1.length : Int))) else (law10_ParseIgnoresComments.j0 k (wrap64 (Int.tmod a1 20)) t415 t418 bt423.2.2.2.2.1 bt423.2.2.2.2.2.1 true))) else (law10_ParseIgnoresComments.j0 k (wrap64 (Int.tmod a1 20)) t415 t418 bt423.2.2.2.2.1 bt423.2.2.2.2.2.1 true))) else (none)))) = some r := H
  have A6 := Aside0.mk A60
  clear A60
  replace H := Option.bind_eq_some_iff.mp H
  obtain ⟨t421, A70, H⟩ := H
  replace H : ((strings_ReplaceAll.f a0 (⟨#[10]⟩ : ByteArray) (⟨#[32, 9, 59, 32, 121, 10]⟩ : ByteArray)).bind fun t422 => (if t421.size + t422.size ≤ 9223372036854775807 then ((parse_Parse.f (t421 ++ t422)).bind fun bt423 => (if t419 = bt423.2.2.2.2.2.2 then ((ref10_Same.f k t409 t410 t411 t412 bt423.1 bt423.2.1 bt423.2.2.1 bt423.2.2.2.1).bind fun t435 => (if t435 = true then (law10_ParseIgnoresComments.j0 k (wrap64 (Int.tmod a1 20)) t415 t418 bt423.2.2.2.2.1 bt423.2.2.2.2.2.1 ((t415.length : Int) != (bt423.2.2.2.2.1.length : Int))) else (law10_ParseIgnoresComments.j0 k (wrap64 (Int.tmod a1 20)) t415 t418 bt423.2.2.2.2.1 bt423.2.2.2.2.2.1 true))) else (law10_ParseIgnoresComments.j0 k (wrap64 (Int.tmod a1 20)) t415 t418 bt423.2.2.2.2.1 bt423.2.2.2.2.2.1 true))) else (none))) = some r := H
  have A7 := Aside0.mk A70
  clear A70
  replace H := Option.bind_eq_some_iff.mp H
  obtain ⟨t422, A80, H⟩ := H
  replace H : (if t421.size + t422.size ≤ 9223372036854775807 then ((parse_Parse.f (t421 ++ t422)).bind fun bt423 => (if t419 = bt423.2.2.2.2.2.2 then ((ref10_Same.f k t409 t410 t411 t412 bt423.1 bt423.2.1 bt423.2.2.1 bt423.2.2.2.1).bind fun t435 => (if t435 = true then (law10_ParseIgnoresComments.j0 k (wrap64 (Int.tmod a1 20)) t415 t418 bt423.2.2.2.2.1 bt423.2.2.2.2.2.1 ((t415.length : Int) != (bt423.2.2.2.2.1.length : Int))) else (law10_ParseIgnoresComments.j0 k (wrap64 (Int.tmod a1 20)) t415 t418 bt423.2.2.2.2.1 bt423.2.2.2.2.2.1 true))) else (law10_ParseIgnoresComments.j0 k (wrap64 (Int.tmod a1 20)) t415 t418 bt423.2.2.2.2.1 bt423.2.2.2.2.2.1 true))) else (none)) = some r := H
  have A8 := Aside0.mk A80
  clear A80
  by_cases c9 : t421.size + t422.size ≤ 9223372036854775807
  ·rw [if_pos c9] at H
   have c9b0 := eq_true c9
   have c9b1 : decide (t421.size + t422.size ≤ 9223372036854775807) = true := decide_eq_true c9
   try have c9b2 : (9223372036854775807 < t421.size + t422.size) = False := eq_false (Nat.not_lt.2 c9)
   replace H := Option.bind_eq_some_iff.mp H
   obtain ⟨⟨t423, t424, t425, t426, t429, t432, t433⟩, A100, H⟩ := H
   replace H : (if t419 = t433 then ((ref10_Same.f k t409 t410 t411 t412 t423 t424 t425 t426).bind fun t435 => (if t435 = true then (law10_ParseIgnoresComments.j0 k (wrap64 (Int.tmod a1 20)) t415 t418 t429 t432 ((t415.length : Int) != (t429.length : Int))) else (law10_ParseIgnoresComments.j0 k (wrap64 (Int.tmod a1 20)) t415 t418 t429 t432 true))) else (law10_ParseIgnoresComments.j0 k (wrap64 (Int.tmod a1 20)) t415 t418 t429 t432 true)) = some r := H
   have A10 := Aside0.mk A100
   clear A100
   have HC11 := Aside0.mk H
   clear H
   go_enter Tryz.func7, Tryz.ntmps7
   go_upto_region 6 with (first | (go_at_call 9; (with_reducible refine (parse_Parse.calls a0 t409 t410 t411 t412 t415 t418 t419 _ (LaidW.below (m' := 47) hL rfl (by repeat (first | (with_reducible first | exact HB.out | apply below_alloc | apply pw_below_drewN | apply below_drew1) | exact HB.out))) A6.out).mono ?_); rintro e w12 ⟨v413, v416, rfl, ho0, ho1, hb⟩; have n0_ := Aside0.mk (Kd.S_lower ho0 (below_size (by repeat (first | (with_reducible first | exact HB.out | apply below_alloc | apply pw_below_drewN | apply below_drew1) | exact HB.out)))); have n1_ := Aside0.mk (Kd.R_lower ho1 (below_size (by repeat (first | (with_reducible first | exact HB.out | apply below_alloc | apply pw_below_drewN | apply below_drew1) | exact HB.out)))); have n2_ := Aside0.mk (below_step (by repeat (first | (with_reducible first | exact HB.out | apply below_alloc | apply pw_below_drewN | apply below_drew1) | exact HB.out)) hb); clear HB; have HO414 := n0_; have HO417 := n1_; have HB := n2_; clear n0_ n1_ n2_; (try clear hb); (try clear hb2); (try clear hk); (try clear hi); (try clear ho0); (try clear ho1)) | ((with_reducible refine gate_dst (N := 6) rfl ?_); (try (refine gate_guard (by rfl) ?_; dsimp only)); refine box_event ?hg (N := 6) ?hd (cs := #[.int .i64 0, .int .i64 0, .int .i64 0, .slice none 0 0]) (t := 25) ?hr ?_; (case hd => rfl); (case hg => rfl); (case hr => first | (go_simp; done) | (go_simp; rfl)); intro gb420 hg w13 hbox hb; have n0_ := Aside0.mk (Kd.S_below (by (with_reducible repeat (first | apply Kd.S_alloc | apply Kd.S_drewN | apply Kd.S_drew)); exact HO414.out) hb); have n1_ := Aside0.mk (Kd.R_below (by (with_reducible repeat (first | apply Kd.R_alloc | apply Kd.R_drewN | apply Kd.R_drew)); exact HO417.out) hb); have n2_ := Aside0.mk (below_step (by repeat (first | (with_reducible first | exact HB.out | apply below_alloc | apply pw_below_drewN | apply below_drew1) | exact HB.out)) hb); have n3_ := Aside0.mk (hbox); have n4_ := Aside0.mk ((by rw [hg]; exact (below_size (by repeat (first | (with_reducible first | exact HB.out | apply below_alloc | apply pw_below_drewN | apply below_drew1) | exact HB.out))) : w.heap.size ≤ gb420)); have n5_ := Aside0.mk ((by rw [hg]; exact (below_size (by repeat (first | (with_reducible first | exact HB.out | apply below_alloc | apply pw_below_drewN | apply below_drew1) | exact HB.out))) : w.heap.size ≤ gb420)); clear HO414; clear HO417; clear HB; have HO414 := n0_; have HO417 := n1_; have HB := n2_; have BK420 := n3_; have GW420 := n4_; have GE420 := n5_; clear n0_ n1_ n2_ n3_ n4_ n5_; clear hb hbox hg; have hcz14_0 : w13.cell? ⟨gb420, 0, none⟩ = some (.int .i64 0) := (blk_cell BK420.out 0).trans rfl; have hcz14_1 : w13.cell? ⟨gb420, 1, none⟩ = some (.int .i64 0) := (blk_cell BK420.out 1).trans rfl; have hcz14_2 : w13.cell? ⟨gb420, 2, none⟩ = some (.int .i64 0) := (blk_cell BK420.out 2).trans rfl; have hcz14_3 : w13.cell? ⟨gb420, 3, none⟩ = some (.slice none 0 0) := (blk_cell BK420.out 3).trans rfl; have hfz14_0 := blk_frozen BK420.out 0; have hfz14_1 := blk_frozen BK420.out 1; have hfz14_2 := blk_frozen BK420.out 2; have hfz14_3 := blk_frozen BK420.out 3; obtain ⟨Ao15, co15, eo15⟩ := Kd.S_slice HO414.out; subst eo15) | (go_at_call 19; (with_reducible refine (strings_Repeat.calls (⟨#[59, 32, 120, 10]⟩ : ByteArray) (wrap64 (Int.tmod a1 20)) t421 _ A7.out).mono ?_); rintro e w16 ⟨rfl, hb⟩; have n0_ := Aside0.mk (Kd.S_below (by (with_reducible repeat (first | apply Kd.S_alloc | apply Kd.S_drewN | apply Kd.S_drew)); exact (Kd.S_mono (Kd.S_far (p := ⟨gb420, 3, none⟩) (Kd.S_far (p := ⟨gb420, 2, none⟩) (Kd.S_far (p := ⟨gb420, 1, none⟩) (Kd.S_far (p := ⟨gb420, 0, none⟩) (Kd.S_types HO414.out BK420.out (by decide)) (fun _ hk => hk.2) (.int .i64 t409)) (fun _ hk => hk.2) (.int .i64 t410)) (fun _ hk => hk.2) (.int .i64 t411)) (fun _ hk => hk.2) (.slice Ao15 t412.length co15)) (fun _ h_ => h_.1))) hb); have n1_ := Aside0.mk (Kd.R_below (by (with_reducible repeat (first | apply Kd.R_alloc | apply Kd.R_drewN | apply Kd.R_drew)); exact (Kd.R_mono (Kd.R_far (p := ⟨gb420, 3, none⟩) (Kd.R_far (p := ⟨gb420, 2, none⟩) (Kd.R_far (p := ⟨gb420, 1, none⟩) (Kd.R_far (p := ⟨gb420, 0, none⟩) (Kd.R_types HO417.out BK420.out (by decide)) (fun _ hk => hk.2) (.int .i64 t409)) (fun _ hk => hk.2) (.int .i64 t410)) (fun _ hk => hk.2) (.int .i64 t411)) (fun _ hk => hk.2) (.slice Ao15 t412.length co15)) (fun _ h_ => h_.1))) hb); have n2_ := Aside0.mk (blk_below (g := gb420) (o := .cells #[.int .i64 t409, .int .i64 t410, .int .i64 t411, .slice Ao15 t412.length co15] 25 (0, 0)) (by (with_reducible repeat (first | refine blk_drewN ?_ _ | refine blk_drew ?_ | refine blk_alloc ?_ _)); refine blk_put (cs := #[.int .i64 t409, .int .i64 t410, .int .i64 t411, .slice none 0 0]) ?_ 3 _ rfl; (with_reducible repeat (first | refine blk_drewN ?_ _ | refine blk_drew ?_ | refine blk_alloc ?_ _)); refine blk_put (cs := #[.int .i64 t409, .int .i64 t410, .int .i64 0, .slice none 0 0]) ?_ 2 _ rfl; (with_reducible repeat (first | refine blk_drewN ?_ _ | refine blk_drew ?_ | refine blk_alloc ?_ _)); refine blk_put (cs := #[.int .i64 t409, .int .i64 0, .int .i64 0, .slice none 0 0]) ?_ 1 _ rfl; (with_reducible repeat (first | refine blk_drewN ?_ _ | refine blk_drew ?_ | refine blk_alloc ?_ _)); refine blk_put (cs := #[.int .i64 0, .int .i64 0, .int .i64 0, .slice none 0 0]) ?_ 0 _ rfl; (with_reducible repeat (first | refine blk_drewN ?_ _ | refine blk_drew ?_ | refine blk_alloc ?_ _)); exact BK420.out) hb); have n3_ := Aside0.mk (below_step (by repeat (first | (with_reducible first | exact HB.out | apply below_alloc | apply pw_below_drewN | apply below_drew1 | refine below_set ?_ GE420.out) | exact HB.out)) hb); clear HO414; clear HO417; clear BK420; clear HB; have HO414 := n0_; have HO417 := n1_; have BK420 := n2_; have HB := n3_; clear n0_ n1_ n2_ n3_; (try clear hb); (try clear hb2); (try clear hk); (try clear hi)) | (go_at_call 11; (with_reducible refine (strings_ReplaceAll.calls a0 (⟨#[10]⟩ : ByteArray) (⟨#[32, 9, 59, 32, 121, 10]⟩ : ByteArray) t422 _ (LaidW.below (m' := 8) hL rfl (by repeat (first | (with_reducible first | exact HB.out | apply below_alloc | apply pw_below_drewN | apply below_drew1 | refine below_set ?_ GE420.out) | exact HB.out))) A8.out).mono ?_); rintro e w17 ⟨rfl, hb⟩; have n0_ := Aside0.mk (Kd.S_below (by (with_reducible repeat (first | apply Kd.S_alloc | apply Kd.S_drewN | apply Kd.S_drew)); exact HO414.out) hb); have n1_ := Aside0.mk (Kd.R_below (by (with_reducible repeat (first | apply Kd.R_alloc | apply Kd.R_drewN | apply Kd.R_drew)); exact HO417.out) hb); have n2_ := Aside0.mk (blk_below (g := gb420) (o := .cells #[.int .i64 t409, .int .i64 t410, .int .i64 t411, .slice Ao15 t412.length co15] 25 (0, 0)) (by (with_reducible repeat (first | refine blk_drewN ?_ _ | refine blk_drew ?_ | refine blk_alloc ?_ _)); exact BK420.out) hb); have n3_ := Aside0.mk (below_step (by repeat (first | (with_reducible first | exact HB.out | apply below_alloc | apply pw_below_drewN | apply below_drew1 | refine below_set ?_ GE420.out) | exact HB.out)) hb); clear HO414; clear HO417; clear BK420; clear HB; have HO414 := n0_; have HO417 := n1_; have BK420 := n2_; have HB := n3_; clear n0_ n1_ n2_ n3_; (try clear hb); (try clear hb2); (try clear hk); (try clear hi)) | (go_at_call 9; (with_reducible refine (parse_Parse.calls (t421 ++ t422) t423 t424 t425 t426 t429 t432 t433 _ (LaidW.below (m' := 47) hL rfl (by repeat (first | (with_reducible first | exact HB.out | apply below_alloc | apply pw_below_drewN | apply below_drew1 | refine below_set ?_ GE420.out) | exact HB.out))) A10.out).mono ?_); rintro e w18 ⟨v427, v430, rfl, ho0, ho1, hb⟩; have n0_ := Aside0.mk (Kd.S_elder' (by (with_reducible repeat (first | apply Kd.S_alloc | apply Kd.S_drewN | apply Kd.S_drew)); exact HO414.out) (Kd.S_base ho0) hb); have n1_ := Aside0.mk (Kd.R_elder' (by (with_reducible repeat (first | apply Kd.R_alloc | apply Kd.R_drewN | apply Kd.R_drew)); exact HO417.out) (Kd.R_base ho1) hb); have n2_ := Aside0.mk (Kd.S_lower (Kd.S_new' ho0 (Kd.S_lt (by (with_reducible repeat (first | apply Kd.S_alloc | apply Kd.S_drewN | apply Kd.S_drew)); exact HO414.out))) (below_size (by repeat (first | (with_reducible first | exact HB.out | apply below_alloc | apply pw_below_drewN | apply below_drew1 | refine below_set ?_ GE420.out) | exact HB.out)))); have n3_ := Aside0.mk (Kd.R_lower (Kd.R_new' ho1 (Kd.R_lt (by (with_reducible repeat (first | apply Kd.R_alloc | apply Kd.R_drewN | apply Kd.R_drew)); exact HO417.out))) (below_size (by repeat (first | (with_reducible first | exact HB.out | apply below_alloc | apply pw_below_drewN | apply below_drew1 | refine below_set ?_ GE420.out) | exact HB.out)))); have n4_ := Aside0.mk (blk_below (g := gb420) (o := .cells #[.int .i64 t409, .int .i64 t410, .int .i64 t411, .slice Ao15 t412.length co15] 25 (0, 0)) (by (with_reducible repeat (first | refine blk_drewN ?_ _ | refine blk_drew ?_ | refine blk_alloc ?_ _)); exact BK420.out) hb); have n5_ := Aside0.mk (below_step (by repeat (first | (with_reducible first | exact HB.out | apply below_alloc | apply pw_below_drewN | apply below_drew1 | refine below_set ?_ GE420.out) | exact HB.out)) hb); clear HO414; clear HO417; clear BK420; clear HB; have HO414 := n0_; have HO417 := n1_; have HO428 := n2_; have HO431 := n3_; have BK420 := n4_; have HB := n5_; clear n0_ n1_ n2_ n3_ n4_ n5_; (try clear hb); (try clear hb2); (try clear hk); (try clear hi); (try clear ho0); (try clear ho1)) | ((with_reducible refine gate_dst (N := 10) rfl ?_); (try (refine gate_guard (by rfl) ?_; dsimp only)); refine box_event ?hg (N := 10) ?hd (cs := #[.int .i64 0, .int .i64 0, .int .i64 0, .slice none 0 0]) (t := 25) ?hr ?_; (case hd => rfl); (case hg => rfl); (case hr => first | (go_simp; done) | (go_simp; rfl)); intro gb434 hg w19 hbox hb; have n0_ := Aside0.mk (Kd.S_below (by (with_reducible repeat (first | apply Kd.S_alloc | apply Kd.S_drewN | apply Kd.S_drew)); exact HO414.out) hb); have n1_ := Aside0.mk (Kd.R_below (by (with_reducible repeat (first | apply Kd.R_alloc | apply Kd.R_drewN | apply Kd.R_drew)); exact HO417.out) hb); have n2_ := Aside0.mk (Kd.S_below (by (with_reducible repeat (first | apply Kd.S_alloc | apply Kd.S_drewN | apply Kd.S_drew)); exact HO428.out) hb); have n3_ := Aside0.mk (Kd.R_below (by (with_reducible repeat (first | apply Kd.R_alloc | apply Kd.R_drewN | apply Kd.R_drew)); exact HO431.out) hb); have n4_ := Aside0.mk (blk_below (g := gb420) (o := .cells #[.int .i64 t409, .int .i64 t410, .int .i64 t411, .slice Ao15 t412.length co15] 25 (0, 0)) (by (with_reducible repeat (first | refine blk_drewN ?_ _ | refine blk_drew ?_ | refine blk_alloc ?_ _)); exact BK420.out) hb); have n5_ := Aside0.mk (below_step (by repeat (first | (with_reducible first | exact HB.out | apply below_alloc | apply pw_below_drewN | apply below_drew1 | refine below_set ?_ GE420.out) | exact HB.out)) hb); have n6_ := Aside0.mk (hbox); have n7_ := Aside0.mk ((by rw [hg]; exact (below_size (by repeat (first | (with_reducible first | exact HB.out | apply below_alloc | apply pw_below_drewN | apply below_drew1 | refine below_set ?_ GE420.out) | exact HB.out))) : w.heap.size ≤ gb434)); have n8_ := Aside0.mk ((by rw [hg]; exact (below_size (by repeat (first | (with_reducible first | exact HB.out | apply below_alloc | apply pw_below_drewN | apply below_drew1 | refine below_set ?_ GE420.out) | exact HB.out))) : w.heap.size ≤ gb434)); have n9_ := Aside0.mk ((by rw [hg]; exact Nat.ne_of_lt (blk_lt (g := gb420) (o := .cells #[.int .i64 t409, .int .i64 t410, .int .i64 t411, .slice Ao15 t412.length co15] 25 (0, 0)) (by (with_reducible repeat (first | refine blk_drewN ?_ _ | refine blk_drew ?_ | refine blk_alloc ?_ _)); exact BK420.out)) : gb420 ≠ gb434)); have n10_ := Aside0.mk ((by rw [hg]; exact Nat.ne_of_gt (blk_lt (g := gb420) (o := .cells #[.int .i64 t409, .int .i64 t410, .int .i64 t411, .slice Ao15 t412.length co15] 25 (0, 0)) (by (with_reducible repeat (first | refine blk_drewN ?_ _ | refine blk_drew ?_ | refine blk_alloc ?_ _)); exact BK420.out)) : gb434 ≠ gb420)); clear HO414; clear HO417; clear HO428; clear HO431; clear BK420; clear HB; have HO414 := n0_; have HO417 := n1_; have HO428 := n2_; have HO431 := n3_; have BK420 := n4_; have HB := n5_; have BK434 := n6_; have GW434 := n7_; have GE434 := n8_; have NB420_434 := n9_; have NB434_420 := n10_; clear n0_ n1_ n2_ n3_ n4_ n5_ n6_ n7_ n8_ n9_ n10_; clear hb hbox hg; have hnb20 := NB434_420.out; have hnc20 := NB420_434.out; have hcz21_0 : w19.cell? ⟨gb434, 0, none⟩ = some (.int .i64 0) := (blk_cell BK434.out 0).trans rfl; have hcz21_1 : w19.cell? ⟨gb434, 1, none⟩ = some (.int .i64 0) := (blk_cell BK434.out 1).trans rfl; have hcz21_2 : w19.cell? ⟨gb434, 2, none⟩ = some (.int .i64 0) := (blk_cell BK434.out 2).trans rfl; have hcz21_3 : w19.cell? ⟨gb434, 3, none⟩ = some (.slice none 0 0) := (blk_cell BK434.out 3).trans rfl; have hfz21_0 := blk_frozen BK434.out 0; have hfz21_1 := blk_frozen BK434.out 1; have hfz21_2 := blk_frozen BK434.out 2; have hfz21_3 := blk_frozen BK434.out 3; obtain ⟨Ao22, co22, eo22⟩ := Kd.S_slice HO428.out; subst eo22))
   repeat (go_quiet (first | (go_at_call 9; (with_reducible refine (parse_Parse.calls a0 t409 t410 t411 t412 t415 t418 t419 _ (LaidW.below (m' := 47) hL rfl (by repeat (first | (with_reducible first | exact HB.out | apply below_alloc | apply pw_below_drewN | apply below_drew1) | exact HB.out))) A6.out).mono ?_); rintro e w12 ⟨v413, v416, rfl, ho0, ho1, hb⟩; have n0_ := Aside0.mk (Kd.S_lower ho0 (below_size (by repeat (first | (with_reducible first | exact HB.out | apply below_alloc | apply pw_below_drewN | apply below_drew1) | exact HB.out)))); have n1_ := Aside0.mk (Kd.R_lower ho1 (below_size (by repeat (first | (with_reducible first | exact HB.out | apply below_alloc | apply pw_below_drewN | apply below_drew1) | exact HB.out)))); have n2_ := Aside0.mk (below_step (by repeat (first | (with_reducible first | exact HB.out | apply below_alloc | apply pw_below_drewN | apply below_drew1) | exact HB.out)) hb); clear HB; have HO414 := n0_; have HO417 := n1_; have HB := n2_; clear n0_ n1_ n2_; (try clear hb); (try clear hb2); (try clear hk); (try clear hi); (try clear ho0); (try clear ho1)) | ((with_reducible refine gate_dst (N := 6) rfl ?_); (try (refine gate_guard (by rfl) ?_; dsimp only)); refine box_event ?hg (N := 6) ?hd (cs := #[.int .i64 0, .int .i64 0, .int .i64 0, .slice none 0 0]) (t := 25) ?hr ?_; (case hd => rfl); (case hg => rfl); (case hr => first | (go_simp; done) | (go_simp; rfl)); intro gb420 hg w13 hbox hb; have n0_ := Aside0.mk (Kd.S_below (by (with_reducible repeat (first | apply Kd.S_alloc | apply Kd.S_drewN | apply Kd.S_drew)); exact HO414.out) hb); have n1_ := Aside0.mk (Kd.R_below (by (with_reducible repeat (first | apply Kd.R_alloc | apply Kd.R_drewN | apply Kd.R_drew)); exact HO417.out) hb); have n2_ := Aside0.mk (below_step (by repeat (first | (with_reducible first | exact HB.out | apply below_alloc | apply pw_below_drewN | apply below_drew1) | exact HB.out)) hb); have n3_ := Aside0.mk (hbox); have n4_ := Aside0.mk ((by rw [hg]; exact (below_size (by repeat (first | (with_reducible first | exact HB.out | apply below_alloc | apply pw_below_drewN | apply below_drew1) | exact HB.out))) : w.heap.size ≤ gb420)); have n5_ := Aside0.mk ((by rw [hg]; exact (below_size (by repeat (first | (with_reducible first | exact HB.out | apply below_alloc | apply pw_below_drewN | apply below_drew1) | exact HB.out))) : w.heap.size ≤ gb420)); clear HO414; clear HO417; clear HB; have HO414 := n0_; have HO417 := n1_; have HB := n2_; have BK420 := n3_; have GW420 := n4_; have GE420 := n5_; clear n0_ n1_ n2_ n3_ n4_ n5_; clear hb hbox hg; have hcz14_0 : w13.cell? ⟨gb420, 0, none⟩ = some (.int .i64 0) := (blk_cell BK420.out 0).trans rfl; have hcz14_1 : w13.cell? ⟨gb420, 1, none⟩ = some (.int .i64 0) := (blk_cell BK420.out 1).trans rfl; have hcz14_2 : w13.cell? ⟨gb420, 2, none⟩ = some (.int .i64 0) := (blk_cell BK420.out 2).trans rfl; have hcz14_3 : w13.cell? ⟨gb420, 3, none⟩ = some (.slice none 0 0) := (blk_cell BK420.out 3).trans rfl; have hfz14_0 := blk_frozen BK420.out 0; have hfz14_1 := blk_frozen BK420.out 1; have hfz14_2 := blk_frozen BK420.out 2; have hfz14_3 := blk_frozen BK420.out 3; obtain ⟨Ao15, co15, eo15⟩ := Kd.S_slice HO414.out; subst eo15) | (go_at_call 19; (with_reducible refine (strings_Repeat.calls (⟨#[59, 32, 120, 10]⟩ : ByteArray) (wrap64 (Int.tmod a1 20)) t421 _ A7.out).mono ?_); rintro e w16 ⟨rfl, hb⟩; have n0_ := Aside0.mk (Kd.S_below (by (with_reducible repeat (first | apply Kd.S_alloc | apply Kd.S_drewN | apply Kd.S_drew)); exact (Kd.S_mono (Kd.S_far (p := ⟨gb420, 3, none⟩) (Kd.S_far (p := ⟨gb420, 2, none⟩) (Kd.S_far (p := ⟨gb420, 1, none⟩) (Kd.S_far (p := ⟨gb420, 0, none⟩) (Kd.S_types HO414.out BK420.out (by decide)) (fun _ hk => hk.2) (.int .i64 t409)) (fun _ hk => hk.2) (.int .i64 t410)) (fun _ hk => hk.2) (.int .i64 t411)) (fun _ hk => hk.2) (.slice Ao15 t412.length co15)) (fun _ h_ => h_.1))) hb); have n1_ := Aside0.mk (Kd.R_below (by (with_reducible repeat (first | apply Kd.R_alloc | apply Kd.R_drewN | apply Kd.R_drew)); exact (Kd.R_mono (Kd.R_far (p := ⟨gb420, 3, none⟩) (Kd.R_far (p := ⟨gb420, 2, none⟩) (Kd.R_far (p := ⟨gb420, 1, none⟩) (Kd.R_far (p := ⟨gb420, 0, none⟩) (Kd.R_types HO417.out BK420.out (by decide)) (fun _ hk => hk.2) (.int .i64 t409)) (fun _ hk => hk.2) (.int .i64 t410)) (fun _ hk => hk.2) (.int .i64 t411)) (fun _ hk => hk.2) (.slice Ao15 t412.length co15)) (fun _ h_ => h_.1))) hb); have n2_ := Aside0.mk (blk_below (g := gb420) (o := .cells #[.int .i64 t409, .int .i64 t410, .int .i64 t411, .slice Ao15 t412.length co15] 25 (0, 0)) (by (with_reducible repeat (first | refine blk_drewN ?_ _ | refine blk_drew ?_ | refine blk_alloc ?_ _)); refine blk_put (cs := #[.int .i64 t409, .int .i64 t410, .int .i64 t411, .slice none 0 0]) ?_ 3 _ rfl; (with_reducible repeat (first | refine blk_drewN ?_ _ | refine blk_drew ?_ | refine blk_alloc ?_ _)); refine blk_put (cs := #[.int .i64 t409, .int .i64 t410, .int .i64 0, .slice none 0 0]) ?_ 2 _ rfl; (with_reducible repeat (first | refine blk_drewN ?_ _ | refine blk_drew ?_ | refine blk_alloc ?_ _)); refine blk_put (cs := #[.int .i64 t409, .int .i64 0, .int .i64 0, .slice none 0 0]) ?_ 1 _ rfl; (with_reducible repeat (first | refine blk_drewN ?_ _ | refine blk_drew ?_ | refine blk_alloc ?_ _)); refine blk_put (cs := #[.int .i64 0, .int .i64 0, .int .i64 0, .slice none 0 0]) ?_ 0 _ rfl; (with_reducible repeat (first | refine blk_drewN ?_ _ | refine blk_drew ?_ | refine blk_alloc ?_ _)); exact BK420.out) hb); have n3_ := Aside0.mk (below_step (by repeat (first | (with_reducible first | exact HB.out | apply below_alloc | apply pw_below_drewN | apply below_drew1 | refine below_set ?_ GE420.out) | exact HB.out)) hb); clear HO414; clear HO417; clear BK420; clear HB; have HO414 := n0_; have HO417 := n1_; have BK420 := n2_; have HB := n3_; clear n0_ n1_ n2_ n3_; (try clear hb); (try clear hb2); (try clear hk); (try clear hi)) | (go_at_call 11; (with_reducible refine (strings_ReplaceAll.calls a0 (⟨#[10]⟩ : ByteArray) (⟨#[32, 9, 59, 32, 121, 10]⟩ : ByteArray) t422 _ (LaidW.below (m' := 8) hL rfl (by repeat (first | (with_reducible first | exact HB.out | apply below_alloc | apply pw_below_drewN | apply below_drew1 | refine below_set ?_ GE420.out) | exact HB.out))) A8.out).mono ?_); rintro e w17 ⟨rfl, hb⟩; have n0_ := Aside0.mk (Kd.S_below (by (with_reducible repeat (first | apply Kd.S_alloc | apply Kd.S_drewN | apply Kd.S_drew)); exact HO414.out) hb); have n1_ := Aside0.mk (Kd.R_below (by (with_reducible repeat (first | apply Kd.R_alloc | apply Kd.R_drewN | apply Kd.R_drew)); exact HO417.out) hb); have n2_ := Aside0.mk (blk_below (g := gb420) (o := .cells #[.int .i64 t409, .int .i64 t410, .int .i64 t411, .slice Ao15 t412.length co15] 25 (0, 0)) (by (with_reducible repeat (first | refine blk_drewN ?_ _ | refine blk_drew ?_ | refine blk_alloc ?_ _)); exact BK420.out) hb); have n3_ := Aside0.mk (below_step (by repeat (first | (with_reducible first | exact HB.out | apply below_alloc | apply pw_below_drewN | apply below_drew1 | refine below_set ?_ GE420.out) | exact HB.out)) hb); clear HO414; clear HO417; clear BK420; clear HB; have HO414 := n0_; have HO417 := n1_; have BK420 := n2_; have HB := n3_; clear n0_ n1_ n2_ n3_; (try clear hb); (try clear hb2); (try clear hk); (try clear hi)) | (go_at_call 9; (with_reducible refine (parse_Parse.calls (t421 ++ t422) t423 t424 t425 t426 t429 t432 t433 _ (LaidW.below (m' := 47) hL rfl (by repeat (first | (with_reducible first | exact HB.out | apply below_alloc | apply pw_below_drewN | apply below_drew1 | refine below_set ?_ GE420.out) | exact HB.out))) A10.out).mono ?_); rintro e w18 ⟨v427, v430, rfl, ho0, ho1, hb⟩; have n0_ := Aside0.mk (Kd.S_elder' (by (with_reducible repeat (first | apply Kd.S_alloc | apply Kd.S_drewN | apply Kd.S_drew)); exact HO414.out) (Kd.S_base ho0) hb); have n1_ := Aside0.mk (Kd.R_elder' (by (with_reducible repeat (first | apply Kd.R_alloc | apply Kd.R_drewN | apply Kd.R_drew)); exact HO417.out) (Kd.R_base ho1) hb); have n2_ := Aside0.mk (Kd.S_lower (Kd.S_new' ho0 (Kd.S_lt (by (with_reducible repeat (first | apply Kd.S_alloc | apply Kd.S_drewN | apply Kd.S_drew)); exact HO414.out))) (below_size (by repeat (first | (with_reducible first | exact HB.out | apply below_alloc | apply pw_below_drewN | apply below_drew1 | refine below_set ?_ GE420.out) | exact HB.out)))); have n3_ := Aside0.mk (Kd.R_lower (Kd.R_new' ho1 (Kd.R_lt (by (with_reducible repeat (first | apply Kd.R_alloc | apply Kd.R_drewN | apply Kd.R_drew)); exact HO417.out))) (below_size (by repeat (first | (with_reducible first | exact HB.out | apply below_alloc | apply pw_below_drewN | apply below_drew1 | refine below_set ?_ GE420.out) | exact HB.out)))); have n4_ := Aside0.mk (blk_below (g := gb420) (o := .cells #[.int .i64 t409, .int .i64 t410, .int .i64 t411, .slice Ao15 t412.length co15] 25 (0, 0)) (by (with_reducible repeat (first | refine blk_drewN ?_ _ | refine blk_drew ?_ | refine blk_alloc ?_ _)); exact BK420.out) hb); have n5_ := Aside0.mk (below_step (by repeat (first | (with_reducible first | exact HB.out | apply below_alloc | apply pw_below_drewN | apply below_drew1 | refine below_set ?_ GE420.out) | exact HB.out)) hb); clear HO414; clear HO417; clear BK420; clear HB; have HO414 := n0_; have HO417 := n1_; have HO428 := n2_; have HO431 := n3_; have BK420 := n4_; have HB := n5_; clear n0_ n1_ n2_ n3_ n4_ n5_; (try clear hb); (try clear hb2); (try clear hk); (try clear hi); (try clear ho0); (try clear ho1)) | ((with_reducible refine gate_dst (N := 10) rfl ?_); (try (refine gate_guard (by rfl) ?_; dsimp only)); refine box_event ?hg (N := 10) ?hd (cs := #[.int .i64 0, .int .i64 0, .int .i64 0, .slice none 0 0]) (t := 25) ?hr ?_; (case hd => rfl); (case hg => rfl); (case hr => first | (go_simp; done) | (go_simp; rfl)); intro gb434 hg w19 hbox hb; have n0_ := Aside0.mk (Kd.S_below (by (with_reducible repeat (first | apply Kd.S_alloc | apply Kd.S_drewN | apply Kd.S_drew)); exact HO414.out) hb); have n1_ := Aside0.mk (Kd.R_below (by (with_reducible repeat (first | apply Kd.R_alloc | apply Kd.R_drewN | apply Kd.R_drew)); exact HO417.out) hb); have n2_ := Aside0.mk (Kd.S_below (by (with_reducible repeat (first | apply Kd.S_alloc | apply Kd.S_drewN | apply Kd.S_drew)); exact HO428.out) hb); have n3_ := Aside0.mk (Kd.R_below (by (with_reducible repeat (first | apply Kd.R_alloc | apply Kd.R_drewN | apply Kd.R_drew)); exact HO431.out) hb); have n4_ := Aside0.mk (blk_below (g := gb420) (o := .cells #[.int .i64 t409, .int .i64 t410, .int .i64 t411, .slice Ao15 t412.length co15] 25 (0, 0)) (by (with_reducible repeat (first | refine blk_drewN ?_ _ | refine blk_drew ?_ | refine blk_alloc ?_ _)); exact BK420.out) hb); have n5_ := Aside0.mk (below_step (by repeat (first | (with_reducible first | exact HB.out | apply below_alloc | apply pw_below_drewN | apply below_drew1 | refine below_set ?_ GE420.out) | exact HB.out)) hb); have n6_ := Aside0.mk (hbox); have n7_ := Aside0.mk ((by rw [hg]; exact (below_size (by repeat (first | (with_reducible first | exact HB.out | apply below_alloc | apply pw_below_drewN | apply below_drew1 | refine below_set ?_ GE420.out) | exact HB.out))) : w.heap.size ≤ gb434)); have n8_ := Aside0.mk ((by rw [hg]; exact (below_size (by repeat (first | (with_reducible first | exact HB.out | apply below_alloc | apply pw_below_drewN | apply below_drew1 | refine below_set ?_ GE420.out) | exact HB.out))) : w.heap.size ≤ gb434)); have n9_ := Aside0.mk ((by rw [hg]; exact Nat.ne_of_lt (blk_lt (g := gb420) (o := .cells #[.int .i64 t409, .int .i64 t410, .int .i64 t411, .slice Ao15 t412.length co15] 25 (0, 0)) (by (with_reducible repeat (first | refine blk_drewN ?_ _ | refine blk_drew ?_ | refine blk_alloc ?_ _)); exact BK420.out)) : gb420 ≠ gb434)); have n10_ := Aside0.mk ((by rw [hg]; exact Nat.ne_of_gt (blk_lt (g := gb420) (o := .cells #[.int .i64 t409, .int .i64 t410, .int .i64 t411, .slice Ao15 t412.length co15] 25 (0, 0)) (by (with_reducible repeat (first | refine blk_drewN ?_ _ | refine blk_drew ?_ | refine blk_alloc ?_ _)); exact BK420.out)) : gb434 ≠ gb420)); clear HO414; clear HO417; clear HO428; clear HO431; clear BK420; clear HB; have HO414 := n0_; have HO417 := n1_; have HO428 := n2_; have HO431 := n3_; have BK420 := n4_; have HB := n5_; have BK434 := n6_; have GW434 := n7_; have GE434 := n8_; have NB420_434 := n9_; have NB434_420 := n10_; clear n0_ n1_ n2_ n3_ n4_ n5_ n6_ n7_ n8_ n9_ n10_; clear hb hbox hg; have hnb20 := NB434_420.out; have hnc20 := NB420_434.out; have hcz21_0 : w19.cell? ⟨gb434, 0, none⟩ = some (.int .i64 0) := (blk_cell BK434.out 0).trans rfl; have hcz21_1 : w19.cell? ⟨gb434, 1, none⟩ = some (.int .i64 0) := (blk_cell BK434.out 1).trans rfl; have hcz21_2 : w19.cell? ⟨gb434, 2, none⟩ = some (.int .i64 0) := (blk_cell BK434.out 2).trans rfl; have hcz21_3 : w19.cell? ⟨gb434, 3, none⟩ = some (.slice none 0 0) := (blk_cell BK434.out 3).trans rfl; have hfz21_0 := blk_frozen BK434.out 0; have hfz21_1 := blk_frozen BK434.out 1; have hfz21_2 := blk_frozen BK434.out 2; have hfz21_3 := blk_frozen BK434.out 3; obtain ⟨Ao22, co22, eo22⟩ := Kd.S_slice HO428.out; subst eo22)); go_upto_region 6 with (first | (go_at_call 9; (with_reducible refine (parse_Parse.calls a0 t409 t410 t411 t412 t415 t418 t419 _ (LaidW.below (m' := 47) hL rfl (by repeat (first | (with_reducible first | exact HB.out | apply below_alloc | apply pw_below_drewN | apply below_drew1) | exact HB.out))) A6.out).mono ?_); rintro e w12 ⟨v413, v416, rfl, ho0, ho1, hb⟩; have n0_ := Aside0.mk (Kd.S_lower ho0 (below_size (by repeat (first | (with_reducible first | exact HB.out | apply below_alloc | apply pw_below_drewN | apply below_drew1) | exact HB.out)))); have n1_ := Aside0.mk (Kd.R_lower ho1 (below_size (by repeat (first | (with_reducible first | exact HB.out | apply below_alloc | apply pw_below_drewN | apply below_drew1) | exact HB.out)))); have n2_ := Aside0.mk (below_step (by repeat (first | (with_reducible first | exact HB.out | apply below_alloc | apply pw_below_drewN | apply below_drew1) | exact HB.out)) hb); clear HB; have HO414 := n0_; have HO417 := n1_; have HB := n2_; clear n0_ n1_ n2_; (try clear hb); (try clear hb2); (try clear hk); (try clear hi); (try clear ho0); (try clear ho1)) | ((with_reducible refine gate_dst (N := 6) rfl ?_); (try (refine gate_guard (by rfl) ?_; dsimp only)); refine box_event ?hg (N := 6) ?hd (cs := #[.int .i64 0, .int .i64 0, .int .i64 0, .slice none 0 0]) (t := 25) ?hr ?_; (case hd => rfl); (case hg => rfl); (case hr => first | (go_simp; done) | (go_simp; rfl)); intro gb420 hg w13 hbox hb; have n0_ := Aside0.mk (Kd.S_below (by (with_reducible repeat (first | apply Kd.S_alloc | apply Kd.S_drewN | apply Kd.S_drew)); exact HO414.out) hb); have n1_ := Aside0.mk (Kd.R_below (by (with_reducible repeat (first | apply Kd.R_alloc | apply Kd.R_drewN | apply Kd.R_drew)); exact HO417.out) hb); have n2_ := Aside0.mk (below_step (by repeat (first | (with_reducible first | exact HB.out | apply below_alloc | apply pw_below_drewN | apply below_drew1) | exact HB.out)) hb); have n3_ := Aside0.mk (hbox); have n4_ := Aside0.mk ((by rw [hg]; exact (below_size (by repeat (first | (with_reducible first | exact HB.out | apply below_alloc | apply pw_below_drewN | apply below_drew1) | exact HB.out))) : w.heap.size ≤ gb420)); have n5_ := Aside0.mk ((by rw [hg]; exact (below_size (by repeat (first | (with_reducible first | exact HB.out | apply below_alloc | apply pw_below_drewN | apply below_drew1) | exact HB.out))) : w.heap.size ≤ gb420)); clear HO414; clear HO417; clear HB; have HO414 := n0_; have HO417 := n1_; have HB := n2_; have BK420 := n3_; have GW420 := n4_; have GE420 := n5_; clear n0_ n1_ n2_ n3_ n4_ n5_; clear hb hbox hg; have hcz14_0 : w13.cell? ⟨gb420, 0, none⟩ = some (.int .i64 0) := (blk_cell BK420.out 0).trans rfl; have hcz14_1 : w13.cell? ⟨gb420, 1, none⟩ = some (.int .i64 0) := (blk_cell BK420.out 1).trans rfl; have hcz14_2 : w13.cell? ⟨gb420, 2, none⟩ = some (.int .i64 0) := (blk_cell BK420.out 2).trans rfl; have hcz14_3 : w13.cell? ⟨gb420, 3, none⟩ = some (.slice none 0 0) := (blk_cell BK420.out 3).trans rfl; have hfz14_0 := blk_frozen BK420.out 0; have hfz14_1 := blk_frozen BK420.out 1; have hfz14_2 := blk_frozen BK420.out 2; have hfz14_3 := blk_frozen BK420.out 3; obtain ⟨Ao15, co15, eo15⟩ := Kd.S_slice HO414.out; subst eo15) | (go_at_call 19; (with_reducible refine (strings_Repeat.calls (⟨#[59, 32, 120, 10]⟩ : ByteArray) (wrap64 (Int.tmod a1 20)) t421 _ A7.out).mono ?_); rintro e w16 ⟨rfl, hb⟩; have n0_ := Aside0.mk (Kd.S_below (by (with_reducible repeat (first | apply Kd.S_alloc | apply Kd.S_drewN | apply Kd.S_drew)); exact (Kd.S_mono (Kd.S_far (p := ⟨gb420, 3, none⟩) (Kd.S_far (p := ⟨gb420, 2, none⟩) (Kd.S_far (p := ⟨gb420, 1, none⟩) (Kd.S_far (p := ⟨gb420, 0, none⟩) (Kd.S_types HO414.out BK420.out (by decide)) (fun _ hk => hk.2) (.int .i64 t409)) (fun _ hk => hk.2) (.int .i64 t410)) (fun _ hk => hk.2) (.int .i64 t411)) (fun _ hk => hk.2) (.slice Ao15 t412.length co15)) (fun _ h_ => h_.1))) hb); have n1_ := Aside0.mk (Kd.R_below (by (with_reducible repeat (first | apply Kd.R_alloc | apply Kd.R_drewN | apply Kd.R_drew)); exact (Kd.R_mono (Kd.R_far (p := ⟨gb420, 3, none⟩) (Kd.R_far (p := ⟨gb420, 2, none⟩) (Kd.R_far (p := ⟨gb420, 1, none⟩) (Kd.R_far (p := ⟨gb420, 0, none⟩) (Kd.R_types HO417.out BK420.out (by decide)) (fun _ hk => hk.2) (.int .i64 t409)) (fun _ hk => hk.2) (.int .i64 t410)) (fun _ hk => hk.2) (.int .i64 t411)) (fun _ hk => hk.2) (.slice Ao15 t412.length co15)) (fun _ h_ => h_.1))) hb); have n2_ := Aside0.mk (blk_below (g := gb420) (o := .cells #[.int .i64 t409, .int .i64 t410, .int .i64 t411, .slice Ao15 t412.length co15] 25 (0, 0)) (by (with_reducible repeat (first | refine blk_drewN ?_ _ | refine blk_drew ?_ | refine blk_alloc ?_ _)); refine blk_put (cs := #[.int .i64 t409, .int .i64 t410, .int .i64 t411, .slice none 0 0]) ?_ 3 _ rfl; (with_reducible repeat (first | refine blk_drewN ?_ _ | refine blk_drew ?_ | refine blk_alloc ?_ _)); refine blk_put (cs := #[.int .i64 t409, .int .i64 t410, .int .i64 0, .slice none 0 0]) ?_ 2 _ rfl; (with_reducible repeat (first | refine blk_drewN ?_ _ | refine blk_drew ?_ | refine blk_alloc ?_ _)); refine blk_put (cs := #[.int .i64 t409, .int .i64 0, .int .i64 0, .slice none 0 0]) ?_ 1 _ rfl; (with_reducible repeat (first | refine blk_drewN ?_ _ | refine blk_drew ?_ | refine blk_alloc ?_ _)); refine blk_put (cs := #[.int .i64 0, .int .i64 0, .int .i64 0, .slice none 0 0]) ?_ 0 _ rfl; (with_reducible repeat (first | refine blk_drewN ?_ _ | refine blk_drew ?_ | refine blk_alloc ?_ _)); exact BK420.out) hb); have n3_ := Aside0.mk (below_step (by repeat (first | (with_reducible first | exact HB.out | apply below_alloc | apply pw_below_drewN | apply below_drew1 | refine below_set ?_ GE420.out) | exact HB.out)) hb); clear HO414; clear HO417; clear BK420; clear HB; have HO414 := n0_; have HO417 := n1_; have BK420 := n2_; have HB := n3_; clear n0_ n1_ n2_ n3_; (try clear hb); (try clear hb2); (try clear hk); (try clear hi)) | (go_at_call 11; (with_reducible refine (strings_ReplaceAll.calls a0 (⟨#[10]⟩ : ByteArray) (⟨#[32, 9, 59, 32, 121, 10]⟩ : ByteArray) t422 _ (LaidW.below (m' := 8) hL rfl (by repeat (first | (with_reducible first | exact HB.out | apply below_alloc | apply pw_below_drewN | apply below_drew1 | refine below_set ?_ GE420.out) | exact HB.out))) A8.out).mono ?_); rintro e w17 ⟨rfl, hb⟩; have n0_ := Aside0.mk (Kd.S_below (by (with_reducible repeat (first | apply Kd.S_alloc | apply Kd.S_drewN | apply Kd.S_drew)); exact HO414.out) hb); have n1_ := Aside0.mk (Kd.R_below (by (with_reducible repeat (first | apply Kd.R_alloc | apply Kd.R_drewN | apply Kd.R_drew)); exact HO417.out) hb); have n2_ := Aside0.mk (blk_below (g := gb420) (o := .cells #[.int .i64 t409, .int .i64 t410, .int .i64 t411, .slice Ao15 t412.length co15] 25 (0, 0)) (by (with_reducible repeat (first | refine blk_drewN ?_ _ | refine blk_drew ?_ | refine blk_alloc ?_ _)); exact BK420.out) hb); have n3_ := Aside0.mk (below_step (by repeat (first | (with_reducible first | exact HB.out | apply below_alloc | apply pw_below_drewN | apply below_drew1 | refine below_set ?_ GE420.out) | exact HB.out)) hb); clear HO414; clear HO417; clear BK420; clear HB; have HO414 := n0_; have HO417 := n1_; have BK420 := n2_; have HB := n3_; clear n0_ n1_ n2_ n3_; (try clear hb); (try clear hb2); (try clear hk); (try clear hi)) | (go_at_call 9; (with_reducible refine (parse_Parse.calls (t421 ++ t422) t423 t424 t425 t426 t429 t432 t433 _ (LaidW.below (m' := 47) hL rfl (by repeat (first | (with_reducible first | exact HB.out | apply below_alloc | apply pw_below_drewN | apply below_drew1 | refine below_set ?_ GE420.out) | exact HB.out))) A10.out).mono ?_); rintro e w18 ⟨v427, v430, rfl, ho0, ho1, hb⟩; have n0_ := Aside0.mk (Kd.S_elder' (by (with_reducible repeat (first | apply Kd.S_alloc | apply Kd.S_drewN | apply Kd.S_drew)); exact HO414.out) (Kd.S_base ho0) hb); have n1_ := Aside0.mk (Kd.R_elder' (by (with_reducible repeat (first | apply Kd.R_alloc | apply Kd.R_drewN | apply Kd.R_drew)); exact HO417.out) (Kd.R_base ho1) hb); have n2_ := Aside0.mk (Kd.S_lower (Kd.S_new' ho0 (Kd.S_lt (by (with_reducible repeat (first | apply Kd.S_alloc | apply Kd.S_drewN | apply Kd.S_drew)); exact HO414.out))) (below_size (by repeat (first | (with_reducible first | exact HB.out | apply below_alloc | apply pw_below_drewN | apply below_drew1 | refine below_set ?_ GE420.out) | exact HB.out)))); have n3_ := Aside0.mk (Kd.R_lower (Kd.R_new' ho1 (Kd.R_lt (by (with_reducible repeat (first | apply Kd.R_alloc | apply Kd.R_drewN | apply Kd.R_drew)); exact HO417.out))) (below_size (by repeat (first | (with_reducible first | exact HB.out | apply below_alloc | apply pw_below_drewN | apply below_drew1 | refine below_set ?_ GE420.out) | exact HB.out)))); have n4_ := Aside0.mk (blk_below (g := gb420) (o := .cells #[.int .i64 t409, .int .i64 t410, .int .i64 t411, .slice Ao15 t412.length co15] 25 (0, 0)) (by (with_reducible repeat (first | refine blk_drewN ?_ _ | refine blk_drew ?_ | refine blk_alloc ?_ _)); exact BK420.out) hb); have n5_ := Aside0.mk (below_step (by repeat (first | (with_reducible first | exact HB.out | apply below_alloc | apply pw_below_drewN | apply below_drew1 | refine below_set ?_ GE420.out) | exact HB.out)) hb); clear HO414; clear HO417; clear BK420; clear HB; have HO414 := n0_; have HO417 := n1_; have HO428 := n2_; have HO431 := n3_; have BK420 := n4_; have HB := n5_; clear n0_ n1_ n2_ n3_ n4_ n5_; (try clear hb); (try clear hb2); (try clear hk); (try clear hi); (try clear ho0); (try clear ho1)) | ((with_reducible refine gate_dst (N := 10) rfl ?_); (try (refine gate_guard (by rfl) ?_; dsimp only)); refine box_event ?hg (N := 10) ?hd (cs := #[.int .i64 0, .int .i64 0, .int .i64 0, .slice none 0 0]) (t := 25) ?hr ?_; (case hd => rfl); (case hg => rfl); (case hr => first | (go_simp; done) | (go_simp; rfl)); intro gb434 hg w19 hbox hb; have n0_ := Aside0.mk (Kd.S_below (by (with_reducible repeat (first | apply Kd.S_alloc | apply Kd.S_drewN | apply Kd.S_drew)); exact HO414.out) hb); have n1_ := Aside0.mk (Kd.R_below (by (with_reducible repeat (first | apply Kd.R_alloc | apply Kd.R_drewN | apply Kd.R_drew)); exact HO417.out) hb); have n2_ := Aside0.mk (Kd.S_below (by (with_reducible repeat (first | apply Kd.S_alloc | apply Kd.S_drewN | apply Kd.S_drew)); exact HO428.out) hb); have n3_ := Aside0.mk (Kd.R_below (by (with_reducible repeat (first | apply Kd.R_alloc | apply Kd.R_drewN | apply Kd.R_drew)); exact HO431.out) hb); have n4_ := Aside0.mk (blk_below (g := gb420) (o := .cells #[.int .i64 t409, .int .i64 t410, .int .i64 t411, .slice Ao15 t412.length co15] 25 (0, 0)) (by (with_reducible repeat (first | refine blk_drewN ?_ _ | refine blk_drew ?_ | refine blk_alloc ?_ _)); exact BK420.out) hb); have n5_ := Aside0.mk (below_step (by repeat (first | (with_reducible first | exact HB.out | apply below_alloc | apply pw_below_drewN | apply below_drew1 | refine below_set ?_ GE420.out) | exact HB.out)) hb); have n6_ := Aside0.mk (hbox); have n7_ := Aside0.mk ((by rw [hg]; exact (below_size (by repeat (first | (with_reducible first | exact HB.out | apply below_alloc | apply pw_below_drewN | apply below_drew1 | refine below_set ?_ GE420.out) | exact HB.out))) : w.heap.size ≤ gb434)); have n8_ := Aside0.mk ((by rw [hg]; exact (below_size (by repeat (first | (with_reducible first | exact HB.out | apply below_alloc | apply pw_below_drewN | apply below_drew1 | refine below_set ?_ GE420.out) | exact HB.out))) : w.heap.size ≤ gb434)); have n9_ := Aside0.mk ((by rw [hg]; exact Nat.ne_of_lt (blk_lt (g := gb420) (o := .cells #[.int .i64 t409, .int .i64 t410, .int .i64 t411, .slice Ao15 t412.length co15] 25 (0, 0)) (by (with_reducible repeat (first | refine blk_drewN ?_ _ | refine blk_drew ?_ | refine blk_alloc ?_ _)); exact BK420.out)) : gb420 ≠ gb434)); have n10_ := Aside0.mk ((by rw [hg]; exact Nat.ne_of_gt (blk_lt (g := gb420) (o := .cells #[.int .i64 t409, .int .i64 t410, .int .i64 t411, .slice Ao15 t412.length co15] 25 (0, 0)) (by (with_reducible repeat (first | refine blk_drewN ?_ _ | refine blk_drew ?_ | refine blk_alloc ?_ _)); exact BK420.out)) : gb434 ≠ gb420)); clear HO414; clear HO417; clear HO428; clear HO431; clear BK420; clear HB; have HO414 := n0_; have HO417 := n1_; have HO428 := n2_; have HO431 := n3_; have BK420 := n4_; have HB := n5_; have BK434 := n6_; have GW434 := n7_; have GE434 := n8_; have NB420_434 := n9_; have NB434_420 := n10_; clear n0_ n1_ n2_ n3_ n4_ n5_ n6_ n7_ n8_ n9_ n10_; clear hb hbox hg; have hnb20 := NB434_420.out; have hnc20 := NB420_434.out; have hcz21_0 : w19.cell? ⟨gb434, 0, none⟩ = some (.int .i64 0) := (blk_cell BK434.out 0).trans rfl; have hcz21_1 : w19.cell? ⟨gb434, 1, none⟩ = some (.int .i64 0) := (blk_cell BK434.out 1).trans rfl; have hcz21_2 : w19.cell? ⟨gb434, 2, none⟩ = some (.int .i64 0) := (blk_cell BK434.out 2).trans rfl; have hcz21_3 : w19.cell? ⟨gb434, 3, none⟩ = some (.slice none 0 0) := (blk_cell BK434.out 3).trans rfl; have hfz21_0 := blk_frozen BK434.out 0; have hfz21_1 := blk_frozen BK434.out 1; have hfz21_2 := blk_frozen BK434.out 2; have hfz21_3 := blk_frozen BK434.out 3; obtain ⟨Ao22, co22, eo22⟩ := Kd.S_slice HO428.out; subst eo22)))
   (try simp only [Act.put, List.setIfInBounds_toArray, List.set_cons_zero, List.set_cons_succ])
   go_cut [55] (fun v55 wc => ∃ (kq : Nat) (x55_10 : Bool), v55 = .bool x55_10 ∧ Aside0 (law10_ParseIgnoresComments.j0 kq (wrap64 (Int.tmod a1 20)) t415 t418 t429 t432 x55_10 = some r) ∧ Aside0 (kq ≤ k) ∧ Aside0 (Kd.R (Kd.int .i64) 3 wc w.heap.size (fun k_ => some k_ ≠ (v430 : Value).ownBlock) v416 t415) ∧ Aside0 (Kd.R (Kd.int .i64) 3 wc w.heap.size (fun k_ => some k_ ≠ (v416 : Value).ownBlock) v430 t429) ∧ Aside0 (Kd.S k47 47 wc w.heap.size (fun k_ => some k_ ≠ ((.slice Ao22 t426.length co22) : Value).ownBlock) (.slice Ao15 t412.length co15) t412) ∧ Aside0 (Kd.S k47 47 wc w.heap.size (fun k_ => some k_ ≠ ((.slice Ao15 t412.length co15) : Value).ownBlock) (.slice Ao22 t426.length co22) t426) ∧ Aside0 (wc.heap[gb420]? = some (.cells #[.int .i64 t409, .int .i64 t410, .int .i64 t411, (.slice Ao15 t412.length co15)] 25 (0, 0))) ∧ Aside0 (wc.heap[gb434]? = some (.cells #[.int .i64 t423, .int .i64 t424, .int .i64 t425, (.slice Ao22 t426.length co22)] 25 (0, 0))) ∧ Aside0 (Below w.heap.size w wc))
   case first =>
    have H := HC11.out
    clear HC11
    by_cases c23 : t419 = t433
    ·rw [if_pos c23] at H
     have c23b0 : (t419 == t433) = true := beq_iff_eq.mpr c23
     have c23b1 : (t419 != t433) = false := bne_eq_false_iff_eq.mpr c23
     clear c23
     (first | rw [c23b0] | (simp only [i64_w, i32_w]; rw [c23b0]) | rw [c23b3] | rw [c23b2] | skip)
     replace H := Option.bind_eq_some_iff.mp H
     obtain ⟨t435, A240, H⟩ := H
     replace H : (if t435 = true then (law10_ParseIgnoresComments.j0 k (wrap64 (Int.tmod a1 20)) t415 t418 t429 t432 ((t415.length : Int) != (t429.length : Int))) else (law10_ParseIgnoresComments.j0 k (wrap64 (Int.tmod a1 20)) t415 t418 t429 t432 true)) = some r := H
     have A24 := Aside0.mk A240
     clear A240
     by_cases c25 : t435 = true
     ·subst c25
      have H1 : (law10_ParseIgnoresComments.j0 k (wrap64 (Int.tmod a1 20)) t415 t418 t429 t432 ((t415.length : Int) != (t429.length : Int))) = some r := by rw [if_pos rfl] at H; exact H
      clear H
      have H := H1
      clear H1
      have H' := Aside0.mk H
      clear H
      have hnb26 := NB420_434.out
      have hnc26 := NB434_420.out
      have hcz27_0 : w19.cell? ⟨gb420, 0, none⟩ = some (.int .i64 t409) := (blk_cell BK420.out 0).trans rfl
      have hcz27_1 : w19.cell? ⟨gb420, 1, none⟩ = some (.int .i64 t410) := (blk_cell BK420.out 1).trans rfl
      have hcz27_2 : w19.cell? ⟨gb420, 2, none⟩ = some (.int .i64 t411) := (blk_cell BK420.out 2).trans rfl
      have hcz27_3 : w19.cell? ⟨gb420, 3, none⟩ = some (.slice Ao15 t412.length co15) := (blk_cell BK420.out 3).trans rfl
      have hfz27_0 := blk_frozen BK420.out 0
      have hfz27_1 := blk_frozen BK420.out 1
      have hfz27_2 := blk_frozen BK420.out 2
      have hfz27_3 := blk_frozen BK420.out 3
      have hcz28_0 : w19.cell? ⟨gb434, 0, none⟩ = some (.int .i64 0) := (blk_cell BK434.out 0).trans rfl
      have hcz28_1 : w19.cell? ⟨gb434, 1, none⟩ = some (.int .i64 0) := (blk_cell BK434.out 1).trans rfl
      have hcz28_2 : w19.cell? ⟨gb434, 2, none⟩ = some (.int .i64 0) := (blk_cell BK434.out 2).trans rfl
      have hcz28_3 : w19.cell? ⟨gb434, 3, none⟩ = some (.slice none 0 0) := (blk_cell BK434.out 3).trans rfl
      have hfz28_0 := blk_frozen BK434.out 0
      have hfz28_1 := blk_frozen BK434.out 1
      have hfz28_2 := blk_frozen BK434.out 2
      have hfz28_3 := blk_frozen BK434.out 3
      go_wp2_with (first | (go_at_call 13; (with_reducible refine (ref10_Same.calls k t409 t410 t411 _ _ t412 t423 t424 t425 _ _ t426 true _ ?side1 ?side2 ?side3 ?side4 A24.out).mono ?_); (case side1 => refine (Kd.S_reads' (e := 47) (base := w.heap.size) (ok := fun k_ => (True ∧ some k_ ≠ (.slice Ao22 t426.length co22 : Value).ownBlock)) (n := t412.length) (c := co15) ?_).2.2; exact (by (with_reducible repeat (first | apply Kd.S_alloc | apply Kd.S_drewN | apply Kd.S_drew)); exact (Kd.S_mono (Kd.S_far (p := ⟨gb434, 3, none⟩) (Kd.S_far (p := ⟨gb434, 2, none⟩) (Kd.S_far (p := ⟨gb434, 1, none⟩) (Kd.S_far (p := ⟨gb434, 0, none⟩) (Kd.S_types HO414.out BK434.out (by decide)) (fun _ hk => hk.2) (.int .i64 t423)) (fun _ hk => hk.2) (.int .i64 t424)) (fun _ hk => hk.2) (.int .i64 t425)) (fun _ hk => hk.2) (.slice Ao22 t426.length co22)) (fun _ h_ => h_.1)))); (case side2 => exact (Kd.S_reads' HO414.out).2.1); (case side3 => refine (Kd.S_reads' (e := 47) (base := w.heap.size) (ok := fun k_ => (True ∧ some k_ ≠ (.slice Ao15 t412.length co15 : Value).ownBlock)) (n := t426.length) (c := co22) ?_).2.2; exact (by (with_reducible repeat (first | apply Kd.S_alloc | apply Kd.S_drewN | apply Kd.S_drew)); exact (Kd.S_mono (Kd.S_far (p := ⟨gb434, 3, none⟩) (Kd.S_far (p := ⟨gb434, 2, none⟩) (Kd.S_far (p := ⟨gb434, 1, none⟩) (Kd.S_far (p := ⟨gb434, 0, none⟩) (Kd.S_types HO428.out BK434.out (by decide)) (fun _ hk => hk.2) (.int .i64 t423)) (fun _ hk => hk.2) (.int .i64 t424)) (fun _ hk => hk.2) (.int .i64 t425)) (fun _ hk => hk.2) (.slice Ao22 t426.length co22)) (fun _ h_ => h_.1)))); (case side4 => exact (Kd.S_reads' HO428.out).2.1); rintro e w29 ⟨rfl, hb⟩; have n0_ := Aside0.mk (Kd.S_below (by (with_reducible repeat (first | apply Kd.S_alloc | apply Kd.S_drewN | apply Kd.S_drew)); exact (Kd.S_mono (Kd.S_far (p := ⟨gb434, 3, none⟩) (Kd.S_far (p := ⟨gb434, 2, none⟩) (Kd.S_far (p := ⟨gb434, 1, none⟩) (Kd.S_far (p := ⟨gb434, 0, none⟩) (Kd.S_types HO414.out BK434.out (by decide)) (fun _ hk => hk.2) (.int .i64 t423)) (fun _ hk => hk.2) (.int .i64 t424)) (fun _ hk => hk.2) (.int .i64 t425)) (fun _ hk => hk.2) (.slice Ao22 t426.length co22)) (fun _ h_ => h_.1))) hb); have n1_ := Aside0.mk (Kd.R_below (by (with_reducible repeat (first | apply Kd.R_alloc | apply Kd.R_drewN | apply Kd.R_drew)); exact (Kd.R_mono (Kd.R_far (p := ⟨gb434, 3, none⟩) (Kd.R_far (p := ⟨gb434, 2, none⟩) (Kd.R_far (p := ⟨gb434, 1, none⟩) (Kd.R_far (p := ⟨gb434, 0, none⟩) (Kd.R_types HO417.out BK434.out (by decide)) (fun _ hk => hk.2) (.int .i64 t423)) (fun _ hk => hk.2) (.int .i64 t424)) (fun _ hk => hk.2) (.int .i64 t425)) (fun _ hk => hk.2) (.slice Ao22 t426.length co22)) (fun _ h_ => h_.1))) hb); have n2_ := Aside0.mk (Kd.S_below (by (with_reducible repeat (first | apply Kd.S_alloc | apply Kd.S_drewN | apply Kd.S_drew)); exact (Kd.S_mono (Kd.S_far (p := ⟨gb434, 3, none⟩) (Kd.S_far (p := ⟨gb434, 2, none⟩) (Kd.S_far (p := ⟨gb434, 1, none⟩) (Kd.S_far (p := ⟨gb434, 0, none⟩) (Kd.S_types HO428.out BK434.out (by decide)) (fun _ hk => hk.2) (.int .i64 t423)) (fun _ hk => hk.2) (.int .i64 t424)) (fun _ hk => hk.2) (.int .i64 t425)) (fun _ hk => hk.2) (.slice Ao22 t426.length co22)) (fun _ h_ => h_.1))) hb); have n3_ := Aside0.mk (Kd.R_below (by (with_reducible repeat (first | apply Kd.R_alloc | apply Kd.R_drewN | apply Kd.R_drew)); exact (Kd.R_mono (Kd.R_far (p := ⟨gb434, 3, none⟩) (Kd.R_far (p := ⟨gb434, 2, none⟩) (Kd.R_far (p := ⟨gb434, 1, none⟩) (Kd.R_far (p := ⟨gb434, 0, none⟩) (Kd.R_types HO431.out BK434.out (by decide)) (fun _ hk => hk.2) (.int .i64 t423)) (fun _ hk => hk.2) (.int .i64 t424)) (fun _ hk => hk.2) (.int .i64 t425)) (fun _ hk => hk.2) (.slice Ao22 t426.length co22)) (fun _ h_ => h_.1))) hb); have n4_ := Aside0.mk (blk_below (g := gb420) (o := .cells #[.int .i64 t409, .int .i64 t410, .int .i64 t411, .slice Ao15 t412.length co15] 25 (0, 0)) (by (with_reducible repeat (first | refine blk_drewN ?_ _ | refine blk_drew ?_ | refine blk_alloc ?_ _)); refine blk_far ?_ NB420_434.out _; (with_reducible repeat (first | refine blk_drewN ?_ _ | refine blk_drew ?_ | refine blk_alloc ?_ _)); refine blk_far ?_ NB420_434.out _; (with_reducible repeat (first | refine blk_drewN ?_ _ | refine blk_drew ?_ | refine blk_alloc ?_ _)); refine blk_far ?_ NB420_434.out _; (with_reducible repeat (first | refine blk_drewN ?_ _ | refine blk_drew ?_ | refine blk_alloc ?_ _)); refine blk_far ?_ NB420_434.out _; (with_reducible repeat (first | refine blk_drewN ?_ _ | refine blk_drew ?_ | refine blk_alloc ?_ _)); exact BK420.out) hb); have n5_ := Aside0.mk (blk_below (g := gb434) (o := .cells #[.int .i64 t423, .int .i64 t424, .int .i64 t425, .slice Ao22 t426.length co22] 25 (0, 0)) (by (with_reducible repeat (first | refine blk_drewN ?_ _ | refine blk_drew ?_ | refine blk_alloc ?_ _)); refine blk_put (cs := #[.int .i64 t423, .int .i64 t424, .int .i64 t425, .slice none 0 0]) ?_ 3 _ rfl; (with_reducible repeat (first | refine blk_drewN ?_ _ | refine blk_drew ?_ | refine blk_alloc ?_ _)); refine blk_put (cs := #[.int .i64 t423, .int .i64 t424, .int .i64 0, .slice none 0 0]) ?_ 2 _ rfl; (with_reducible repeat (first | refine blk_drewN ?_ _ | refine blk_drew ?_ | refine blk_alloc ?_ _)); refine blk_put (cs := #[.int .i64 t423, .int .i64 0, .int .i64 0, .slice none 0 0]) ?_ 1 _ rfl; (with_reducible repeat (first | refine blk_drewN ?_ _ | refine blk_drew ?_ | refine blk_alloc ?_ _)); refine blk_put (cs := #[.int .i64 0, .int .i64 0, .int .i64 0, .slice none 0 0]) ?_ 0 _ rfl; (with_reducible repeat (first | refine blk_drewN ?_ _ | refine blk_drew ?_ | refine blk_alloc ?_ _)); exact BK434.out) hb); have n6_ := Aside0.mk (below_step (by repeat (first | (with_reducible first | exact HB.out | apply below_alloc | apply pw_below_drewN | apply below_drew1 | refine below_set ?_ GE420.out | refine below_set ?_ GE434.out) | exact HB.out)) hb); clear HO414; clear HO417; clear HO428; clear HO431; clear BK420; clear BK434; clear HB; have HO414 := n0_; have HO417 := n1_; have HO428 := n2_; have HO431 := n3_; have BK420 := n4_; have BK434 := n5_; have HB := n6_; clear n0_ n1_ n2_ n3_ n4_ n5_ n6_; (try clear hb); (try clear hb2); (try clear hk); (try clear hi); obtain ⟨Ao30, co30, eo30⟩ := Kd.R_slice HO417.out; subst eo30; obtain ⟨Ao31, co31, eo31⟩ := Kd.R_slice HO431.out; subst eo31))
      repeat (go_quiet (first | (go_at_call 13; (with_reducible refine (ref10_Same.calls k t409 t410 t411 _ _ t412 t423 t424 t425 _ _ t426 true _ ?side1 ?side2 ?side3 ?side4 A24.out).mono ?_); (case side1 => refine (Kd.S_reads' (e := 47) (base := w.heap.size) (ok := fun k_ => (True ∧ some k_ ≠ (.slice Ao22 t426.length co22 : Value).ownBlock)) (n := t412.length) (c := co15) ?_).2.2; exact (by (with_reducible repeat (first | apply Kd.S_alloc | apply Kd.S_drewN | apply Kd.S_drew)); exact (Kd.S_mono (Kd.S_far (p := ⟨gb434, 3, none⟩) (Kd.S_far (p := ⟨gb434, 2, none⟩) (Kd.S_far (p := ⟨gb434, 1, none⟩) (Kd.S_far (p := ⟨gb434, 0, none⟩) (Kd.S_types HO414.out BK434.out (by decide)) (fun _ hk => hk.2) (.int .i64 t423)) (fun _ hk => hk.2) (.int .i64 t424)) (fun _ hk => hk.2) (.int .i64 t425)) (fun _ hk => hk.2) (.slice Ao22 t426.length co22)) (fun _ h_ => h_.1)))); (case side2 => exact (Kd.S_reads' HO414.out).2.1); (case side3 => refine (Kd.S_reads' (e := 47) (base := w.heap.size) (ok := fun k_ => (True ∧ some k_ ≠ (.slice Ao15 t412.length co15 : Value).ownBlock)) (n := t426.length) (c := co22) ?_).2.2; exact (by (with_reducible repeat (first | apply Kd.S_alloc | apply Kd.S_drewN | apply Kd.S_drew)); exact (Kd.S_mono (Kd.S_far (p := ⟨gb434, 3, none⟩) (Kd.S_far (p := ⟨gb434, 2, none⟩) (Kd.S_far (p := ⟨gb434, 1, none⟩) (Kd.S_far (p := ⟨gb434, 0, none⟩) (Kd.S_types HO428.out BK434.out (by decide)) (fun _ hk => hk.2) (.int .i64 t423)) (fun _ hk => hk.2) (.int .i64 t424)) (fun _ hk => hk.2) (.int .i64 t425)) (fun _ hk => hk.2) (.slice Ao22 t426.length co22)) (fun _ h_ => h_.1)))); (case side4 => exact (Kd.S_reads' HO428.out).2.1); rintro e w29 ⟨rfl, hb⟩; have n0_ := Aside0.mk (Kd.S_below (by (with_reducible repeat (first | apply Kd.S_alloc | apply Kd.S_drewN | apply Kd.S_drew)); exact (Kd.S_mono (Kd.S_far (p := ⟨gb434, 3, none⟩) (Kd.S_far (p := ⟨gb434, 2, none⟩) (Kd.S_far (p := ⟨gb434, 1, none⟩) (Kd.S_far (p := ⟨gb434, 0, none⟩) (Kd.S_types HO414.out BK434.out (by decide)) (fun _ hk => hk.2) (.int .i64 t423)) (fun _ hk => hk.2) (.int .i64 t424)) (fun _ hk => hk.2) (.int .i64 t425)) (fun _ hk => hk.2) (.slice Ao22 t426.length co22)) (fun _ h_ => h_.1))) hb); have n1_ := Aside0.mk (Kd.R_below (by (with_reducible repeat (first | apply Kd.R_alloc | apply Kd.R_drewN | apply Kd.R_drew)); exact (Kd.R_mono (Kd.R_far (p := ⟨gb434, 3, none⟩) (Kd.R_far (p := ⟨gb434, 2, none⟩) (Kd.R_far (p := ⟨gb434, 1, none⟩) (Kd.R_far (p := ⟨gb434, 0, none⟩) (Kd.R_types HO417.out BK434.out (by decide)) (fun _ hk => hk.2) (.int .i64 t423)) (fun _ hk => hk.2) (.int .i64 t424)) (fun _ hk => hk.2) (.int .i64 t425)) (fun _ hk => hk.2) (.slice Ao22 t426.length co22)) (fun _ h_ => h_.1))) hb); have n2_ := Aside0.mk (Kd.S_below (by (with_reducible repeat (first | apply Kd.S_alloc | apply Kd.S_drewN | apply Kd.S_drew)); exact (Kd.S_mono (Kd.S_far (p := ⟨gb434, 3, none⟩) (Kd.S_far (p := ⟨gb434, 2, none⟩) (Kd.S_far (p := ⟨gb434, 1, none⟩) (Kd.S_far (p := ⟨gb434, 0, none⟩) (Kd.S_types HO428.out BK434.out (by decide)) (fun _ hk => hk.2) (.int .i64 t423)) (fun _ hk => hk.2) (.int .i64 t424)) (fun _ hk => hk.2) (.int .i64 t425)) (fun _ hk => hk.2) (.slice Ao22 t426.length co22)) (fun _ h_ => h_.1))) hb); have n3_ := Aside0.mk (Kd.R_below (by (with_reducible repeat (first | apply Kd.R_alloc | apply Kd.R_drewN | apply Kd.R_drew)); exact (Kd.R_mono (Kd.R_far (p := ⟨gb434, 3, none⟩) (Kd.R_far (p := ⟨gb434, 2, none⟩) (Kd.R_far (p := ⟨gb434, 1, none⟩) (Kd.R_far (p := ⟨gb434, 0, none⟩) (Kd.R_types HO431.out BK434.out (by decide)) (fun _ hk => hk.2) (.int .i64 t423)) (fun _ hk => hk.2) (.int .i64 t424)) (fun _ hk => hk.2) (.int .i64 t425)) (fun _ hk => hk.2) (.slice Ao22 t426.length co22)) (fun _ h_ => h_.1))) hb); have n4_ := Aside0.mk (blk_below (g := gb420) (o := .cells #[.int .i64 t409, .int .i64 t410, .int .i64 t411, .slice Ao15 t412.length co15] 25 (0, 0)) (by (with_reducible repeat (first | refine blk_drewN ?_ _ | refine blk_drew ?_ | refine blk_alloc ?_ _)); refine blk_far ?_ NB420_434.out _; (with_reducible repeat (first | refine blk_drewN ?_ _ | refine blk_drew ?_ | refine blk_alloc ?_ _)); refine blk_far ?_ NB420_434.out _; (with_reducible repeat (first | refine blk_drewN ?_ _ | refine blk_drew ?_ | refine blk_alloc ?_ _)); refine blk_far ?_ NB420_434.out _; (with_reducible repeat (first | refine blk_drewN ?_ _ | refine blk_drew ?_ | refine blk_alloc ?_ _)); refine blk_far ?_ NB420_434.out _; (with_reducible repeat (first | refine blk_drewN ?_ _ | refine blk_drew ?_ | refine blk_alloc ?_ _)); exact BK420.out) hb); have n5_ := Aside0.mk (blk_below (g := gb434) (o := .cells #[.int .i64 t423, .int .i64 t424, .int .i64 t425, .slice Ao22 t426.length co22] 25 (0, 0)) (by (with_reducible repeat (first | refine blk_drewN ?_ _ | refine blk_drew ?_ | refine blk_alloc ?_ _)); refine blk_put (cs := #[.int .i64 t423, .int .i64 t424, .int .i64 t425, .slice none 0 0]) ?_ 3 _ rfl; (with_reducible repeat (first | refine blk_drewN ?_ _ | refine blk_drew ?_ | refine blk_alloc ?_ _)); refine blk_put (cs := #[.int .i64 t423, .int .i64 t424, .int .i64 0, .slice none 0 0]) ?_ 2 _ rfl; (with_reducible repeat (first | refine blk_drewN ?_ _ | refine blk_drew ?_ | refine blk_alloc ?_ _)); refine blk_put (cs := #[.int .i64 t423, .int .i64 0, .int .i64 0, .slice none 0 0]) ?_ 1 _ rfl; (with_reducible repeat (first | refine blk_drewN ?_ _ | refine blk_drew ?_ | refine blk_alloc ?_ _)); refine blk_put (cs := #[.int .i64 0, .int .i64 0, .int .i64 0, .slice none 0 0]) ?_ 0 _ rfl; (with_reducible repeat (first | refine blk_drewN ?_ _ | refine blk_drew ?_ | refine blk_alloc ?_ _)); exact BK434.out) hb); have n6_ := Aside0.mk (below_step (by repeat (first | (with_reducible first | exact HB.out | apply below_alloc | apply pw_below_drewN | apply below_drew1 | refine below_set ?_ GE420.out | refine below_set ?_ GE434.out) | exact HB.out)) hb); clear HO414; clear HO417; clear HO428; clear HO431; clear BK420; clear BK434; clear HB; have HO414 := n0_; have HO417 := n1_; have HO428 := n2_; have HO431 := n3_; have BK420 := n4_; have BK434 := n5_; have HB := n6_; clear n0_ n1_ n2_ n3_ n4_ n5_ n6_; (try clear hb); (try clear hb2); (try clear hk); (try clear hi); obtain ⟨Ao30, co30, eo30⟩ := Kd.R_slice HO417.out; subst eo30; obtain ⟨Ao31, co31, eo31⟩ := Kd.R_slice HO431.out; subst eo31)); try go_wp2_with (first | (go_at_call 13; (with_reducible refine (ref10_Same.calls k t409 t410 t411 _ _ t412 t423 t424 t425 _ _ t426 true _ ?side1 ?side2 ?side3 ?side4 A24.out).mono ?_); (case side1 => refine (Kd.S_reads' (e := 47) (base := w.heap.size) (ok := fun k_ => (True ∧ some k_ ≠ (.slice Ao22 t426.length co22 : Value).ownBlock)) (n := t412.length) (c := co15) ?_).2.2; exact (by (with_reducible repeat (first | apply Kd.S_alloc | apply Kd.S_drewN | apply Kd.S_drew)); exact (Kd.S_mono (Kd.S_far (p := ⟨gb434, 3, none⟩) (Kd.S_far (p := ⟨gb434, 2, none⟩) (Kd.S_far (p := ⟨gb434, 1, none⟩) (Kd.S_far (p := ⟨gb434, 0, none⟩) (Kd.S_types HO414.out BK434.out (by decide)) (fun _ hk => hk.2) (.int .i64 t423)) (fun _ hk => hk.2) (.int .i64 t424)) (fun _ hk => hk.2) (.int .i64 t425)) (fun _ hk => hk.2) (.slice Ao22 t426.length co22)) (fun _ h_ => h_.1)))); (case side2 => exact (Kd.S_reads' HO414.out).2.1); (case side3 => refine (Kd.S_reads' (e := 47) (base := w.heap.size) (ok := fun k_ => (True ∧ some k_ ≠ (.slice Ao15 t412.length co15 : Value).ownBlock)) (n := t426.length) (c := co22) ?_).2.2; exact (by (with_reducible repeat (first | apply Kd.S_alloc | apply Kd.S_drewN | apply Kd.S_drew)); exact (Kd.S_mono (Kd.S_far (p := ⟨gb434, 3, none⟩) (Kd.S_far (p := ⟨gb434, 2, none⟩) (Kd.S_far (p := ⟨gb434, 1, none⟩) (Kd.S_far (p := ⟨gb434, 0, none⟩) (Kd.S_types HO428.out BK434.out (by decide)) (fun _ hk => hk.2) (.int .i64 t423)) (fun _ hk => hk.2) (.int .i64 t424)) (fun _ hk => hk.2) (.int .i64 t425)) (fun _ hk => hk.2) (.slice Ao22 t426.length co22)) (fun _ h_ => h_.1)))); (case side4 => exact (Kd.S_reads' HO428.out).2.1); rintro e w29 ⟨rfl, hb⟩; have n0_ := Aside0.mk (Kd.S_below (by (with_reducible repeat (first | apply Kd.S_alloc | apply Kd.S_drewN | apply Kd.S_drew)); exact (Kd.S_mono (Kd.S_far (p := ⟨gb434, 3, none⟩) (Kd.S_far (p := ⟨gb434, 2, none⟩) (Kd.S_far (p := ⟨gb434, 1, none⟩) (Kd.S_far (p := ⟨gb434, 0, none⟩) (Kd.S_types HO414.out BK434.out (by decide)) (fun _ hk => hk.2) (.int .i64 t423)) (fun _ hk => hk.2) (.int .i64 t424)) (fun _ hk => hk.2) (.int .i64 t425)) (fun _ hk => hk.2) (.slice Ao22 t426.length co22)) (fun _ h_ => h_.1))) hb); have n1_ := Aside0.mk (Kd.R_below (by (with_reducible repeat (first | apply Kd.R_alloc | apply Kd.R_drewN | apply Kd.R_drew)); exact (Kd.R_mono (Kd.R_far (p := ⟨gb434, 3, none⟩) (Kd.R_far (p := ⟨gb434, 2, none⟩) (Kd.R_far (p := ⟨gb434, 1, none⟩) (Kd.R_far (p := ⟨gb434, 0, none⟩) (Kd.R_types HO417.out BK434.out (by decide)) (fun _ hk => hk.2) (.int .i64 t423)) (fun _ hk => hk.2) (.int .i64 t424)) (fun _ hk => hk.2) (.int .i64 t425)) (fun _ hk => hk.2) (.slice Ao22 t426.length co22)) (fun _ h_ => h_.1))) hb); have n2_ := Aside0.mk (Kd.S_below (by (with_reducible repeat (first | apply Kd.S_alloc | apply Kd.S_drewN | apply Kd.S_drew)); exact (Kd.S_mono (Kd.S_far (p := ⟨gb434, 3, none⟩) (Kd.S_far (p := ⟨gb434, 2, none⟩) (Kd.S_far (p := ⟨gb434, 1, none⟩) (Kd.S_far (p := ⟨gb434, 0, none⟩) (Kd.S_types HO428.out BK434.out (by decide)) (fun _ hk => hk.2) (.int .i64 t423)) (fun _ hk => hk.2) (.int .i64 t424)) (fun _ hk => hk.2) (.int .i64 t425)) (fun _ hk => hk.2) (.slice Ao22 t426.length co22)) (fun _ h_ => h_.1))) hb); have n3_ := Aside0.mk (Kd.R_below (by (with_reducible repeat (first | apply Kd.R_alloc | apply Kd.R_drewN | apply Kd.R_drew)); exact (Kd.R_mono (Kd.R_far (p := ⟨gb434, 3, none⟩) (Kd.R_far (p := ⟨gb434, 2, none⟩) (Kd.R_far (p := ⟨gb434, 1, none⟩) (Kd.R_far (p := ⟨gb434, 0, none⟩) (Kd.R_types HO431.out BK434.out (by decide)) (fun _ hk => hk.2) (.int .i64 t423)) (fun _ hk => hk.2) (.int .i64 t424)) (fun _ hk => hk.2) (.int .i64 t425)) (fun _ hk => hk.2) (.slice Ao22 t426.length co22)) (fun _ h_ => h_.1))) hb); have n4_ := Aside0.mk (blk_below (g := gb420) (o := .cells #[.int .i64 t409, .int .i64 t410, .int .i64 t411, .slice Ao15 t412.length co15] 25 (0, 0)) (by (with_reducible repeat (first | refine blk_drewN ?_ _ | refine blk_drew ?_ | refine blk_alloc ?_ _)); refine blk_far ?_ NB420_434.out _; (with_reducible repeat (first | refine blk_drewN ?_ _ | refine blk_drew ?_ | refine blk_alloc ?_ _)); refine blk_far ?_ NB420_434.out _; (with_reducible repeat (first | refine blk_drewN ?_ _ | refine blk_drew ?_ | refine blk_alloc ?_ _)); refine blk_far ?_ NB420_434.out _; (with_reducible repeat (first | refine blk_drewN ?_ _ | refine blk_drew ?_ | refine blk_alloc ?_ _)); refine blk_far ?_ NB420_434.out _; (with_reducible repeat (first | refine blk_drewN ?_ _ | refine blk_drew ?_ | refine blk_alloc ?_ _)); exact BK420.out) hb); have n5_ := Aside0.mk (blk_below (g := gb434) (o := .cells #[.int .i64 t423, .int .i64 t424, .int .i64 t425, .slice Ao22 t426.length co22] 25 (0, 0)) (by (with_reducible repeat (first | refine blk_drewN ?_ _ | refine blk_drew ?_ | refine blk_alloc ?_ _)); refine blk_put (cs := #[.int .i64 t423, .int .i64 t424, .int .i64 t425, .slice none 0 0]) ?_ 3 _ rfl; (with_reducible repeat (first | refine blk_drewN ?_ _ | refine blk_drew ?_ | refine blk_alloc ?_ _)); refine blk_put (cs := #[.int .i64 t423, .int .i64 t424, .int .i64 0, .slice none 0 0]) ?_ 2 _ rfl; (with_reducible repeat (first | refine blk_drewN ?_ _ | refine blk_drew ?_ | refine blk_alloc ?_ _)); refine blk_put (cs := #[.int .i64 t423, .int .i64 0, .int .i64 0, .slice none 0 0]) ?_ 1 _ rfl; (with_reducible repeat (first | refine blk_drewN ?_ _ | refine blk_drew ?_ | refine blk_alloc ?_ _)); refine blk_put (cs := #[.int .i64 0, .int .i64 0, .int .i64 0, .slice none 0 0]) ?_ 0 _ rfl; (with_reducible repeat (first | refine blk_drewN ?_ _ | refine blk_drew ?_ | refine blk_alloc ?_ _)); exact BK434.out) hb); have n6_ := Aside0.mk (below_step (by repeat (first | (with_reducible first | exact HB.out | apply below_alloc | apply pw_below_drewN | apply below_drew1 | refine below_set ?_ GE420.out | refine below_set ?_ GE434.out) | exact HB.out)) hb); clear HO414; clear HO417; clear HO428; clear HO431; clear BK420; clear BK434; clear HB; have HO414 := n0_; have HO417 := n1_; have HO428 := n2_; have HO431 := n3_; have BK420 := n4_; have BK434 := n5_; have HB := n6_; clear n0_ n1_ n2_ n3_ n4_ n5_ n6_; (try clear hb); (try clear hb2); (try clear hk); (try clear hi); obtain ⟨Ao30, co30, eo30⟩ := Kd.R_slice HO417.out; subst eo30; obtain ⟨Ao31, co31, eo31⟩ := Kd.R_slice HO431.out; subst eo31)))
      go_meet
      case rel => exact ⟨_, (((t415.length : Int) != (t429.length : Int))), (by first | rfl | (simp; done) | (simp [*]; done)), H', ⟨by first | omega | exact Nat.le_refl _⟩, ⟨by (with_reducible repeat (first | apply Kd.R_alloc | apply Kd.R_drewN | apply Kd.R_drew)); exact Kd.R_mono HO417.out (fun _ hk => hk.2)⟩, ⟨by (with_reducible repeat (first | apply Kd.R_alloc | apply Kd.R_drewN | apply Kd.R_drew)); exact Kd.R_mono HO431.out (fun _ hk => hk.2)⟩, ⟨by (with_reducible repeat (first | apply Kd.S_alloc | apply Kd.S_drewN | apply Kd.S_drew)); exact Kd.S_mono HO414.out (fun _ hk => hk.2)⟩, ⟨by (with_reducible repeat (first | apply Kd.S_alloc | apply Kd.S_drewN | apply Kd.S_drew)); exact Kd.S_mono HO428.out (fun _ hk => hk.2)⟩, ⟨by (with_reducible repeat (first | refine blk_drewN ?_ _ | refine blk_drew ?_ | refine blk_alloc ?_ _)); exact BK420.out⟩, ⟨by (with_reducible repeat (first | refine blk_drewN ?_ _ | refine blk_drew ?_ | refine blk_alloc ?_ _)); exact BK434.out⟩, ⟨by repeat (first | (with_reducible first | exact HB.out | apply below_alloc | apply pw_below_drewN | apply below_drew1 | refine below_set ?_ GE420.out | refine below_set ?_ GE434.out) | exact HB.out)⟩⟩
     ·replace c25 := Bool.eq_false_iff.mpr c25
      subst c25
      have H1 : (law10_ParseIgnoresComments.j0 k (wrap64 (Int.tmod a1 20)) t415 t418 t429 t432 true) = some r := by rw [if_neg (show ¬ (false = true) by decide)] at H; exact H
      clear H
      have H := H1
      clear H1
      have H' := Aside0.mk H
      clear H
      have hnb32 := NB420_434.out
      have hnc32 := NB434_420.out
      have hcz33_0 : w19.cell? ⟨gb420, 0, none⟩ = some (.int .i64 t409) := (blk_cell BK420.out 0).trans rfl
      have hcz33_1 : w19.cell? ⟨gb420, 1, none⟩ = some (.int .i64 t410) := (blk_cell BK420.out 1).trans rfl
      have hcz33_2 : w19.cell? ⟨gb420, 2, none⟩ = some (.int .i64 t411) := (blk_cell BK420.out 2).trans rfl
      have hcz33_3 : w19.cell? ⟨gb420, 3, none⟩ = some (.slice Ao15 t412.length co15) := (blk_cell BK420.out 3).trans rfl
      have hfz33_0 := blk_frozen BK420.out 0
      have hfz33_1 := blk_frozen BK420.out 1
      have hfz33_2 := blk_frozen BK420.out 2
      have hfz33_3 := blk_frozen BK420.out 3
      have hcz34_0 : w19.cell? ⟨gb434, 0, none⟩ = some (.int .i64 0) := (blk_cell BK434.out 0).trans rfl
      have hcz34_1 : w19.cell? ⟨gb434, 1, none⟩ = some (.int .i64 0) := (blk_cell BK434.out 1).trans rfl
      have hcz34_2 : w19.cell? ⟨gb434, 2, none⟩ = some (.int .i64 0) := (blk_cell BK434.out 2).trans rfl
      have hcz34_3 : w19.cell? ⟨gb434, 3, none⟩ = some (.slice none 0 0) := (blk_cell BK434.out 3).trans rfl
      have hfz34_0 := blk_frozen BK434.out 0
      have hfz34_1 := blk_frozen BK434.out 1
      have hfz34_2 := blk_frozen BK434.out 2
      have hfz34_3 := blk_frozen BK434.out 3
      go_wp2_with (first | (go_at_call 13; (with_reducible refine (ref10_Same.calls k t409 t410 t411 _ _ t412 t423 t424 t425 _ _ t426 false _ ?side1 ?side2 ?side3 ?side4 A24.out).mono ?_); (case side1 => refine (Kd.S_reads' (e := 47) (base := w.heap.size) (ok := fun k_ => (True ∧ some k_ ≠ (.slice Ao22 t426.length co22 : Value).ownBlock)) (n := t412.length) (c := co15) ?_).2.2; exact (by (with_reducible repeat (first | apply Kd.S_alloc | apply Kd.S_drewN | apply Kd.S_drew)); exact (Kd.S_mono (Kd.S_far (p := ⟨gb434, 3, none⟩) (Kd.S_far (p := ⟨gb434, 2, none⟩) (Kd.S_far (p := ⟨gb434, 1, none⟩) (Kd.S_far (p := ⟨gb434, 0, none⟩) (Kd.S_types HO414.out BK434.out (by decide)) (fun _ hk => hk.2) (.int .i64 t423)) (fun _ hk => hk.2) (.int .i64 t424)) (fun _ hk => hk.2) (.int .i64 t425)) (fun _ hk => hk.2) (.slice Ao22 t426.length co22)) (fun _ h_ => h_.1)))); (case side2 => exact (Kd.S_reads' HO414.out).2.1); (case side3 => refine (Kd.S_reads' (e := 47) (base := w.heap.size) (ok := fun k_ => (True ∧ some k_ ≠ (.slice Ao15 t412.length co15 : Value).ownBlock)) (n := t426.length) (c := co22) ?_).2.2; exact (by (with_reducible repeat (first | apply Kd.S_alloc | apply Kd.S_drewN | apply Kd.S_drew)); exact (Kd.S_mono (Kd.S_far (p := ⟨gb434, 3, none⟩) (Kd.S_far (p := ⟨gb434, 2, none⟩) (Kd.S_far (p := ⟨gb434, 1, none⟩) (Kd.S_far (p := ⟨gb434, 0, none⟩) (Kd.S_types HO428.out BK434.out (by decide)) (fun _ hk => hk.2) (.int .i64 t423)) (fun _ hk => hk.2) (.int .i64 t424)) (fun _ hk => hk.2) (.int .i64 t425)) (fun _ hk => hk.2) (.slice Ao22 t426.length co22)) (fun _ h_ => h_.1)))); (case side4 => exact (Kd.S_reads' HO428.out).2.1); rintro e w35 ⟨rfl, hb⟩; have n0_ := Aside0.mk (Kd.S_below (by (with_reducible repeat (first | apply Kd.S_alloc | apply Kd.S_drewN | apply Kd.S_drew)); exact (Kd.S_mono (Kd.S_far (p := ⟨gb434, 3, none⟩) (Kd.S_far (p := ⟨gb434, 2, none⟩) (Kd.S_far (p := ⟨gb434, 1, none⟩) (Kd.S_far (p := ⟨gb434, 0, none⟩) (Kd.S_types HO414.out BK434.out (by decide)) (fun _ hk => hk.2) (.int .i64 t423)) (fun _ hk => hk.2) (.int .i64 t424)) (fun _ hk => hk.2) (.int .i64 t425)) (fun _ hk => hk.2) (.slice Ao22 t426.length co22)) (fun _ h_ => h_.1))) hb); have n1_ := Aside0.mk (Kd.R_below (by (with_reducible repeat (first | apply Kd.R_alloc | apply Kd.R_drewN | apply Kd.R_drew)); exact (Kd.R_mono (Kd.R_far (p := ⟨gb434, 3, none⟩) (Kd.R_far (p := ⟨gb434, 2, none⟩) (Kd.R_far (p := ⟨gb434, 1, none⟩) (Kd.R_far (p := ⟨gb434, 0, none⟩) (Kd.R_types HO417.out BK434.out (by decide)) (fun _ hk => hk.2) (.int .i64 t423)) (fun _ hk => hk.2) (.int .i64 t424)) (fun _ hk => hk.2) (.int .i64 t425)) (fun _ hk => hk.2) (.slice Ao22 t426.length co22)) (fun _ h_ => h_.1))) hb); have n2_ := Aside0.mk (Kd.S_below (by (with_reducible repeat (first | apply Kd.S_alloc | apply Kd.S_drewN | apply Kd.S_drew)); exact (Kd.S_mono (Kd.S_far (p := ⟨gb434, 3, none⟩) (Kd.S_far (p := ⟨gb434, 2, none⟩) (Kd.S_far (p := ⟨gb434, 1, none⟩) (Kd.S_far (p := ⟨gb434, 0, none⟩) (Kd.S_types HO428.out BK434.out (by decide)) (fun _ hk => hk.2) (.int .i64 t423)) (fun _ hk => hk.2) (.int .i64 t424)) (fun _ hk => hk.2) (.int .i64 t425)) (fun _ hk => hk.2) (.slice Ao22 t426.length co22)) (fun _ h_ => h_.1))) hb); have n3_ := Aside0.mk (Kd.R_below (by (with_reducible repeat (first | apply Kd.R_alloc | apply Kd.R_drewN | apply Kd.R_drew)); exact (Kd.R_mono (Kd.R_far (p := ⟨gb434, 3, none⟩) (Kd.R_far (p := ⟨gb434, 2, none⟩) (Kd.R_far (p := ⟨gb434, 1, none⟩) (Kd.R_far (p := ⟨gb434, 0, none⟩) (Kd.R_types HO431.out BK434.out (by decide)) (fun _ hk => hk.2) (.int .i64 t423)) (fun _ hk => hk.2) (.int .i64 t424)) (fun _ hk => hk.2) (.int .i64 t425)) (fun _ hk => hk.2) (.slice Ao22 t426.length co22)) (fun _ h_ => h_.1))) hb); have n4_ := Aside0.mk (blk_below (g := gb420) (o := .cells #[.int .i64 t409, .int .i64 t410, .int .i64 t411, .slice Ao15 t412.length co15] 25 (0, 0)) (by (with_reducible repeat (first | refine blk_drewN ?_ _ | refine blk_drew ?_ | refine blk_alloc ?_ _)); refine blk_far ?_ NB420_434.out _; (with_reducible repeat (first | refine blk_drewN ?_ _ | refine blk_drew ?_ | refine blk_alloc ?_ _)); refine blk_far ?_ NB420_434.out _; (with_reducible repeat (first | refine blk_drewN ?_ _ | refine blk_drew ?_ | refine blk_alloc ?_ _)); refine blk_far ?_ NB420_434.out _; (with_reducible repeat (first | refine blk_drewN ?_ _ | refine blk_drew ?_ | refine blk_alloc ?_ _)); refine blk_far ?_ NB420_434.out _; (with_reducible repeat (first | refine blk_drewN ?_ _ | refine blk_drew ?_ | refine blk_alloc ?_ _)); exact BK420.out) hb); have n5_ := Aside0.mk (blk_below (g := gb434) (o := .cells #[.int .i64 t423, .int .i64 t424, .int .i64 t425, .slice Ao22 t426.length co22] 25 (0, 0)) (by (with_reducible repeat (first | refine blk_drewN ?_ _ | refine blk_drew ?_ | refine blk_alloc ?_ _)); refine blk_put (cs := #[.int .i64 t423, .int .i64 t424, .int .i64 t425, .slice none 0 0]) ?_ 3 _ rfl; (with_reducible repeat (first | refine blk_drewN ?_ _ | refine blk_drew ?_ | refine blk_alloc ?_ _)); refine blk_put (cs := #[.int .i64 t423, .int .i64 t424, .int .i64 0, .slice none 0 0]) ?_ 2 _ rfl; (with_reducible repeat (first | refine blk_drewN ?_ _ | refine blk_drew ?_ | refine blk_alloc ?_ _)); refine blk_put (cs := #[.int .i64 t423, .int .i64 0, .int .i64 0, .slice none 0 0]) ?_ 1 _ rfl; (with_reducible repeat (first | refine blk_drewN ?_ _ | refine blk_drew ?_ | refine blk_alloc ?_ _)); refine blk_put (cs := #[.int .i64 0, .int .i64 0, .int .i64 0, .slice none 0 0]) ?_ 0 _ rfl; (with_reducible repeat (first | refine blk_drewN ?_ _ | refine blk_drew ?_ | refine blk_alloc ?_ _)); exact BK434.out) hb); have n6_ := Aside0.mk (below_step (by repeat (first | (with_reducible first | exact HB.out | apply below_alloc | apply pw_below_drewN | apply below_drew1 | refine below_set ?_ GE420.out | refine below_set ?_ GE434.out) | exact HB.out)) hb); clear HO414; clear HO417; clear HO428; clear HO431; clear BK420; clear BK434; clear HB; have HO414 := n0_; have HO417 := n1_; have HO428 := n2_; have HO431 := n3_; have BK420 := n4_; have BK434 := n5_; have HB := n6_; clear n0_ n1_ n2_ n3_ n4_ n5_ n6_; (try clear hb); (try clear hb2); (try clear hk); (try clear hi)))
      repeat (go_quiet (first | (go_at_call 13; (with_reducible refine (ref10_Same.calls k t409 t410 t411 _ _ t412 t423 t424 t425 _ _ t426 false _ ?side1 ?side2 ?side3 ?side4 A24.out).mono ?_); (case side1 => refine (Kd.S_reads' (e := 47) (base := w.heap.size) (ok := fun k_ => (True ∧ some k_ ≠ (.slice Ao22 t426.length co22 : Value).ownBlock)) (n := t412.length) (c := co15) ?_).2.2; exact (by (with_reducible repeat (first | apply Kd.S_alloc | apply Kd.S_drewN | apply Kd.S_drew)); exact (Kd.S_mono (Kd.S_far (p := ⟨gb434, 3, none⟩) (Kd.S_far (p := ⟨gb434, 2, none⟩) (Kd.S_far (p := ⟨gb434, 1, none⟩) (Kd.S_far (p := ⟨gb434, 0, none⟩) (Kd.S_types HO414.out BK434.out (by decide)) (fun _ hk => hk.2) (.int .i64 t423)) (fun _ hk => hk.2) (.int .i64 t424)) (fun _ hk => hk.2) (.int .i64 t425)) (fun _ hk => hk.2) (.slice Ao22 t426.length co22)) (fun _ h_ => h_.1)))); (case side2 => exact (Kd.S_reads' HO414.out).2.1); (case side3 => refine (Kd.S_reads' (e := 47) (base := w.heap.size) (ok := fun k_ => (True ∧ some k_ ≠ (.slice Ao15 t412.length co15 : Value).ownBlock)) (n := t426.length) (c := co22) ?_).2.2; exact (by (with_reducible repeat (first | apply Kd.S_alloc | apply Kd.S_drewN | apply Kd.S_drew)); exact (Kd.S_mono (Kd.S_far (p := ⟨gb434, 3, none⟩) (Kd.S_far (p := ⟨gb434, 2, none⟩) (Kd.S_far (p := ⟨gb434, 1, none⟩) (Kd.S_far (p := ⟨gb434, 0, none⟩) (Kd.S_types HO428.out BK434.out (by decide)) (fun _ hk => hk.2) (.int .i64 t423)) (fun _ hk => hk.2) (.int .i64 t424)) (fun _ hk => hk.2) (.int .i64 t425)) (fun _ hk => hk.2) (.slice Ao22 t426.length co22)) (fun _ h_ => h_.1)))); (case side4 => exact (Kd.S_reads' HO428.out).2.1); rintro e w35 ⟨rfl, hb⟩; have n0_ := Aside0.mk (Kd.S_below (by (with_reducible repeat (first | apply Kd.S_alloc | apply Kd.S_drewN | apply Kd.S_drew)); exact (Kd.S_mono (Kd.S_far (p := ⟨gb434, 3, none⟩) (Kd.S_far (p := ⟨gb434, 2, none⟩) (Kd.S_far (p := ⟨gb434, 1, none⟩) (Kd.S_far (p := ⟨gb434, 0, none⟩) (Kd.S_types HO414.out BK434.out (by decide)) (fun _ hk => hk.2) (.int .i64 t423)) (fun _ hk => hk.2) (.int .i64 t424)) (fun _ hk => hk.2) (.int .i64 t425)) (fun _ hk => hk.2) (.slice Ao22 t426.length co22)) (fun _ h_ => h_.1))) hb); have n1_ := Aside0.mk (Kd.R_below (by (with_reducible repeat (first | apply Kd.R_alloc | apply Kd.R_drewN | apply Kd.R_drew)); exact (Kd.R_mono (Kd.R_far (p := ⟨gb434, 3, none⟩) (Kd.R_far (p := ⟨gb434, 2, none⟩) (Kd.R_far (p := ⟨gb434, 1, none⟩) (Kd.R_far (p := ⟨gb434, 0, none⟩) (Kd.R_types HO417.out BK434.out (by decide)) (fun _ hk => hk.2) (.int .i64 t423)) (fun _ hk => hk.2) (.int .i64 t424)) (fun _ hk => hk.2) (.int .i64 t425)) (fun _ hk => hk.2) (.slice Ao22 t426.length co22)) (fun _ h_ => h_.1))) hb); have n2_ := Aside0.mk (Kd.S_below (by (with_reducible repeat (first | apply Kd.S_alloc | apply Kd.S_drewN | apply Kd.S_drew)); exact (Kd.S_mono (Kd.S_far (p := ⟨gb434, 3, none⟩) (Kd.S_far (p := ⟨gb434, 2, none⟩) (Kd.S_far (p := ⟨gb434, 1, none⟩) (Kd.S_far (p := ⟨gb434, 0, none⟩) (Kd.S_types HO428.out BK434.out (by decide)) (fun _ hk => hk.2) (.int .i64 t423)) (fun _ hk => hk.2) (.int .i64 t424)) (fun _ hk => hk.2) (.int .i64 t425)) (fun _ hk => hk.2) (.slice Ao22 t426.length co22)) (fun _ h_ => h_.1))) hb); have n3_ := Aside0.mk (Kd.R_below (by (with_reducible repeat (first | apply Kd.R_alloc | apply Kd.R_drewN | apply Kd.R_drew)); exact (Kd.R_mono (Kd.R_far (p := ⟨gb434, 3, none⟩) (Kd.R_far (p := ⟨gb434, 2, none⟩) (Kd.R_far (p := ⟨gb434, 1, none⟩) (Kd.R_far (p := ⟨gb434, 0, none⟩) (Kd.R_types HO431.out BK434.out (by decide)) (fun _ hk => hk.2) (.int .i64 t423)) (fun _ hk => hk.2) (.int .i64 t424)) (fun _ hk => hk.2) (.int .i64 t425)) (fun _ hk => hk.2) (.slice Ao22 t426.length co22)) (fun _ h_ => h_.1))) hb); have n4_ := Aside0.mk (blk_below (g := gb420) (o := .cells #[.int .i64 t409, .int .i64 t410, .int .i64 t411, .slice Ao15 t412.length co15] 25 (0, 0)) (by (with_reducible repeat (first | refine blk_drewN ?_ _ | refine blk_drew ?_ | refine blk_alloc ?_ _)); refine blk_far ?_ NB420_434.out _; (with_reducible repeat (first | refine blk_drewN ?_ _ | refine blk_drew ?_ | refine blk_alloc ?_ _)); refine blk_far ?_ NB420_434.out _; (with_reducible repeat (first | refine blk_drewN ?_ _ | refine blk_drew ?_ | refine blk_alloc ?_ _)); refine blk_far ?_ NB420_434.out _; (with_reducible repeat (first | refine blk_drewN ?_ _ | refine blk_drew ?_ | refine blk_alloc ?_ _)); refine blk_far ?_ NB420_434.out _; (with_reducible repeat (first | refine blk_drewN ?_ _ | refine blk_drew ?_ | refine blk_alloc ?_ _)); exact BK420.out) hb); have n5_ := Aside0.mk (blk_below (g := gb434) (o := .cells #[.int .i64 t423, .int .i64 t424, .int .i64 t425, .slice Ao22 t426.length co22] 25 (0, 0)) (by (with_reducible repeat (first | refine blk_drewN ?_ _ | refine blk_drew ?_ | refine blk_alloc ?_ _)); refine blk_put (cs := #[.int .i64 t423, .int .i64 t424, .int .i64 t425, .slice none 0 0]) ?_ 3 _ rfl; (with_reducible repeat (first | refine blk_drewN ?_ _ | refine blk_drew ?_ | refine blk_alloc ?_ _)); refine blk_put (cs := #[.int .i64 t423, .int .i64 t424, .int .i64 0, .slice none 0 0]) ?_ 2 _ rfl; (with_reducible repeat (first | refine blk_drewN ?_ _ | refine blk_drew ?_ | refine blk_alloc ?_ _)); refine blk_put (cs := #[.int .i64 t423, .int .i64 0, .int .i64 0, .slice none 0 0]) ?_ 1 _ rfl; (with_reducible repeat (first | refine blk_drewN ?_ _ | refine blk_drew ?_ | refine blk_alloc ?_ _)); refine blk_put (cs := #[.int .i64 0, .int .i64 0, .int .i64 0, .slice none 0 0]) ?_ 0 _ rfl; (with_reducible repeat (first | refine blk_drewN ?_ _ | refine blk_drew ?_ | refine blk_alloc ?_ _)); exact BK434.out) hb); have n6_ := Aside0.mk (below_step (by repeat (first | (with_reducible first | exact HB.out | apply below_alloc | apply pw_below_drewN | apply below_drew1 | refine below_set ?_ GE420.out | refine below_set ?_ GE434.out) | exact HB.out)) hb); clear HO414; clear HO417; clear HO428; clear HO431; clear BK420; clear BK434; clear HB; have HO414 := n0_; have HO417 := n1_; have HO428 := n2_; have HO431 := n3_; have BK420 := n4_; have BK434 := n5_; have HB := n6_; clear n0_ n1_ n2_ n3_ n4_ n5_ n6_; (try clear hb); (try clear hb2); (try clear hk); (try clear hi))); try go_wp2_with (first | (go_at_call 13; (with_reducible refine (ref10_Same.calls k t409 t410 t411 _ _ t412 t423 t424 t425 _ _ t426 false _ ?side1 ?side2 ?side3 ?side4 A24.out).mono ?_); (case side1 => refine (Kd.S_reads' (e := 47) (base := w.heap.size) (ok := fun k_ => (True ∧ some k_ ≠ (.slice Ao22 t426.length co22 : Value).ownBlock)) (n := t412.length) (c := co15) ?_).2.2; exact (by (with_reducible repeat (first | apply Kd.S_alloc | apply Kd.S_drewN | apply Kd.S_drew)); exact (Kd.S_mono (Kd.S_far (p := ⟨gb434, 3, none⟩) (Kd.S_far (p := ⟨gb434, 2, none⟩) (Kd.S_far (p := ⟨gb434, 1, none⟩) (Kd.S_far (p := ⟨gb434, 0, none⟩) (Kd.S_types HO414.out BK434.out (by decide)) (fun _ hk => hk.2) (.int .i64 t423)) (fun _ hk => hk.2) (.int .i64 t424)) (fun _ hk => hk.2) (.int .i64 t425)) (fun _ hk => hk.2) (.slice Ao22 t426.length co22)) (fun _ h_ => h_.1)))); (case side2 => exact (Kd.S_reads' HO414.out).2.1); (case side3 => refine (Kd.S_reads' (e := 47) (base := w.heap.size) (ok := fun k_ => (True ∧ some k_ ≠ (.slice Ao15 t412.length co15 : Value).ownBlock)) (n := t426.length) (c := co22) ?_).2.2; exact (by (with_reducible repeat (first | apply Kd.S_alloc | apply Kd.S_drewN | apply Kd.S_drew)); exact (Kd.S_mono (Kd.S_far (p := ⟨gb434, 3, none⟩) (Kd.S_far (p := ⟨gb434, 2, none⟩) (Kd.S_far (p := ⟨gb434, 1, none⟩) (Kd.S_far (p := ⟨gb434, 0, none⟩) (Kd.S_types HO428.out BK434.out (by decide)) (fun _ hk => hk.2) (.int .i64 t423)) (fun _ hk => hk.2) (.int .i64 t424)) (fun _ hk => hk.2) (.int .i64 t425)) (fun _ hk => hk.2) (.slice Ao22 t426.length co22)) (fun _ h_ => h_.1)))); (case side4 => exact (Kd.S_reads' HO428.out).2.1); rintro e w35 ⟨rfl, hb⟩; have n0_ := Aside0.mk (Kd.S_below (by (with_reducible repeat (first | apply Kd.S_alloc | apply Kd.S_drewN | apply Kd.S_drew)); exact (Kd.S_mono (Kd.S_far (p := ⟨gb434, 3, none⟩) (Kd.S_far (p := ⟨gb434, 2, none⟩) (Kd.S_far (p := ⟨gb434, 1, none⟩) (Kd.S_far (p := ⟨gb434, 0, none⟩) (Kd.S_types HO414.out BK434.out (by decide)) (fun _ hk => hk.2) (.int .i64 t423)) (fun _ hk => hk.2) (.int .i64 t424)) (fun _ hk => hk.2) (.int .i64 t425)) (fun _ hk => hk.2) (.slice Ao22 t426.length co22)) (fun _ h_ => h_.1))) hb); have n1_ := Aside0.mk (Kd.R_below (by (with_reducible repeat (first | apply Kd.R_alloc | apply Kd.R_drewN | apply Kd.R_drew)); exact (Kd.R_mono (Kd.R_far (p := ⟨gb434, 3, none⟩) (Kd.R_far (p := ⟨gb434, 2, none⟩) (Kd.R_far (p := ⟨gb434, 1, none⟩) (Kd.R_far (p := ⟨gb434, 0, none⟩) (Kd.R_types HO417.out BK434.out (by decide)) (fun _ hk => hk.2) (.int .i64 t423)) (fun _ hk => hk.2) (.int .i64 t424)) (fun _ hk => hk.2) (.int .i64 t425)) (fun _ hk => hk.2) (.slice Ao22 t426.length co22)) (fun _ h_ => h_.1))) hb); have n2_ := Aside0.mk (Kd.S_below (by (with_reducible repeat (first | apply Kd.S_alloc | apply Kd.S_drewN | apply Kd.S_drew)); exact (Kd.S_mono (Kd.S_far (p := ⟨gb434, 3, none⟩) (Kd.S_far (p := ⟨gb434, 2, none⟩) (Kd.S_far (p := ⟨gb434, 1, none⟩) (Kd.S_far (p := ⟨gb434, 0, none⟩) (Kd.S_types HO428.out BK434.out (by decide)) (fun _ hk => hk.2) (.int .i64 t423)) (fun _ hk => hk.2) (.int .i64 t424)) (fun _ hk => hk.2) (.int .i64 t425)) (fun _ hk => hk.2) (.slice Ao22 t426.length co22)) (fun _ h_ => h_.1))) hb); have n3_ := Aside0.mk (Kd.R_below (by (with_reducible repeat (first | apply Kd.R_alloc | apply Kd.R_drewN | apply Kd.R_drew)); exact (Kd.R_mono (Kd.R_far (p := ⟨gb434, 3, none⟩) (Kd.R_far (p := ⟨gb434, 2, none⟩) (Kd.R_far (p := ⟨gb434, 1, none⟩) (Kd.R_far (p := ⟨gb434, 0, none⟩) (Kd.R_types HO431.out BK434.out (by decide)) (fun _ hk => hk.2) (.int .i64 t423)) (fun _ hk => hk.2) (.int .i64 t424)) (fun _ hk => hk.2) (.int .i64 t425)) (fun _ hk => hk.2) (.slice Ao22 t426.length co22)) (fun _ h_ => h_.1))) hb); have n4_ := Aside0.mk (blk_below (g := gb420) (o := .cells #[.int .i64 t409, .int .i64 t410, .int .i64 t411, .slice Ao15 t412.length co15] 25 (0, 0)) (by (with_reducible repeat (first | refine blk_drewN ?_ _ | refine blk_drew ?_ | refine blk_alloc ?_ _)); refine blk_far ?_ NB420_434.out _; (with_reducible repeat (first | refine blk_drewN ?_ _ | refine blk_drew ?_ | refine blk_alloc ?_ _)); refine blk_far ?_ NB420_434.out _; (with_reducible repeat (first | refine blk_drewN ?_ _ | refine blk_drew ?_ | refine blk_alloc ?_ _)); refine blk_far ?_ NB420_434.out _; (with_reducible repeat (first | refine blk_drewN ?_ _ | refine blk_drew ?_ | refine blk_alloc ?_ _)); refine blk_far ?_ NB420_434.out _; (with_reducible repeat (first | refine blk_drewN ?_ _ | refine blk_drew ?_ | refine blk_alloc ?_ _)); exact BK420.out) hb); have n5_ := Aside0.mk (blk_below (g := gb434) (o := .cells #[.int .i64 t423, .int .i64 t424, .int .i64 t425, .slice Ao22 t426.length co22] 25 (0, 0)) (by (with_reducible repeat (first | refine blk_drewN ?_ _ | refine blk_drew ?_ | refine blk_alloc ?_ _)); refine blk_put (cs := #[.int .i64 t423, .int .i64 t424, .int .i64 t425, .slice none 0 0]) ?_ 3 _ rfl; (with_reducible repeat (first | refine blk_drewN ?_ _ | refine blk_drew ?_ | refine blk_alloc ?_ _)); refine blk_put (cs := #[.int .i64 t423, .int .i64 t424, .int .i64 0, .slice none 0 0]) ?_ 2 _ rfl; (with_reducible repeat (first | refine blk_drewN ?_ _ | refine blk_drew ?_ | refine blk_alloc ?_ _)); refine blk_put (cs := #[.int .i64 t423, .int .i64 0, .int .i64 0, .slice none 0 0]) ?_ 1 _ rfl; (with_reducible repeat (first | refine blk_drewN ?_ _ | refine blk_drew ?_ | refine blk_alloc ?_ _)); refine blk_put (cs := #[.int .i64 0, .int .i64 0, .int .i64 0, .slice none 0 0]) ?_ 0 _ rfl; (with_reducible repeat (first | refine blk_drewN ?_ _ | refine blk_drew ?_ | refine blk_alloc ?_ _)); exact BK434.out) hb); have n6_ := Aside0.mk (below_step (by repeat (first | (with_reducible first | exact HB.out | apply below_alloc | apply pw_below_drewN | apply below_drew1 | refine below_set ?_ GE420.out | refine below_set ?_ GE434.out) | exact HB.out)) hb); clear HO414; clear HO417; clear HO428; clear HO431; clear BK420; clear BK434; clear HB; have HO414 := n0_; have HO417 := n1_; have HO428 := n2_; have HO431 := n3_; have BK420 := n4_; have BK434 := n5_; have HB := n6_; clear n0_ n1_ n2_ n3_ n4_ n5_ n6_; (try clear hb); (try clear hb2); (try clear hk); (try clear hi))))
      go_meet
      case rel => exact ⟨_, (true), (by first | rfl | (simp; done) | (simp [*]; done)), H', ⟨by first | omega | exact Nat.le_refl _⟩, ⟨by (with_reducible repeat (first | apply Kd.R_alloc | apply Kd.R_drewN | apply Kd.R_drew)); exact Kd.R_mono HO417.out (fun _ hk => hk.2)⟩, ⟨by (with_reducible repeat (first | apply Kd.R_alloc | apply Kd.R_drewN | apply Kd.R_drew)); exact Kd.R_mono HO431.out (fun _ hk => hk.2)⟩, ⟨by (with_reducible repeat (first | apply Kd.S_alloc | apply Kd.S_drewN | apply Kd.S_drew)); exact Kd.S_mono HO414.out (fun _ hk => hk.2)⟩, ⟨by (with_reducible repeat (first | apply Kd.S_alloc | apply Kd.S_drewN | apply Kd.S_drew)); exact Kd.S_mono HO428.out (fun _ hk => hk.2)⟩, ⟨by (with_reducible repeat (first | refine blk_drewN ?_ _ | refine blk_drew ?_ | refine blk_alloc ?_ _)); exact BK420.out⟩, ⟨by (with_reducible repeat (first | refine blk_drewN ?_ _ | refine blk_drew ?_ | refine blk_alloc ?_ _)); exact BK434.out⟩, ⟨by repeat (first | (with_reducible first | exact HB.out | apply below_alloc | apply pw_below_drewN | apply below_drew1 | refine below_set ?_ GE420.out | refine below_set ?_ GE434.out) | exact HB.out)⟩⟩
    ·rw [if_neg c23] at H
     have c23b0 : (t419 == t433) = false := beq_eq_false_iff_ne.mpr c23
     have c23b1 : (t419 != t433) = true := bne_iff_ne.mpr c23
     (first | rw [c23b0] | (simp only [i64_w, i32_w]; rw [c23b0]) | rw [c23b3] | rw [c23b2] | skip)
     have H' := Aside0.mk H
     clear H
     go_wp2
     repeat (go_quiet (fail); try go_wp2)
     go_meet
     case rel => exact ⟨_, (true), (by first | rfl | (simp; done) | (simp [*]; done)), H', ⟨by first | omega | exact Nat.le_refl _⟩, ⟨by (with_reducible repeat (first | apply Kd.R_alloc | apply Kd.R_drewN | apply Kd.R_drew)); exact Kd.R_mono (Kd.R_far (p := ⟨gb434, 3, none⟩) (Kd.R_far (p := ⟨gb434, 2, none⟩) (Kd.R_far (p := ⟨gb434, 1, none⟩) (Kd.R_far (p := ⟨gb434, 0, none⟩) (Kd.R_types HO417.out BK434.out (by decide)) (fun _ hk => hk.2) (.int .i64 t423)) (fun _ hk => hk.2) (.int .i64 t424)) (fun _ hk => hk.2) (.int .i64 t425)) (fun _ hk => hk.2) (.slice Ao22 t426.length co22)) (fun _ hk => hk.1.2)⟩, ⟨by (with_reducible repeat (first | apply Kd.R_alloc | apply Kd.R_drewN | apply Kd.R_drew)); exact Kd.R_mono (Kd.R_far (p := ⟨gb434, 3, none⟩) (Kd.R_far (p := ⟨gb434, 2, none⟩) (Kd.R_far (p := ⟨gb434, 1, none⟩) (Kd.R_far (p := ⟨gb434, 0, none⟩) (Kd.R_types HO431.out BK434.out (by decide)) (fun _ hk => hk.2) (.int .i64 t423)) (fun _ hk => hk.2) (.int .i64 t424)) (fun _ hk => hk.2) (.int .i64 t425)) (fun _ hk => hk.2) (.slice Ao22 t426.length co22)) (fun _ hk => hk.1.2)⟩, ⟨by (with_reducible repeat (first | apply Kd.S_alloc | apply Kd.S_drewN | apply Kd.S_drew)); exact Kd.S_mono (Kd.S_far (p := ⟨gb434, 3, none⟩) (Kd.S_far (p := ⟨gb434, 2, none⟩) (Kd.S_far (p := ⟨gb434, 1, none⟩) (Kd.S_far (p := ⟨gb434, 0, none⟩) (Kd.S_types HO414.out BK434.out (by decide)) (fun _ hk => hk.2) (.int .i64 t423)) (fun _ hk => hk.2) (.int .i64 t424)) (fun _ hk => hk.2) (.int .i64 t425)) (fun _ hk => hk.2) (.slice Ao22 t426.length co22)) (fun _ hk => hk.1.2)⟩, ⟨by (with_reducible repeat (first | apply Kd.S_alloc | apply Kd.S_drewN | apply Kd.S_drew)); exact Kd.S_mono (Kd.S_far (p := ⟨gb434, 3, none⟩) (Kd.S_far (p := ⟨gb434, 2, none⟩) (Kd.S_far (p := ⟨gb434, 1, none⟩) (Kd.S_far (p := ⟨gb434, 0, none⟩) (Kd.S_types HO428.out BK434.out (by decide)) (fun _ hk => hk.2) (.int .i64 t423)) (fun _ hk => hk.2) (.int .i64 t424)) (fun _ hk => hk.2) (.int .i64 t425)) (fun _ hk => hk.2) (.slice Ao22 t426.length co22)) (fun _ hk => hk.1.2)⟩, ⟨by (with_reducible repeat (first | refine blk_drewN ?_ _ | refine blk_drew ?_ | refine blk_alloc ?_ _)); refine blk_far ?_ NB420_434.out _; (with_reducible repeat (first | refine blk_drewN ?_ _ | refine blk_drew ?_ | refine blk_alloc ?_ _)); refine blk_far ?_ NB420_434.out _; (with_reducible repeat (first | refine blk_drewN ?_ _ | refine blk_drew ?_ | refine blk_alloc ?_ _)); refine blk_far ?_ NB420_434.out _; (with_reducible repeat (first | refine blk_drewN ?_ _ | refine blk_drew ?_ | refine blk_alloc ?_ _)); refine blk_far ?_ NB420_434.out _; (with_reducible repeat (first | refine blk_drewN ?_ _ | refine blk_drew ?_ | refine blk_alloc ?_ _)); exact BK420.out⟩, ⟨by (with_reducible repeat (first | refine blk_drewN ?_ _ | refine blk_drew ?_ | refine blk_alloc ?_ _)); refine blk_put (cs := #[.int .i64 t423, .int .i64 t424, .int .i64 t425, .slice none 0 0]) ?_ 3 _ rfl; (with_reducible repeat (first | refine blk_drewN ?_ _ | refine blk_drew ?_ | refine blk_alloc ?_ _)); refine blk_put (cs := #[.int .i64 t423, .int .i64 t424, .int .i64 0, .slice none 0 0]) ?_ 2 _ rfl; (with_reducible repeat (first | refine blk_drewN ?_ _ | refine blk_drew ?_ | refine blk_alloc ?_ _)); refine blk_put (cs := #[.int .i64 t423, .int .i64 0, .int .i64 0, .slice none 0 0]) ?_ 1 _ rfl; (with_reducible repeat (first | refine blk_drewN ?_ _ | refine blk_drew ?_ | refine blk_alloc ?_ _)); refine blk_put (cs := #[.int .i64 0, .int .i64 0, .int .i64 0, .slice none 0 0]) ?_ 0 _ rfl; (with_reducible repeat (first | refine blk_drewN ?_ _ | refine blk_drew ?_ | refine blk_alloc ?_ _)); exact BK434.out⟩, ⟨by repeat (first | (with_reducible first | exact HB.out | apply below_alloc | apply pw_below_drewN | apply below_drew1 | refine below_set ?_ GE420.out | refine below_set ?_ GE434.out) | exact HB.out)⟩⟩
   case rest =>
    clear HC11
    try clear c2
    try clear p2
    try clear c3
    try clear c3b0
    try clear c3b1
    try clear p6
    try clear c7
    try clear c9
    try clear c9b0
    try clear c9b1
    try clear c9b2
    try clear c20
    try clear c23
    try clear c23b0
    try clear c23b1
    try clear c23b2
    try clear c25
    try clear c26
    try clear c32
    try clear hcz14_0
    try clear hcz14_1
    try clear hcz14_2
    try clear hcz14_3
    try clear hcz21_0
    try clear hcz21_1
    try clear hcz21_2
    try clear hcz21_3
    try clear hcz27_0
    try clear hcz27_1
    try clear hcz27_2
    try clear hcz27_3
    try clear hcz28_0
    try clear hcz28_1
    try clear hcz28_2
    try clear hcz28_3
    try clear hcz33_0
    try clear hcz33_1
    try clear hcz33_2
    try clear hcz33_3
    try clear hcz34_0
    try clear hcz34_1
    try clear hcz34_2
    try clear hcz34_3
    try clear hfz14_0
    try clear hfz14_1
    try clear hfz14_2
    try clear hfz14_3
    try clear hfz21_0
    try clear hfz21_1
    try clear hfz21_2
    try clear hfz21_3
    try clear hfz27_0
    try clear hfz27_1
    try clear hfz27_2
    try clear hfz27_3
    try clear hfz28_0
    try clear hfz28_1
    try clear hfz28_2
    try clear hfz28_3
    try clear hfz33_0
    try clear hfz33_1
    try clear hfz33_2
    try clear hfz33_3
    try clear hfz34_0
    try clear hfz34_1
    try clear hfz34_2
    try clear hfz34_3
    obtain ⟨kq, x55_10, rfl, HA, HJ10, HO_7, HO_11, HO_421003, HO_435003, BK420, BK434, HB⟩ := hcut
    cases kq with
    | zero => exact absurd HA.out (by simp [law10_ParseIgnoresComments.j0])
    | succ kj10 =>
     have H := HA.out
     clear HA
     simp only [law10_ParseIgnoresComments.j0] at H
     by_cases c36 : x55_10 = true
     ·subst c36
      have H1 : (some false) = some r := by rw [if_pos rfl] at H; exact H
      clear H
      have H := H1
      clear H1
      obtain rfl := Option.some.inj H
      go_wp2
      repeat (go_quiet (fail); try go_wp2)
      go_ret
      exact ⟨by first | rfl | (simp [errW_none, errW_some] <;> rfl) | (simp [*, errW_none, errW_some] <;> rfl), by repeat (first | (with_reducible first | exact HB.out | apply below_alloc | apply pw_below_drewN | apply below_drew1 | refine below_set ?_ GE420.out | refine below_set ?_ GE434.out) | exact HB.out)⟩
     ·replace c36 := Bool.eq_false_iff.mpr c36
      subst c36
      have H1 : (if t418 > 0 then (if t432 = (wrap64 (t418 + (wrap64 (Int.tmod a1 20)))) then (if t418 = 0 then (law10_ParseIgnoresComments.j1 kj10 (wrap64 (Int.tmod a1 20)) t415 t429 (t432 != 0)) else (law10_ParseIgnoresComments.j1 kj10 (wrap64 (Int.tmod a1 20)) t415 t429 false)) else (law10_ParseIgnoresComments.j1 kj10 (wrap64 (Int.tmod a1 20)) t415 t429 true)) else (if t418 = 0 then (law10_ParseIgnoresComments.j1 kj10 (wrap64 (Int.tmod a1 20)) t415 t429 (t432 != 0)) else (law10_ParseIgnoresComments.j1 kj10 (wrap64 (Int.tmod a1 20)) t415 t429 false))) = some r := by rw [if_neg (show ¬ (false = true) by decide)] at H; exact H
      clear H
      have H := H1
      clear H1
      have HC37 := Aside0.mk H
      clear H
      go_upto_region 8 with (fail)
      repeat (go_quiet (fail); go_upto_region 8 with (fail))
      go_cut [72] (fun v72 wc => ∃ (kq : Nat) (x72_36 : Bool), v72 = .bool x72_36 ∧ Aside0 (law10_ParseIgnoresComments.j1 kq (wrap64 (Int.tmod a1 20)) t415 t429 x72_36 = some r) ∧ Aside0 (kq ≤ kj10) ∧ Aside0 (Kd.R (Kd.int .i64) 3 wc w.heap.size (fun k_ => some k_ ≠ (v430 : Value).ownBlock) v416 t415) ∧ Aside0 (Kd.R (Kd.int .i64) 3 wc w.heap.size (fun k_ => some k_ ≠ (v416 : Value).ownBlock) v430 t429) ∧ Aside0 (Kd.S k47 47 wc w.heap.size (fun k_ => some k_ ≠ ((.slice Ao22 t426.length co22) : Value).ownBlock) (.slice Ao15 t412.length co15) t412) ∧ Aside0 (Kd.S k47 47 wc w.heap.size (fun k_ => some k_ ≠ ((.slice Ao15 t412.length co15) : Value).ownBlock) (.slice Ao22 t426.length co22) t426) ∧ Aside0 (wc.heap[gb420]? = some (.cells #[.int .i64 t409, .int .i64 t410, .int .i64 t411, (.slice Ao15 t412.length co15)] 25 (0, 0))) ∧ Aside0 (wc.heap[gb434]? = some (.cells #[.int .i64 t423, .int .i64 t424, .int .i64 t425, (.slice Ao22 t426.length co22)] 25 (0, 0))) ∧ Aside0 (Below w.heap.size w wc))
      case first =>
       have H := HC37.out
       clear HC37
       by_cases c38 : t418 > 0
       ·rw [if_pos c38] at H
        have c38b0 : decide (0 < t418) = true := decide_eq_true c38
        clear c38
        (first | rw [c38b0] | (simp only [i64_w, i32_w]; rw [c38b0]) | rw [c38b3] | rw [c38b2] | skip)
        by_cases c39 : t432 = (wrap64 (t418 + (wrap64 (Int.tmod a1 20))))
        ·rw [if_pos c39] at H
         have c39b0 : (t432 == (wrap64 (t418 + (wrap64 (Int.tmod a1 20))))) = true := beq_iff_eq.mpr c39
         have c39b1 : (t432 != (wrap64 (t418 + (wrap64 (Int.tmod a1 20))))) = false := bne_eq_false_iff_eq.mpr c39
         clear c39
         by_cases c40 : t418 = 0
         ·rw [if_pos c40] at H
          have c40b0 : (t418 == 0) = true := beq_iff_eq.mpr c40
          have c40b1 : (t418 != 0) = false := bne_eq_false_iff_eq.mpr c40
          clear c40
          have H' := Aside0.mk H
          clear H
          go_wp2
          repeat (go_quiet (fail); try go_wp2)
          go_meet
          case rel => exact ⟨_, ((t432 != 0)), (by first | rfl | (simp; done) | (simp [*]; done)), H', ⟨by have := HJ10.out; first | omega | exact Nat.le_refl _⟩, ⟨by (with_reducible repeat (first | apply Kd.R_alloc | apply Kd.R_drewN | apply Kd.R_drew)); exact HO_7.out⟩, ⟨by (with_reducible repeat (first | apply Kd.R_alloc | apply Kd.R_drewN | apply Kd.R_drew)); exact HO_11.out⟩, ⟨by (with_reducible repeat (first | apply Kd.S_alloc | apply Kd.S_drewN | apply Kd.S_drew)); exact HO_421003.out⟩, ⟨by (with_reducible repeat (first | apply Kd.S_alloc | apply Kd.S_drewN | apply Kd.S_drew)); exact HO_435003.out⟩, ⟨by (with_reducible repeat (first | refine blk_drewN ?_ _ | refine blk_drew ?_ | refine blk_alloc ?_ _)); exact BK420.out⟩, ⟨by (with_reducible repeat (first | refine blk_drewN ?_ _ | refine blk_drew ?_ | refine blk_alloc ?_ _)); exact BK434.out⟩, ⟨by repeat (first | (with_reducible first | exact HB.out | apply below_alloc | apply pw_below_drewN | apply below_drew1 | refine below_set ?_ GE420.out | refine below_set ?_ GE434.out) | exact HB.out)⟩⟩
         ·rw [if_neg c40] at H
          have c40b0 : (t418 == 0) = false := beq_eq_false_iff_ne.mpr c40
          have c40b1 : (t418 != 0) = true := bne_iff_ne.mpr c40
          have H' := Aside0.mk H
          clear H
          go_wp2
          repeat (go_quiet (fail); try go_wp2)
          go_meet
          case rel => exact ⟨_, (false), (by first | rfl | (simp; done) | (simp [*]; done)), H', ⟨by have := HJ10.out; first | omega | exact Nat.le_refl _⟩, ⟨by (with_reducible repeat (first | apply Kd.R_alloc | apply Kd.R_drewN | apply Kd.R_drew)); exact HO_7.out⟩, ⟨by (with_reducible repeat (first | apply Kd.R_alloc | apply Kd.R_drewN | apply Kd.R_drew)); exact HO_11.out⟩, ⟨by (with_reducible repeat (first | apply Kd.S_alloc | apply Kd.S_drewN | apply Kd.S_drew)); exact HO_421003.out⟩, ⟨by (with_reducible repeat (first | apply Kd.S_alloc | apply Kd.S_drewN | apply Kd.S_drew)); exact HO_435003.out⟩, ⟨by (with_reducible repeat (first | refine blk_drewN ?_ _ | refine blk_drew ?_ | refine blk_alloc ?_ _)); exact BK420.out⟩, ⟨by (with_reducible repeat (first | refine blk_drewN ?_ _ | refine blk_drew ?_ | refine blk_alloc ?_ _)); exact BK434.out⟩, ⟨by repeat (first | (with_reducible first | exact HB.out | apply below_alloc | apply pw_below_drewN | apply below_drew1 | refine below_set ?_ GE420.out | refine below_set ?_ GE434.out) | exact HB.out)⟩⟩
        ·rw [if_neg c39] at H
         have c39b0 : (t432 == (wrap64 (t418 + (wrap64 (Int.tmod a1 20))))) = false := beq_eq_false_iff_ne.mpr c39
         have c39b1 : (t432 != (wrap64 (t418 + (wrap64 (Int.tmod a1 20))))) = true := bne_iff_ne.mpr c39
         have H' := Aside0.mk H
         clear H
         go_wp2
         repeat (go_quiet (fail); try go_wp2)
         go_meet
         case rel => exact ⟨_, (true), (by first | rfl | (simp; done) | (simp [*]; done)), H', ⟨by have := HJ10.out; first | omega | exact Nat.le_refl _⟩, ⟨by (with_reducible repeat (first | apply Kd.R_alloc | apply Kd.R_drewN | apply Kd.R_drew)); exact HO_7.out⟩, ⟨by (with_reducible repeat (first | apply Kd.R_alloc | apply Kd.R_drewN | apply Kd.R_drew)); exact HO_11.out⟩, ⟨by (with_reducible repeat (first | apply Kd.S_alloc | apply Kd.S_drewN | apply Kd.S_drew)); exact HO_421003.out⟩, ⟨by (with_reducible repeat (first | apply Kd.S_alloc | apply Kd.S_drewN | apply Kd.S_drew)); exact HO_435003.out⟩, ⟨by (with_reducible repeat (first | refine blk_drewN ?_ _ | refine blk_drew ?_ | refine blk_alloc ?_ _)); exact BK420.out⟩, ⟨by (with_reducible repeat (first | refine blk_drewN ?_ _ | refine blk_drew ?_ | refine blk_alloc ?_ _)); exact BK434.out⟩, ⟨by repeat (first | (with_reducible first | exact HB.out | apply below_alloc | apply pw_below_drewN | apply below_drew1 | refine below_set ?_ GE420.out | refine below_set ?_ GE434.out) | exact HB.out)⟩⟩
       ·rw [if_neg c38] at H
        have c38b0 : decide (0 < t418) = false := decide_eq_false c38
        clear c38
        (first | rw [c38b0] | (simp only [i64_w, i32_w]; rw [c38b0]) | rw [c38b3] | rw [c38b2] | skip)
        by_cases c41 : t418 = 0
        ·rw [if_pos c41] at H
         have c41b0 : (t418 == 0) = true := beq_iff_eq.mpr c41
         have c41b1 : (t418 != 0) = false := bne_eq_false_iff_eq.mpr c41
         clear c41
         have H' := Aside0.mk H
         clear H
         go_wp2
         repeat (go_quiet (fail); try go_wp2)
         go_meet
         case rel => exact ⟨_, ((t432 != 0)), (by first | rfl | (simp; done) | (simp [*]; done)), H', ⟨by have := HJ10.out; first | omega | exact Nat.le_refl _⟩, ⟨by (with_reducible repeat (first | apply Kd.R_alloc | apply Kd.R_drewN | apply Kd.R_drew)); exact HO_7.out⟩, ⟨by (with_reducible repeat (first | apply Kd.R_alloc | apply Kd.R_drewN | apply Kd.R_drew)); exact HO_11.out⟩, ⟨by (with_reducible repeat (first | apply Kd.S_alloc | apply Kd.S_drewN | apply Kd.S_drew)); exact HO_421003.out⟩, ⟨by (with_reducible repeat (first | apply Kd.S_alloc | apply Kd.S_drewN | apply Kd.S_drew)); exact HO_435003.out⟩, ⟨by (with_reducible repeat (first | refine blk_drewN ?_ _ | refine blk_drew ?_ | refine blk_alloc ?_ _)); exact BK420.out⟩, ⟨by (with_reducible repeat (first | refine blk_drewN ?_ _ | refine blk_drew ?_ | refine blk_alloc ?_ _)); exact BK434.out⟩, ⟨by repeat (first | (with_reducible first | exact HB.out | apply below_alloc | apply pw_below_drewN | apply below_drew1 | refine below_set ?_ GE420.out | refine below_set ?_ GE434.out) | exact HB.out)⟩⟩
        ·rw [if_neg c41] at H
         have c41b0 : (t418 == 0) = false := beq_eq_false_iff_ne.mpr c41
         have c41b1 : (t418 != 0) = true := bne_iff_ne.mpr c41
         have H' := Aside0.mk H
         clear H
         go_wp2
         repeat (go_quiet (fail); try go_wp2)
         go_meet
         case rel => exact ⟨_, (false), (by first | rfl | (simp; done) | (simp [*]; done)), H', ⟨by have := HJ10.out; first | omega | exact Nat.le_refl _⟩, ⟨by (with_reducible repeat (first | apply Kd.R_alloc | apply Kd.R_drewN | apply Kd.R_drew)); exact HO_7.out⟩, ⟨by (with_reducible repeat (first | apply Kd.R_alloc | apply Kd.R_drewN | apply Kd.R_drew)); exact HO_11.out⟩, ⟨by (with_reducible repeat (first | apply Kd.S_alloc | apply Kd.S_drewN | apply Kd.S_drew)); exact HO_421003.out⟩, ⟨by (with_reducible repeat (first | apply Kd.S_alloc | apply Kd.S_drewN | apply Kd.S_drew)); exact HO_435003.out⟩, ⟨by (with_reducible repeat (first | refine blk_drewN ?_ _ | refine blk_drew ?_ | refine blk_alloc ?_ _)); exact BK420.out⟩, ⟨by (with_reducible repeat (first | refine blk_drewN ?_ _ | refine blk_drew ?_ | refine blk_alloc ?_ _)); exact BK434.out⟩, ⟨by repeat (first | (with_reducible first | exact HB.out | apply below_alloc | apply pw_below_drewN | apply below_drew1 | refine below_set ?_ GE420.out | refine below_set ?_ GE434.out) | exact HB.out)⟩⟩
      case rest =>
       clear HC37
       try clear c2
       try clear p2
       try clear c3
       try clear c3b0
       try clear c3b1
       try clear c4
       try clear p6
       try clear c7
       try clear c9
       try clear c9b0
       try clear c9b1
       try clear c9b2
       try clear c20
       try clear c23
       try clear c23b0
       try clear c23b1
       try clear c23b2
       try clear c25
       try clear c26
       try clear c32
       try clear c36
       try clear c38
       try clear c38b0
       try clear c38b2
       try clear c39
       try clear c39b0
       try clear c39b1
       try clear c40
       try clear c40b0
       try clear c40b1
       try clear c41
       try clear c41b0
       try clear c41b1
       try clear hcz14_0
       try clear hcz14_1
       try clear hcz14_2
       try clear hcz14_3
       try clear hcz21_0
       try clear hcz21_1
       try clear hcz21_2
       try clear hcz21_3
       try clear hcz27_0
       try clear hcz27_1
       try clear hcz27_2
       try clear hcz27_3
       try clear hcz28_0
       try clear hcz28_1
       try clear hcz28_2
       try clear hcz28_3
       try clear hcz33_0
       try clear hcz33_1
       try clear hcz33_2
       try clear hcz33_3
       try clear hcz34_0
       try clear hcz34_1
       try clear hcz34_2
       try clear hcz34_3
       try clear hfz14_0
       try clear hfz14_1
       try clear hfz14_2
       try clear hfz14_3
       try clear hfz21_0
       try clear hfz21_1
       try clear hfz21_2
       try clear hfz21_3
       try clear hfz27_0
       try clear hfz27_1
       try clear hfz27_2
       try clear hfz27_3
       try clear hfz28_0
       try clear hfz28_1
       try clear hfz28_2
       try clear hfz28_3
       try clear hfz33_0
       try clear hfz33_1
       try clear hfz33_2
       try clear hfz33_3
       try clear hfz34_0
       try clear hfz34_1
       try clear hfz34_2
       try clear hfz34_3
       try clear p2
       try clear p6
       obtain ⟨kq, x72_36, rfl, HA, HJ36, HO_7, HO_11, HO_421003, HO_435003, BK420, BK434, HB⟩ := hcut
       cases kq with
       | zero => exact absurd HA.out (by simp [law10_ParseIgnoresComments.j1])
       | succ kj36 =>
        have H := HA.out
        clear HA
        simp only [law10_ParseIgnoresComments.j1] at H
        by_cases c42 : x72_36 = true
        ·subst c42
         have H1 : (some false) = some r := by rw [if_pos rfl] at H; exact H
         clear H
         have H := H1
         clear H1
         obtain rfl := Option.some.inj H
         go_wp2
         repeat (go_quiet (fail); try go_wp2)
         go_ret
         exact ⟨by first | rfl | (simp [errW_none, errW_some] <;> rfl) | (simp [*, errW_none, errW_some] <;> rfl), by repeat (first | (with_reducible first | exact HB.out | apply below_alloc | apply pw_below_drewN | apply below_drew1 | refine below_set ?_ GE420.out | refine below_set ?_ GE434.out) | exact HB.out)⟩
        ·replace c42 := Bool.eq_false_iff.mpr c42
         subst c42
         have H1 : (law10_ParseIgnoresComments.l0 kj36 (wrap64 (Int.tmod a1 20)) t415 t429 (t415.length : Int) 0) = some r := by rw [if_neg (show ¬ (false = true) by decide)] at H; exact H
         clear H
         have H := H1
         clear H1
         have H' := Aside0.mk H
         clear H
         obtain ⟨Ao43, co43, eo43⟩ := Kd.R_slice HO_7.out
         subst eo43
         go_wp2
         repeat (go_quiet (fail); try go_wp2)
         go_loopg [75] kj36 (fun kq v75 w' => ∃ (x75_3 : Int), v75 = .int .i64 x75_3 ∧ Aside0 (law10_ParseIgnoresComments.l0 kq (wrap64 (Int.tmod a1 20)) t415 t429 (t415.length : Int) x75_3 = some r) ∧ Aside0 (kq ≤ kj36) ∧ Aside0 (Kd.R (Kd.int .i64) 3 w' w.heap.size (fun k_ => some k_ ≠ (v430 : Value).ownBlock) (.slice Ao43 t415.length co43) t415) ∧ Aside0 (Kd.R (Kd.int .i64) 3 w' w.heap.size (fun k_ => some k_ ≠ ((.slice Ao43 t415.length co43) : Value).ownBlock) v430 t429) ∧ Aside0 (Kd.S k47 47 w' w.heap.size (fun k_ => some k_ ≠ ((.slice Ao22 t426.length co22) : Value).ownBlock) (.slice Ao15 t412.length co15) t412) ∧ Aside0 (Kd.S k47 47 w' w.heap.size (fun k_ => some k_ ≠ ((.slice Ao15 t412.length co15) : Value).ownBlock) (.slice Ao22 t426.length co22) t426) ∧ Aside0 (w'.heap[gb420]? = some (.cells #[.int .i64 t409, .int .i64 t410, .int .i64 t411, (.slice Ao15 t412.length co15)] 25 (0, 0))) ∧ Aside0 (w'.heap[gb434]? = some (.cells #[.int .i64 t423, .int .i64 t424, .int .i64 t425, (.slice Ao22 t426.length co22)] 25 (0, 0))) ∧ Aside0 (Below w.heap.size w w'))
         case atStart => exact ⟨(0), (by first | rfl | (simp; done) | (simp [*]; done)), H', ⟨Nat.le_refl _⟩, ⟨by (with_reducible repeat (first | apply Kd.R_alloc | apply Kd.R_drewN | apply Kd.R_drew)); exact HO_7.out⟩, ⟨by (with_reducible repeat (first | apply Kd.R_alloc | apply Kd.R_drewN | apply Kd.R_drew)); exact HO_11.out⟩, ⟨by (with_reducible repeat (first | apply Kd.S_alloc | apply Kd.S_drewN | apply Kd.S_drew)); exact HO_421003.out⟩, ⟨by (with_reducible repeat (first | apply Kd.S_alloc | apply Kd.S_drewN | apply Kd.S_drew)); exact HO_435003.out⟩, ⟨by (with_reducible repeat (first | refine blk_drewN ?_ _ | refine blk_drew ?_ | refine blk_alloc ?_ _)); exact BK420.out⟩, ⟨by (with_reducible repeat (first | refine blk_drewN ?_ _ | refine blk_drew ?_ | refine blk_alloc ?_ _)); exact BK434.out⟩, ⟨by repeat (first | (with_reducible first | exact HB.out | apply below_alloc | apply pw_below_drewN | apply below_drew1 | refine below_set ?_ GE420.out | refine below_set ?_ GE434.out) | exact HB.out)⟩⟩
         case round =>
          clear H'
          try clear c2
          try clear p2
          try clear c3
          try clear c3b0
          try clear c3b1
          try clear c4
          try clear p6
          try clear c7
          try clear c9
          try clear c9b0
          try clear c9b1
          try clear c9b2
          try clear c20
          try clear c23
          try clear c23b0
          try clear c23b1
          try clear c23b2
          try clear c25
          try clear c26
          try clear c32
          try clear c36
          try clear c38
          try clear c38b0
          try clear c38b2
          try clear c39
          try clear c39b0
          try clear c39b1
          try clear c40
          try clear c40b0
          try clear c40b1
          try clear c41
          try clear c41b0
          try clear c41b1
          try clear c42
          try clear hcz14_0
          try clear hcz14_1
          try clear hcz14_2
          try clear hcz14_3
          try clear hcz21_0
          try clear hcz21_1
          try clear hcz21_2
          try clear hcz21_3
          try clear hcz27_0
          try clear hcz27_1
          try clear hcz27_2
          try clear hcz27_3
          try clear hcz28_0
          try clear hcz28_1
          try clear hcz28_2
          try clear hcz28_3
          try clear hcz33_0
          try clear hcz33_1
          try clear hcz33_2
          try clear hcz33_3
          try clear hcz34_0
          try clear hcz34_1
          try clear hcz34_2
          try clear hcz34_3
          try clear hfz14_0
          try clear hfz14_1
          try clear hfz14_2
          try clear hfz14_3
          try clear hfz21_0
          try clear hfz21_1
          try clear hfz21_2
          try clear hfz21_3
          try clear hfz27_0
          try clear hfz27_1
          try clear hfz27_2
          try clear hfz27_3
          try clear hfz28_0
          try clear hfz28_1
          try clear hfz28_2
          try clear hfz28_3
          try clear hfz33_0
          try clear hfz33_1
          try clear hfz33_2
          try clear hfz33_3
          try clear hfz34_0
          try clear hfz34_1
          try clear hfz34_2
          try clear hfz34_3
          try clear p2
          try clear p6
          obtain ⟨x75_3, rfl, HA, HK3, HO_7, HO_11, HO_421003, HO_435003, BK420, BK434, HB⟩ := hrel
          cases gk with
          | zero => exact absurd HA.out (by simp [law10_ParseIgnoresComments.l0])
          | succ k3 =>
           have H := HA.out
           clear HA
           simp only [law10_ParseIgnoresComments.l0] at H
           by_cases c44 : x75_3 < (t415.length : Int)
           ·rw [if_pos c44] at H
            have c44b0 : decide (x75_3 < (t415.length : Int)) = true := decide_eq_true c44
            clear c44
            by_cases c45 : 0 ≤ x75_3
            ·rw [if_pos c45] at H
             have c45b0 : decide (0 ≤ x75_3) = true := decide_eq_true c45
             clear c45
             by_cases c46 : x75_3 < (t429.length : Int)
             ·rw [if_pos c46] at H
              have c46b0 : decide (x75_3 < (t429.length : Int)) = true := decide_eq_true c46
              clear c46
              by_cases c47 : x75_3 < (t415.length : Int)
              ·rw [if_pos c47] at H
               have c47b0 : decide (x75_3 < (t415.length : Int)) = true := decide_eq_true c47
               clear c47
               by_cases c48 : (rd t429 x75_3) = (wrap64 ((rd t415 x75_3) + (wrap64 (Int.tmod a1 20))))
               ·rw [if_pos c48] at H
                have c48b0 : ((rd t429 x75_3) == (wrap64 ((rd t415 x75_3) + (wrap64 (Int.tmod a1 20))))) = true := beq_iff_eq.mpr c48
                have c48b1 : ((rd t429 x75_3) != (wrap64 ((rd t415 x75_3) + (wrap64 (Int.tmod a1 20))))) = false := bne_eq_false_iff_eq.mpr c48
                clear c48
                have H' := Aside0.mk H
                clear H
                obtain ⟨Ao49, co49, eo49⟩ := Kd.R_slice HO_11.out
                subst eo49
                have p436 : 0 ≤ (x75_3 : Int) := of_decide_eq_true (by first | (with_reducible assumption) | assumption)
                have q436 : x75_3 < (t429.length : Int) := of_decide_eq_true (by first | (with_reducible assumption) | assumption)
                obtain ⟨ad436, e436, hx436_0⟩ := Kd.at_int (Kd.R_reads' HO_11.out).2.2 x75_3 p436 q436
                cases e436
                replace p436 := eq_true p436
                replace q436 := eq_true q436
                have p437 : 0 ≤ (x75_3 : Int) := of_decide_eq_true (by first | (with_reducible assumption) | assumption)
                have q437 : x75_3 < (t415.length : Int) := of_decide_eq_true (by first | (with_reducible assumption) | assumption)
                obtain ⟨ad437, e437, hx437_0⟩ := Kd.at_int (Kd.R_reads' HO_7.out).2.2 x75_3 p437 q437
                cases e437
                replace p437 := eq_true p437
                replace q437 := eq_true q437
                go_wp2
                repeat (go_quiet (fail); try go_wp2)
                go_roundg k3
                case measure => have := HJ10.out; have := HJ36.out; have := HK3.out; omega
                case rel => exact ⟨(wrap64 (x75_3 + 1)), (by first | rfl | (simp; done) | (simp [*]; done)), H', ⟨by have := HJ10.out; have := HJ36.out; have := HK3.out; omega⟩, ⟨by (with_reducible repeat (first | apply Kd.R_alloc | apply Kd.R_drewN | apply Kd.R_drew)); exact HO_7.out⟩, ⟨by (with_reducible repeat (first | apply Kd.R_alloc | apply Kd.R_drewN | apply Kd.R_drew)); exact HO_11.out⟩, ⟨by (with_reducible repeat (first | apply Kd.S_alloc | apply Kd.S_drewN | apply Kd.S_drew)); exact HO_421003.out⟩, ⟨by (with_reducible repeat (first | apply Kd.S_alloc | apply Kd.S_drewN | apply Kd.S_drew)); exact HO_435003.out⟩, ⟨by (with_reducible repeat (first | refine blk_drewN ?_ _ | refine blk_drew ?_ | refine blk_alloc ?_ _)); exact BK420.out⟩, ⟨by (with_reducible repeat (first | refine blk_drewN ?_ _ | refine blk_drew ?_ | refine blk_alloc ?_ _)); exact BK434.out⟩, ⟨by repeat (first | (with_reducible first | exact HB.out | apply below_alloc | apply pw_below_drewN | apply below_drew1 | refine below_set ?_ GE420.out | refine below_set ?_ GE434.out) | exact HB.out)⟩⟩
               ·rw [if_neg c48] at H
                have c48b0 : ((rd t429 x75_3) == (wrap64 ((rd t415 x75_3) + (wrap64 (Int.tmod a1 20))))) = false := beq_eq_false_iff_ne.mpr c48
                have c48b1 : ((rd t429 x75_3) != (wrap64 ((rd t415 x75_3) + (wrap64 (Int.tmod a1 20))))) = true := bne_iff_ne.mpr c48
                obtain rfl := Option.some.inj H
                obtain ⟨Ao50, co50, eo50⟩ := Kd.R_slice HO_11.out
                subst eo50
                have p436 : 0 ≤ (x75_3 : Int) := of_decide_eq_true (by first | (with_reducible assumption) | assumption)
                have q436 : x75_3 < (t429.length : Int) := of_decide_eq_true (by first | (with_reducible assumption) | assumption)
                obtain ⟨ad436, e436, hx436_0⟩ := Kd.at_int (Kd.R_reads' HO_11.out).2.2 x75_3 p436 q436
                cases e436
                replace p436 := eq_true p436
                replace q436 := eq_true q436
                have p437 : 0 ≤ (x75_3 : Int) := of_decide_eq_true (by first | (with_reducible assumption) | assumption)
                have q437 : x75_3 < (t415.length : Int) := of_decide_eq_true (by first | (with_reducible assumption) | assumption)
                obtain ⟨ad437, e437, hx437_0⟩ := Kd.at_int (Kd.R_reads' HO_7.out).2.2 x75_3 p437 q437
                cases e437
                replace p437 := eq_true p437
                replace q437 := eq_true q437
                go_wp2
                repeat (go_quiet (fail); try go_wp2)
                go_ret
                exact ⟨by first | rfl | (simp [errW_none, errW_some] <;> rfl) | (simp [*, errW_none, errW_some] <;> rfl), by repeat (first | (with_reducible first | exact HB.out | apply below_alloc | apply pw_below_drewN | apply below_drew1 | refine below_set ?_ GE420.out | refine below_set ?_ GE434.out) | exact HB.out)⟩
              ·rw [if_neg c47] at H
               exact absurd H (by simp)
             ·rw [if_neg c46] at H
              exact absurd H (by simp)
            ·rw [if_neg c45] at H
             exact absurd H (by simp)
           ·rw [if_neg c44] at H
            have c44b0 : decide (x75_3 < (t415.length : Int)) = false := decide_eq_false c44
            clear c44
            replace H := Option.bind_eq_some_iff.mp H
            obtain ⟨t438, A510, H⟩ := H
            replace H : (some t438) = some r := H
            have A51 := Aside0.mk A510
            clear A510
            obtain rfl := Option.some.inj H
            go_wp2_with (first | (go_at_call 8; (with_reducible refine (law10_alive.calls  t438 _ (LaidW.below (m' := 47) hL rfl (by repeat (first | (with_reducible first | exact HB.out | apply below_alloc | apply pw_below_drewN | apply below_drew1 | refine below_set ?_ GE420.out | refine below_set ?_ GE434.out) | exact HB.out))) A51.out).mono ?_); rintro e w52 ⟨rfl, hb⟩; have n0_ := Aside0.mk (Kd.R_below (by (with_reducible repeat (first | apply Kd.R_alloc | apply Kd.R_drewN | apply Kd.R_drew)); exact HO_7.out) hb); have n1_ := Aside0.mk (Kd.R_below (by (with_reducible repeat (first | apply Kd.R_alloc | apply Kd.R_drewN | apply Kd.R_drew)); exact HO_11.out) hb); have n2_ := Aside0.mk (Kd.S_below (by (with_reducible repeat (first | apply Kd.S_alloc | apply Kd.S_drewN | apply Kd.S_drew)); exact HO_421003.out) hb); have n3_ := Aside0.mk (Kd.S_below (by (with_reducible repeat (first | apply Kd.S_alloc | apply Kd.S_drewN | apply Kd.S_drew)); exact HO_435003.out) hb); have n4_ := Aside0.mk (blk_below (g := gb420) (o := .cells #[.int .i64 t409, .int .i64 t410, .int .i64 t411, .slice Ao15 t412.length co15] 25 (0, 0)) (by (with_reducible repeat (first | refine blk_drewN ?_ _ | refine blk_drew ?_ | refine blk_alloc ?_ _)); exact BK420.out) hb); have n5_ := Aside0.mk (blk_below (g := gb434) (o := .cells #[.int .i64 t423, .int .i64 t424, .int .i64 t425, .slice Ao22 t426.length co22] 25 (0, 0)) (by (with_reducible repeat (first | refine blk_drewN ?_ _ | refine blk_drew ?_ | refine blk_alloc ?_ _)); exact BK434.out) hb); have n6_ := Aside0.mk (below_step (by repeat (first | (with_reducible first | exact HB.out | apply below_alloc | apply pw_below_drewN | apply below_drew1 | refine below_set ?_ GE420.out | refine below_set ?_ GE434.out) | exact HB.out)) hb); clear HO_7; clear HO_11; clear HO_421003; clear HO_435003; clear BK420; clear BK434; clear HB; have HO_7 := n0_; have HO_11 := n1_; have HO_421003 := n2_; have HO_435003 := n3_; have BK420 := n4_; have BK434 := n5_; have HB := n6_; clear n0_ n1_ n2_ n3_ n4_ n5_ n6_; (try clear hb); (try clear hb2); (try clear hk); (try clear hi)))
            repeat (go_quiet (first | (go_at_call 8; (with_reducible refine (law10_alive.calls  t438 _ (LaidW.below (m' := 47) hL rfl (by repeat (first | (with_reducible first | exact HB.out | apply below_alloc | apply pw_below_drewN | apply below_drew1 | refine below_set ?_ GE420.out | refine below_set ?_ GE434.out) | exact HB.out))) A51.out).mono ?_); rintro e w52 ⟨rfl, hb⟩; have n0_ := Aside0.mk (Kd.R_below (by (with_reducible repeat (first | apply Kd.R_alloc | apply Kd.R_drewN | apply Kd.R_drew)); exact HO_7.out) hb); have n1_ := Aside0.mk (Kd.R_below (by (with_reducible repeat (first | apply Kd.R_alloc | apply Kd.R_drewN | apply Kd.R_drew)); exact HO_11.out) hb); have n2_ := Aside0.mk (Kd.S_below (by (with_reducible repeat (first | apply Kd.S_alloc | apply Kd.S_drewN | apply Kd.S_drew)); exact HO_421003.out) hb); have n3_ := Aside0.mk (Kd.S_below (by (with_reducible repeat (first | apply Kd.S_alloc | apply Kd.S_drewN | apply Kd.S_drew)); exact HO_435003.out) hb); have n4_ := Aside0.mk (blk_below (g := gb420) (o := .cells #[.int .i64 t409, .int .i64 t410, .int .i64 t411, .slice Ao15 t412.length co15] 25 (0, 0)) (by (with_reducible repeat (first | refine blk_drewN ?_ _ | refine blk_drew ?_ | refine blk_alloc ?_ _)); exact BK420.out) hb); have n5_ := Aside0.mk (blk_below (g := gb434) (o := .cells #[.int .i64 t423, .int .i64 t424, .int .i64 t425, .slice Ao22 t426.length co22] 25 (0, 0)) (by (with_reducible repeat (first | refine blk_drewN ?_ _ | refine blk_drew ?_ | refine blk_alloc ?_ _)); exact BK434.out) hb); have n6_ := Aside0.mk (below_step (by repeat (first | (with_reducible first | exact HB.out | apply below_alloc | apply pw_below_drewN | apply below_drew1 | refine below_set ?_ GE420.out | refine below_set ?_ GE434.out) | exact HB.out)) hb); clear HO_7; clear HO_11; clear HO_421003; clear HO_435003; clear BK420; clear BK434; clear HB; have HO_7 := n0_; have HO_11 := n1_; have HO_421003 := n2_; have HO_435003 := n3_; have BK420 := n4_; have BK434 := n5_; have HB := n6_; clear n0_ n1_ n2_ n3_ n4_ n5_ n6_; (try clear hb); (try clear hb2); (try clear hk); (try clear hi))); try go_wp2_with (first | (go_at_call 8; (with_reducible refine (law10_alive.calls  t438 _ (LaidW.below (m' := 47) hL rfl (by repeat (first | (with_reducible first | exact HB.out | apply below_alloc | apply pw_below_drewN | apply below_drew1 | refine below_set ?_ GE420.out | refine below_set ?_ GE434.out) | exact HB.out))) A51.out).mono ?_); rintro e w52 ⟨rfl, hb⟩; have n0_ := Aside0.mk (Kd.R_below (by (with_reducible repeat (first | apply Kd.R_alloc | apply Kd.R_drewN | apply Kd.R_drew)); exact HO_7.out) hb); have n1_ := Aside0.mk (Kd.R_below (by (with_reducible repeat (first | apply Kd.R_alloc | apply Kd.R_drewN | apply Kd.R_drew)); exact HO_11.out) hb); have n2_ := Aside0.mk (Kd.S_below (by (with_reducible repeat (first | apply Kd.S_alloc | apply Kd.S_drewN | apply Kd.S_drew)); exact HO_421003.out) hb); have n3_ := Aside0.mk (Kd.S_below (by (with_reducible repeat (first | apply Kd.S_alloc | apply Kd.S_drewN | apply Kd.S_drew)); exact HO_435003.out) hb); have n4_ := Aside0.mk (blk_below (g := gb420) (o := .cells #[.int .i64 t409, .int .i64 t410, .int .i64 t411, .slice Ao15 t412.length co15] 25 (0, 0)) (by (with_reducible repeat (first | refine blk_drewN ?_ _ | refine blk_drew ?_ | refine blk_alloc ?_ _)); exact BK420.out) hb); have n5_ := Aside0.mk (blk_below (g := gb434) (o := .cells #[.int .i64 t423, .int .i64 t424, .int .i64 t425, .slice Ao22 t426.length co22] 25 (0, 0)) (by (with_reducible repeat (first | refine blk_drewN ?_ _ | refine blk_drew ?_ | refine blk_alloc ?_ _)); exact BK434.out) hb); have n6_ := Aside0.mk (below_step (by repeat (first | (with_reducible first | exact HB.out | apply below_alloc | apply pw_below_drewN | apply below_drew1 | refine below_set ?_ GE420.out | refine below_set ?_ GE434.out) | exact HB.out)) hb); clear HO_7; clear HO_11; clear HO_421003; clear HO_435003; clear BK420; clear BK434; clear HB; have HO_7 := n0_; have HO_11 := n1_; have HO_421003 := n2_; have HO_435003 := n3_; have BK420 := n4_; have BK434 := n5_; have HB := n6_; clear n0_ n1_ n2_ n3_ n4_ n5_ n6_; (try clear hb); (try clear hb2); (try clear hk); (try clear hi))))
            go_ret
            exact ⟨by first | rfl | (simp [errW_none, errW_some] <;> rfl) | (simp [*, errW_none, errW_some] <;> rfl), by repeat (first | (with_reducible first | exact HB.out | apply below_alloc | apply pw_below_drewN | apply below_drew1 | refine below_set ?_ GE420.out | refine below_set ?_ GE434.out) | exact HB.out)⟩
  ·rw [if_neg c9] at H
   exact absurd H (by simp)

/-- THE ONE PURE STATEMENT of law10_ParseIgnoresComments: yours. -/
def law10_ParseIgnoresComments.Pure : Prop := ∀ (a0 : ByteArray) (a1 : Int), a0.size ≤ 140737488351232 → (Lit.int .u8 a1).wf = true → ∃ k, law10_ParseIgnoresComments.f k a0 a1 = some true
theorem law10_ParseIgnoresComments.walk (P : law10_ParseIgnoresComments.Pure) (a0 : ByteArray) (a1 : Int) (w : World) (w0 : a0.size ≤ 140737488351232) (w1 : (Lit.int .u8 a1).wf = true) (hL : Aside0 (LaidW 47 w)) :
  Calls Tryz.prog 7 #[.string a0, .int .u8 a1] w fun e w' => e = .returned (.bool true) ∧ Below w.heap.size w w' := by
 obtain ⟨k, h⟩ := P a0 a1 w0 w1
 refine (law10_ParseIgnoresComments.calls k a0 a1 true w hL h).mono ?_
 rintro e w' ⟨rfl, hd⟩
 exact ⟨rfl, hd⟩

end Go.Proofs.YtmcmpjkfdkogiaaGreatDoor.P

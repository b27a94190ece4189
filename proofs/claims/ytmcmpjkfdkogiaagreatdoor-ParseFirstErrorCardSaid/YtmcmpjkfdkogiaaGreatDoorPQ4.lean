-- Out of the translation's print, by a program. Lean checks it.
import Derived.Test.YtmcmpjkfdkogiaaGreatDoorPQ0
import Derived.Test.YtmcmpjkfdkogiaaGreatDoorXAlive10
import Derived.Test.YtmcmpjkfdkogiaaGreatDoorXLaid
import Derived.Test.YtmcmpjkfdkogiaaGreatDoorXParseAll
import Derived.Test.YtmcmpjkfdkogiaaGreatDoorXStrings
namespace Go.Proofs.YtmcmpjkfdkogiaaGreatDoor.P
open Go.RowKit Go.Proofs.YtmcmpjkfdkogiaaGreatDoorW.PrintWords Go.Proofs.YtmcmpjkfdkogiaaGreatDoorW.PrintLast Go.Proofs.YtmcmpjkfdkogiaaGreatDoorW.PrintMore
attribute [local go_sem] max2_int min2_int max_two min_two max_three min_three max_four min_four   -- for this text's walks alone
set_option linter.unusedVariables false
set_option linter.unusedSimpArgs false

-- BY HAND: function 8 (law10_alive)

-- BY HAND: function 9 (parse_Parse)

-- BY HAND: function 10 (strings_Count)

-- BY HAND: function 11 (strings_ReplaceAll)

/-! ### law10_ParseFirstError: function 3 -/
mutual
def law10_ParseFirstError.j0 : Nat → ByteArray → Int → ByteArray → Bool → Option (Bool)
 | 0, _, _, _, _ => none
 | k + 1, x0, x1, x2, x29 => if x29 = true then ((law10_alive.f).bind fun t101 => (some t101)) else ((parse_Parse.f x0).bind fun bt102 => ((strings_Count.f x0 (⟨#[10]⟩ : ByteArray)).bind fun t114 => ((some (([(⟨#[119, 104, 97, 116]⟩ : ByteArray), (⟨#[115, 105, 122, 101, 32, 49, 32, 49, 32, 49]⟩ : ByteArray), (⟨#[114, 117, 110, 103, 32, 49]⟩ : ByteArray), (⟨#[110, 111]⟩ : ByteArray), (⟨#[111, 117, 116]⟩ : ByteArray), (⟨#[106, 117, 109, 112]⟩ : ByteArray), (⟨#[114, 117, 110, 103, 32, 97, 32, 98]⟩ : ByteArray), (⟨#[115, 101, 116]⟩ : ByteArray)] : List ByteArray) : List ByteArray)).bind fun y115 => (if 0 ≤ (Int.tmod x1 8) then (if (Int.tmod x1 8) < (y115.length : Int) then (if x0.size + 1 ≤ 9223372036854775807 then (if (x0 ++ (⟨#[10]⟩ : ByteArray)).size + (rdOf ByteArray.empty y115 (Int.tmod x1 8)).size ≤ 9223372036854775807 then ((parse_Parse.f ((x0 ++ (⟨#[10]⟩ : ByteArray)) ++ (rdOf ByteArray.empty y115 (Int.tmod x1 8)))).bind fun bt119 => (if ((x0 ++ (⟨#[10]⟩ : ByteArray)) ++ (rdOf ByteArray.empty y115 (Int.tmod x1 8))).size + 1 ≤ 9223372036854775807 then ((strings_ReplaceAll.f x2 (⟨#[1]⟩ : ByteArray) (⟨#[]⟩ : ByteArray)).bind fun t131 => (if (((x0 ++ (⟨#[10]⟩ : ByteArray)) ++ (rdOf ByteArray.empty y115 (Int.tmod x1 8))) ++ (⟨#[10]⟩ : ByteArray)).size + t131.size ≤ 9223372036854775807 then ((parse_Parse.f ((((x0 ++ (⟨#[10]⟩ : ByteArray)) ++ (rdOf ByteArray.empty y115 (Int.tmod x1 8))) ++ (⟨#[10]⟩ : ByteArray)) ++ t131)).bind fun bt132 => (if bt102.2.2.2.2.2.2 = 0 then (law10_ParseFirstError.j1 k x1 x2 bt102.2.2.2.2.2.2 (wrap64 (t114 + 2)) bt119.2.2.2.2.2.1 bt119.2.2.2.2.2.2 bt132.2.2.2.2.2.1 bt132.2.2.2.2.2.2 false) else (if bt102.2.2.2.2.2.2 = 5 then (law10_ParseFirstError.j1 k x1 x2 bt102.2.2.2.2.2.2 (wrap64 (t114 + 2)) bt119.2.2.2.2.2.1 bt119.2.2.2.2.2.2 bt132.2.2.2.2.2.1 bt132.2.2.2.2.2.2 false) else (law10_ParseFirstError.j1 k x1 x2 bt102.2.2.2.2.2.2 (wrap64 (t114 + 2)) bt119.2.2.2.2.2.1 bt119.2.2.2.2.2.2 bt132.2.2.2.2.2.1 bt132.2.2.2.2.2.2 (bt102.2.2.2.2.2.2 != 15))))) else (none))) else (none))) else (none)) else (none)) else (none)) else (none)))))
def law10_ParseFirstError.j1 : Nat → Int → ByteArray → Int → Int → Int → Int → Int → Int → Bool → Option (Bool)
 | 0, _, _, _, _, _, _, _, _, _ => none
 | k + 1, x1, x2, x10, x11, x15, x16, x19, x20, x79 => if x79 = true then ((law10_alive.f).bind fun t144 => (some t144)) else (law10_ParseFirstError.l0 k x1 x2 x10 x11 x15 x16 x19 x20 (x2.size : Int) 0)
def law10_ParseFirstError.l0 : Nat → Int → ByteArray → Int → Int → Int → Int → Int → Int → Int → Int → Option (Bool)
 | 0, _, _, _, _, _, _, _, _, _, _ => none
 | k + 1, x1, x2, x10, x11, x15, x16, x19, x20, x82, x83 => if x83 < x82 then (if 0 ≤ x83 then (if x83 < (x2.size : Int) then (if (bt x2 x83) = 10 then (law10_ParseFirstError.l0 k x1 x2 x10 x11 x15 x16 x19 x20 x82 (wrap64 (x83 + 1))) else (if (bt x2 x83) < 32 then ((law10_alive.f).bind fun t145 => (some t145)) else (if (bt x2 x83) > 126 then ((law10_alive.f).bind fun t146 => (some t146)) else (law10_ParseFirstError.l0 k x1 x2 x10 x11 x15 x16 x19 x20 x82 (wrap64 (x83 + 1)))))) else (none)) else (none)) else (if x10 = 5 then (law10_ParseFirstError.j3 k x11 x15 x16 x19 x20 ((Int.tmod x1 8) == 1)) else (law10_ParseFirstError.j3 k x11 x15 x16 x19 x20 false))
def law10_ParseFirstError.j3 : Nat → Int → Int → Int → Int → Int → Bool → Option (Bool)
 | 0, _, _, _, _, _, _ => none
 | k + 1, x11, x15, x16, x19, x20, x110 => if x110 = true then ((law10_alive.f).bind fun t147 => (some t147)) else ((law10_alive.f).bind fun t148 => (if t148 = true then (if x16 = 0 then (some false) else (if x15 = x11 then (if x20 = x16 then (some (x19 == x11)) else (some false)) else (some false))) else (some false)))
end
def law10_ParseFirstError.f (k : Nat) (a0 : ByteArray) (a1 : Int) (a2 : ByteArray) : Option (Bool) := if (a0.size : Int) > 3000 then (law10_ParseFirstError.j0 k a0 a1 a2 true) else (law10_ParseFirstError.j0 k a0 a1 a2 (decide ((a2.size : Int) > 100)))
theorem law10_ParseFirstError.mono_l : ∀ k, (∀ y0 y1 y2 y3, LeO (law10_ParseFirstError.j0 k y0 y1 y2 y3) (law10_ParseFirstError.j0 (k + 1) y0 y1 y2 y3)) ∧ (∀ y0 y1 y2 y3 y4 y5 y6 y7 y8, LeO (law10_ParseFirstError.j1 k y0 y1 y2 y3 y4 y5 y6 y7 y8) (law10_ParseFirstError.j1 (k + 1) y0 y1 y2 y3 y4 y5 y6 y7 y8)) ∧ (∀ y0 y1 y2 y3 y4 y5 y6 y7 y8 y9, LeO (law10_ParseFirstError.l0 k y0 y1 y2 y3 y4 y5 y6 y7 y8 y9) (law10_ParseFirstError.l0 (k + 1) y0 y1 y2 y3 y4 y5 y6 y7 y8 y9)) ∧ (∀ y0 y1 y2 y3 y4 y5, LeO (law10_ParseFirstError.j3 k y0 y1 y2 y3 y4 y5) (law10_ParseFirstError.j3 (k + 1) y0 y1 y2 y3 y4 y5))
 | 0 => ⟨fun _ _ _ _ r h => by simp [law10_ParseFirstError.j0] at h, fun _ _ _ _ _ _ _ _ _ r h => by simp [law10_ParseFirstError.j1] at h, fun _ _ _ _ _ _ _ _ _ _ r h => by simp [law10_ParseFirstError.l0] at h, fun _ _ _ _ _ _ r h => by simp [law10_ParseFirstError.j3] at h⟩
 | k + 1 => by
  obtain ⟨ih0, ih1, ih2, ih3⟩ := law10_ParseFirstError.mono_l k
  refine ⟨?_, ?_, ?_, ?_⟩
  ·intro y0 y1 y2 y3
   unfold law10_ParseFirstError.j0
   repeat' first
   | (with_reducible exact ih0 _ _ _ _)
   | (with_reducible exact ih1 _ _ _ _ _ _ _ _ _)
   | (with_reducible exact ih2 _ _ _ _ _ _ _ _ _ _)
   | (with_reducible exact ih3 _ _ _ _ _ _)
   | (with_reducible exact LeO.refl _)
   | (with_reducible exact LeO.none _)
   | (with_reducible refine LeO.ite ?_ ?_)
   | (with_reducible refine LeO.bind ?_ (fun _ => ?_))
   | exact ih0 _ _ _ _
   | exact ih1 _ _ _ _ _ _ _ _ _
   | exact ih2 _ _ _ _ _ _ _ _ _ _
   | exact ih3 _ _ _ _ _ _
   | exact LeO.none _
   | refine LeO.ite ?_ ?_
   | refine LeO.bind ?_ (fun _ => ?_)
  ·intro y0 y1 y2 y3 y4 y5 y6 y7 y8
   unfold law10_ParseFirstError.j1
   repeat' first
   | (with_reducible exact ih0 _ _ _ _)
   | (with_reducible exact ih1 _ _ _ _ _ _ _ _ _)
   | (with_reducible exact ih2 _ _ _ _ _ _ _ _ _ _)
   | (with_reducible exact ih3 _ _ _ _ _ _)
   | (with_reducible exact LeO.refl _)
   | (with_reducible exact LeO.none _)
   | (with_reducible refine LeO.ite ?_ ?_)
   | (with_reducible refine LeO.bind ?_ (fun _ => ?_))
   | exact ih0 _ _ _ _
   | exact ih1 _ _ _ _ _ _ _ _ _
   | exact ih2 _ _ _ _ _ _ _ _ _ _
   | exact ih3 _ _ _ _ _ _
   | exact LeO.none _
   | refine LeO.ite ?_ ?_
   | refine LeO.bind ?_ (fun _ => ?_)
  ·intro y0 y1 y2 y3 y4 y5 y6 y7 y8 y9
   unfold law10_ParseFirstError.l0
   repeat' first
   | (with_reducible exact ih0 _ _ _ _)
   | (with_reducible exact ih1 _ _ _ _ _ _ _ _ _)
   | (with_reducible exact ih2 _ _ _ _ _ _ _ _ _ _)
   | (with_reducible exact ih3 _ _ _ _ _ _)
   | (with_reducible exact LeO.refl _)
   | (with_reducible exact LeO.none _)
   | (with_reducible refine LeO.ite ?_ ?_)
   | (with_reducible refine LeO.bind ?_ (fun _ => ?_))
   | exact ih0 _ _ _ _
   | exact ih1 _ _ _ _ _ _ _ _ _
   | exact ih2 _ _ _ _ _ _ _ _ _ _
   | exact ih3 _ _ _ _ _ _
   | exact LeO.none _
   | refine LeO.ite ?_ ?_
   | refine LeO.bind ?_ (fun _ => ?_)
  ·intro y0 y1 y2 y3 y4 y5
   unfold law10_ParseFirstError.j3
   repeat' first
   | (with_reducible exact ih0 _ _ _ _)
   | (with_reducible exact ih1 _ _ _ _ _ _ _ _ _)
   | (with_reducible exact ih2 _ _ _ _ _ _ _ _ _ _)
   | (with_reducible exact ih3 _ _ _ _ _ _)
   | (with_reducible exact LeO.refl _)
   | (with_reducible exact LeO.none _)
   | (with_reducible refine LeO.ite ?_ ?_)
   | (with_reducible refine LeO.bind ?_ (fun _ => ?_))
   | exact ih0 _ _ _ _
   | exact ih1 _ _ _ _ _ _ _ _ _
   | exact ih2 _ _ _ _ _ _ _ _ _ _
   | exact ih3 _ _ _ _ _ _
   | exact LeO.none _
   | refine LeO.ite ?_ ?_
   | refine LeO.bind ?_ (fun _ => ?_)
theorem law10_ParseFirstError.mono : ∀ a0 a1 a2 k, LeO (law10_ParseFirstError.f k a0 a1 a2) (law10_ParseFirstError.f (k + 1) a0 a1 a2) := by
 intro a0 a1 a2 k
 obtain ⟨ih0, ih1, ih2, ih3⟩ := law10_ParseFirstError.mono_l k
 unfold law10_ParseFirstError.f
 repeat' first
   | (with_reducible exact ih0 _ _ _ _)
   | (with_reducible exact ih1 _ _ _ _ _ _ _ _ _)
   | (with_reducible exact ih2 _ _ _ _ _ _ _ _ _ _)
   | (with_reducible exact ih3 _ _ _ _ _ _)
   | (with_reducible exact LeO.refl _)
   | (with_reducible exact LeO.none _)
   | (with_reducible refine LeO.ite ?_ ?_)
   | (with_reducible refine LeO.bind ?_ (fun _ => ?_))
   | exact ih0 _ _ _ _
   | exact ih1 _ _ _ _ _ _ _ _ _
   | exact ih2 _ _ _ _ _ _ _ _ _ _
   | exact ih3 _ _ _ _ _ _
   | exact LeO.none _
   | refine LeO.ite ?_ ?_
   | refine LeO.bind ?_ (fun _ => ?_)
set_option maxHeartbeats 8000000 in
set_option maxRecDepth 100000 in
theorem law10_ParseFirstError.calls (k : Nat) (a0 : ByteArray) (a1 : Int) (a2 : ByteArray) (r : Bool) (w : World) (hL : Aside0 (LaidW 47 w)) (h : law10_ParseFirstError.f k a0 a1 a2 = some r) :
  Calls Tryz.prog 3 #[.string a0, .int .u8 a1, .string a2] w fun e w' => e = .returned (.bool r) ∧ Below w.heap.size w w' := by
 have hu25 := Tryz.underlying25
 have HB := Aside0.mk (Below.refl w.heap.size w)
 have H : (if (a0.size : Int) > 3000 then (law10_ParseFirstError.j0 k a0 a1 a2 true) else (law10_ParseFirstError.j0 k a0 a1 a2 (decide ((a2.size : Int) > 100)))) = some r := h
 clear h
 have HC4 := Aside0.mk H
 clear H
 go_enter Tryz.func3, Tryz.ntmps3
 go_upto_region 1 with (fail)
 go_cut [29] (fun v29 wc => ∃ (kq : Nat) (x29_3 : Bool), v29 = .bool x29_3 ∧ Aside0 (law10_ParseFirstError.j0 kq a0 a1 a2 x29_3 = some r) ∧ Aside0 (kq ≤ k) ∧ Aside0 (Below w.heap.size w wc))
 case first =>
  have H := HC4.out
  clear HC4
  by_cases c5 : (a0.size : Int) > 3000
  ·rw [if_pos c5] at H
   have c5b0 : decide (3000 < (a0.size : Int)) = true := decide_eq_true c5
   have c5b1 : decide (3000 < a0.size) = true := decide_eq_true (by omega)
   clear c5
   (first | rw [c5b0] | (simp only [i64_w, i32_w]; rw [c5b0]) | rw [c5b3] | rw [c5b2] | skip)
   have H' := Aside0.mk H
   clear H
   go_wp2
   go_meet
   case rel => exact ⟨_, (true), (by first | rfl | (simp; done) | (simp [*]; done)), H', ⟨by first | omega | exact Nat.le_refl _⟩, ⟨by repeat (first | (with_reducible first | exact HB.out | apply below_alloc | apply pw_below_drewN | apply below_drew1) | exact HB.out)⟩⟩
  ·rw [if_neg c5] at H
   have c5b0 : decide (3000 < (a0.size : Int)) = false := decide_eq_false c5
   have c5b1 : decide (3000 < a0.size) = false := decide_eq_false (by omega)
   clear c5
   (first | rw [c5b0] | (simp only [i64_w, i32_w]; rw [c5b0]) | rw [c5b3] | rw [c5b2] | skip)
   have H' := Aside0.mk H
   clear H
   go_wp2
   go_meet
   case rel => exact ⟨_, (decide ((a2.size : Int) > 100)), (by first | rfl | (simp; done) | (simp [*]; done)), H', ⟨by first | omega | exact Nat.le_refl _⟩, ⟨by repeat (first | (with_reducible first | exact HB.out | apply below_alloc | apply pw_below_drewN | apply below_drew1) | exact HB.out)⟩⟩
 case rest =>
  clear HC4
  try clear p2
  try clear c3
  try clear c5
  try clear c5b0
  try clear c5b1
  try clear c5b2
  obtain ⟨kq, x29_3, rfl, HA, HJ3, HB⟩ := hcut
  cases kq with
  | zero => exact absurd HA.out (by simp [law10_ParseFirstError.j0])
  | succ kj3 =>
   have H := HA.out
   clear HA
   simp only [law10_ParseFirstError.j0] at H
   by_cases c6 : x29_3 = true
   ·subst c6
    have H1 : ((law10_alive.f).bind fun t101 => (some t101)) = some r := by rw [if_pos rfl] at H; exact H
    clear H
    have H := H1
    clear H1
    replace H := Option.bind_eq_some_iff.mp H
    obtain ⟨t101, A70, H⟩ := H
    replace H : (some t101) = some r := H
    have A7 := Aside0.mk A70
    clear A70
    obtain rfl := Option.some.inj H
    go_wp2_with (first | ((with_reducible refine gate_callee (f := 8) rfl ?_); refine goesL_ (some 30) rfl rfl Tryz.func8 (by kernel_rfl) rfl #[] rfl (by (try simp only [List.map_toArray, List.map_cons, List.map_nil]); first | done | rfl | (simp only [List.length_drop, List.length_take]; rfl)) ?_; (with_reducible refine (law10_alive.calls  t101 _ (LaidW.below (m' := 47) hL rfl (by repeat (first | (with_reducible first | exact HB.out | apply below_alloc | apply pw_below_drewN | apply below_drew1) | exact HB.out))) A7.out).mono ?_); rintro e w8 ⟨rfl, hb⟩; refine ⟨_, rfl, ?_⟩; have n0_ := Aside0.mk (below_step (by repeat (first | (with_reducible first | exact HB.out | apply below_alloc | apply pw_below_drewN | apply below_drew1) | exact HB.out)) hb); clear HB; have HB := n0_; clear n0_; (try clear hb); (try clear hb2); (try clear hk); (try clear hi)))
    go_ret
    exact ⟨by first | rfl | (simp [errW_none, errW_some] <;> rfl) | (simp [*, errW_none, errW_some] <;> rfl), by repeat (first | (with_reducible first | exact HB.out | apply below_alloc | apply pw_below_drewN | apply below_drew1) | exact HB.out)⟩
   ·replace c6 := Bool.eq_false_iff.mpr c6
    subst c6
    have H1 : ((parse_Parse.f a0).bind fun bt102 => ((strings_Count.f a0 (⟨#[10]⟩ : ByteArray)).bind fun t114 => ((some (([(⟨#[119, 104, 97, 116]⟩ : ByteArray), (⟨#[115, 105, 122, 101, 32, 49, 32, 49, 32, 49]⟩ : ByteArray), (⟨#[114, 117, 110, 103, 32, 49]⟩ : ByteArray), (⟨#[110, 111]⟩ : ByteArray), (⟨#[111, 117, 116]⟩ : ByteArray), (⟨#[106, 117, 109, 112]⟩ : ByteArray), (⟨#[114, 117, 110, 103, 32, 97, 32, 98]⟩ : ByteArray), (⟨#[115, 101, 116]⟩ : ByteArray)] : List ByteArray) : List ByteArray)).bind fun y115 => (if 0 ≤ (Int.tmod a1 8) then (if (Int.tmod a1 8) < (y115.length : Int) then (if a0.size + 1 ≤ 9223372036854775807 then (if (a0 ++ (⟨#[10]⟩ : ByteArray)).size + (rdOf ByteArray.empty y115 (Int.tmod a1 8)).size ≤ 9223372036854775807 then ((parse_Parse.f ((a0 ++ (⟨#[10]⟩ : ByteArray)) ++ (rdOf ByteArray.empty y115 (Int.tmod a1 8)))).bind fun bt119 => (if ((a0 ++ (⟨#[10]⟩ : ByteArray)) ++ (rdOf ByteArray.empty y115 (Int.tmod a1 8))).size + 1 ≤ 9223372036854775807 then ((strings_ReplaceAll.f a2 (⟨#[1]⟩ : ByteArray) (⟨#[]⟩ : ByteArray)).bind fun t131 => (if (((a0 ++ (⟨#[10]⟩ : ByteArray)) ++ (rdOf ByteArray.empty y115 (Int.tmod a1 8))) ++ (⟨#[10]⟩ : ByteArray)).size + t131.size ≤ 9223372036854775807 then ((parse_Parse.f ((((a0 ++ (⟨#[10]⟩ : ByteArray)) ++ (rdOf ByteArray.empty y115 (Int.tmod a1 8))) ++ (⟨#[10]⟩ : ByteArray)) ++ t131)).bind fun bt132 => (if bt102.2.2.2.2.2.2 = 0 then (law10_ParseFirstError.j1 kj3 a1 a2 bt102.2.2.2.2.2.2 (wrap64 (t114 + 2)) bt119.2.2.2.2.2.1 bt119.2.2.2.2.2.2 bt132.2.2.2.2.2.1 bt132.2.2.2.2.2.2 false) else (if bt102.2.2.2.2.2.2 = 5 then (law10_ParseFirstError.j1 kj3 a1 a2 bt102.2.2.2.2.2.2 (wrap64 (t114 + 2)) bt119.2.2.2.2.2.1 bt119.2.2.2.2.2.2 bt132.2.2.2.2.2.1 bt132.2.2.2.2.2.2 false) else (law10_ParseFirstError.j1 kj3 a1 a2 bt102.2.2.2.2.2.2 (wrap64 (t114 + 2)) bt119.2.2.2.2.2.1 bt119.2.2.2.2.2.2 bt132.2.2.2.2.2.1 bt132.2.2.2.2.2.2 (bt102.2.2.2.2.2.2 != 15))))) else (none))) else (none))) else (none)) else (none)) else (none)) else (none))))) = some r := by rw [if_neg (show ¬ (false = true) by decide)] at H; exact H
    clear H
    have H := H1
    clear H1
    replace H := Option.bind_eq_some_iff.mp H
    obtain ⟨⟨t102, t103, t104, t105, t108, t111, t112⟩, A90, H⟩ := H
    replace H : ((strings_Count.f a0 (⟨#[10]⟩ : ByteArray)).bind fun t114 => ((some (([(⟨#[119, 104, 97, 116]⟩ : ByteArray), (⟨#[115, 105, 122, 101, 32, 49, 32, 49, 32, 49]⟩ : ByteArray), (⟨#[114, 117, 110, 103, 32, 49]⟩ : ByteArray), (⟨#[110, 111]⟩ : ByteArray), (⟨#[111, 117, 116]⟩ : ByteArray), (⟨#[106, 117, 109, 112]⟩ : ByteArray), (⟨#[114, 117, 110, 103, 32, 97, 32, 98]⟩ : ByteArray), (⟨#[115, 101, 116]⟩ : ByteArray)] : List ByteArray) : List ByteArray)).bind fun y115 => (if 0 ≤ (Int.tmod a1 8) then (if (Int.tmod a1 8) < (y115.length : Int) then (if a0.size + 1 ≤ 9223372036854775807 then (if (a0 ++ (⟨#[10]⟩ : ByteArray)).size + (rdOf ByteArray.empty y115 (Int.tmod a1 8)).size ≤ 9223372036854775807 then ((parse_Parse.f ((a0 ++ (⟨#[10]⟩ : ByteArray)) ++ (rdOf ByteArray.empty y115 (Int.tmod a1 8)))).bind fun bt119 => (if ((a0 ++ (⟨#[10]⟩ : ByteArray)) ++ (rdOf ByteArray.empty y115 (Int.tmod a1 8))).size + 1 ≤ 9223372036854775807 then ((strings_ReplaceAll.f a2 (⟨#[1]⟩ : ByteArray) (⟨#[]⟩ : ByteArray)).bind fun t131 => (if (((a0 ++ (⟨#[10]⟩ : ByteArray)) ++ (rdOf ByteArray.empty y115 (Int.tmod a1 8))) ++ (⟨#[10]⟩ : ByteArray)).size + t131.size ≤ 9223372036854775807 then ((parse_Parse.f ((((a0 ++ (⟨#[10]⟩ : ByteArray)) ++ (rdOf ByteArray.empty y115 (Int.tmod a1 8))) ++ (⟨#[10]⟩ : ByteArray)) ++ t131)).bind fun bt132 => (if t112 = 0 then (law10_ParseFirstError.j1 kj3 a1 a2 t112 (wrap64 (t114 + 2)) bt119.2.2.2.2.2.1 bt119.2.2.2.2.2.2 bt132.2.2.2.2.2.1 bt132.2.2.2.2.2.2 false) else (if t112 = 5 then (law10_ParseFirstError.j1 kj3 a1 a2 t112 (wrap64 (t114 + 2)) bt119.2.2.2.2.2.1 bt119.2.2.2.2.2.2 bt132.2.2.2.2.2.1 bt132.2.2.2.2.2.2 false) else (law10_ParseFirstError.j1 kj3 a1 a2 t112 (wrap64 (t114 + 2)) bt119.2.2.2.2.2.1 bt119.2.2.2.2.2.2 bt132.2.2.2.2.2.1 bt132.2.2.2.2.2.2 (t112 != 15))))) else (none))) else (none))) else (none)) else (none)) else (none)) else (none)))) = some r := H
    have A9 := Aside0.mk A90
    clear A90
    replace H := Option.bind_eq_some_iff.mp H
    obtain ⟨t114, A100, H⟩ := H
    replace H : ((some (([(⟨#[119, 104, 97, 116]⟩ : ByteArray), (⟨#[115, 105, 122, 101, 32, 49, 32, 49, 32, 49]⟩ : ByteArray), (⟨#[114, 117, 110, 103, 32, 49]⟩ : ByteArray), (⟨#[110, 111]⟩ : ByteArray), (⟨#[111, 117, 116]⟩ : ByteArray), (⟨#[106, 117, 109, 112]⟩ : ByteArray), (⟨#[114, 117, 110, 103, 32, 97, 32, 98]⟩ : ByteArray), (⟨#[115, 101, 116]⟩ : ByteArray)] : List ByteArray) : List ByteArray)).bind fun y115 => (if 0 ≤ (Int.tmod a1 8) then (if (Int.tmod a1 8) < (y115.length : Int) then (if a0.size + 1 ≤ 9223372036854775807 then (if (a0 ++ (⟨#[10]⟩ : ByteArray)).size + (rdOf ByteArray.empty y115 (Int.tmod a1 8)).size ≤ 9223372036854775807 then ((parse_Parse.f ((a0 ++ (⟨#[10]⟩ : ByteArray)) ++ (rdOf ByteArray.empty y115 (Int.tmod a1 8)))).bind fun bt119 => (if ((a0 ++ (⟨#[10]⟩ : ByteArray)) ++ (rdOf ByteArray.empty y115 (Int.tmod a1 8))).size + 1 ≤ 9223372036854775807 then ((strings_ReplaceAll.f a2 (⟨#[1]⟩ : ByteArray) (⟨#[]⟩ : ByteArray)).bind fun t131 => (if (((a0 ++ (⟨#[10]⟩ : ByteArray)) ++ (rdOf ByteArray.empty y115 (Int.tmod a1 8))) ++ (⟨#[10]⟩ : ByteArray)).size + t131.size ≤ 9223372036854775807 then ((parse_Parse.f ((((a0 ++ (⟨#[10]⟩ : ByteArray)) ++ (rdOf ByteArray.empty y115 (Int.tmod a1 8))) ++ (⟨#[10]⟩ : ByteArray)) ++ t131)).bind fun bt132 => (if t112 = 0 then (law10_ParseFirstError.j1 kj3 a1 a2 t112 (wrap64 (t114 + 2)) bt119.2.2.2.2.2.1 bt119.2.2.2.2.2.2 bt132.2.2.2.2.2.1 bt132.2.2.2.2.2.2 false) else (if t112 = 5 then (law10_ParseFirstError.j1 kj3 a1 a2 t112 (wrap64 (t114 + 2)) bt119.2.2.2.2.2.1 bt119.2.2.2.2.2.2 bt132.2.2.2.2.2.1 bt132.2.2.2.2.2.2 false) else (law10_ParseFirstError.j1 kj3 a1 a2 t112 (wrap64 (t114 + 2)) bt119.2.2.2.2.2.1 bt119.2.2.2.2.2.2 bt132.2.2.2.2.2.1 bt132.2.2.2.2.2.2 (t112 != 15))))) else (none))) else (none))) else (none)) else (none)) else (none)) else (none))) = some r := H
    have A10 := Aside0.mk A100
    clear A100
    obtain ⟨y115, hy115⟩ : ∃ y_ : List ByteArray, y_ = (([(⟨#[119, 104, 97, 116]⟩ : ByteArray), (⟨#[115, 105, 122, 101, 32, 49, 32, 49, 32, 49]⟩ : ByteArray), (⟨#[114, 117, 110, 103, 32, 49]⟩ : ByteArray), (⟨#[110, 111]⟩ : ByteArray), (⟨#[111, 117, 116]⟩ : ByteArray), (⟨#[106, 117, 109, 112]⟩ : ByteArray), (⟨#[114, 117, 110, 103, 32, 97, 32, 98]⟩ : ByteArray), (⟨#[115, 101, 116]⟩ : ByteArray)] : List ByteArray)) := ⟨_, rfl⟩
    replace H : (if 0 ≤ (Int.tmod a1 8) then (if (Int.tmod a1 8) < (y115.length : Int) then (if a0.size + 1 ≤ 9223372036854775807 then (if (a0 ++ (⟨#[10]⟩ : ByteArray)).size + (rdOf ByteArray.empty y115 (Int.tmod a1 8)).size ≤ 9223372036854775807 then ((parse_Parse.f ((a0 ++ (⟨#[10]⟩ : ByteArray)) ++ (rdOf ByteArray.empty y115 (Int.tmod a1 8)))).bind fun bt119 => (if ((a0 ++ (⟨#[10]⟩ : ByteArray)) ++ (rdOf ByteArray.empty y115 (Int.tmod a1 8))).size + 1 ≤ 9223372036854775807 then ((strings_ReplaceAll.f a2 (⟨#[1]⟩ : ByteArray) (⟨#[]⟩ : ByteArray)).bind fun t131 => (if (((a0 ++ (⟨#[10]⟩ : ByteArray)) ++ (rdOf ByteArray.empty y115 (Int.tmod a1 8))) ++ (⟨#[10]⟩ : ByteArray)).size + t131.size ≤ 9223372036854775807 then ((parse_Parse.f ((((a0 ++ (⟨#[10]⟩ : ByteArray)) ++ (rdOf ByteArray.empty y115 (Int.tmod a1 8))) ++ (⟨#[10]⟩ : ByteArray)) ++ t131)).bind fun bt132 => (if t112 = 0 then (law10_ParseFirstError.j1 kj3 a1 a2 t112 (wrap64 (t114 + 2)) bt119.2.2.2.2.2.1 bt119.2.2.2.2.2.2 bt132.2.2.2.2.2.1 bt132.2.2.2.2.2.2 false) else (if t112 = 5 then (law10_ParseFirstError.j1 kj3 a1 a2 t112 (wrap64 (t114 + 2)) bt119.2.2.2.2.2.1 bt119.2.2.2.2.2.2 bt132.2.2.2.2.2.1 bt132.2.2.2.2.2.2 false) else (law10_ParseFirstError.j1 kj3 a1 a2 t112 (wrap64 (t114 + 2)) bt119.2.2.2.2.2.1 bt119.2.2.2.2.2.2 bt132.2.2.2.2.2.1 bt132.2.2.2.2.2.2 (t112 != 15))))) else (none))) else (none))) else (none)) else (none)) else (none)) else (none)) = some r := by first | (rw [hy115]; with_reducible exact H) | (have H2_ := (Option.bind_some _ _).symm.trans H; rw [hy115]; with_reducible exact H2_) | (have H2_ := (Option.bind_some _ _).symm.trans H; with_reducible exact H2_) | with_reducible exact H | (rw [hy115]; exact H) | exact H
    have Ny115 := Aside0.mk hy115
    clear hy115
    obtain ⟨ji11, hji11⟩ : ∃ j_ : Int, (Int.tmod a1 8) = j_ := ⟨_, rfl⟩
    replace H : (if 0 ≤ (ji11) then (if (ji11) < (y115.length : Int) then (if a0.size + 1 ≤ 9223372036854775807 then (if (a0 ++ (⟨#[10]⟩ : ByteArray)).size + (rdOf ByteArray.empty y115 (ji11)).size ≤ 9223372036854775807 then ((parse_Parse.f ((a0 ++ (⟨#[10]⟩ : ByteArray)) ++ (rdOf ByteArray.empty y115 (ji11)))).bind fun bt119 => (if ((a0 ++ (⟨#[10]⟩ : ByteArray)) ++ (rdOf ByteArray.empty y115 (ji11))).size + 1 ≤ 9223372036854775807 then ((strings_ReplaceAll.f a2 (⟨#[1]⟩ : ByteArray) (⟨#[]⟩ : ByteArray)).bind fun t131 => (if (((a0 ++ (⟨#[10]⟩ : ByteArray)) ++ (rdOf ByteArray.empty y115 (ji11))) ++ (⟨#[10]⟩ : ByteArray)).size + t131.size ≤ 9223372036854775807 then ((parse_Parse.f ((((a0 ++ (⟨#[10]⟩ : ByteArray)) ++ (rdOf ByteArray.empty y115 (ji11))) ++ (⟨#[10]⟩ : ByteArray)) ++ t131)).bind fun bt132 => (if t112 = 0 then (law10_ParseFirstError.j1 kj3 a1 a2 t112 (wrap64 (t114 + 2)) bt119.2.2.2.2.2.1 bt119.2.2.2.2.2.2 bt132.2.2.2.2.2.1 bt132.2.2.2.2.2.2 false) else (if t112 = 5 then (law10_ParseFirstError.j1 kj3 a1 a2 t112 (wrap64 (t114 + 2)) bt119.2.2.2.2.2.1 bt119.2.2.2.2.2.2 bt132.2.2.2.2.2.1 bt132.2.2.2.2.2.2 false) else (law10_ParseFirstError.j1 kj3 a1 a2 t112 (wrap64 (t114 + 2)) bt119.2.2.2.2.2.1 bt119.2.2.2.2.2.2 bt132.2.2.2.2.2.1 bt132.2.2.2.2.2.2 (t112 != 15))))) else (none))) else (none))) else (none)) else (none)) else (none)) else (none)) = some r := by first | (rw [hji11] at H; exact H) | (simp only [hji11] at H ⊢; exact H)
    (try rw [hji11] at A9)
    (try rw [hji11] at A10)
    by_cases c12 : 0 ≤ (ji11)
    ·rw [if_pos c12] at H
     have c12b0 : decide (0 ≤ (ji11)) = true := decide_eq_true c12
     clear c12
     by_cases c13 : (ji11) < (y115.length : Int)
     ·rw [if_pos c13] at H
      have c13b0 : decide ((ji11) < (y115.length : Int)) = true := decide_eq_true c13
      clear c13
      by_cases c14 : a0.size + 1 ≤ 9223372036854775807
      ·rw [if_pos c14] at H
       have c14b0 := eq_true c14
       have c14b1 : decide (a0.size + 1 ≤ 9223372036854775807) = true := decide_eq_true c14
       try have c14b2 : (9223372036854775807 < a0.size + 1) = False := eq_false (Nat.not_lt.2 c14)
       by_cases c15 : (a0 ++ (⟨#[10]⟩ : ByteArray)).size + (rdOf ByteArray.empty y115 (ji11)).size ≤ 9223372036854775807
       ·rw [if_pos c15] at H
        have c15b0 := eq_true c15
        have c15b1 : decide ((a0 ++ (⟨#[10]⟩ : ByteArray)).size + (rdOf ByteArray.empty y115 (ji11)).size ≤ 9223372036854775807) = true := decide_eq_true c15
        try have c15b2 : (9223372036854775807 < (a0 ++ (⟨#[10]⟩ : ByteArray)).size + (rdOf ByteArray.empty y115 (ji11)).size) = False := eq_false (Nat.not_lt.2 c15)
        have c15b4 := c15b2
        try simp only [ByteArray.size_append, show (⟨#[10]⟩ : ByteArray).size = 1 from rfl] at c15b4
        replace H := Option.bind_eq_some_iff.mp H
        obtain ⟨⟨t119, t120, t121, t122, t125, t128, t129⟩, A160, H⟩ := H
        replace H : (if ((a0 ++ (⟨#[10]⟩ : ByteArray)) ++ (rdOf ByteArray.empty y115 (ji11))).size + 1 ≤ 9223372036854775807 then ((strings_ReplaceAll.f a2 (⟨#[1]⟩ : ByteArray) (⟨#[]⟩ : ByteArray)).bind fun t131 => (if (((a0 ++ (⟨#[10]⟩ : ByteArray)) ++ (rdOf ByteArray.empty y115 (ji11))) ++ (⟨#[10]⟩ : ByteArray)).size + t131.size ≤ 9223372036854775807 then ((parse_Parse.f ((((a0 ++ (⟨#[10]⟩ : ByteArray)) ++ (rdOf ByteArray.empty y115 (ji11))) ++ (⟨#[10]⟩ : ByteArray)) ++ t131)).bind fun bt132 => (if t112 = 0 then (law10_ParseFirstError.j1 kj3 a1 a2 t112 (wrap64 (t114 + 2)) t128 t129 bt132.2.2.2.2.2.1 bt132.2.2.2.2.2.2 false) else (if t112 = 5 then (law10_ParseFirstError.j1 kj3 a1 a2 t112 (wrap64 (t114 + 2)) t128 t129 bt132.2.2.2.2.2.1 bt132.2.2.2.2.2.2 false) else (law10_ParseFirstError.j1 kj3 a1 a2 t112 (wrap64 (t114 + 2)) t128 t129 bt132.2.2.2.2.2.1 bt132.2.2.2.2.2.2 (t112 != 15))))) else (none))) else (none)) = some r := H
        have A16 := Aside0.mk A160
        clear A160
        by_cases c17 : ((a0 ++ (⟨#[10]⟩ : ByteArray)) ++ (rdOf ByteArray.empty y115 (ji11))).size + 1 ≤ 9223372036854775807
        ·rw [if_pos c17] at H
         have c17b0 := eq_true c17
         have c17b1 : decide (((a0 ++ (⟨#[10]⟩ : ByteArray)) ++ (rdOf ByteArray.empty y115 (ji11))).size + 1 ≤ 9223372036854775807) = true := decide_eq_true c17
         try have c17b2 : (9223372036854775807 < ((a0 ++ (⟨#[10]⟩ : ByteArray)) ++ (rdOf ByteArray.empty y115 (ji11))).size + 1) = False := eq_false (Nat.not_lt.2 c17)
         have c17b4 := c17b2
         try simp only [ByteArray.size_append, show (⟨#[10]⟩ : ByteArray).size = 1 from rfl] at c17b4
         replace H := Option.bind_eq_some_iff.mp H
         obtain ⟨t131, A180, H⟩ := H
         replace H : (if (((a0 ++ (⟨#[10]⟩ : ByteArray)) ++ (rdOf ByteArray.empty y115 (ji11))) ++ (⟨#[10]⟩ : ByteArray)).size + t131.size ≤ 9223372036854775807 then ((parse_Parse.f ((((a0 ++ (⟨#[10]⟩ : ByteArray)) ++ (rdOf ByteArray.empty y115 (ji11))) ++ (⟨#[10]⟩ : ByteArray)) ++ t131)).bind fun bt132 => (if t112 = 0 then (law10_ParseFirstError.j1 kj3 a1 a2 t112 (wrap64 (t114 + 2)) t128 t129 bt132.2.2.2.2.2.1 bt132.2.2.2.2.2.2 false) else (if t112 = 5 then (law10_ParseFirstError.j1 kj3 a1 a2 t112 (wrap64 (t114 + 2)) t128 t129 bt132.2.2.2.2.2.1 bt132.2.2.2.2.2.2 false) else (law10_ParseFirstError.j1 kj3 a1 a2 t112 (wrap64 (t114 + 2)) t128 t129 bt132.2.2.2.2.2.1 bt132.2.2.2.2.2.2 (t112 != 15))))) else (none)) = some r := H
         have A18 := Aside0.mk A180
         clear A180
         by_cases c19 : (((a0 ++ (⟨#[10]⟩ : ByteArray)) ++ (rdOf ByteArray.empty y115 (ji11))) ++ (⟨#[10]⟩ : ByteArray)).size + t131.size ≤ 9223372036854775807
         ·rw [if_pos c19] at H
          have c19b0 := eq_true c19
          have c19b1 : decide ((((a0 ++ (⟨#[10]⟩ : ByteArray)) ++ (rdOf ByteArray.empty y115 (ji11))) ++ (⟨#[10]⟩ : ByteArray)).size + t131.size ≤ 9223372036854775807) = true := decide_eq_true c19
          try have c19b2 : (9223372036854775807 < (((a0 ++ (⟨#[10]⟩ : ByteArray)) ++ (rdOf ByteArray.empty y115 (ji11))) ++ (⟨#[10]⟩ : ByteArray)).size + t131.size) = False := eq_false (Nat.not_lt.2 c19)
          have c19b4 := c19b2
          try simp only [ByteArray.size_append, show (⟨#[10]⟩ : ByteArray).size = 1 from rfl] at c19b4
          replace H := Option.bind_eq_some_iff.mp H
          obtain ⟨⟨t132, t133, t134, t135, t138, t141, t142⟩, A200, H⟩ := H
          replace H : (if t112 = 0 then (law10_ParseFirstError.j1 kj3 a1 a2 t112 (wrap64 (t114 + 2)) t128 t129 t141 t142 false) else (if t112 = 5 then (law10_ParseFirstError.j1 kj3 a1 a2 t112 (wrap64 (t114 + 2)) t128 t129 t141 t142 false) else (law10_ParseFirstError.j1 kj3 a1 a2 t112 (wrap64 (t114 + 2)) t128 t129 t141 t142 (t112 != 15)))) = some r := H
          have A20 := Aside0.mk A200
          clear A200
          have HC21 := Aside0.mk H
          clear H
          go_upto_region 8 with (first | ((with_reducible refine gate_callee (f := 9) rfl ?_); refine goesL_ (some 33) rfl rfl Tryz.func9 (by kernel_rfl) rfl #[.string a0] rfl (by (try simp only [List.map_toArray, List.map_cons, List.map_nil]); first | done | rfl | (simp only [List.length_drop, List.length_take]; rfl)) ?_; (with_reducible refine (parse_Parse.calls a0 t102 t103 t104 t105 t108 t111 t112 _ (LaidW.below (m' := 47) hL rfl (by repeat (first | (with_reducible first | exact HB.out | apply below_alloc | apply pw_below_drewN | apply below_drew1) | exact HB.out))) A9.out).mono ?_); rintro e w22 ⟨v106, v109, rfl, ho0, ho1, hb⟩; refine ⟨_, rfl, ?_⟩; have n0_ := Aside0.mk (Kd.S_lower ho0 (below_size (by repeat (first | (with_reducible first | exact HB.out | apply below_alloc | apply pw_below_drewN | apply below_drew1) | exact HB.out)))); have n1_ := Aside0.mk (Kd.R_lower ho1 (below_size (by repeat (first | (with_reducible first | exact HB.out | apply below_alloc | apply pw_below_drewN | apply below_drew1) | exact HB.out)))); have n2_ := Aside0.mk (below_step (by repeat (first | (with_reducible first | exact HB.out | apply below_alloc | apply pw_below_drewN | apply below_drew1) | exact HB.out)) hb); clear HB; have HO107 := n0_; have HO110 := n1_; have HB := n2_; clear n0_ n1_ n2_; (try clear hb); (try clear hb2); (try clear hk); (try clear hi); (try clear ho0); (try clear ho1)) | ((with_reducible refine gate_dst (N := 7) rfl ?_); (try (refine gate_guard (by rfl) ?_; dsimp only)); refine box_event ?hg (N := 7) ?hd (cs := #[.int .i64 0, .int .i64 0, .int .i64 0, .slice none 0 0]) (t := 25) ?hr ?_; (case hd => rfl); (case hg => rfl); (case hr => first | (go_simp; done) | (go_simp; rfl)); intro gb113 hg w23 hbox hb; have n0_ := Aside0.mk (Kd.S_below (by (with_reducible repeat (first | apply Kd.S_alloc | apply Kd.S_drewN | apply Kd.S_drew)); exact HO107.out) hb); have n1_ := Aside0.mk (Kd.R_below (by (with_reducible repeat (first | apply Kd.R_alloc | apply Kd.R_drewN | apply Kd.R_drew)); exact HO110.out) hb); have n2_ := Aside0.mk (below_step (by repeat (first | (with_reducible first | exact HB.out | apply below_alloc | apply pw_below_drewN | apply below_drew1) | exact HB.out)) hb); have n3_ := Aside0.mk (hbox); have n4_ := Aside0.mk ((by rw [hg]; exact (below_size (by repeat (first | (with_reducible first | exact HB.out | apply below_alloc | apply pw_below_drewN | apply below_drew1) | exact HB.out))) : w.heap.size ≤ gb113)); have n5_ := Aside0.mk ((by rw [hg]; exact (below_size (by repeat (first | (with_reducible first | exact HB.out | apply below_alloc | apply pw_below_drewN | apply below_drew1) | exact HB.out))) : w.heap.size ≤ gb113)); clear HO107; clear HO110; clear HB; have HO107 := n0_; have HO110 := n1_; have HB := n2_; have BK113 := n3_; have GW113 := n4_; have GE113 := n5_; clear n0_ n1_ n2_ n3_ n4_ n5_; clear hb hbox hg; have hcz24_0 : w23.cell? ⟨gb113, 0, none⟩ = some (.int .i64 0) := (blk_cell BK113.out 0).trans rfl; have hcz24_1 : w23.cell? ⟨gb113, 1, none⟩ = some (.int .i64 0) := (blk_cell BK113.out 1).trans rfl; have hcz24_2 : w23.cell? ⟨gb113, 2, none⟩ = some (.int .i64 0) := (blk_cell BK113.out 2).trans rfl; have hcz24_3 : w23.cell? ⟨gb113, 3, none⟩ = some (.slice none 0 0) := (blk_cell BK113.out 3).trans rfl; have hfz24_0 := blk_frozen BK113.out 0; have hfz24_1 := blk_frozen BK113.out 1; have hfz24_2 := blk_frozen BK113.out 2; have hfz24_3 := blk_frozen BK113.out 3; obtain ⟨Ao25, co25, eo25⟩ := Kd.S_slice HO107.out; subst eo25) | ((with_reducible refine gate_callee (f := 10) rfl ?_); refine goesL_ (some 39) rfl rfl Tryz.func10 (by kernel_rfl) rfl #[.string a0, .string (⟨#[10]⟩ : ByteArray)] rfl (by (try simp only [List.map_toArray, List.map_cons, List.map_nil]); first | done | rfl | (simp only [List.length_drop, List.length_take]; rfl)) ?_; (with_reducible refine (strings_Count.calls a0 (⟨#[10]⟩ : ByteArray) t114 _ A10.out).mono ?_); rintro e w26 ⟨rfl, hb⟩; refine ⟨_, rfl, ?_⟩; have n0_ := Aside0.mk (Kd.S_below (by (with_reducible repeat (first | apply Kd.S_alloc | apply Kd.S_drewN | apply Kd.S_drew)); exact (Kd.S_mono (Kd.S_far (p := ⟨gb113, 3, none⟩) (Kd.S_far (p := ⟨gb113, 2, none⟩) (Kd.S_far (p := ⟨gb113, 1, none⟩) (Kd.S_far (p := ⟨gb113, 0, none⟩) (Kd.S_types HO107.out BK113.out (by decide)) (fun _ hk => hk.2) (.int .i64 t102)) (fun _ hk => hk.2) (.int .i64 t103)) (fun _ hk => hk.2) (.int .i64 t104)) (fun _ hk => hk.2) (.slice Ao25 t105.length co25)) (fun _ h_ => h_.1))) hb); have n1_ := Aside0.mk (Kd.R_below (by (with_reducible repeat (first | apply Kd.R_alloc | apply Kd.R_drewN | apply Kd.R_drew)); exact (Kd.R_mono (Kd.R_far (p := ⟨gb113, 3, none⟩) (Kd.R_far (p := ⟨gb113, 2, none⟩) (Kd.R_far (p := ⟨gb113, 1, none⟩) (Kd.R_far (p := ⟨gb113, 0, none⟩) (Kd.R_types HO110.out BK113.out (by decide)) (fun _ hk => hk.2) (.int .i64 t102)) (fun _ hk => hk.2) (.int .i64 t103)) (fun _ hk => hk.2) (.int .i64 t104)) (fun _ hk => hk.2) (.slice Ao25 t105.length co25)) (fun _ h_ => h_.1))) hb); have n2_ := Aside0.mk (blk_below (g := gb113) (o := .cells #[.int .i64 t102, .int .i64 t103, .int .i64 t104, .slice Ao25 t105.length co25] 25 (0, 0)) (by (with_reducible repeat (first | refine blk_drewN ?_ _ | refine blk_drew ?_ | refine blk_alloc ?_ _)); refine blk_put (cs := #[.int .i64 t102, .int .i64 t103, .int .i64 t104, .slice none 0 0]) ?_ 3 _ rfl; (with_reducible repeat (first | refine blk_drewN ?_ _ | refine blk_drew ?_ | refine blk_alloc ?_ _)); refine blk_put (cs := #[.int .i64 t102, .int .i64 t103, .int .i64 0, .slice none 0 0]) ?_ 2 _ rfl; (with_reducible repeat (first | refine blk_drewN ?_ _ | refine blk_drew ?_ | refine blk_alloc ?_ _)); refine blk_put (cs := #[.int .i64 t102, .int .i64 0, .int .i64 0, .slice none 0 0]) ?_ 1 _ rfl; (with_reducible repeat (first | refine blk_drewN ?_ _ | refine blk_drew ?_ | refine blk_alloc ?_ _)); refine blk_put (cs := #[.int .i64 0, .int .i64 0, .int .i64 0, .slice none 0 0]) ?_ 0 _ rfl; (with_reducible repeat (first | refine blk_drewN ?_ _ | refine blk_drew ?_ | refine blk_alloc ?_ _)); exact BK113.out) hb); have n3_ := Aside0.mk (below_step (by repeat (first | (with_reducible first | exact HB.out | apply below_alloc | apply pw_below_drewN | apply below_drew1 | refine below_set ?_ GE113.out) | exact HB.out)) hb); clear HO107; clear HO110; clear BK113; clear HB; have HO107 := n0_; have HO110 := n1_; have BK113 := n2_; have HB := n3_; clear n0_ n1_ n2_ n3_; (try clear hb); (try clear hb2); (try clear hk); (try clear hi)) | ((with_reducible refine gate_dst (N := 41) rfl ?_); (try (refine gate_guard (by rfl) ?_; dsimp only)); refine Kd.R_lit Kd.string _ 9 ?hg (N := 41) ?hd (xs := ([(⟨#[119, 104, 97, 116]⟩ : ByteArray), (⟨#[115, 105, 122, 101, 32, 49, 32, 49, 32, 49]⟩ : ByteArray), (⟨#[114, 117, 110, 103, 32, 49]⟩ : ByteArray), (⟨#[110, 111]⟩ : ByteArray), (⟨#[111, 117, 116]⟩ : ByteArray), (⟨#[106, 117, 109, 112]⟩ : ByteArray), (⟨#[114, 117, 110, 103, 32, 97, 32, 98]⟩ : ByteArray), (⟨#[115, 101, 116]⟩ : ByteArray)] : List ByteArray)) (inner := [.string (⟨#[119, 104, 97, 116]⟩ : ByteArray), .string (⟨#[115, 105, 122, 101, 32, 49, 32, 49, 32, 49]⟩ : ByteArray), .string (⟨#[114, 117, 110, 103, 32, 49]⟩ : ByteArray), .string (⟨#[110, 111]⟩ : ByteArray), .string (⟨#[111, 117, 116]⟩ : ByteArray), .string (⟨#[106, 117, 109, 112]⟩ : ByteArray), .string (⟨#[114, 117, 110, 103, 32, 97, 32, 98]⟩ : ByteArray), .string (⟨#[115, 101, 116]⟩ : ByteArray)]) (ok := fun _ => True) (okp := fun _ => True) ?hr ?hp (fun _ hk => hk) trivial (Below.refl _ _) (Nat.le_refl _) (by simp) ?_; (case hd => rfl); (case hg => rfl); (case hr => first | (go_simp; done) | (go_simp; rfl)); (case hp => exact (Reps.one (show Kd.M Kd.string _ _ _ (⟨#[119, 104, 97, 116]⟩ : ByteArray) [.string (⟨#[119, 104, 97, 116]⟩ : ByteArray)] from rfl) (Reps.one (show Kd.M Kd.string _ _ _ (⟨#[115, 105, 122, 101, 32, 49, 32, 49, 32, 49]⟩ : ByteArray) [.string (⟨#[115, 105, 122, 101, 32, 49, 32, 49, 32, 49]⟩ : ByteArray)] from rfl) (Reps.one (show Kd.M Kd.string _ _ _ (⟨#[114, 117, 110, 103, 32, 49]⟩ : ByteArray) [.string (⟨#[114, 117, 110, 103, 32, 49]⟩ : ByteArray)] from rfl) (Reps.one (show Kd.M Kd.string _ _ _ (⟨#[110, 111]⟩ : ByteArray) [.string (⟨#[110, 111]⟩ : ByteArray)] from rfl) (Reps.one (show Kd.M Kd.string _ _ _ (⟨#[111, 117, 116]⟩ : ByteArray) [.string (⟨#[111, 117, 116]⟩ : ByteArray)] from rfl) (Reps.one (show Kd.M Kd.string _ _ _ (⟨#[106, 117, 109, 112]⟩ : ByteArray) [.string (⟨#[106, 117, 109, 112]⟩ : ByteArray)] from rfl) (Reps.one (show Kd.M Kd.string _ _ _ (⟨#[114, 117, 110, 103, 32, 97, 32, 98]⟩ : ByteArray) [.string (⟨#[114, 117, 110, 103, 32, 97, 32, 98]⟩ : ByteArray)] from rfl) (Reps.one (show Kd.M Kd.string _ _ _ (⟨#[115, 101, 116]⟩ : ByteArray) [.string (⟨#[115, 101, 116]⟩ : ByteArray)] from rfl) (Reps.none _ _)))))))))); intro v116 w27 ho28 hb hg_ hnew_; clear hg_ hnew_; (first | rw [← Ny115.out] at ho28 | (simp only [Int.reduceToNat] at ho28; rw [← Ny115.out] at ho28)); have n0_ := Aside0.mk (Kd.S_below (by (with_reducible repeat (first | apply Kd.S_alloc | apply Kd.S_drewN | apply Kd.S_drew)); exact HO107.out) hb); have n1_ := Aside0.mk (Kd.R_below (by (with_reducible repeat (first | apply Kd.R_alloc | apply Kd.R_drewN | apply Kd.R_drew)); exact HO110.out) hb); have n2_ := Aside0.mk (Kd.R_lower ho28 (below_size (by repeat (first | (with_reducible first | exact HB.out | apply below_alloc | apply pw_below_drewN | apply below_drew1 | refine below_set ?_ GE113.out) | exact HB.out)))); have n3_ := Aside0.mk (blk_below (g := gb113) (o := .cells #[.int .i64 t102, .int .i64 t103, .int .i64 t104, .slice Ao25 t105.length co25] 25 (0, 0)) (by (with_reducible repeat (first | refine blk_drewN ?_ _ | refine blk_drew ?_ | refine blk_alloc ?_ _)); exact BK113.out) hb); have n4_ := Aside0.mk (below_step (by repeat (first | (with_reducible first | exact HB.out | apply below_alloc | apply pw_below_drewN | apply below_drew1 | refine below_set ?_ GE113.out) | exact HB.out)) hb); clear HO107; clear HO110; clear BK113; clear HB; have HO107 := n0_; have HO110 := n1_; have HO117 := n2_; have BK113 := n3_; have HB := n4_; clear n0_ n1_ n2_ n3_ n4_; clear hb ho28; obtain ⟨Ao29, co29, eo29⟩ := Kd.R_slice HO117.out; subst eo29; have p118 : 0 ≤ ((ji11) : Int) := of_decide_eq_true (by first | (with_reducible assumption) | assumption); have q118 : (ji11) < (y115.length : Int) := of_decide_eq_true (by first | (with_reducible assumption) | assumption); obtain ⟨ad118, e118, hx118_0⟩ := Kd.at_string (Kd.R_reads' HO117.out).2.2 (ji11) p118 q118; cases e118; replace p118 := eq_true p118; replace q118 := eq_true q118) | ((with_reducible refine gate_callee (f := 9) rfl ?_); refine goesL_ (some 51) rfl rfl Tryz.func9 (by kernel_rfl) rfl #[.string ((a0 ++ (⟨#[10]⟩ : ByteArray)) ++ (rdOf ByteArray.empty y115 (ji11)))] rfl (by (try simp only [List.map_toArray, List.map_cons, List.map_nil]); first | done | (simp only [hji11]; rfl) | rfl | (simp only [List.length_drop, List.length_take]; rfl)) ?_; (with_reducible refine (parse_Parse.calls ((a0 ++ (⟨#[10]⟩ : ByteArray)) ++ (rdOf ByteArray.empty y115 (ji11))) t119 t120 t121 t122 t125 t128 t129 _ (LaidW.below (m' := 47) hL rfl (by repeat (first | (with_reducible first | exact HB.out | apply below_alloc | apply pw_below_drewN | apply below_drew1 | refine below_set ?_ GE113.out) | exact HB.out))) A16.out).mono ?_); rintro e w30 ⟨v123, v126, rfl, ho0, ho1, hb⟩; refine ⟨_, rfl, ?_⟩; have n0_ := Aside0.mk (Kd.S_elder' (by (with_reducible repeat (first | apply Kd.S_alloc | apply Kd.S_drewN | apply Kd.S_drew)); exact HO107.out) (Kd.S_base ho0) hb); have n1_ := Aside0.mk (Kd.R_elder' (by (with_reducible repeat (first | apply Kd.R_alloc | apply Kd.R_drewN | apply Kd.R_drew)); exact HO110.out) (Kd.R_base ho1) hb); have n2_ := Aside0.mk (Kd.R_below (by (with_reducible repeat (first | apply Kd.R_alloc | apply Kd.R_drewN | apply Kd.R_drew)); exact HO117.out) hb); have n3_ := Aside0.mk (Kd.S_lower (Kd.S_new' ho0 (Kd.S_lt (by (with_reducible repeat (first | apply Kd.S_alloc | apply Kd.S_drewN | apply Kd.S_drew)); exact HO107.out))) (below_size (by repeat (first | (with_reducible first | exact HB.out | apply below_alloc | apply pw_below_drewN | apply below_drew1 | refine below_set ?_ GE113.out) | exact HB.out)))); have n4_ := Aside0.mk (Kd.R_lower (Kd.R_new' ho1 (Kd.R_lt (by (with_reducible repeat (first | apply Kd.R_alloc | apply Kd.R_drewN | apply Kd.R_drew)); exact HO110.out))) (below_size (by repeat (first | (with_reducible first | exact HB.out | apply below_alloc | apply pw_below_drewN | apply below_drew1 | refine below_set ?_ GE113.out) | exact HB.out)))); have n5_ := Aside0.mk (blk_below (g := gb113) (o := .cells #[.int .i64 t102, .int .i64 t103, .int .i64 t104, .slice Ao25 t105.length co25] 25 (0, 0)) (by (with_reducible repeat (first | refine blk_drewN ?_ _ | refine blk_drew ?_ | refine blk_alloc ?_ _)); exact BK113.out) hb); have n6_ := Aside0.mk (below_step (by repeat (first | (with_reducible first | exact HB.out | apply below_alloc | apply pw_below_drewN | apply below_drew1 | refine below_set ?_ GE113.out) | exact HB.out)) hb); clear HO107; clear HO110; clear HO117; clear BK113; clear HB; have HO107 := n0_; have HO110 := n1_; have HO117 := n2_; have HO124 := n3_; have HO127 := n4_; have BK113 := n5_; have HB := n6_; clear n0_ n1_ n2_ n3_ n4_ n5_ n6_; (try clear hb); (try clear hb2); (try clear hk); (try clear hi); (try clear ho0); (try clear ho1)) | ((with_reducible refine gate_dst (N := 13) rfl ?_); (try (refine gate_guard (by rfl) ?_; dsimp only)); refine box_event ?hg (N := 13) ?hd (cs := #[.int .i64 0, .int .i64 0, .int .i64 0, .slice none 0 0]) (t := 25) ?hr ?_; (case hd => rfl); (case hg => rfl); (case hr => first | (go_simp; done) | (go_simp; rfl)); intro gb130 hg w31 hbox hb; have n0_ := Aside0.mk (Kd.S_below (by (with_reducible repeat (first | apply Kd.S_alloc | apply Kd.S_drewN | apply Kd.S_drew)); exact HO107.out) hb); have n1_ := Aside0.mk (Kd.R_below (by (with_reducible repeat (first | apply Kd.R_alloc | apply Kd.R_drewN | apply Kd.R_drew)); exact HO110.out) hb); have n2_ := Aside0.mk (Kd.R_below (by (with_reducible repeat (first | apply Kd.R_alloc | apply Kd.R_drewN | apply Kd.R_drew)); exact HO117.out) hb); have n3_ := Aside0.mk (Kd.S_below (by (with_reducible repeat (first | apply Kd.S_alloc | apply Kd.S_drewN | apply Kd.S_drew)); exact HO124.out) hb); have n4_ := Aside0.mk (Kd.R_below (by (with_reducible repeat (first | apply Kd.R_alloc | apply Kd.R_drewN | apply Kd.R_drew)); exact HO127.out) hb); have n5_ := Aside0.mk (blk_below (g := gb113) (o := .cells #[.int .i64 t102, .int .i64 t103, .int .i64 t104, .slice Ao25 t105.length co25] 25 (0, 0)) (by (with_reducible repeat (first | refine blk_drewN ?_ _ | refine blk_drew ?_ | refine blk_alloc ?_ _)); exact BK113.out) hb); have n6_ := Aside0.mk (below_step (by repeat (first | (with_reducible first | exact HB.out | apply below_alloc | apply pw_below_drewN | apply below_drew1 | refine below_set ?_ GE113.out) | exact HB.out)) hb); have n7_ := Aside0.mk (hbox); have n8_ := Aside0.mk ((by rw [hg]; exact (below_size (by repeat (first | (with_reducible first | exact HB.out | apply below_alloc | apply pw_below_drewN | apply below_drew1 | refine below_set ?_ GE113.out) | exact HB.out))) : w.heap.size ≤ gb130)); have n9_ := Aside0.mk ((by rw [hg]; exact (below_size (by repeat (first | (with_reducible first | exact HB.out | apply below_alloc | apply pw_below_drewN | apply below_drew1 | refine below_set ?_ GE113.out) | exact HB.out))) : w.heap.size ≤ gb130)); have n10_ := Aside0.mk ((by rw [hg]; exact Nat.ne_of_lt (blk_lt (g := gb113) (o := .cells #[.int .i64 t102, .int .i64 t103, .int .i64 t104, .slice Ao25 t105.length co25] 25 (0, 0)) (by (with_reducible repeat (first | refine blk_drewN ?_ _ | refine blk_drew ?_ | refine blk_alloc ?_ _)); exact BK113.out)) : gb113 ≠ gb130)); have n11_ := Aside0.mk ((by rw [hg]; exact Nat.ne_of_gt (blk_lt (g := gb113) (o := .cells #[.int .i64 t102, .int .i64 t103, .int .i64 t104, .slice Ao25 t105.length co25] 25 (0, 0)) (by (with_reducible repeat (first | refine blk_drewN ?_ _ | refine blk_drew ?_ | refine blk_alloc ?_ _)); exact BK113.out)) : gb130 ≠ gb113)); clear HO107; clear HO110; clear HO117; clear HO124; clear HO127; clear BK113; clear HB; have HO107 := n0_; have HO110 := n1_; have HO117 := n2_; have HO124 := n3_; have HO127 := n4_; have BK113 := n5_; have HB := n6_; have BK130 := n7_; have GW130 := n8_; have GE130 := n9_; have NB113_130 := n10_; have NB130_113 := n11_; clear n0_ n1_ n2_ n3_ n4_ n5_ n6_ n7_ n8_ n9_ n10_ n11_; clear hb hbox hg; have hnb32 := NB130_113.out; have hnc32 := NB113_130.out; have hcz33_0 : w31.cell? ⟨gb130, 0, none⟩ = some (.int .i64 0) := (blk_cell BK130.out 0).trans rfl; have hcz33_1 : w31.cell? ⟨gb130, 1, none⟩ = some (.int .i64 0) := (blk_cell BK130.out 1).trans rfl; have hcz33_2 : w31.cell? ⟨gb130, 2, none⟩ = some (.int .i64 0) := (blk_cell BK130.out 2).trans rfl; have hcz33_3 : w31.cell? ⟨gb130, 3, none⟩ = some (.slice none 0 0) := (blk_cell BK130.out 3).trans rfl; have hfz33_0 := blk_frozen BK130.out 0; have hfz33_1 := blk_frozen BK130.out 1; have hfz33_2 := blk_frozen BK130.out 2; have hfz33_3 := blk_frozen BK130.out 3; obtain ⟨Ao34, co34, eo34⟩ := Kd.S_slice HO124.out; subst eo34) | ((with_reducible refine gate_callee (f := 11) rfl ?_); refine goesL_ (some 63) rfl rfl Tryz.func11 (by kernel_rfl) rfl #[.string a2, .string (⟨#[1]⟩ : ByteArray), .string (⟨#[]⟩ : ByteArray)] rfl (by (try simp only [List.map_toArray, List.map_cons, List.map_nil]); first | done | rfl | (simp only [List.length_drop, List.length_take]; rfl)) ?_; (with_reducible refine (strings_ReplaceAll.calls a2 (⟨#[1]⟩ : ByteArray) (⟨#[]⟩ : ByteArray) t131 _ (LaidW.below (m' := 8) hL rfl (by repeat (first | (with_reducible first | exact HB.out | apply below_alloc | apply pw_below_drewN | apply below_drew1 | refine below_set ?_ GE113.out | refine below_set ?_ GE130.out) | exact HB.out))) A18.out).mono ?_); rintro e w35 ⟨rfl, hb⟩; refine ⟨_, rfl, ?_⟩; have n0_ := Aside0.mk (Kd.S_below (by (with_reducible repeat (first | apply Kd.S_alloc | apply Kd.S_drewN | apply Kd.S_drew)); exact (Kd.S_mono (Kd.S_far (p := ⟨gb130, 3, none⟩) (Kd.S_far (p := ⟨gb130, 2, none⟩) (Kd.S_far (p := ⟨gb130, 1, none⟩) (Kd.S_far (p := ⟨gb130, 0, none⟩) (Kd.S_types HO107.out BK130.out (by decide)) (fun _ hk => hk.2) (.int .i64 t119)) (fun _ hk => hk.2) (.int .i64 t120)) (fun _ hk => hk.2) (.int .i64 t121)) (fun _ hk => hk.2) (.slice Ao34 t122.length co34)) (fun _ h_ => h_.1))) hb); have n1_ := Aside0.mk (Kd.R_below (by (with_reducible repeat (first | apply Kd.R_alloc | apply Kd.R_drewN | apply Kd.R_drew)); exact (Kd.R_mono (Kd.R_far (p := ⟨gb130, 3, none⟩) (Kd.R_far (p := ⟨gb130, 2, none⟩) (Kd.R_far (p := ⟨gb130, 1, none⟩) (Kd.R_far (p := ⟨gb130, 0, none⟩) (Kd.R_types HO110.out BK130.out (by decide)) (fun _ hk => hk.2) (.int .i64 t119)) (fun _ hk => hk.2) (.int .i64 t120)) (fun _ hk => hk.2) (.int .i64 t121)) (fun _ hk => hk.2) (.slice Ao34 t122.length co34)) (fun _ h_ => h_.1))) hb); have n2_ := Aside0.mk (Kd.R_below (by (with_reducible repeat (first | apply Kd.R_alloc | apply Kd.R_drewN | apply Kd.R_drew)); exact (Kd.R_mono (Kd.R_far (p := ⟨gb130, 3, none⟩) (Kd.R_far (p := ⟨gb130, 2, none⟩) (Kd.R_far (p := ⟨gb130, 1, none⟩) (Kd.R_far (p := ⟨gb130, 0, none⟩) (Kd.R_types HO117.out BK130.out (by decide)) (fun _ hk => hk.2) (.int .i64 t119)) (fun _ hk => hk.2) (.int .i64 t120)) (fun _ hk => hk.2) (.int .i64 t121)) (fun _ hk => hk.2) (.slice Ao34 t122.length co34)) (fun _ h_ => h_.1))) hb); have n3_ := Aside0.mk (Kd.S_below (by (with_reducible repeat (first | apply Kd.S_alloc | apply Kd.S_drewN | apply Kd.S_drew)); exact (Kd.S_mono (Kd.S_far (p := ⟨gb130, 3, none⟩) (Kd.S_far (p := ⟨gb130, 2, none⟩) (Kd.S_far (p := ⟨gb130, 1, none⟩) (Kd.S_far (p := ⟨gb130, 0, none⟩) (Kd.S_types HO124.out BK130.out (by decide)) (fun _ hk => hk.2) (.int .i64 t119)) (fun _ hk => hk.2) (.int .i64 t120)) (fun _ hk => hk.2) (.int .i64 t121)) (fun _ hk => hk.2) (.slice Ao34 t122.length co34)) (fun _ h_ => h_.1))) hb); have n4_ := Aside0.mk (Kd.R_below (by (with_reducible repeat (first | apply Kd.R_alloc | apply Kd.R_drewN | apply Kd.R_drew)); exact (Kd.R_mono (Kd.R_far (p := ⟨gb130, 3, none⟩) (Kd.R_far (p := ⟨gb130, 2, none⟩) (Kd.R_far (p := ⟨gb130, 1, none⟩) (Kd.R_far (p := ⟨gb130, 0, none⟩) (Kd.R_types HO127.out BK130.out (by decide)) (fun _ hk => hk.2) (.int .i64 t119)) (fun _ hk => hk.2) (.int .i64 t120)) (fun _ hk => hk.2) (.int .i64 t121)) (fun _ hk => hk.2) (.slice Ao34 t122.length co34)) (fun _ h_ => h_.1))) hb); have n5_ := Aside0.mk (blk_below (g := gb113) (o := .cells #[.int .i64 t102, .int .i64 t103, .int .i64 t104, .slice Ao25 t105.length co25] 25 (0, 0)) (by (with_reducible repeat (first | refine blk_drewN ?_ _ | refine blk_drew ?_ | refine blk_alloc ?_ _)); refine blk_far ?_ NB113_130.out _; (with_reducible repeat (first | refine blk_drewN ?_ _ | refine blk_drew ?_ | refine blk_alloc ?_ _)); refine blk_far ?_ NB113_130.out _; (with_reducible repeat (first | refine blk_drewN ?_ _ | refine blk_drew ?_ | refine blk_alloc ?_ _)); refine blk_far ?_ NB113_130.out _; (with_reducible repeat (first | refine blk_drewN ?_ _ | refine blk_drew ?_ | refine blk_alloc ?_ _)); refine blk_far ?_ NB113_130.out _; (with_reducible repeat (first | refine blk_drewN ?_ _ | refine blk_drew ?_ | refine blk_alloc ?_ _)); exact BK113.out) hb); have n6_ := Aside0.mk (blk_below (g := gb130) (o := .cells #[.int .i64 t119, .int .i64 t120, .int .i64 t121, .slice Ao34 t122.length co34] 25 (0, 0)) (by (with_reducible repeat (first | refine blk_drewN ?_ _ | refine blk_drew ?_ | refine blk_alloc ?_ _)); refine blk_put (cs := #[.int .i64 t119, .int .i64 t120, .int .i64 t121, .slice none 0 0]) ?_ 3 _ rfl; (with_reducible repeat (first | refine blk_drewN ?_ _ | refine blk_drew ?_ | refine blk_alloc ?_ _)); refine blk_put (cs := #[.int .i64 t119, .int .i64 t120, .int .i64 0, .slice none 0 0]) ?_ 2 _ rfl; (with_reducible repeat (first | refine blk_drewN ?_ _ | refine blk_drew ?_ | refine blk_alloc ?_ _)); refine blk_put (cs := #[.int .i64 t119, .int .i64 0, .int .i64 0, .slice none 0 0]) ?_ 1 _ rfl; (with_reducible repeat (first | refine blk_drewN ?_ _ | refine blk_drew ?_ | refine blk_alloc ?_ _)); refine blk_put (cs := #[.int .i64 0, .int .i64 0, .int .i64 0, .slice none 0 0]) ?_ 0 _ rfl; (with_reducible repeat (first | refine blk_drewN ?_ _ | refine blk_drew ?_ | refine blk_alloc ?_ _)); exact BK130.out) hb); have n7_ := Aside0.mk (below_step (by repeat (first | (with_reducible first | exact HB.out | apply below_alloc | apply pw_below_drewN | apply below_drew1 | refine below_set ?_ GE113.out | refine below_set ?_ GE130.out) | exact HB.out)) hb); clear HO107; clear HO110; clear HO117; clear HO124; clear HO127; clear BK113; clear BK130; clear HB; have HO107 := n0_; have HO110 := n1_; have HO117 := n2_; have HO124 := n3_; have HO127 := n4_; have BK113 := n5_; have BK130 := n6_; have HB := n7_; clear n0_ n1_ n2_ n3_ n4_ n5_ n6_ n7_; (try clear hb); (try clear hb2); (try clear hk); (try clear hi)) | ((with_reducible refine gate_callee (f := 9) rfl ?_); refine goesL_ (some 65) rfl rfl Tryz.func9 (by kernel_rfl) rfl #[.string ((((a0 ++ (⟨#[10]⟩ : ByteArray)) ++ (rdOf ByteArray.empty y115 (ji11))) ++ (⟨#[10]⟩ : ByteArray)) ++ t131)] rfl (by (try simp only [List.map_toArray, List.map_cons, List.map_nil]); first | done | (simp only [hji11]; rfl) | rfl | (simp only [List.length_drop, List.length_take]; rfl)) ?_; (with_reducible refine (parse_Parse.calls ((((a0 ++ (⟨#[10]⟩ : ByteArray)) ++ (rdOf ByteArray.empty y115 (ji11))) ++ (⟨#[10]⟩ : ByteArray)) ++ t131) t132 t133 t134 t135 t138 t141 t142 _ (LaidW.below (m' := 47) hL rfl (by repeat (first | (with_reducible first | exact HB.out | apply below_alloc | apply pw_below_drewN | apply below_drew1 | refine below_set ?_ GE113.out | refine below_set ?_ GE130.out) | exact HB.out))) A20.out).mono ?_); rintro e w36 ⟨v136, v139, rfl, ho0, ho1, hb⟩; refine ⟨_, rfl, ?_⟩; have n0_ := Aside0.mk (Kd.S_elder' (by (with_reducible repeat (first | apply Kd.S_alloc | apply Kd.S_drewN | apply Kd.S_drew)); exact HO107.out) (Kd.S_base ho0) hb); have n1_ := Aside0.mk (Kd.R_elder' (by (with_reducible repeat (first | apply Kd.R_alloc | apply Kd.R_drewN | apply Kd.R_drew)); exact HO110.out) (Kd.R_base ho1) hb); have n2_ := Aside0.mk (Kd.R_below (by (with_reducible repeat (first | apply Kd.R_alloc | apply Kd.R_drewN | apply Kd.R_drew)); exact HO117.out) hb); have n3_ := Aside0.mk (Kd.S_elder' (by (with_reducible repeat (first | apply Kd.S_alloc | apply Kd.S_drewN | apply Kd.S_drew)); exact HO124.out) (Kd.S_base ho0) hb); have n4_ := Aside0.mk (Kd.R_elder' (by (with_reducible repeat (first | apply Kd.R_alloc | apply Kd.R_drewN | apply Kd.R_drew)); exact HO127.out) (Kd.R_base ho1) hb); have n5_ := Aside0.mk (Kd.S_lower (Kd.S_new' (Kd.S_new' ho0 (Kd.S_lt (by (with_reducible repeat (first | apply Kd.S_alloc | apply Kd.S_drewN | apply Kd.S_drew)); exact HO107.out))) (Kd.S_lt (by (with_reducible repeat (first | apply Kd.S_alloc | apply Kd.S_drewN | apply Kd.S_drew)); exact HO124.out))) (below_size (by repeat (first | (with_reducible first | exact HB.out | apply below_alloc | apply pw_below_drewN | apply below_drew1 | refine below_set ?_ GE113.out | refine below_set ?_ GE130.out) | exact HB.out)))); have n6_ := Aside0.mk (Kd.R_lower (Kd.R_new' (Kd.R_new' ho1 (Kd.R_lt (by (with_reducible repeat (first | apply Kd.R_alloc | apply Kd.R_drewN | apply Kd.R_drew)); exact HO110.out))) (Kd.R_lt (by (with_reducible repeat (first | apply Kd.R_alloc | apply Kd.R_drewN | apply Kd.R_drew)); exact HO127.out))) (below_size (by repeat (first | (with_reducible first | exact HB.out | apply below_alloc | apply pw_below_drewN | apply below_drew1 | refine below_set ?_ GE113.out | refine below_set ?_ GE130.out) | exact HB.out)))); have n7_ := Aside0.mk (blk_below (g := gb113) (o := .cells #[.int .i64 t102, .int .i64 t103, .int .i64 t104, .slice Ao25 t105.length co25] 25 (0, 0)) (by (with_reducible repeat (first | refine blk_drewN ?_ _ | refine blk_drew ?_ | refine blk_alloc ?_ _)); exact BK113.out) hb); have n8_ := Aside0.mk (blk_below (g := gb130) (o := .cells #[.int .i64 t119, .int .i64 t120, .int .i64 t121, .slice Ao34 t122.length co34] 25 (0, 0)) (by (with_reducible repeat (first | refine blk_drewN ?_ _ | refine blk_drew ?_ | refine blk_alloc ?_ _)); exact BK130.out) hb); have n9_ := Aside0.mk (below_step (by repeat (first | (with_reducible first | exact HB.out | apply below_alloc | apply pw_below_drewN | apply below_drew1 | refine below_set ?_ GE113.out | refine below_set ?_ GE130.out) | exact HB.out)) hb); clear HO107; clear HO110; clear HO117; clear HO124; clear HO127; clear BK113; clear BK130; clear HB; have HO107 := n0_; have HO110 := n1_; have HO117 := n2_; have HO124 := n3_; have HO127 := n4_; have HO137 := n5_; have HO140 := n6_; have BK113 := n7_; have BK130 := n8_; have HB := n9_; clear n0_ n1_ n2_ n3_ n4_ n5_ n6_ n7_ n8_ n9_; (try clear hb); (try clear hb2); (try clear hk); (try clear hi); (try clear ho0); (try clear ho1)) | ((with_reducible refine gate_dst (N := 17) rfl ?_); (try (refine gate_guard (by rfl) ?_; dsimp only)); refine box_event ?hg (N := 17) ?hd (cs := #[.int .i64 0, .int .i64 0, .int .i64 0, .slice none 0 0]) (t := 25) ?hr ?_; (case hd => rfl); (case hg => rfl); (case hr => first | (go_simp; done) | (go_simp; rfl)); intro gb143 hg w37 hbox hb; have n0_ := Aside0.mk (Kd.S_below (by (with_reducible repeat (first | apply Kd.S_alloc | apply Kd.S_drewN | apply Kd.S_drew)); exact HO107.out) hb); have n1_ := Aside0.mk (Kd.R_below (by (with_reducible repeat (first | apply Kd.R_alloc | apply Kd.R_drewN | apply Kd.R_drew)); exact HO110.out) hb); have n2_ := Aside0.mk (Kd.R_below (by (with_reducible repeat (first | apply Kd.R_alloc | apply Kd.R_drewN | apply Kd.R_drew)); exact HO117.out) hb); have n3_ := Aside0.mk (Kd.S_below (by (with_reducible repeat (first | apply Kd.S_alloc | apply Kd.S_drewN | apply Kd.S_drew)); exact HO124.out) hb); have n4_ := Aside0.mk (Kd.R_below (by (with_reducible repeat (first | apply Kd.R_alloc | apply Kd.R_drewN | apply Kd.R_drew)); exact HO127.out) hb); have n5_ := Aside0.mk (Kd.S_below (by (with_reducible repeat (first | apply Kd.S_alloc | apply Kd.S_drewN | apply Kd.S_drew)); exact HO137.out) hb); have n6_ := Aside0.mk (Kd.R_below (by (with_reducible repeat (first | apply Kd.R_alloc | apply Kd.R_drewN | apply Kd.R_drew)); exact HO140.out) hb); have n7_ := Aside0.mk (blk_below (g := gb113) (o := .cells #[.int .i64 t102, .int .i64 t103, .int .i64 t104, .slice Ao25 t105.length co25] 25 (0, 0)) (by (with_reducible repeat (first | refine blk_drewN ?_ _ | refine blk_drew ?_ | refine blk_alloc ?_ _)); exact BK113.out) hb); have n8_ := Aside0.mk (blk_below (g := gb130) (o := .cells #[.int .i64 t119, .int .i64 t120, .int .i64 t121, .slice Ao34 t122.length co34] 25 (0, 0)) (by (with_reducible repeat (first | refine blk_drewN ?_ _ | refine blk_drew ?_ | refine blk_alloc ?_ _)); exact BK130.out) hb); have n9_ := Aside0.mk (below_step (by repeat (first | (with_reducible first | exact HB.out | apply below_alloc | apply pw_below_drewN | apply below_drew1 | refine below_set ?_ GE113.out | refine below_set ?_ GE130.out) | exact HB.out)) hb); have n10_ := Aside0.mk (hbox); have n11_ := Aside0.mk ((by rw [hg]; exact (below_size (by repeat (first | (with_reducible first | exact HB.out | apply below_alloc | apply pw_below_drewN | apply below_drew1 | refine below_set ?_ GE113.out | refine below_set ?_ GE130.out) | exact HB.out))) : w.heap.size ≤ gb143)); have n12_ := Aside0.mk ((by rw [hg]; exact (below_size (by repeat (first | (with_reducible first | exact HB.out | apply below_alloc | apply pw_below_drewN | apply below_drew1 | refine below_set ?_ GE113.out | refine below_set ?_ GE130.out) | exact HB.out))) : w.heap.size ≤ gb143)); have n13_ := Aside0.mk ((by rw [hg]; exact Nat.ne_of_lt (blk_lt (g := gb113) (o := .cells #[.int .i64 t102, .int .i64 t103, .int .i64 t104, .slice Ao25 t105.length co25] 25 (0, 0)) (by (with_reducible repeat (first | refine blk_drewN ?_ _ | refine blk_drew ?_ | refine blk_alloc ?_ _)); exact BK113.out)) : gb113 ≠ gb143)); have n14_ := Aside0.mk ((by rw [hg]; exact Nat.ne_of_gt (blk_lt (g := gb113) (o := .cells #[.int .i64 t102, .int .i64 t103, .int .i64 t104, .slice Ao25 t105.length co25] 25 (0, 0)) (by (with_reducible repeat (first | refine blk_drewN ?_ _ | refine blk_drew ?_ | refine blk_alloc ?_ _)); exact BK113.out)) : gb143 ≠ gb113)); have n15_ := Aside0.mk ((by rw [hg]; exact Nat.ne_of_lt (blk_lt (g := gb130) (o := .cells #[.int .i64 t119, .int .i64 t120, .int .i64 t121, .slice Ao34 t122.length co34] 25 (0, 0)) (by (with_reducible repeat (first | refine blk_drewN ?_ _ | refine blk_drew ?_ | refine blk_alloc ?_ _)); exact BK130.out)) : gb130 ≠ gb143)); have n16_ := Aside0.mk ((by rw [hg]; exact Nat.ne_of_gt (blk_lt (g := gb130) (o := .cells #[.int .i64 t119, .int .i64 t120, .int .i64 t121, .slice Ao34 t122.length co34] 25 (0, 0)) (by (with_reducible repeat (first | refine blk_drewN ?_ _ | refine blk_drew ?_ | refine blk_alloc ?_ _)); exact BK130.out)) : gb143 ≠ gb130)); clear HO107; clear HO110; clear HO117; clear HO124; clear HO127; clear HO137; clear HO140; clear BK113; clear BK130; clear HB; have HO107 := n0_; have HO110 := n1_; have HO117 := n2_; have HO124 := n3_; have HO127 := n4_; have HO137 := n5_; have HO140 := n6_; have BK113 := n7_; have BK130 := n8_; have HB := n9_; have BK143 := n10_; have GW143 := n11_; have GE143 := n12_; have NB113_143 := n13_; have NB143_113 := n14_; have NB130_143 := n15_; have NB143_130 := n16_; clear n0_ n1_ n2_ n3_ n4_ n5_ n6_ n7_ n8_ n9_ n10_ n11_ n12_ n13_ n14_ n15_ n16_; clear hb hbox hg; have hnb38 := NB143_113.out; have hnc38 := NB113_143.out; have hnb39 := NB143_130.out; have hnc39 := NB130_143.out; have hcz40_0 : w37.cell? ⟨gb143, 0, none⟩ = some (.int .i64 0) := (blk_cell BK143.out 0).trans rfl; have hcz40_1 : w37.cell? ⟨gb143, 1, none⟩ = some (.int .i64 0) := (blk_cell BK143.out 1).trans rfl; have hcz40_2 : w37.cell? ⟨gb143, 2, none⟩ = some (.int .i64 0) := (blk_cell BK143.out 2).trans rfl; have hcz40_3 : w37.cell? ⟨gb143, 3, none⟩ = some (.slice none 0 0) := (blk_cell BK143.out 3).trans rfl; have hfz40_0 := blk_frozen BK143.out 0; have hfz40_1 := blk_frozen BK143.out 1; have hfz40_2 := blk_frozen BK143.out 2; have hfz40_3 := blk_frozen BK143.out 3; obtain ⟨Ao41, co41, eo41⟩ := Kd.S_slice HO137.out; subst eo41))
          (try simp only [Act.put, List.setIfInBounds_toArray, List.set_cons_zero, List.set_cons_succ])
          go_cut [79] (fun v79 wc => ∃ (kq : Nat) (x79_20 : Bool), v79 = .bool x79_20 ∧ Aside0 (law10_ParseFirstError.j1 kq a1 a2 t112 (wrap64 (t114 + 2)) t128 t129 t141 t142 x79_20 = some r) ∧ Aside0 (kq ≤ kj3) ∧ Aside0 (Kd.S k47 47 wc w.heap.size (fun k_ => some k_ ≠ ((.slice Ao34 t122.length co34) : Value).ownBlock ∧ some k_ ≠ ((.slice Ao41 t135.length co41) : Value).ownBlock) (.slice Ao25 t105.length co25) t105) ∧ Aside0 (Kd.S k47 47 wc w.heap.size (fun k_ => some k_ ≠ ((.slice Ao25 t105.length co25) : Value).ownBlock ∧ some k_ ≠ ((.slice Ao41 t135.length co41) : Value).ownBlock) (.slice Ao34 t122.length co34) t122) ∧ Aside0 (Kd.S k47 47 wc w.heap.size (fun k_ => some k_ ≠ ((.slice Ao25 t105.length co25) : Value).ownBlock ∧ some k_ ≠ ((.slice Ao34 t122.length co34) : Value).ownBlock) (.slice Ao41 t135.length co41) t135) ∧ Aside0 (wc.heap[gb113]? = some (.cells #[.int .i64 t102, .int .i64 t103, .int .i64 t104, (.slice Ao25 t105.length co25)] 25 (0, 0))) ∧ Aside0 (wc.heap[gb130]? = some (.cells #[.int .i64 t119, .int .i64 t120, .int .i64 t121, (.slice Ao34 t122.length co34)] 25 (0, 0))) ∧ Aside0 (wc.heap[gb143]? = some (.cells #[.int .i64 t132, .int .i64 t133, .int .i64 t134, (.slice Ao41 t135.length co41)] 25 (0, 0))) ∧ Aside0 (Below w.heap.size w wc))
          case first =>
           have H := HC21.out
           clear HC21
           by_cases c42 : t112 = 0
           ·rw [if_pos c42] at H
            have c42b0 : (t112 == 0) = true := beq_iff_eq.mpr c42
            have c42b1 : (t112 != 0) = false := bne_eq_false_iff_eq.mpr c42
            clear c42
            (first | rw [c42b0] | (simp only [i64_w, i32_w]; rw [c42b0]) | rw [c42b3] | rw [c42b2] | skip)
            have H' := Aside0.mk H
            clear H
            go_wp2
            go_meet
            case rel => exact ⟨_, (false), (by first | rfl | (simp; done) | (simp [*]; done)), H', ⟨by have := HJ3.out; first | omega | exact Nat.le_refl _⟩, ⟨by (with_reducible repeat (first | apply Kd.S_alloc | apply Kd.S_drewN | apply Kd.S_drew)); exact Kd.S_mono (Kd.S_far (p := ⟨gb143, 3, none⟩) (Kd.S_far (p := ⟨gb143, 2, none⟩) (Kd.S_far (p := ⟨gb143, 1, none⟩) (Kd.S_far (p := ⟨gb143, 0, none⟩) (Kd.S_types HO107.out BK143.out (by decide)) (fun _ hk => hk.2) (.int .i64 t132)) (fun _ hk => hk.2) (.int .i64 t133)) (fun _ hk => hk.2) (.int .i64 t134)) (fun _ hk => hk.2) (.slice Ao41 t135.length co41)) (fun _ hk => ⟨hk.1.1.2, hk.1.2⟩)⟩, ⟨by (with_reducible repeat (first | apply Kd.S_alloc | apply Kd.S_drewN | apply Kd.S_drew)); exact Kd.S_mono (Kd.S_far (p := ⟨gb143, 3, none⟩) (Kd.S_far (p := ⟨gb143, 2, none⟩) (Kd.S_far (p := ⟨gb143, 1, none⟩) (Kd.S_far (p := ⟨gb143, 0, none⟩) (Kd.S_types HO124.out BK143.out (by decide)) (fun _ hk => hk.2) (.int .i64 t132)) (fun _ hk => hk.2) (.int .i64 t133)) (fun _ hk => hk.2) (.int .i64 t134)) (fun _ hk => hk.2) (.slice Ao41 t135.length co41)) (fun _ hk => ⟨hk.1.1.2, hk.1.2⟩)⟩, ⟨by (with_reducible repeat (first | apply Kd.S_alloc | apply Kd.S_drewN | apply Kd.S_drew)); exact Kd.S_mono (Kd.S_far (p := ⟨gb143, 3, none⟩) (Kd.S_far (p := ⟨gb143, 2, none⟩) (Kd.S_far (p := ⟨gb143, 1, none⟩) (Kd.S_far (p := ⟨gb143, 0, none⟩) (Kd.S_types HO137.out BK143.out (by decide)) (fun _ hk => hk.2) (.int .i64 t132)) (fun _ hk => hk.2) (.int .i64 t133)) (fun _ hk => hk.2) (.int .i64 t134)) (fun _ hk => hk.2) (.slice Ao41 t135.length co41)) (fun _ hk => ⟨hk.1.1.2, hk.1.2⟩)⟩, ⟨by (with_reducible repeat (first | refine blk_drewN ?_ _ | refine blk_drew ?_ | refine blk_alloc ?_ _)); refine blk_far ?_ NB113_143.out _; (with_reducible repeat (first | refine blk_drewN ?_ _ | refine blk_drew ?_ | refine blk_alloc ?_ _)); refine blk_far ?_ NB113_143.out _; (with_reducible repeat (first | refine blk_drewN ?_ _ | refine blk_drew ?_ | refine blk_alloc ?_ _)); refine blk_far ?_ NB113_143.out _; (with_reducible repeat (first | refine blk_drewN ?_ _ | refine blk_drew ?_ | refine blk_alloc ?_ _)); refine blk_far ?_ NB113_143.out _; (with_reducible repeat (first | refine blk_drewN ?_ _ | refine blk_drew ?_ | refine blk_alloc ?_ _)); exact BK113.out⟩, ⟨by (with_reducible repeat (first | refine blk_drewN ?_ _ | refine blk_drew ?_ | refine blk_alloc ?_ _)); refine blk_far ?_ NB130_143.out _; (with_reducible repeat (first | refine blk_drewN ?_ _ | refine blk_drew ?_ | refine blk_alloc ?_ _)); refine blk_far ?_ NB130_143.out _; (with_reducible repeat (first | refine blk_drewN ?_ _ | refine blk_drew ?_ | refine blk_alloc ?_ _)); refine blk_far ?_ NB130_143.out _; (with_reducible repeat (first | refine blk_drewN ?_ _ | refine blk_drew ?_ | refine blk_alloc ?_ _)); refine blk_far ?_ NB130_143.out _; (with_reducible repeat (first | refine blk_drewN ?_ _ | refine blk_drew ?_ | refine blk_alloc ?_ _)); exact BK130.out⟩, ⟨by (with_reducible repeat (first | refine blk_drewN ?_ _ | refine blk_drew ?_ | refine blk_alloc ?_ _)); refine blk_put (cs := #[.int .i64 t132, .int .i64 t133, .int .i64 t134, .slice none 0 0]) ?_ 3 _ rfl; (with_reducible repeat (first | refine blk_drewN ?_ _ | refine blk_drew ?_ | refine blk_alloc ?_ _)); refine blk_put (cs := #[.int .i64 t132, .int .i64 t133, .int .i64 0, .slice none 0 0]) ?_ 2 _ rfl; (with_reducible repeat (first | refine blk_drewN ?_ _ | refine blk_drew ?_ | refine blk_alloc ?_ _)); refine blk_put (cs := #[.int .i64 t132, .int .i64 0, .int .i64 0, .slice none 0 0]) ?_ 1 _ rfl; (with_reducible repeat (first | refine blk_drewN ?_ _ | refine blk_drew ?_ | refine blk_alloc ?_ _)); refine blk_put (cs := #[.int .i64 0, .int .i64 0, .int .i64 0, .slice none 0 0]) ?_ 0 _ rfl; (with_reducible repeat (first | refine blk_drewN ?_ _ | refine blk_drew ?_ | refine blk_alloc ?_ _)); exact BK143.out⟩, ⟨by repeat (first | (with_reducible first | exact HB.out | apply below_alloc | apply pw_below_drewN | apply below_drew1 | refine below_set ?_ GE113.out | refine below_set ?_ GE130.out | refine below_set ?_ GE143.out) | exact HB.out)⟩⟩
           ·rw [if_neg c42] at H
            have c42b0 : (t112 == 0) = false := beq_eq_false_iff_ne.mpr c42
            have c42b1 : (t112 != 0) = true := bne_iff_ne.mpr c42
            (first | rw [c42b0] | (simp only [i64_w, i32_w]; rw [c42b0]) | rw [c42b3] | rw [c42b2] | skip)
            by_cases c43 : t112 = 5
            ·rw [if_pos c43] at H
             have c43b0 : (t112 == 5) = true := beq_iff_eq.mpr c43
             have c43b1 : (t112 != 5) = false := bne_eq_false_iff_eq.mpr c43
             clear c43
             have H' := Aside0.mk H
             clear H
             go_wp2
             go_meet
             case rel => exact ⟨_, (false), (by first | rfl | (simp; done) | (simp [*]; done)), H', ⟨by have := HJ3.out; first | omega | exact Nat.le_refl _⟩, ⟨by (with_reducible repeat (first | apply Kd.S_alloc | apply Kd.S_drewN | apply Kd.S_drew)); exact Kd.S_mono (Kd.S_far (p := ⟨gb143, 3, none⟩) (Kd.S_far (p := ⟨gb143, 2, none⟩) (Kd.S_far (p := ⟨gb143, 1, none⟩) (Kd.S_far (p := ⟨gb143, 0, none⟩) (Kd.S_types HO107.out BK143.out (by decide)) (fun _ hk => hk.2) (.int .i64 t132)) (fun _ hk => hk.2) (.int .i64 t133)) (fun _ hk => hk.2) (.int .i64 t134)) (fun _ hk => hk.2) (.slice Ao41 t135.length co41)) (fun _ hk => ⟨hk.1.1.2, hk.1.2⟩)⟩, ⟨by (with_reducible repeat (first | apply Kd.S_alloc | apply Kd.S_drewN | apply Kd.S_drew)); exact Kd.S_mono (Kd.S_far (p := ⟨gb143, 3, none⟩) (Kd.S_far (p := ⟨gb143, 2, none⟩) (Kd.S_far (p := ⟨gb143, 1, none⟩) (Kd.S_far (p := ⟨gb143, 0, none⟩) (Kd.S_types HO124.out BK143.out (by decide)) (fun _ hk => hk.2) (.int .i64 t132)) (fun _ hk => hk.2) (.int .i64 t133)) (fun _ hk => hk.2) (.int .i64 t134)) (fun _ hk => hk.2) (.slice Ao41 t135.length co41)) (fun _ hk => ⟨hk.1.1.2, hk.1.2⟩)⟩, ⟨by (with_reducible repeat (first | apply Kd.S_alloc | apply Kd.S_drewN | apply Kd.S_drew)); exact Kd.S_mono (Kd.S_far (p := ⟨gb143, 3, none⟩) (Kd.S_far (p := ⟨gb143, 2, none⟩) (Kd.S_far (p := ⟨gb143, 1, none⟩) (Kd.S_far (p := ⟨gb143, 0, none⟩) (Kd.S_types HO137.out BK143.out (by decide)) (fun _ hk => hk.2) (.int .i64 t132)) (fun _ hk => hk.2) (.int .i64 t133)) (fun _ hk => hk.2) (.int .i64 t134)) (fun _ hk => hk.2) (.slice Ao41 t135.length co41)) (fun _ hk => ⟨hk.1.1.2, hk.1.2⟩)⟩, ⟨by (with_reducible repeat (first | refine blk_drewN ?_ _ | refine blk_drew ?_ | refine blk_alloc ?_ _)); refine blk_far ?_ NB113_143.out _; (with_reducible repeat (first | refine blk_drewN ?_ _ | refine blk_drew ?_ | refine blk_alloc ?_ _)); refine blk_far ?_ NB113_143.out _; (with_reducible repeat (first | refine blk_drewN ?_ _ | refine blk_drew ?_ | refine blk_alloc ?_ _)); refine blk_far ?_ NB113_143.out _; (with_reducible repeat (first | refine blk_drewN ?_ _ | refine blk_drew ?_ | refine blk_alloc ?_ _)); refine blk_far ?_ NB113_143.out _; (with_reducible repeat (first | refine blk_drewN ?_ _ | refine blk_drew ?_ | refine blk_alloc ?_ _)); exact BK113.out⟩, ⟨by (with_reducible repeat (first | refine blk_drewN ?_ _ | refine blk_drew ?_ | refine blk_alloc ?_ _)); refine blk_far ?_ NB130_143.out _; (with_reducible repeat (first | refine blk_drewN ?_ _ | refine blk_drew ?_ | refine blk_alloc ?_ _)); refine blk_far ?_ NB130_143.out _; (with_reducible repeat (first | refine blk_drewN ?_ _ | refine blk_drew ?_ | refine blk_alloc ?_ _)); refine blk_far ?_ NB130_143.out _; (with_reducible repeat (first | refine blk_drewN ?_ _ | refine blk_drew ?_ | refine blk_alloc ?_ _)); refine blk_far ?_ NB130_143.out _; (with_reducible repeat (first | refine blk_drewN ?_ _ | refine blk_drew ?_ | refine blk_alloc ?_ _)); exact BK130.out⟩, ⟨by (with_reducible repeat (first | refine blk_drewN ?_ _ | refine blk_drew ?_ | refine blk_alloc ?_ _)); refine blk_put (cs := #[.int .i64 t132, .int .i64 t133, .int .i64 t134, .slice none 0 0]) ?_ 3 _ rfl; (with_reducible repeat (first | refine blk_drewN ?_ _ | refine blk_drew ?_ | refine blk_alloc ?_ _)); refine blk_put (cs := #[.int .i64 t132, .int .i64 t133, .int .i64 0, .slice none 0 0]) ?_ 2 _ rfl; (with_reducible repeat (first | refine blk_drewN ?_ _ | refine blk_drew ?_ | refine blk_alloc ?_ _)); refine blk_put (cs := #[.int .i64 t132, .int .i64 0, .int .i64 0, .slice none 0 0]) ?_ 1 _ rfl; (with_reducible repeat (first | refine blk_drewN ?_ _ | refine blk_drew ?_ | refine blk_alloc ?_ _)); refine blk_put (cs := #[.int .i64 0, .int .i64 0, .int .i64 0, .slice none 0 0]) ?_ 0 _ rfl; (with_reducible repeat (first | refine blk_drewN ?_ _ | refine blk_drew ?_ | refine blk_alloc ?_ _)); exact BK143.out⟩, ⟨by repeat (first | (with_reducible first | exact HB.out | apply below_alloc | apply pw_below_drewN | apply below_drew1 | refine below_set ?_ GE113.out | refine below_set ?_ GE130.out | refine below_set ?_ GE143.out) | exact HB.out)⟩⟩
            ·rw [if_neg c43] at H
             have c43b0 : (t112 == 5) = false := beq_eq_false_iff_ne.mpr c43
             have c43b1 : (t112 != 5) = true := bne_iff_ne.mpr c43
             have H' := Aside0.mk H
             clear H
             go_wp2
             go_meet
             case rel => exact ⟨_, ((t112 != 15)), (by first | rfl | (simp; done) | (simp [*]; done)), H', ⟨by have := HJ3.out; first | omega | exact Nat.le_refl _⟩, ⟨by (with_reducible repeat (first | apply Kd.S_alloc | apply Kd.S_drewN | apply Kd.S_drew)); exact Kd.S_mono (Kd.S_far (p := ⟨gb143, 3, none⟩) (Kd.S_far (p := ⟨gb143, 2, none⟩) (Kd.S_far (p := ⟨gb143, 1, none⟩) (Kd.S_far (p := ⟨gb143, 0, none⟩) (Kd.S_types HO107.out BK143.out (by decide)) (fun _ hk => hk.2) (.int .i64 t132)) (fun _ hk => hk.2) (.int .i64 t133)) (fun _ hk => hk.2) (.int .i64 t134)) (fun _ hk => hk.2) (.slice Ao41 t135.length co41)) (fun _ hk => ⟨hk.1.1.2, hk.1.2⟩)⟩, ⟨by (with_reducible repeat (first | apply Kd.S_alloc | apply Kd.S_drewN | apply Kd.S_drew)); exact Kd.S_mono (Kd.S_far (p := ⟨gb143, 3, none⟩) (Kd.S_far (p := ⟨gb143, 2, none⟩) (Kd.S_far (p := ⟨gb143, 1, none⟩) (Kd.S_far (p := ⟨gb143, 0, none⟩) (Kd.S_types HO124.out BK143.out (by decide)) (fun _ hk => hk.2) (.int .i64 t132)) (fun _ hk => hk.2) (.int .i64 t133)) (fun _ hk => hk.2) (.int .i64 t134)) (fun _ hk => hk.2) (.slice Ao41 t135.length co41)) (fun _ hk => ⟨hk.1.1.2, hk.1.2⟩)⟩, ⟨by (with_reducible repeat (first | apply Kd.S_alloc | apply Kd.S_drewN | apply Kd.S_drew)); exact Kd.S_mono (Kd.S_far (p := ⟨gb143, 3, none⟩) (Kd.S_far (p := ⟨gb143, 2, none⟩) (Kd.S_far (p := ⟨gb143, 1, none⟩) (Kd.S_far (p := ⟨gb143, 0, none⟩) (Kd.S_types HO137.out BK143.out (by decide)) (fun _ hk => hk.2) (.int .i64 t132)) (fun _ hk => hk.2) (.int .i64 t133)) (fun _ hk => hk.2) (.int .i64 t134)) (fun _ hk => hk.2) (.slice Ao41 t135.length co41)) (fun _ hk => ⟨hk.1.1.2, hk.1.2⟩)⟩, ⟨by (with_reducible repeat (first | refine blk_drewN ?_ _ | refine blk_drew ?_ | refine blk_alloc ?_ _)); refine blk_far ?_ NB113_143.out _; (with_reducible repeat (first | refine blk_drewN ?_ _ | refine blk_drew ?_ | refine blk_alloc ?_ _)); refine blk_far ?_ NB113_143.out _; (with_reducible repeat (first | refine blk_drewN ?_ _ | refine blk_drew ?_ | refine blk_alloc ?_ _)); refine blk_far ?_ NB113_143.out _; (with_reducible repeat (first | refine blk_drewN ?_ _ | refine blk_drew ?_ | refine blk_alloc ?_ _)); refine blk_far ?_ NB113_143.out _; (with_reducible repeat (first | refine blk_drewN ?_ _ | refine blk_drew ?_ | refine blk_alloc ?_ _)); exact BK113.out⟩, ⟨by (with_reducible repeat (first | refine blk_drewN ?_ _ | refine blk_drew ?_ | refine blk_alloc ?_ _)); refine blk_far ?_ NB130_143.out _; (with_reducible repeat (first | refine blk_drewN ?_ _ | refine blk_drew ?_ | refine blk_alloc ?_ _)); refine blk_far ?_ NB130_143.out _; (with_reducible repeat (first | refine blk_drewN ?_ _ | refine blk_drew ?_ | refine blk_alloc ?_ _)); refine blk_far ?_ NB130_143.out _; (with_reducible repeat (first | refine blk_drewN ?_ _ | refine blk_drew ?_ | refine blk_alloc ?_ _)); refine blk_far ?_ NB130_143.out _; (with_reducible repeat (first | refine blk_drewN ?_ _ | refine blk_drew ?_ | refine blk_alloc ?_ _)); exact BK130.out⟩, ⟨by (with_reducible repeat (first | refine blk_drewN ?_ _ | refine blk_drew ?_ | refine blk_alloc ?_ _)); refine blk_put (cs := #[.int .i64 t132, .int .i64 t133, .int .i64 t134, .slice none 0 0]) ?_ 3 _ rfl; (with_reducible repeat (first | refine blk_drewN ?_ _ | refine blk_drew ?_ | refine blk_alloc ?_ _)); refine blk_put (cs := #[.int .i64 t132, .int .i64 t133, .int .i64 0, .slice none 0 0]) ?_ 2 _ rfl; (with_reducible repeat (first | refine blk_drewN ?_ _ | refine blk_drew ?_ | refine blk_alloc ?_ _)); refine blk_put (cs := #[.int .i64 t132, .int .i64 0, .int .i64 0, .slice none 0 0]) ?_ 1 _ rfl; (with_reducible repeat (first | refine blk_drewN ?_ _ | refine blk_drew ?_ | refine blk_alloc ?_ _)); refine blk_put (cs := #[.int .i64 0, .int .i64 0, .int .i64 0, .slice none 0 0]) ?_ 0 _ rfl; (with_reducible repeat (first | refine blk_drewN ?_ _ | refine blk_drew ?_ | refine blk_alloc ?_ _)); exact BK143.out⟩, ⟨by repeat (first | (with_reducible first | exact HB.out | apply below_alloc | apply pw_below_drewN | apply below_drew1 | refine below_set ?_ GE113.out | refine below_set ?_ GE130.out | refine below_set ?_ GE143.out) | exact HB.out)⟩⟩
          case rest =>
           clear HC21
           try clear c1
           try clear p1
           try clear q1
           try clear hx1
           try clear p2
           try clear c3
           try clear c4
           try clear c5
           try clear c5b0
           try clear c5b1
           try clear c5b2
           try clear c6
           try clear p6
           try clear c8
           try clear c9
           try clear c10
           try clear c11
           try clear p11
           try clear q11
           try clear hx11
           try clear c12
           try clear c12b0
           try clear c13
           try clear c13b0
           try clear c14
           try clear c14b0
           try clear c14b1
           try clear c14b2
           try clear c15
           try clear c15b0
           try clear c15b1
           try clear c15b2
           try clear c17
           try clear c17b0
           try clear c17b1
           try clear c17b2
           try clear c19
           try clear c19b0
           try clear c19b1
           try clear c19b2
           try clear c32
           try clear c38
           try clear c39
           try clear c42
           try clear c42b0
           try clear c42b1
           try clear c42b2
           try clear c43
           try clear c43b0
           try clear c43b1
           try clear hcz24_0
           try clear hcz24_1
           try clear hcz24_2
           try clear hcz24_3
           try clear hcz33_0
           try clear hcz33_1
           try clear hcz33_2
           try clear hcz33_3
           try clear hcz40_0
           try clear hcz40_1
           try clear hcz40_2
           try clear hcz40_3
           try clear hfz24_0
           try clear hfz24_1
           try clear hfz24_2
           try clear hfz24_3
           try clear hfz33_0
           try clear hfz33_1
           try clear hfz33_2
           try clear hfz33_3
           try clear hfz40_0
           try clear hfz40_1
           try clear hfz40_2
           try clear hfz40_3
           try clear hx118_0
           try clear p118
           try clear p2
           try clear q118
           obtain ⟨kq, x79_20, rfl, HA, HJ20, HO_114003, HO_131003, HO_144003, BK113, BK130, BK143, HB⟩ := hcut
           cases kq with
           | zero => exact absurd HA.out (by simp [law10_ParseFirstError.j1])
           | succ kj20 =>
            have H := HA.out
            clear HA
            simp only [law10_ParseFirstError.j1] at H
            by_cases c44 : x79_20 = true
            ·subst c44
             have H1 : ((law10_alive.f).bind fun t144 => (some t144)) = some r := by rw [if_pos rfl] at H; exact H
             clear H
             have H := H1
             clear H1
             replace H := Option.bind_eq_some_iff.mp H
             obtain ⟨t144, A450, H⟩ := H
             replace H : (some t144) = some r := H
             have A45 := Aside0.mk A450
             clear A450
             obtain rfl := Option.some.inj H
             go_wp2_with (first | ((with_reducible refine gate_callee (f := 8) rfl ?_); refine goesL_ (some 80) rfl rfl Tryz.func8 (by kernel_rfl) rfl #[] rfl (by (try simp only [List.map_toArray, List.map_cons, List.map_nil]); first | done | rfl | (simp only [List.length_drop, List.length_take]; rfl)) ?_; (with_reducible refine (law10_alive.calls  t144 _ (LaidW.below (m' := 47) hL rfl (by repeat (first | (with_reducible first | exact HB.out | apply below_alloc | apply pw_below_drewN | apply below_drew1 | refine below_set ?_ GE113.out | refine below_set ?_ GE130.out | refine below_set ?_ GE143.out) | exact HB.out))) A45.out).mono ?_); rintro e w46 ⟨rfl, hb⟩; refine ⟨_, rfl, ?_⟩; have n0_ := Aside0.mk (Kd.S_below (by (with_reducible repeat (first | apply Kd.S_alloc | apply Kd.S_drewN | apply Kd.S_drew)); exact HO_114003.out) hb); have n1_ := Aside0.mk (Kd.S_below (by (with_reducible repeat (first | apply Kd.S_alloc | apply Kd.S_drewN | apply Kd.S_drew)); exact HO_131003.out) hb); have n2_ := Aside0.mk (Kd.S_below (by (with_reducible repeat (first | apply Kd.S_alloc | apply Kd.S_drewN | apply Kd.S_drew)); exact HO_144003.out) hb); have n3_ := Aside0.mk (blk_below (g := gb113) (o := .cells #[.int .i64 t102, .int .i64 t103, .int .i64 t104, .slice Ao25 t105.length co25] 25 (0, 0)) (by (with_reducible repeat (first | refine blk_drewN ?_ _ | refine blk_drew ?_ | refine blk_alloc ?_ _)); exact BK113.out) hb); have n4_ := Aside0.mk (blk_below (g := gb130) (o := .cells #[.int .i64 t119, .int .i64 t120, .int .i64 t121, .slice Ao34 t122.length co34] 25 (0, 0)) (by (with_reducible repeat (first | refine blk_drewN ?_ _ | refine blk_drew ?_ | refine blk_alloc ?_ _)); exact BK130.out) hb); have n5_ := Aside0.mk (blk_below (g := gb143) (o := .cells #[.int .i64 t132, .int .i64 t133, .int .i64 t134, .slice Ao41 t135.length co41] 25 (0, 0)) (by (with_reducible repeat (first | refine blk_drewN ?_ _ | refine blk_drew ?_ | refine blk_alloc ?_ _)); exact BK143.out) hb); have n6_ := Aside0.mk (below_step (by repeat (first | (with_reducible first | exact HB.out | apply below_alloc | apply pw_below_drewN | apply below_drew1 | refine below_set ?_ GE113.out | refine below_set ?_ GE130.out | refine below_set ?_ GE143.out) | exact HB.out)) hb); clear HO_114003; clear HO_131003; clear HO_144003; clear BK113; clear BK130; clear BK143; clear HB; have HO_114003 := n0_; have HO_131003 := n1_; have HO_144003 := n2_; have BK113 := n3_; have BK130 := n4_; have BK143 := n5_; have HB := n6_; clear n0_ n1_ n2_ n3_ n4_ n5_ n6_; (try clear hb); (try clear hb2); (try clear hk); (try clear hi)))
             go_ret
             exact ⟨by first | rfl | (simp [errW_none, errW_some] <;> rfl) | (simp only [← hji11]; first | rfl | (simp [errW_none, errW_some] <;> rfl)) | (simp [*, errW_none, errW_some] <;> rfl), by repeat (first | (with_reducible first | exact HB.out | apply below_alloc | apply pw_below_drewN | apply below_drew1 | refine below_set ?_ GE113.out | refine below_set ?_ GE130.out | refine below_set ?_ GE143.out) | exact HB.out)⟩
            ·replace c44 := Bool.eq_false_iff.mpr c44
             subst c44
             have H1 : (law10_ParseFirstError.l0 kj20 a1 a2 t112 (wrap64 (t114 + 2)) t128 t129 t141 t142 (a2.size : Int) 0) = some r := by rw [if_neg (show ¬ (false = true) by decide)] at H; exact H
             clear H
             have H := H1
             clear H1
             have H' := Aside0.mk H
             clear H
             go_wp2
             go_loopg [83] kj20 (fun kq v83 w' => ∃ (x83_3 : Int), v83 = .int .i64 x83_3 ∧ Aside0 (law10_ParseFirstError.l0 kq a1 a2 t112 (wrap64 (t114 + 2)) t128 t129 t141 t142 (a2.size : Int) x83_3 = some r) ∧ Aside0 (kq ≤ kj20) ∧ Aside0 (Kd.S k47 47 w' w.heap.size (fun k_ => some k_ ≠ ((.slice Ao34 t122.length co34) : Value).ownBlock ∧ some k_ ≠ ((.slice Ao41 t135.length co41) : Value).ownBlock) (.slice Ao25 t105.length co25) t105) ∧ Aside0 (Kd.S k47 47 w' w.heap.size (fun k_ => some k_ ≠ ((.slice Ao25 t105.length co25) : Value).ownBlock ∧ some k_ ≠ ((.slice Ao41 t135.length co41) : Value).ownBlock) (.slice Ao34 t122.length co34) t122) ∧ Aside0 (Kd.S k47 47 w' w.heap.size (fun k_ => some k_ ≠ ((.slice Ao25 t105.length co25) : Value).ownBlock ∧ some k_ ≠ ((.slice Ao34 t122.length co34) : Value).ownBlock) (.slice Ao41 t135.length co41) t135) ∧ Aside0 (w'.heap[gb113]? = some (.cells #[.int .i64 t102, .int .i64 t103, .int .i64 t104, (.slice Ao25 t105.length co25)] 25 (0, 0))) ∧ Aside0 (w'.heap[gb130]? = some (.cells #[.int .i64 t119, .int .i64 t120, .int .i64 t121, (.slice Ao34 t122.length co34)] 25 (0, 0))) ∧ Aside0 (w'.heap[gb143]? = some (.cells #[.int .i64 t132, .int .i64 t133, .int .i64 t134, (.slice Ao41 t135.length co41)] 25 (0, 0))) ∧ Aside0 (Below w.heap.size w w'))
             case atStart => exact ⟨(0), (by first | rfl | (simp; done) | (simp [*]; done)), H', ⟨Nat.le_refl _⟩, ⟨by (with_reducible repeat (first | apply Kd.S_alloc | apply Kd.S_drewN | apply Kd.S_drew)); exact HO_114003.out⟩, ⟨by (with_reducible repeat (first | apply Kd.S_alloc | apply Kd.S_drewN | apply Kd.S_drew)); exact HO_131003.out⟩, ⟨by (with_reducible repeat (first | apply Kd.S_alloc | apply Kd.S_drewN | apply Kd.S_drew)); exact HO_144003.out⟩, ⟨by (with_reducible repeat (first | refine blk_drewN ?_ _ | refine blk_drew ?_ | refine blk_alloc ?_ _)); exact BK113.out⟩, ⟨by (with_reducible repeat (first | refine blk_drewN ?_ _ | refine blk_drew ?_ | refine blk_alloc ?_ _)); exact BK130.out⟩, ⟨by (with_reducible repeat (first | refine blk_drewN ?_ _ | refine blk_drew ?_ | refine blk_alloc ?_ _)); exact BK143.out⟩, ⟨by repeat (first | (with_reducible first | exact HB.out | apply below_alloc | apply pw_below_drewN | apply below_drew1 | refine below_set ?_ GE113.out | refine below_set ?_ GE130.out | refine below_set ?_ GE143.out) | exact HB.out)⟩⟩
             case round =>
              clear H'
              try clear c1
              try clear p1
              try clear q1
              try clear hx1
              try clear p2
              try clear c3
              try clear c4
              try clear c5
              try clear c5b0
              try clear c5b1
              try clear c5b2
              try clear c6
              try clear p6
              try clear c8
              try clear c9
              try clear c10
              try clear c11
              try clear p11
              try clear q11
              try clear hx11
              try clear c12
              try clear c12b0
              try clear c13
              try clear c13b0
              try clear c14
              try clear c14b0
              try clear c14b1
              try clear c14b2
              try clear c15
              try clear c15b0
              try clear c15b1
              try clear c15b2
              try clear c17
              try clear c17b0
              try clear c17b1
              try clear c17b2
              try clear c19
              try clear c19b0
              try clear c19b1
              try clear c19b2
              try clear c32
              try clear c38
              try clear c39
              try clear c42
              try clear c42b0
              try clear c42b1
              try clear c42b2
              try clear c43
              try clear c43b0
              try clear c43b1
              try clear c44
              try clear hcz24_0
              try clear hcz24_1
              try clear hcz24_2
              try clear hcz24_3
              try clear hcz33_0
              try clear hcz33_1
              try clear hcz33_2
              try clear hcz33_3
              try clear hcz40_0
              try clear hcz40_1
              try clear hcz40_2
              try clear hcz40_3
              try clear hfz24_0
              try clear hfz24_1
              try clear hfz24_2
              try clear hfz24_3
              try clear hfz33_0
              try clear hfz33_1
              try clear hfz33_2
              try clear hfz33_3
              try clear hfz40_0
              try clear hfz40_1
              try clear hfz40_2
              try clear hfz40_3
              try clear hx118_0
              try clear p1
              try clear p11
              try clear p118
              try clear p2
              try clear p6
              try clear q1
              try clear q11
              try clear q118
              obtain ⟨x83_3, rfl, HA, HK3, HO_114003, HO_131003, HO_144003, BK113, BK130, BK143, HB⟩ := hrel
              cases gk with
              | zero => exact absurd HA.out (by simp [law10_ParseFirstError.l0])
              | succ k3 =>
               have H := HA.out
               clear HA
               simp only [law10_ParseFirstError.l0] at H
               by_cases c47 : x83_3 < (a2.size : Int)
               ·rw [if_pos c47] at H
                have c47b0 : decide (x83_3 < (a2.size : Int)) = true := decide_eq_true c47
                clear c47
                by_cases c48 : 0 ≤ x83_3
                ·rw [if_pos c48] at H
                 have c48b0 : decide (0 ≤ x83_3) = true := decide_eq_true c48
                 clear c48
                 by_cases c49 : x83_3 < (a2.size : Int)
                 ·rw [if_pos c49] at H
                  have c49b0 : decide (x83_3 < (a2.size : Int)) = true := decide_eq_true c49
                  clear c49
                  by_cases c51 : (bt a2 x83_3) = 10
                  ·rw [if_pos c51] at H
                   have c51b0 : ((bt a2 x83_3) == 10) = true := beq_iff_eq.mpr c51
                   have c51b1 : ((bt a2 x83_3) != 10) = false := bne_eq_false_iff_eq.mpr c51
                   clear c51
                   have H' := Aside0.mk H
                   clear H
                   have p50 : 0 ≤ (x83_3 : Int) := of_decide_eq_true (by first | (with_reducible assumption) | assumption)
                   have q50 : x83_3 < (a2.size : Int) := of_decide_eq_true (by first | (with_reducible assumption) | assumption)
                   have hx50 := bt_at a2 x83_3
                   replace p50 := eq_true p50
                   replace q50 := eq_true q50
                   go_wp2
                   go_roundg k3
                   case measure => have := HJ3.out; have := HJ20.out; have := HK3.out; omega
                   case rel => exact ⟨(wrap64 (x83_3 + 1)), (by first | rfl | (simp; done) | (simp [*]; done)), H', ⟨by have := HJ3.out; have := HJ20.out; have := HK3.out; omega⟩, ⟨by (with_reducible repeat (first | apply Kd.S_alloc | apply Kd.S_drewN | apply Kd.S_drew)); exact HO_114003.out⟩, ⟨by (with_reducible repeat (first | apply Kd.S_alloc | apply Kd.S_drewN | apply Kd.S_drew)); exact HO_131003.out⟩, ⟨by (with_reducible repeat (first | apply Kd.S_alloc | apply Kd.S_drewN | apply Kd.S_drew)); exact HO_144003.out⟩, ⟨by (with_reducible repeat (first | refine blk_drewN ?_ _ | refine blk_drew ?_ | refine blk_alloc ?_ _)); exact BK113.out⟩, ⟨by (with_reducible repeat (first | refine blk_drewN ?_ _ | refine blk_drew ?_ | refine blk_alloc ?_ _)); exact BK130.out⟩, ⟨by (with_reducible repeat (first | refine blk_drewN ?_ _ | refine blk_drew ?_ | refine blk_alloc ?_ _)); exact BK143.out⟩, ⟨by repeat (first | (with_reducible first | exact HB.out | apply below_alloc | apply pw_below_drewN | apply below_drew1 | refine below_set ?_ GE113.out | refine below_set ?_ GE130.out | refine below_set ?_ GE143.out) | exact HB.out)⟩⟩
                  ·rw [if_neg c51] at H
                   have c51b0 : ((bt a2 x83_3) == 10) = false := beq_eq_false_iff_ne.mpr c51
                   have c51b1 : ((bt a2 x83_3) != 10) = true := bne_iff_ne.mpr c51
                   by_cases c53 : (bt a2 x83_3) < 32
                   ·rw [if_pos c53] at H
                    have c53b0 : decide ((bt a2 x83_3) < 32) = true := decide_eq_true c53
                    clear c53
                    replace H := Option.bind_eq_some_iff.mp H
                    obtain ⟨t145, A540, H⟩ := H
                    replace H : (some t145) = some r := H
                    have A54 := Aside0.mk A540
                    clear A540
                    obtain rfl := Option.some.inj H
                    have p50 : 0 ≤ (x83_3 : Int) := of_decide_eq_true (by first | (with_reducible assumption) | assumption)
                    have q50 : x83_3 < (a2.size : Int) := of_decide_eq_true (by first | (with_reducible assumption) | assumption)
                    have hx50 := bt_at a2 x83_3
                    replace p50 := eq_true p50
                    replace q50 := eq_true q50
                    have p52 : 0 ≤ (x83_3 : Int) := of_decide_eq_true (by first | (with_reducible assumption) | assumption)
                    have q52 : x83_3 < (a2.size : Int) := of_decide_eq_true (by first | (with_reducible assumption) | assumption)
                    have hx52 := bt_at a2 x83_3
                    replace p52 := eq_true p52
                    replace q52 := eq_true q52
                    go_wp2_with (first | ((with_reducible refine gate_callee (f := 8) rfl ?_); refine goesL_ (some 102) rfl rfl Tryz.func8 (by kernel_rfl) rfl #[] rfl (by (try simp only [List.map_toArray, List.map_cons, List.map_nil]); first | done | rfl | (simp only [List.length_drop, List.length_take]; rfl)) ?_; (with_reducible refine (law10_alive.calls  t145 _ (LaidW.below (m' := 47) hL rfl (by repeat (first | (with_reducible first | exact HB.out | apply below_alloc | apply pw_below_drewN | apply below_drew1 | refine below_set ?_ GE113.out | refine below_set ?_ GE130.out | refine below_set ?_ GE143.out) | exact HB.out))) A54.out).mono ?_); rintro e w55 ⟨rfl, hb⟩; refine ⟨_, rfl, ?_⟩; have n0_ := Aside0.mk (Kd.S_below (by (with_reducible repeat (first | apply Kd.S_alloc | apply Kd.S_drewN | apply Kd.S_drew)); exact HO_114003.out) hb); have n1_ := Aside0.mk (Kd.S_below (by (with_reducible repeat (first | apply Kd.S_alloc | apply Kd.S_drewN | apply Kd.S_drew)); exact HO_131003.out) hb); have n2_ := Aside0.mk (Kd.S_below (by (with_reducible repeat (first | apply Kd.S_alloc | apply Kd.S_drewN | apply Kd.S_drew)); exact HO_144003.out) hb); have n3_ := Aside0.mk (blk_below (g := gb113) (o := .cells #[.int .i64 t102, .int .i64 t103, .int .i64 t104, .slice Ao25 t105.length co25] 25 (0, 0)) (by (with_reducible repeat (first | refine blk_drewN ?_ _ | refine blk_drew ?_ | refine blk_alloc ?_ _)); exact BK113.out) hb); have n4_ := Aside0.mk (blk_below (g := gb130) (o := .cells #[.int .i64 t119, .int .i64 t120, .int .i64 t121, .slice Ao34 t122.length co34] 25 (0, 0)) (by (with_reducible repeat (first | refine blk_drewN ?_ _ | refine blk_drew ?_ | refine blk_alloc ?_ _)); exact BK130.out) hb); have n5_ := Aside0.mk (blk_below (g := gb143) (o := .cells #[.int .i64 t132, .int .i64 t133, .int .i64 t134, .slice Ao41 t135.length co41] 25 (0, 0)) (by (with_reducible repeat (first | refine blk_drewN ?_ _ | refine blk_drew ?_ | refine blk_alloc ?_ _)); exact BK143.out) hb); have n6_ := Aside0.mk (below_step (by repeat (first | (with_reducible first | exact HB.out | apply below_alloc | apply pw_below_drewN | apply below_drew1 | refine below_set ?_ GE113.out | refine below_set ?_ GE130.out | refine below_set ?_ GE143.out) | exact HB.out)) hb); clear HO_114003; clear HO_131003; clear HO_144003; clear BK113; clear BK130; clear BK143; clear HB; have HO_114003 := n0_; have HO_131003 := n1_; have HO_144003 := n2_; have BK113 := n3_; have BK130 := n4_; have BK143 := n5_; have HB := n6_; clear n0_ n1_ n2_ n3_ n4_ n5_ n6_; (try clear hb); (try clear hb2); (try clear hk); (try clear hi)))
                    go_ret
                    exact ⟨by first | rfl | (simp [errW_none, errW_some] <;> rfl) | (simp only [← hji11]; first | rfl | (simp [errW_none, errW_some] <;> rfl)) | (simp [*, errW_none, errW_some] <;> rfl), by repeat (first | (with_reducible first | exact HB.out | apply below_alloc | apply pw_below_drewN | apply below_drew1 | refine below_set ?_ GE113.out | refine below_set ?_ GE130.out | refine below_set ?_ GE143.out) | exact HB.out)⟩
                   ·rw [if_neg c53] at H
                    have c53b0 : decide ((bt a2 x83_3) < 32) = false := decide_eq_false c53
                    clear c53
                    by_cases c57 : (bt a2 x83_3) > 126
                    ·rw [if_pos c57] at H
                     have c57b0 : decide (126 < (bt a2 x83_3)) = true := decide_eq_true c57
                     clear c57
                     replace H := Option.bind_eq_some_iff.mp H
                     obtain ⟨t146, A580, H⟩ := H
                     replace H : (some t146) = some r := H
                     have A58 := Aside0.mk A580
                     clear A580
                     obtain rfl := Option.some.inj H
                     have p50 : 0 ≤ (x83_3 : Int) := of_decide_eq_true (by first | (with_reducible assumption) | assumption)
                     have q50 : x83_3 < (a2.size : Int) := of_decide_eq_true (by first | (with_reducible assumption) | assumption)
                     have hx50 := bt_at a2 x83_3
                     replace p50 := eq_true p50
                     replace q50 := eq_true q50
                     have p52 : 0 ≤ (x83_3 : Int) := of_decide_eq_true (by first | (with_reducible assumption) | assumption)
                     have q52 : x83_3 < (a2.size : Int) := of_decide_eq_true (by first | (with_reducible assumption) | assumption)
                     have hx52 := bt_at a2 x83_3
                     replace p52 := eq_true p52
                     replace q52 := eq_true q52
                     have p56 : 0 ≤ (x83_3 : Int) := of_decide_eq_true (by first | (with_reducible assumption) | assumption)
                     have q56 : x83_3 < (a2.size : Int) := of_decide_eq_true (by first | (with_reducible assumption) | assumption)
                     have hx56 := bt_at a2 x83_3
                     replace p56 := eq_true p56
                     replace q56 := eq_true q56
                     go_wp2_with (first | ((with_reducible refine gate_callee (f := 8) rfl ?_); refine goesL_ (some 102) rfl rfl Tryz.func8 (by kernel_rfl) rfl #[] rfl (by (try simp only [List.map_toArray, List.map_cons, List.map_nil]); first | done | rfl | (simp only [List.length_drop, List.length_take]; rfl)) ?_; (with_reducible refine (law10_alive.calls  t146 _ (LaidW.below (m' := 47) hL rfl (by repeat (first | (with_reducible first | exact HB.out | apply below_alloc | apply pw_below_drewN | apply below_drew1 | refine below_set ?_ GE113.out | refine below_set ?_ GE130.out | refine below_set ?_ GE143.out) | exact HB.out))) A58.out).mono ?_); rintro e w59 ⟨rfl, hb⟩; refine ⟨_, rfl, ?_⟩; have n0_ := Aside0.mk (Kd.S_below (by (with_reducible repeat (first | apply Kd.S_alloc | apply Kd.S_drewN | apply Kd.S_drew)); exact HO_114003.out) hb); have n1_ := Aside0.mk (Kd.S_below (by (with_reducible repeat (first | apply Kd.S_alloc | apply Kd.S_drewN | apply Kd.S_drew)); exact HO_131003.out) hb); have n2_ := Aside0.mk (Kd.S_below (by (with_reducible repeat (first | apply Kd.S_alloc | apply Kd.S_drewN | apply Kd.S_drew)); exact HO_144003.out) hb); have n3_ := Aside0.mk (blk_below (g := gb113) (o := .cells #[.int .i64 t102, .int .i64 t103, .int .i64 t104, .slice Ao25 t105.length co25] 25 (0, 0)) (by (with_reducible repeat (first | refine blk_drewN ?_ _ | refine blk_drew ?_ | refine blk_alloc ?_ _)); exact BK113.out) hb); have n4_ := Aside0.mk (blk_below (g := gb130) (o := .cells #[.int .i64 t119, .int .i64 t120, .int .i64 t121, .slice Ao34 t122.length co34] 25 (0, 0)) (by (with_reducible repeat (first | refine blk_drewN ?_ _ | refine blk_drew ?_ | refine blk_alloc ?_ _)); exact BK130.out) hb); have n5_ := Aside0.mk (blk_below (g := gb143) (o := .cells #[.int .i64 t132, .int .i64 t133, .int .i64 t134, .slice Ao41 t135.length co41] 25 (0, 0)) (by (with_reducible repeat (first | refine blk_drewN ?_ _ | refine blk_drew ?_ | refine blk_alloc ?_ _)); exact BK143.out) hb); have n6_ := Aside0.mk (below_step (by repeat (first | (with_reducible first | exact HB.out | apply below_alloc | apply pw_below_drewN | apply below_drew1 | refine below_set ?_ GE113.out | refine below_set ?_ GE130.out | refine below_set ?_ GE143.out) | exact HB.out)) hb); clear HO_114003; clear HO_131003; clear HO_144003; clear BK113; clear BK130; clear BK143; clear HB; have HO_114003 := n0_; have HO_131003 := n1_; have HO_144003 := n2_; have BK113 := n3_; have BK130 := n4_; have BK143 := n5_; have HB := n6_; clear n0_ n1_ n2_ n3_ n4_ n5_ n6_; (try clear hb); (try clear hb2); (try clear hk); (try clear hi)))
                     go_ret
                     exact ⟨by first | rfl | (simp [errW_none, errW_some] <;> rfl) | (simp only [← hji11]; first | rfl | (simp [errW_none, errW_some] <;> rfl)) | (simp [*, errW_none, errW_some] <;> rfl), by repeat (first | (with_reducible first | exact HB.out | apply below_alloc | apply pw_below_drewN | apply below_drew1 | refine below_set ?_ GE113.out | refine below_set ?_ GE130.out | refine below_set ?_ GE143.out) | exact HB.out)⟩
                    ·rw [if_neg c57] at H
                     have c57b0 : decide (126 < (bt a2 x83_3)) = false := decide_eq_false c57
                     clear c57
                     have H' := Aside0.mk H
                     clear H
                     have p50 : 0 ≤ (x83_3 : Int) := of_decide_eq_true (by first | (with_reducible assumption) | assumption)
                     have q50 : x83_3 < (a2.size : Int) := of_decide_eq_true (by first | (with_reducible assumption) | assumption)
                     have hx50 := bt_at a2 x83_3
                     replace p50 := eq_true p50
                     replace q50 := eq_true q50
                     have p52 : 0 ≤ (x83_3 : Int) := of_decide_eq_true (by first | (with_reducible assumption) | assumption)
                     have q52 : x83_3 < (a2.size : Int) := of_decide_eq_true (by first | (with_reducible assumption) | assumption)
                     have hx52 := bt_at a2 x83_3
                     replace p52 := eq_true p52
                     replace q52 := eq_true q52
                     have p56 : 0 ≤ (x83_3 : Int) := of_decide_eq_true (by first | (with_reducible assumption) | assumption)
                     have q56 : x83_3 < (a2.size : Int) := of_decide_eq_true (by first | (with_reducible assumption) | assumption)
                     have hx56 := bt_at a2 x83_3
                     replace p56 := eq_true p56
                     replace q56 := eq_true q56
                     go_wp2
                     go_roundg k3
                     case measure => have := HJ3.out; have := HJ20.out; have := HK3.out; omega
                     case rel => exact ⟨(wrap64 (x83_3 + 1)), (by first | rfl | (simp; done) | (simp [*]; done)), H', ⟨by have := HJ3.out; have := HJ20.out; have := HK3.out; omega⟩, ⟨by (with_reducible repeat (first | apply Kd.S_alloc | apply Kd.S_drewN | apply Kd.S_drew)); exact HO_114003.out⟩, ⟨by (with_reducible repeat (first | apply Kd.S_alloc | apply Kd.S_drewN | apply Kd.S_drew)); exact HO_131003.out⟩, ⟨by (with_reducible repeat (first | apply Kd.S_alloc | apply Kd.S_drewN | apply Kd.S_drew)); exact HO_144003.out⟩, ⟨by (with_reducible repeat (first | refine blk_drewN ?_ _ | refine blk_drew ?_ | refine blk_alloc ?_ _)); exact BK113.out⟩, ⟨by (with_reducible repeat (first | refine blk_drewN ?_ _ | refine blk_drew ?_ | refine blk_alloc ?_ _)); exact BK130.out⟩, ⟨by (with_reducible repeat (first | refine blk_drewN ?_ _ | refine blk_drew ?_ | refine blk_alloc ?_ _)); exact BK143.out⟩, ⟨by repeat (first | (with_reducible first | exact HB.out | apply below_alloc | apply pw_below_drewN | apply below_drew1 | refine below_set ?_ GE113.out | refine below_set ?_ GE130.out | refine below_set ?_ GE143.out) | exact HB.out)⟩⟩
                 ·rw [if_neg c49] at H
                  exact absurd H (by simp)
                ·rw [if_neg c48] at H
                 exact absurd H (by simp)
               ·rw [if_neg c47] at H
                have c47b0 : decide (x83_3 < (a2.size : Int)) = false := decide_eq_false c47
                clear c47
                have HC60 := Aside0.mk H
                clear H
                go_upto_region 16 with (fail)
                go_cut [110] (fun v110 wc => ∃ (kq : Nat) (x110_59 : Bool), v110 = .bool x110_59 ∧ Aside0 (law10_ParseFirstError.j3 kq (wrap64 (t114 + 2)) t128 t129 t141 t142 x110_59 = some r) ∧ Aside0 (kq ≤ k3) ∧ Aside0 (Kd.S k47 47 wc w.heap.size (fun k_ => some k_ ≠ ((.slice Ao34 t122.length co34) : Value).ownBlock ∧ some k_ ≠ ((.slice Ao41 t135.length co41) : Value).ownBlock) (.slice Ao25 t105.length co25) t105) ∧ Aside0 (Kd.S k47 47 wc w.heap.size (fun k_ => some k_ ≠ ((.slice Ao25 t105.length co25) : Value).ownBlock ∧ some k_ ≠ ((.slice Ao41 t135.length co41) : Value).ownBlock) (.slice Ao34 t122.length co34) t122) ∧ Aside0 (Kd.S k47 47 wc w.heap.size (fun k_ => some k_ ≠ ((.slice Ao25 t105.length co25) : Value).ownBlock ∧ some k_ ≠ ((.slice Ao34 t122.length co34) : Value).ownBlock) (.slice Ao41 t135.length co41) t135) ∧ Aside0 (wc.heap[gb113]? = some (.cells #[.int .i64 t102, .int .i64 t103, .int .i64 t104, (.slice Ao25 t105.length co25)] 25 (0, 0))) ∧ Aside0 (wc.heap[gb130]? = some (.cells #[.int .i64 t119, .int .i64 t120, .int .i64 t121, (.slice Ao34 t122.length co34)] 25 (0, 0))) ∧ Aside0 (wc.heap[gb143]? = some (.cells #[.int .i64 t132, .int .i64 t133, .int .i64 t134, (.slice Ao41 t135.length co41)] 25 (0, 0))) ∧ Aside0 (Below w.heap.size w wc))
                case first =>
                 have H := HC60.out
                 clear HC60
                 by_cases c61 : t112 = 5
                 ·rw [if_pos c61] at H
                  have c61b0 : (t112 == 5) = true := beq_iff_eq.mpr c61
                  have c61b1 : (t112 != 5) = false := bne_eq_false_iff_eq.mpr c61
                  clear c61
                  (first | rw [c61b0] | (simp only [i64_w, i32_w]; rw [c61b0]) | rw [c61b3] | rw [c61b2] | skip)
                  have H' := Aside0.mk H
                  clear H
                  go_wp2
                  go_meet
                  case rel => exact ⟨_, (((Int.tmod a1 8) == 1)), (by first | rfl | (simp; done) | (simp [*]; done)), H', ⟨by have := HJ3.out; have := HJ20.out; have := HK3.out; first | omega | exact Nat.le_refl _⟩, ⟨by (with_reducible repeat (first | apply Kd.S_alloc | apply Kd.S_drewN | apply Kd.S_drew)); exact HO_114003.out⟩, ⟨by (with_reducible repeat (first | apply Kd.S_alloc | apply Kd.S_drewN | apply Kd.S_drew)); exact HO_131003.out⟩, ⟨by (with_reducible repeat (first | apply Kd.S_alloc | apply Kd.S_drewN | apply Kd.S_drew)); exact HO_144003.out⟩, ⟨by (with_reducible repeat (first | refine blk_drewN ?_ _ | refine blk_drew ?_ | refine blk_alloc ?_ _)); exact BK113.out⟩, ⟨by (with_reducible repeat (first | refine blk_drewN ?_ _ | refine blk_drew ?_ | refine blk_alloc ?_ _)); exact BK130.out⟩, ⟨by (with_reducible repeat (first | refine blk_drewN ?_ _ | refine blk_drew ?_ | refine blk_alloc ?_ _)); exact BK143.out⟩, ⟨by repeat (first | (with_reducible first | exact HB.out | apply below_alloc | apply pw_below_drewN | apply below_drew1 | refine below_set ?_ GE113.out | refine below_set ?_ GE130.out | refine below_set ?_ GE143.out) | exact HB.out)⟩⟩
                 ·rw [if_neg c61] at H
                  have c61b0 : (t112 == 5) = false := beq_eq_false_iff_ne.mpr c61
                  have c61b1 : (t112 != 5) = true := bne_iff_ne.mpr c61
                  (first | rw [c61b0] | (simp only [i64_w, i32_w]; rw [c61b0]) | rw [c61b3] | rw [c61b2] | skip)
                  have H' := Aside0.mk H
                  clear H
                  go_wp2
                  go_meet
                  case rel => exact ⟨_, (false), (by first | rfl | (simp; done) | (simp [*]; done)), H', ⟨by have := HJ3.out; have := HJ20.out; have := HK3.out; first | omega | exact Nat.le_refl _⟩, ⟨by (with_reducible repeat (first | apply Kd.S_alloc | apply Kd.S_drewN | apply Kd.S_drew)); exact HO_114003.out⟩, ⟨by (with_reducible repeat (first | apply Kd.S_alloc | apply Kd.S_drewN | apply Kd.S_drew)); exact HO_131003.out⟩, ⟨by (with_reducible repeat (first | apply Kd.S_alloc | apply Kd.S_drewN | apply Kd.S_drew)); exact HO_144003.out⟩, ⟨by (with_reducible repeat (first | refine blk_drewN ?_ _ | refine blk_drew ?_ | refine blk_alloc ?_ _)); exact BK113.out⟩, ⟨by (with_reducible repeat (first | refine blk_drewN ?_ _ | refine blk_drew ?_ | refine blk_alloc ?_ _)); exact BK130.out⟩, ⟨by (with_reducible repeat (first | refine blk_drewN ?_ _ | refine blk_drew ?_ | refine blk_alloc ?_ _)); exact BK143.out⟩, ⟨by repeat (first | (with_reducible first | exact HB.out | apply below_alloc | apply pw_below_drewN | apply below_drew1 | refine below_set ?_ GE113.out | refine below_set ?_ GE130.out | refine below_set ?_ GE143.out) | exact HB.out)⟩⟩
                case rest =>
                 clear HC60
                 try clear c1
                 try clear p1
                 try clear q1
                 try clear hx1
                 try clear p2
                 try clear c3
                 try clear c4
                 try clear c5
                 try clear c5b0
                 try clear c5b1
                 try clear c5b2
                 try clear p5
                 try clear q5
                 try clear hx5
                 try clear c6
                 try clear p6
                 try clear c8
                 try clear c9
                 try clear c10
                 try clear c11
                 try clear p11
                 try clear q11
                 try clear hx11
                 try clear c12
                 try clear c12b0
                 try clear c13
                 try clear c13b0
                 try clear c14
                 try clear c14b0
                 try clear c14b1
                 try clear c14b2
                 try clear c15
                 try clear c15b0
                 try clear c15b1
                 try clear c15b2
                 try clear c17
                 try clear c17b0
                 try clear c17b1
                 try clear c17b2
                 try clear c19
                 try clear c19b0
                 try clear c19b1
                 try clear c19b2
                 try clear c32
                 try clear c38
                 try clear c39
                 try clear c42
                 try clear c42b0
                 try clear c42b1
                 try clear c42b2
                 try clear c43
                 try clear c43b0
                 try clear c43b1
                 try clear c44
                 try clear c47
                 try clear c47b0
                 try clear c48
                 try clear c48b0
                 try clear c49
                 try clear c49b0
                 try clear p50
                 try clear q50
                 try clear hx50
                 try clear c51
                 try clear c51b0
                 try clear c51b1
                 try clear p52
                 try clear q52
                 try clear hx52
                 try clear c53
                 try clear c53b0
                 try clear p56
                 try clear q56
                 try clear hx56
                 try clear c57
                 try clear c57b0
                 try clear c61
                 try clear c61b0
                 try clear c61b1
                 try clear c61b2
                 try clear hcz24_0
                 try clear hcz24_1
                 try clear hcz24_2
                 try clear hcz24_3
                 try clear hcz33_0
                 try clear hcz33_1
                 try clear hcz33_2
                 try clear hcz33_3
                 try clear hcz40_0
                 try clear hcz40_1
                 try clear hcz40_2
                 try clear hcz40_3
                 try clear hfz24_0
                 try clear hfz24_1
                 try clear hfz24_2
                 try clear hfz24_3
                 try clear hfz33_0
                 try clear hfz33_1
                 try clear hfz33_2
                 try clear hfz33_3
                 try clear hfz40_0
                 try clear hfz40_1
                 try clear hfz40_2
                 try clear hfz40_3
                 try clear hx118_0
                 try clear p1
                 try clear p11
                 try clear p118
                 try clear p2
                 try clear p50
                 try clear p52
                 try clear p56
                 try clear p6
                 try clear q1
                 try clear q11
                 try clear q118
                 try clear q50
                 try clear q52
                 try clear q56
                 obtain ⟨kq, x110_59, rfl, HA, HJ59, HO_114003, HO_131003, HO_144003, BK113, BK130, BK143, HB⟩ := hcut
                 cases kq with
                 | zero => exact absurd HA.out (by simp [law10_ParseFirstError.j3])
                 | succ kj59 =>
                  have H := HA.out
                  clear HA
                  simp only [law10_ParseFirstError.j3] at H
                  by_cases c62 : x110_59 = true
                  ·subst c62
                   have H1 : ((law10_alive.f).bind fun t147 => (some t147)) = some r := by rw [if_pos rfl] at H; exact H
                   clear H
                   have H := H1
                   clear H1
                   replace H := Option.bind_eq_some_iff.mp H
                   obtain ⟨t147, A630, H⟩ := H
                   replace H : (some t147) = some r := H
                   have A63 := Aside0.mk A630
                   clear A630
                   obtain rfl := Option.some.inj H
                   go_wp2_with (first | ((with_reducible refine gate_callee (f := 8) rfl ?_); refine goesL_ (some 111) rfl rfl Tryz.func8 (by kernel_rfl) rfl #[] rfl (by (try simp only [List.map_toArray, List.map_cons, List.map_nil]); first | done | rfl | (simp only [List.length_drop, List.length_take]; rfl)) ?_; (with_reducible refine (law10_alive.calls  t147 _ (LaidW.below (m' := 47) hL rfl (by repeat (first | (with_reducible first | exact HB.out | apply below_alloc | apply pw_below_drewN | apply below_drew1 | refine below_set ?_ GE113.out | refine below_set ?_ GE130.out | refine below_set ?_ GE143.out) | exact HB.out))) A63.out).mono ?_); rintro e w64 ⟨rfl, hb⟩; refine ⟨_, rfl, ?_⟩; have n0_ := Aside0.mk (Kd.S_below (by (with_reducible repeat (first | apply Kd.S_alloc | apply Kd.S_drewN | apply Kd.S_drew)); exact HO_114003.out) hb); have n1_ := Aside0.mk (Kd.S_below (by (with_reducible repeat (first | apply Kd.S_alloc | apply Kd.S_drewN | apply Kd.S_drew)); exact HO_131003.out) hb); have n2_ := Aside0.mk (Kd.S_below (by (with_reducible repeat (first | apply Kd.S_alloc | apply Kd.S_drewN | apply Kd.S_drew)); exact HO_144003.out) hb); have n3_ := Aside0.mk (blk_below (g := gb113) (o := .cells #[.int .i64 t102, .int .i64 t103, .int .i64 t104, .slice Ao25 t105.length co25] 25 (0, 0)) (by (with_reducible repeat (first | refine blk_drewN ?_ _ | refine blk_drew ?_ | refine blk_alloc ?_ _)); exact BK113.out) hb); have n4_ := Aside0.mk (blk_below (g := gb130) (o := .cells #[.int .i64 t119, .int .i64 t120, .int .i64 t121, .slice Ao34 t122.length co34] 25 (0, 0)) (by (with_reducible repeat (first | refine blk_drewN ?_ _ | refine blk_drew ?_ | refine blk_alloc ?_ _)); exact BK130.out) hb); have n5_ := Aside0.mk (blk_below (g := gb143) (o := .cells #[.int .i64 t132, .int .i64 t133, .int .i64 t134, .slice Ao41 t135.length co41] 25 (0, 0)) (by (with_reducible repeat (first | refine blk_drewN ?_ _ | refine blk_drew ?_ | refine blk_alloc ?_ _)); exact BK143.out) hb); have n6_ := Aside0.mk (below_step (by repeat (first | (with_reducible first | exact HB.out | apply below_alloc | apply pw_below_drewN | apply below_drew1 | refine below_set ?_ GE113.out | refine below_set ?_ GE130.out | refine below_set ?_ GE143.out) | exact HB.out)) hb); clear HO_114003; clear HO_131003; clear HO_144003; clear BK113; clear BK130; clear BK143; clear HB; have HO_114003 := n0_; have HO_131003 := n1_; have HO_144003 := n2_; have BK113 := n3_; have BK130 := n4_; have BK143 := n5_; have HB := n6_; clear n0_ n1_ n2_ n3_ n4_ n5_ n6_; (try clear hb); (try clear hb2); (try clear hk); (try clear hi)))
                   go_ret
                   exact ⟨by first | rfl | (simp [errW_none, errW_some] <;> rfl) | (simp only [← hji11]; first | rfl | (simp [errW_none, errW_some] <;> rfl)) | (simp [*, errW_none, errW_some] <;> rfl), by repeat (first | (with_reducible first | exact HB.out | apply below_alloc | apply pw_below_drewN | apply below_drew1 | refine below_set ?_ GE113.out | refine below_set ?_ GE130.out | refine below_set ?_ GE143.out) | exact HB.out)⟩
                  ·replace c62 := Bool.eq_false_iff.mpr c62
                   subst c62
                   have H1 : ((law10_alive.f).bind fun t148 => (if t148 = true then (if t129 = 0 then (some false) else (if t128 = (wrap64 (t114 + 2)) then (if t142 = t129 then (some (t141 == (wrap64 (t114 + 2)))) else (some false)) else (some false))) else (some false))) = some r := by rw [if_neg (show ¬ (false = true) by decide)] at H; exact H
                   clear H
                   have H := H1
                   clear H1
                   replace H := Option.bind_eq_some_iff.mp H
                   obtain ⟨t148, A650, H⟩ := H
                   replace H : (if t148 = true then (if t129 = 0 then (some false) else (if t128 = (wrap64 (t114 + 2)) then (if t142 = t129 then (some (t141 == (wrap64 (t114 + 2)))) else (some false)) else (some false))) else (some false)) = some r := H
                   have A65 := Aside0.mk A650
                   clear A650
                   by_cases c66 : t148 = true
                   ·subst c66
                    have H1 : (if t129 = 0 then (some false) else (if t128 = (wrap64 (t114 + 2)) then (if t142 = t129 then (some (t141 == (wrap64 (t114 + 2)))) else (some false)) else (some false))) = some r := by rw [if_pos rfl] at H; exact H
                    clear H
                    have H := H1
                    clear H1
                    by_cases c67 : t129 = 0
                    ·rw [if_pos c67] at H
                     have c67b0 : (t129 == 0) = true := beq_iff_eq.mpr c67
                     have c67b1 : (t129 != 0) = false := bne_eq_false_iff_eq.mpr c67
                     clear c67
                     obtain rfl := Option.some.inj H
                     go_wp2_with (first | ((with_reducible refine gate_callee (f := 8) rfl ?_); refine goesL_ (some 112) rfl rfl Tryz.func8 (by kernel_rfl) rfl #[] rfl (by (try simp only [List.map_toArray, List.map_cons, List.map_nil]); first | done | rfl | (simp only [List.length_drop, List.length_take]; rfl)) ?_; (with_reducible refine (law10_alive.calls  true _ (LaidW.below (m' := 47) hL rfl (by repeat (first | (with_reducible first | exact HB.out | apply below_alloc | apply pw_below_drewN | apply below_drew1 | refine below_set ?_ GE113.out | refine below_set ?_ GE130.out | refine below_set ?_ GE143.out) | exact HB.out))) A65.out).mono ?_); rintro e w68 ⟨rfl, hb⟩; refine ⟨_, rfl, ?_⟩; have n0_ := Aside0.mk (Kd.S_below (by (with_reducible repeat (first | apply Kd.S_alloc | apply Kd.S_drewN | apply Kd.S_drew)); exact HO_114003.out) hb); have n1_ := Aside0.mk (Kd.S_below (by (with_reducible repeat (first | apply Kd.S_alloc | apply Kd.S_drewN | apply Kd.S_drew)); exact HO_131003.out) hb); have n2_ := Aside0.mk (Kd.S_below (by (with_reducible repeat (first | apply Kd.S_alloc | apply Kd.S_drewN | apply Kd.S_drew)); exact HO_144003.out) hb); have n3_ := Aside0.mk (blk_below (g := gb113) (o := .cells #[.int .i64 t102, .int .i64 t103, .int .i64 t104, .slice Ao25 t105.length co25] 25 (0, 0)) (by (with_reducible repeat (first | refine blk_drewN ?_ _ | refine blk_drew ?_ | refine blk_alloc ?_ _)); exact BK113.out) hb); have n4_ := Aside0.mk (blk_below (g := gb130) (o := .cells #[.int .i64 t119, .int .i64 t120, .int .i64 t121, .slice Ao34 t122.length co34] 25 (0, 0)) (by (with_reducible repeat (first | refine blk_drewN ?_ _ | refine blk_drew ?_ | refine blk_alloc ?_ _)); exact BK130.out) hb); have n5_ := Aside0.mk (blk_below (g := gb143) (o := .cells #[.int .i64 t132, .int .i64 t133, .int .i64 t134, .slice Ao41 t135.length co41] 25 (0, 0)) (by (with_reducible repeat (first | refine blk_drewN ?_ _ | refine blk_drew ?_ | refine blk_alloc ?_ _)); exact BK143.out) hb); have n6_ := Aside0.mk (below_step (by repeat (first | (with_reducible first | exact HB.out | apply below_alloc | apply pw_below_drewN | apply below_drew1 | refine below_set ?_ GE113.out | refine below_set ?_ GE130.out | refine below_set ?_ GE143.out) | exact HB.out)) hb); clear HO_114003; clear HO_131003; clear HO_144003; clear BK113; clear BK130; clear BK143; clear HB; have HO_114003 := n0_; have HO_131003 := n1_; have HO_144003 := n2_; have BK113 := n3_; have BK130 := n4_; have BK143 := n5_; have HB := n6_; clear n0_ n1_ n2_ n3_ n4_ n5_ n6_; (try clear hb); (try clear hb2); (try clear hk); (try clear hi)))
                     go_ret
                     exact ⟨by first | rfl | (simp [errW_none, errW_some] <;> rfl) | (simp only [← hji11]; first | rfl | (simp [errW_none, errW_some] <;> rfl)) | (simp [*, errW_none, errW_some] <;> rfl), by repeat (first | (with_reducible first | exact HB.out | apply below_alloc | apply pw_below_drewN | apply below_drew1 | refine below_set ?_ GE113.out | refine below_set ?_ GE130.out | refine below_set ?_ GE143.out) | exact HB.out)⟩
                    ·rw [if_neg c67] at H
                     have c67b0 : (t129 == 0) = false := beq_eq_false_iff_ne.mpr c67
                     have c67b1 : (t129 != 0) = true := bne_iff_ne.mpr c67
                     by_cases c69 : t128 = (wrap64 (t114 + 2))
                     ·rw [if_pos c69] at H
                      have c69b0 : (t128 == (wrap64 (t114 + 2))) = true := beq_iff_eq.mpr c69
                      have c69b1 : (t128 != (wrap64 (t114 + 2))) = false := bne_eq_false_iff_eq.mpr c69
                      clear c69
                      by_cases c70 : t142 = t129
                      ·rw [if_pos c70] at H
                       have c70b0 : (t142 == t129) = true := beq_iff_eq.mpr c70
                       have c70b1 : (t142 != t129) = false := bne_eq_false_iff_eq.mpr c70
                       clear c70
                       obtain rfl := Option.some.inj H
                       go_wp2_with (first | ((with_reducible refine gate_callee (f := 8) rfl ?_); refine goesL_ (some 112) rfl rfl Tryz.func8 (by kernel_rfl) rfl #[] rfl (by (try simp only [List.map_toArray, List.map_cons, List.map_nil]); first | done | rfl | (simp only [List.length_drop, List.length_take]; rfl)) ?_; (with_reducible refine (law10_alive.calls  true _ (LaidW.below (m' := 47) hL rfl (by repeat (first | (with_reducible first | exact HB.out | apply below_alloc | apply pw_below_drewN | apply below_drew1 | refine below_set ?_ GE113.out | refine below_set ?_ GE130.out | refine below_set ?_ GE143.out) | exact HB.out))) A65.out).mono ?_); rintro e w71 ⟨rfl, hb⟩; refine ⟨_, rfl, ?_⟩; have n0_ := Aside0.mk (Kd.S_below (by (with_reducible repeat (first | apply Kd.S_alloc | apply Kd.S_drewN | apply Kd.S_drew)); exact HO_114003.out) hb); have n1_ := Aside0.mk (Kd.S_below (by (with_reducible repeat (first | apply Kd.S_alloc | apply Kd.S_drewN | apply Kd.S_drew)); exact HO_131003.out) hb); have n2_ := Aside0.mk (Kd.S_below (by (with_reducible repeat (first | apply Kd.S_alloc | apply Kd.S_drewN | apply Kd.S_drew)); exact HO_144003.out) hb); have n3_ := Aside0.mk (blk_below (g := gb113) (o := .cells #[.int .i64 t102, .int .i64 t103, .int .i64 t104, .slice Ao25 t105.length co25] 25 (0, 0)) (by (with_reducible repeat (first | refine blk_drewN ?_ _ | refine blk_drew ?_ | refine blk_alloc ?_ _)); exact BK113.out) hb); have n4_ := Aside0.mk (blk_below (g := gb130) (o := .cells #[.int .i64 t119, .int .i64 t120, .int .i64 t121, .slice Ao34 t122.length co34] 25 (0, 0)) (by (with_reducible repeat (first | refine blk_drewN ?_ _ | refine blk_drew ?_ | refine blk_alloc ?_ _)); exact BK130.out) hb); have n5_ := Aside0.mk (blk_below (g := gb143) (o := .cells #[.int .i64 t132, .int .i64 t133, .int .i64 t134, .slice Ao41 t135.length co41] 25 (0, 0)) (by (with_reducible repeat (first | refine blk_drewN ?_ _ | refine blk_drew ?_ | refine blk_alloc ?_ _)); exact BK143.out) hb); have n6_ := Aside0.mk (below_step (by repeat (first | (with_reducible first | exact HB.out | apply below_alloc | apply pw_below_drewN | apply below_drew1 | refine below_set ?_ GE113.out | refine below_set ?_ GE130.out | refine below_set ?_ GE143.out) | exact HB.out)) hb); clear HO_114003; clear HO_131003; clear HO_144003; clear BK113; clear BK130; clear BK143; clear HB; have HO_114003 := n0_; have HO_131003 := n1_; have HO_144003 := n2_; have BK113 := n3_; have BK130 := n4_; have BK143 := n5_; have HB := n6_; clear n0_ n1_ n2_ n3_ n4_ n5_ n6_; (try clear hb); (try clear hb2); (try clear hk); (try clear hi)))
                       go_ret
                       exact ⟨by first | rfl | (simp [errW_none, errW_some] <;> rfl) | (simp only [← hji11]; first | rfl | (simp [errW_none, errW_some] <;> rfl)) | (simp [*, errW_none, errW_some] <;> rfl), by repeat (first | (with_reducible first | exact HB.out | apply below_alloc | apply pw_below_drewN | apply below_drew1 | refine below_set ?_ GE113.out | refine below_set ?_ GE130.out | refine below_set ?_ GE143.out) | exact HB.out)⟩
                      ·rw [if_neg c70] at H
                       have c70b0 : (t142 == t129) = false := beq_eq_false_iff_ne.mpr c70
                       have c70b1 : (t142 != t129) = true := bne_iff_ne.mpr c70
                       obtain rfl := Option.some.inj H
                       go_wp2_with (first | ((with_reducible refine gate_callee (f := 8) rfl ?_); refine goesL_ (some 112) rfl rfl Tryz.func8 (by kernel_rfl) rfl #[] rfl (by (try simp only [List.map_toArray, List.map_cons, List.map_nil]); first | done | rfl | (simp only [List.length_drop, List.length_take]; rfl)) ?_; (with_reducible refine (law10_alive.calls  true _ (LaidW.below (m' := 47) hL rfl (by repeat (first | (with_reducible first | exact HB.out | apply below_alloc | apply pw_below_drewN | apply below_drew1 | refine below_set ?_ GE113.out | refine below_set ?_ GE130.out | refine below_set ?_ GE143.out) | exact HB.out))) A65.out).mono ?_); rintro e w72 ⟨rfl, hb⟩; refine ⟨_, rfl, ?_⟩; have n0_ := Aside0.mk (Kd.S_below (by (with_reducible repeat (first | apply Kd.S_alloc | apply Kd.S_drewN | apply Kd.S_drew)); exact HO_114003.out) hb); have n1_ := Aside0.mk (Kd.S_below (by (with_reducible repeat (first | apply Kd.S_alloc | apply Kd.S_drewN | apply Kd.S_drew)); exact HO_131003.out) hb); have n2_ := Aside0.mk (Kd.S_below (by (with_reducible repeat (first | apply Kd.S_alloc | apply Kd.S_drewN | apply Kd.S_drew)); exact HO_144003.out) hb); have n3_ := Aside0.mk (blk_below (g := gb113) (o := .cells #[.int .i64 t102, .int .i64 t103, .int .i64 t104, .slice Ao25 t105.length co25] 25 (0, 0)) (by (with_reducible repeat (first | refine blk_drewN ?_ _ | refine blk_drew ?_ | refine blk_alloc ?_ _)); exact BK113.out) hb); have n4_ := Aside0.mk (blk_below (g := gb130) (o := .cells #[.int .i64 t119, .int .i64 t120, .int .i64 t121, .slice Ao34 t122.length co34] 25 (0, 0)) (by (with_reducible repeat (first | refine blk_drewN ?_ _ | refine blk_drew ?_ | refine blk_alloc ?_ _)); exact BK130.out) hb); have n5_ := Aside0.mk (blk_below (g := gb143) (o := .cells #[.int .i64 t132, .int .i64 t133, .int .i64 t134, .slice Ao41 t135.length co41] 25 (0, 0)) (by (with_reducible repeat (first | refine blk_drewN ?_ _ | refine blk_drew ?_ | refine blk_alloc ?_ _)); exact BK143.out) hb); have n6_ := Aside0.mk (below_step (by repeat (first | (with_reducible first | exact HB.out | apply below_alloc | apply pw_below_drewN | apply below_drew1 | refine below_set ?_ GE113.out | refine below_set ?_ GE130.out | refine below_set ?_ GE143.out) | exact HB.out)) hb); clear HO_114003; clear HO_131003; clear HO_144003; clear BK113; clear BK130; clear BK143; clear HB; have HO_114003 := n0_; have HO_131003 := n1_; have HO_144003 := n2_; have BK113 := n3_; have BK130 := n4_; have BK143 := n5_; have HB := n6_; clear n0_ n1_ n2_ n3_ n4_ n5_ n6_; (try clear hb); (try clear hb2); (try clear hk); (try clear hi)))
                       go_ret
                       exact ⟨by first | rfl | (simp [errW_none, errW_some] <;> rfl) | (simp only [← hji11]; first | rfl | (simp [errW_none, errW_some] <;> rfl)) | (simp [*, errW_none, errW_some] <;> rfl), by repeat (first | (with_reducible first | exact HB.out | apply below_alloc | apply pw_below_drewN | apply below_drew1 | refine below_set ?_ GE113.out | refine below_set ?_ GE130.out | refine below_set ?_ GE143.out) | exact HB.out)⟩
                     ·rw [if_neg c69] at H
                      have c69b0 : (t128 == (wrap64 (t114 + 2))) = false := beq_eq_false_iff_ne.mpr c69
                      have c69b1 : (t128 != (wrap64 (t114 + 2))) = true := bne_iff_ne.mpr c69
                      obtain rfl := Option.some.inj H
                      go_wp2_with (first | ((with_reducible refine gate_callee (f := 8) rfl ?_); refine goesL_ (some 112) rfl rfl Tryz.func8 (by kernel_rfl) rfl #[] rfl (by (try simp only [List.map_toArray, List.map_cons, List.map_nil]); first | done | rfl | (simp only [List.length_drop, List.length_take]; rfl)) ?_; (with_reducible refine (law10_alive.calls  true _ (LaidW.below (m' := 47) hL rfl (by repeat (first | (with_reducible first | exact HB.out | apply below_alloc | apply pw_below_drewN | apply below_drew1 | refine below_set ?_ GE113.out | refine below_set ?_ GE130.out | refine below_set ?_ GE143.out) | exact HB.out))) A65.out).mono ?_); rintro e w73 ⟨rfl, hb⟩; refine ⟨_, rfl, ?_⟩; have n0_ := Aside0.mk (Kd.S_below (by (with_reducible repeat (first | apply Kd.S_alloc | apply Kd.S_drewN | apply Kd.S_drew)); exact HO_114003.out) hb); have n1_ := Aside0.mk (Kd.S_below (by (with_reducible repeat (first | apply Kd.S_alloc | apply Kd.S_drewN | apply Kd.S_drew)); exact HO_131003.out) hb); have n2_ := Aside0.mk (Kd.S_below (by (with_reducible repeat (first | apply Kd.S_alloc | apply Kd.S_drewN | apply Kd.S_drew)); exact HO_144003.out) hb); have n3_ := Aside0.mk (blk_below (g := gb113) (o := .cells #[.int .i64 t102, .int .i64 t103, .int .i64 t104, .slice Ao25 t105.length co25] 25 (0, 0)) (by (with_reducible repeat (first | refine blk_drewN ?_ _ | refine blk_drew ?_ | refine blk_alloc ?_ _)); exact BK113.out) hb); have n4_ := Aside0.mk (blk_below (g := gb130) (o := .cells #[.int .i64 t119, .int .i64 t120, .int .i64 t121, .slice Ao34 t122.length co34] 25 (0, 0)) (by (with_reducible repeat (first | refine blk_drewN ?_ _ | refine blk_drew ?_ | refine blk_alloc ?_ _)); exact BK130.out) hb); have n5_ := Aside0.mk (blk_below (g := gb143) (o := .cells #[.int .i64 t132, .int .i64 t133, .int .i64 t134, .slice Ao41 t135.length co41] 25 (0, 0)) (by (with_reducible repeat (first | refine blk_drewN ?_ _ | refine blk_drew ?_ | refine blk_alloc ?_ _)); exact BK143.out) hb); have n6_ := Aside0.mk (below_step (by repeat (first | (with_reducible first | exact HB.out | apply below_alloc | apply pw_below_drewN | apply below_drew1 | refine below_set ?_ GE113.out | refine below_set ?_ GE130.out | refine below_set ?_ GE143.out) | exact HB.out)) hb); clear HO_114003; clear HO_131003; clear HO_144003; clear BK113; clear BK130; clear BK143; clear HB; have HO_114003 := n0_; have HO_131003 := n1_; have HO_144003 := n2_; have BK113 := n3_; have BK130 := n4_; have BK143 := n5_; have HB := n6_; clear n0_ n1_ n2_ n3_ n4_ n5_ n6_; (try clear hb); (try clear hb2); (try clear hk); (try clear hi)))
                      go_ret
                      exact ⟨by first | rfl | (simp [errW_none, errW_some] <;> rfl) | (simp only [← hji11]; first | rfl | (simp [errW_none, errW_some] <;> rfl)) | (simp [*, errW_none, errW_some] <;> rfl), by repeat (first | (with_reducible first | exact HB.out | apply below_alloc | apply pw_below_drewN | apply below_drew1 | refine below_set ?_ GE113.out | refine below_set ?_ GE130.out | refine below_set ?_ GE143.out) | exact HB.out)⟩
                   ·replace c66 := Bool.eq_false_iff.mpr c66
                    subst c66
                    have H1 : (some false) = some r := by rw [if_neg (show ¬ (false = true) by decide)] at H; exact H
                    clear H
                    have H := H1
                    clear H1
                    obtain rfl := Option.some.inj H
                    go_wp2_with (first | ((with_reducible refine gate_callee (f := 8) rfl ?_); refine goesL_ (some 112) rfl rfl Tryz.func8 (by kernel_rfl) rfl #[] rfl (by (try simp only [List.map_toArray, List.map_cons, List.map_nil]); first | done | rfl | (simp only [List.length_drop, List.length_take]; rfl)) ?_; (with_reducible refine (law10_alive.calls  false _ (LaidW.below (m' := 47) hL rfl (by repeat (first | (with_reducible first | exact HB.out | apply below_alloc | apply pw_below_drewN | apply below_drew1 | refine below_set ?_ GE113.out | refine below_set ?_ GE130.out | refine below_set ?_ GE143.out) | exact HB.out))) A65.out).mono ?_); rintro e w74 ⟨rfl, hb⟩; refine ⟨_, rfl, ?_⟩; have n0_ := Aside0.mk (Kd.S_below (by (with_reducible repeat (first | apply Kd.S_alloc | apply Kd.S_drewN | apply Kd.S_drew)); exact HO_114003.out) hb); have n1_ := Aside0.mk (Kd.S_below (by (with_reducible repeat (first | apply Kd.S_alloc | apply Kd.S_drewN | apply Kd.S_drew)); exact HO_131003.out) hb); have n2_ := Aside0.mk (Kd.S_below (by (with_reducible repeat (first | apply Kd.S_alloc | apply Kd.S_drewN | apply Kd.S_drew)); exact HO_144003.out) hb); have n3_ := Aside0.mk (blk_below (g := gb113) (o := .cells #[.int .i64 t102, .int .i64 t103, .int .i64 t104, .slice Ao25 t105.length co25] 25 (0, 0)) (by (with_reducible repeat (first | refine blk_drewN ?_ _ | refine blk_drew ?_ | refine blk_alloc ?_ _)); exact BK113.out) hb); have n4_ := Aside0.mk (blk_below (g := gb130) (o := .cells #[.int .i64 t119, .int .i64 t120, .int .i64 t121, .slice Ao34 t122.length co34] 25 (0, 0)) (by (with_reducible repeat (first | refine blk_drewN ?_ _ | refine blk_drew ?_ | refine blk_alloc ?_ _)); exact BK130.out) hb); have n5_ := Aside0.mk (blk_below (g := gb143) (o := .cells #[.int .i64 t132, .int .i64 t133, .int .i64 t134, .slice Ao41 t135.length co41] 25 (0, 0)) (by (with_reducible repeat (first | refine blk_drewN ?_ _ | refine blk_drew ?_ | refine blk_alloc ?_ _)); exact BK143.out) hb); have n6_ := Aside0.mk (below_step (by repeat (first | (with_reducible first | exact HB.out | apply below_alloc | apply pw_below_drewN | apply below_drew1 | refine below_set ?_ GE113.out | refine below_set ?_ GE130.out | refine below_set ?_ GE143.out) | exact HB.out)) hb); clear HO_114003; clear HO_131003; clear HO_144003; clear BK113; clear BK130; clear BK143; clear HB; have HO_114003 := n0_; have HO_131003 := n1_; have HO_144003 := n2_; have BK113 := n3_; have BK130 := n4_; have BK143 := n5_; have HB := n6_; clear n0_ n1_ n2_ n3_ n4_ n5_ n6_; (try clear hb); (try clear hb2); (try clear hk); (try clear hi)))
                    go_ret
                    exact ⟨by first | rfl | (simp [errW_none, errW_some] <;> rfl) | (simp only [← hji11]; first | rfl | (simp [errW_none, errW_some] <;> rfl)) | (simp [*, errW_none, errW_some] <;> rfl), by repeat (first | (with_reducible first | exact HB.out | apply below_alloc | apply pw_below_drewN | apply below_drew1 | refine below_set ?_ GE113.out | refine below_set ?_ GE130.out | refine below_set ?_ GE143.out) | exact HB.out)⟩
         ·rw [if_neg c19] at H
          exact absurd H (by simp)
        ·rw [if_neg c17] at H
         exact absurd H (by simp)
       ·rw [if_neg c15] at H
        exact absurd H (by simp)
      ·rw [if_neg c14] at H
       exact absurd H (by simp)
     ·rw [if_neg c13] at H
      exact absurd H (by simp)
    ·rw [if_neg c12] at H
     exact absurd H (by simp)

/-- THE ONE PURE STATEMENT of law10_ParseFirstError: yours. -/
def law10_ParseFirstError.Pure : Prop := ∀ (a0 : ByteArray) (a1 : Int) (a2 : ByteArray), a0.size ≤ 140737488351232 → (Lit.int .u8 a1).wf = true → a2.size ≤ 140737488351232 → ∃ k, law10_ParseFirstError.f k a0 a1 a2 = some true
theorem law10_ParseFirstError.walk (P : law10_ParseFirstError.Pure) (a0 : ByteArray) (a1 : Int) (a2 : ByteArray) (w : World) (w0 : a0.size ≤ 140737488351232) (w1 : (Lit.int .u8 a1).wf = true) (w2 : a2.size ≤ 140737488351232) (hL : Aside0 (LaidW 47 w)) :
  Calls Tryz.prog 3 #[.string a0, .int .u8 a1, .string a2] w fun e w' => e = .returned (.bool true) ∧ Below w.heap.size w w' := by
 obtain ⟨k, h⟩ := P a0 a1 a2 w0 w1 w2
 refine (law10_ParseFirstError.calls k a0 a1 a2 true w hL h).mono ?_
 rintro e w' ⟨rfl, hd⟩
 exact ⟨rfl, hd⟩

end Go.Proofs.YtmcmpjkfdkogiaaGreatDoor.P

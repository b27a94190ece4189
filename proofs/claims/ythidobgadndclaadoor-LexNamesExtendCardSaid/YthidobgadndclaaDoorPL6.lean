-- Out of the translation's print, by a program. Lean checks it.
import Derived.Test.YthidobgadndclaaDoorPL0
import Derived.Test.YthidobgadndclaaDoorXAlive
import Derived.Test.YthidobgadndclaaDoorXLaid
import Derived.Test.YthidobgadndclaaDoorXName
namespace Go.Proofs.YthidobgadndclaaDoor.P
open Go.RowKit Go.Proofs.YthidobgadndclaaDoorW.PrintWords Go.Proofs.YthidobgadndclaaDoorW.PrintLast Go.Proofs.YthidobgadndclaaDoorW.PrintMore
attribute [local go_sem] max2_int min2_int max_two min_two max_three min_three max_four min_four   -- for this text's walks alone
set_option linter.unusedVariables false
set_option linter.unusedSimpArgs false

/-! ### law09_LexNamesExtend: function 4 -/
mutual
def law09_LexNamesExtend.j0 : Nat → ByteArray → Int → Bool → Option (Bool)
 | 0, _, _, _ => none
 | k + 1, x0, x1, x14 => if x14 = true then ((law09_alive.f).bind fun t140 => (some t140)) else (if x1 = 95 then (law09_LexNamesExtend.j1 k x0 x1 true) else (if x1 ≥ 48 then (if x1 ≤ 57 then (law09_LexNamesExtend.j1 k x0 x1 true) else (if x1 ≥ 97 then (if x1 ≤ 122 then (law09_LexNamesExtend.j1 k x0 x1 true) else (if x1 ≥ 65 then (law09_LexNamesExtend.j1 k x0 x1 (decide (x1 ≤ 90))) else (law09_LexNamesExtend.j1 k x0 x1 false))) else (if x1 ≥ 65 then (law09_LexNamesExtend.j1 k x0 x1 (decide (x1 ≤ 90))) else (law09_LexNamesExtend.j1 k x0 x1 false)))) else (if x1 ≥ 97 then (if x1 ≤ 122 then (law09_LexNamesExtend.j1 k x0 x1 true) else (if x1 ≥ 65 then (law09_LexNamesExtend.j1 k x0 x1 (decide (x1 ≤ 90))) else (law09_LexNamesExtend.j1 k x0 x1 false))) else (if x1 ≥ 65 then (law09_LexNamesExtend.j1 k x0 x1 (decide (x1 ≤ 90))) else (law09_LexNamesExtend.j1 k x0 x1 false)))))
def law09_LexNamesExtend.j1 : Nat → ByteArray → Int → Bool → Option (Bool)
 | 0, _, _, _ => none
 | k + 1, x0, x1, x5 => law09_LexNamesExtend.l0 k x0 x1 x5 (x0.size : Int) 0
def law09_LexNamesExtend.l0 : Nat → ByteArray → Int → Bool → Int → Int → Option (Bool)
 | 0, _, _, _, _, _ => none
 | k + 1, x0, x1, x5, x43, x44 => if x44 < x43 then (if x44 > 0 then (if 0 ≤ x44 then (if x44 ≤ (x0.size : Int) then ((lex_IsName.f (x0.extract 0 (x44 : Int).toNat)).bind fun t141 => (if t141 = true then (law09_LexNamesExtend.l0 k x0 x1 x5 x43 (wrap64 (x44 + 1))) else (some false))) else (none)) else (none)) else (law09_LexNamesExtend.l0 k x0 x1 x5 x43 (wrap64 (x44 + 1)))) else ((law09_alive.f).bind fun t142 => (if t142 = true then (if (x0.size : Int) ≥ 1 then (if (x0.size : Int) ≤ 16 then ((some (([x1] : List Int) : List Int)).bind fun y143 => (if x0.size + (strOfNums y143).size ≤ 9223372036854775807 then ((lex_IsName.f (x0 ++ (strOfNums y143))).bind fun t146 => (if x5 = true then (if (t146 == (decide ((x0.size : Int) < 16))) = true then (if 1 + x0.size ≤ 9223372036854775807 then ((lex_IsName.f ((⟨#[48]⟩ : ByteArray) ++ x0)).bind fun t147 => (some (!t147))) else (none)) else (some false)) else (if (t146 == false) = true then (if 1 + x0.size ≤ 9223372036854775807 then ((lex_IsName.f ((⟨#[48]⟩ : ByteArray) ++ x0)).bind fun t148 => (some (!t148))) else (none)) else (some false)))) else (none))) else (some false)) else (some false)) else (some false)))
end
def law09_LexNamesExtend.f (k : Nat) (a0 : ByteArray) (a1 : Int) : Option (Bool) := if (a0.size : Int) > 100 then (law09_LexNamesExtend.j0 k a0 a1 true) else ((lex_IsName.f a0).bind fun t139 => (law09_LexNamesExtend.j0 k a0 a1 (!t139)))
theorem law09_LexNamesExtend.mono_l : ∀ k, (∀ y0 y1 y2, LeO (law09_LexNamesExtend.j0 k y0 y1 y2) (law09_LexNamesExtend.j0 (k + 1) y0 y1 y2)) ∧ (∀ y0 y1 y2, LeO (law09_LexNamesExtend.j1 k y0 y1 y2) (law09_LexNamesExtend.j1 (k + 1) y0 y1 y2)) ∧ (∀ y0 y1 y2 y3 y4, LeO (law09_LexNamesExtend.l0 k y0 y1 y2 y3 y4) (law09_LexNamesExtend.l0 (k + 1) y0 y1 y2 y3 y4))
 | 0 => ⟨fun _ _ _ r h => by simp [law09_LexNamesExtend.j0] at h, fun _ _ _ r h => by simp [law09_LexNamesExtend.j1] at h, fun _ _ _ _ _ r h => by simp [law09_LexNamesExtend.l0] at h⟩
 | k + 1 => by
  obtain ⟨ih0, ih1, ih2⟩ := law09_LexNamesExtend.mono_l k
  refine ⟨?_, ?_, ?_⟩
  ·intro y0 y1 y2
   unfold law09_LexNamesExtend.j0
   repeat' first
   | (with_reducible exact ih0 _ _ _)
   | (with_reducible exact ih1 _ _ _)
   | (with_reducible exact ih2 _ _ _ _ _)
   | (with_reducible exact LeO.refl _)
   | (with_reducible exact LeO.none _)
   | (with_reducible refine LeO.ite ?_ ?_)
   | (with_reducible refine LeO.bind ?_ (fun _ => ?_))
   | exact ih0 _ _ _
   | exact ih1 _ _ _
   | exact ih2 _ _ _ _ _
   | exact LeO.none _
   | refine LeO.ite ?_ ?_
   | refine LeO.bind ?_ (fun _ => ?_)
  ·intro y0 y1 y2
   unfold law09_LexNamesExtend.j1
   repeat' first
   | (with_reducible exact ih0 _ _ _)
   | (with_reducible exact ih1 _ _ _)
   | (with_reducible exact ih2 _ _ _ _ _)
   | (with_reducible exact LeO.refl _)
   | (with_reducible exact LeO.none _)
   | (with_reducible refine LeO.ite ?_ ?_)
   | (with_reducible refine LeO.bind ?_ (fun _ => ?_))
   | exact ih0 _ _ _
   | exact ih1 _ _ _
   | exact ih2 _ _ _ _ _
   | exact LeO.none _
   | refine LeO.ite ?_ ?_
   | refine LeO.bind ?_ (fun _ => ?_)
  ·intro y0 y1 y2 y3 y4
   unfold law09_LexNamesExtend.l0
   repeat' first
   | (with_reducible exact ih0 _ _ _)
   | (with_reducible exact ih1 _ _ _)
   | (with_reducible exact ih2 _ _ _ _ _)
   | (with_reducible exact LeO.refl _)
   | (with_reducible exact LeO.none _)
   | (with_reducible refine LeO.ite ?_ ?_)
   | (with_reducible refine LeO.bind ?_ (fun _ => ?_))
   | exact ih0 _ _ _
   | exact ih1 _ _ _
   | exact ih2 _ _ _ _ _
   | exact LeO.none _
   | refine LeO.ite ?_ ?_
   | refine LeO.bind ?_ (fun _ => ?_)
theorem law09_LexNamesExtend.mono : ∀ a0 a1 k, LeO (law09_LexNamesExtend.f k a0 a1) (law09_LexNamesExtend.f (k + 1) a0 a1) := by
 intro a0 a1 k
 obtain ⟨ih0, ih1, ih2⟩ := law09_LexNamesExtend.mono_l k
 unfold law09_LexNamesExtend.f
 repeat' first
   | (with_reducible exact ih0 _ _ _)
   | (with_reducible exact ih1 _ _ _)
   | (with_reducible exact ih2 _ _ _ _ _)
   | (with_reducible exact LeO.refl _)
   | (with_reducible exact LeO.none _)
   | (with_reducible refine LeO.ite ?_ ?_)
   | (with_reducible refine LeO.bind ?_ (fun _ => ?_))
   | exact ih0 _ _ _
   | exact ih1 _ _ _
   | exact ih2 _ _ _ _ _
   | exact LeO.none _
   | refine LeO.ite ?_ ?_
   | refine LeO.bind ?_ (fun _ => ?_)
set_option maxHeartbeats 8000000 in
set_option maxRecDepth 100000 in
theorem law09_LexNamesExtend.calls (k : Nat) (a0 : ByteArray) (a1 : Int) (r : Bool) (w : World) (hL : Aside0 (LaidW 9 w)) (h : law09_LexNamesExtend.f k a0 a1 = some r) :
  Calls Tryd.prog 4 #[.string a0, .int .u8 a1] w fun e w' => e = .returned (.bool r) ∧ Below w.heap.size w w' := by
 have HB := Aside0.mk (Below.refl w.heap.size w)
 have H : (if (a0.size : Int) > 100 then (law09_LexNamesExtend.j0 k a0 a1 true) else ((lex_IsName.f a0).bind fun t139 => (law09_LexNamesExtend.j0 k a0 a1 (!t139)))) = some r := h
 clear h
 have HC3 := Aside0.mk H
 clear H
 go_enter Tryd.func4, Tryd.ntmps4
 go_upto_region 1 with (fail)
 go_cut [14] (fun v14 wc => ∃ (kq : Nat) (x14_2 : Bool), v14 = .bool x14_2 ∧ Aside0 (law09_LexNamesExtend.j0 kq a0 a1 x14_2 = some r) ∧ Aside0 (kq ≤ k) ∧ Aside0 (Below w.heap.size w wc))
 case first =>
  have H := HC3.out
  clear HC3
  by_cases c4 : (a0.size : Int) > 100
  ·rw [if_pos c4] at H
   have c4b0 : decide (100 < (a0.size : Int)) = true := decide_eq_true c4
   have c4b1 : decide (100 < a0.size) = true := decide_eq_true (by omega)
   clear c4
   (first | rw [c4b0] | (simp only [i64_w, i32_w]; rw [c4b0]) | rw [c4b3] | rw [c4b2] | skip)
   have H' := Aside0.mk H
   clear H
   go_wp2
   go_meet
   case rel => exact ⟨_, (true), (by first | rfl | (simp; done) | (simp [*]; done)), H', ⟨by first | omega | exact Nat.le_refl _⟩, ⟨by repeat (first | (with_reducible first | exact HB.out | apply below_alloc | apply pw_below_drewN | apply below_drew1) | exact HB.out)⟩⟩
  ·rw [if_neg c4] at H
   have c4b0 : decide (100 < (a0.size : Int)) = false := decide_eq_false c4
   have c4b1 : decide (100 < a0.size) = false := decide_eq_false (by omega)
   clear c4
   (first | rw [c4b0] | (simp only [i64_w, i32_w]; rw [c4b0]) | rw [c4b3] | rw [c4b2] | skip)
   replace H := Option.bind_eq_some_iff.mp H
   obtain ⟨t139, A50, H⟩ := H
   replace H : (law09_LexNamesExtend.j0 k a0 a1 (!t139)) = some r := H
   have A5 := Aside0.mk A50
   clear A50
   have H' := Aside0.mk H
   clear H
   go_wp2_with (first | (go_at_call 19; (with_reducible refine (lex_IsName.calls a0 t139 _ A5.out).mono ?_); rintro e w6 ⟨rfl, hb⟩; have n0_ := Aside0.mk (below_step (by repeat (first | (with_reducible first | exact HB.out | apply below_alloc | apply pw_below_drewN | apply below_drew1) | exact HB.out)) hb); clear HB; have HB := n0_; clear n0_; (try clear hb); (try clear hb2); (try clear hk); (try clear hi)))
   go_meet
   case rel => exact ⟨_, (!t139), (by first | rfl | (simp; done) | (simp [*]; done)), H', ⟨by first | omega | exact Nat.le_refl _⟩, ⟨by repeat (first | (with_reducible first | exact HB.out | apply below_alloc | apply pw_below_drewN | apply below_drew1) | exact HB.out)⟩⟩
 case rest =>
  clear HC3
  try clear p2
  try clear c4
  try clear c4b0
  try clear c4b1
  try clear c4b2
  obtain ⟨kq, x14_2, rfl, HA, HJ2, HB⟩ := hcut
  cases kq with
  | zero => exact absurd HA.out (by simp [law09_LexNamesExtend.j0])
  | succ kj2 =>
   have H := HA.out
   clear HA
   simp only [law09_LexNamesExtend.j0] at H
   by_cases c7 : x14_2 = true
   ·subst c7
    have H1 : ((law09_alive.f).bind fun t140 => (some t140)) = some r := by rw [if_pos rfl] at H; exact H
    clear H
    have H := H1
    clear H1
    replace H := Option.bind_eq_some_iff.mp H
    obtain ⟨t140, A80, H⟩ := H
    replace H : (some t140) = some r := H
    have A8 := Aside0.mk A80
    clear A80
    obtain rfl := Option.some.inj H
    go_wp2_with (first | ((with_reducible refine gate_callee (f := 15) rfl ?_); refine goesL_ (some 15) rfl rfl Tryd.func15 (by kernel_rfl) rfl #[] rfl (by (try simp only [List.map_toArray, List.map_cons, List.map_nil]); first | done | rfl | (simp only [List.length_drop, List.length_take]; rfl)) ?_; (with_reducible refine (law09_alive.calls  t140 _ (LaidW.below (m' := 9) hL rfl (by repeat (first | (with_reducible first | exact HB.out | apply below_alloc | apply pw_below_drewN | apply below_drew1) | exact HB.out))) A8.out).mono ?_); rintro e w9 ⟨rfl, hb⟩; refine ⟨_, rfl, ?_⟩; have n0_ := Aside0.mk (below_step (by repeat (first | (with_reducible first | exact HB.out | apply below_alloc | apply pw_below_drewN | apply below_drew1) | exact HB.out)) hb); clear HB; have HB := n0_; clear n0_; (try clear hb); (try clear hb2); (try clear hk); (try clear hi)))
    go_ret
    exact ⟨by first | rfl | (simp [errW_none, errW_some] <;> rfl) | (simp [*, errW_none, errW_some] <;> rfl), by repeat (first | (with_reducible first | exact HB.out | apply below_alloc | apply pw_below_drewN | apply below_drew1) | exact HB.out)⟩
   ·replace c7 := Bool.eq_false_iff.mpr c7
    subst c7
    have H1 : (if a1 = 95 then (law09_LexNamesExtend.j1 kj2 a0 a1 true) else (if a1 ≥ 48 then (if a1 ≤ 57 then (law09_LexNamesExtend.j1 kj2 a0 a1 true) else (if a1 ≥ 97 then (if a1 ≤ 122 then (law09_LexNamesExtend.j1 kj2 a0 a1 true) else (if a1 ≥ 65 then (law09_LexNamesExtend.j1 kj2 a0 a1 (decide (a1 ≤ 90))) else (law09_LexNamesExtend.j1 kj2 a0 a1 false))) else (if a1 ≥ 65 then (law09_LexNamesExtend.j1 kj2 a0 a1 (decide (a1 ≤ 90))) else (law09_LexNamesExtend.j1 kj2 a0 a1 false)))) else (if a1 ≥ 97 then (if a1 ≤ 122 then (law09_LexNamesExtend.j1 kj2 a0 a1 true) else (if a1 ≥ 65 then (law09_LexNamesExtend.j1 kj2 a0 a1 (decide (a1 ≤ 90))) else (law09_LexNamesExtend.j1 kj2 a0 a1 false))) else (if a1 ≥ 65 then (law09_LexNamesExtend.j1 kj2 a0 a1 (decide (a1 ≤ 90))) else (law09_LexNamesExtend.j1 kj2 a0 a1 false))))) = some r := by rw [if_neg (show ¬ (false = true) by decide)] at H; exact H
    clear H
    have H := H1
    clear H1
    have HC10 := Aside0.mk H
    clear H
    go_upto_region 3 with (fail)
    go_cut [5] (fun v5 wc => ∃ (kq : Nat) (x5_9 : Bool), v5 = .bool x5_9 ∧ Aside0 (law09_LexNamesExtend.j1 kq a0 a1 x5_9 = some r) ∧ Aside0 (kq ≤ kj2) ∧ Aside0 (Below w.heap.size w wc))
    case first =>
     have H := HC10.out
     clear HC10
     by_cases c11 : a1 = 95
     ·rw [if_pos c11] at H
      have c11b0 : (a1 == 95) = true := beq_iff_eq.mpr c11
      have c11b1 : (a1 != 95) = false := bne_eq_false_iff_eq.mpr c11
      clear c11
      (first | rw [c11b0] | (simp only [i64_w, i32_w]; rw [c11b0]) | rw [c11b3] | rw [c11b2] | skip)
      have H' := Aside0.mk H
      clear H
      go_wp2
      go_meet
      case rel => exact ⟨_, (true), (by first | rfl | (simp; done) | (simp [*]; done)), H', ⟨by have := HJ2.out; first | omega | exact Nat.le_refl _⟩, ⟨by repeat (first | (with_reducible first | exact HB.out | apply below_alloc | apply pw_below_drewN | apply below_drew1) | exact HB.out)⟩⟩
     ·rw [if_neg c11] at H
      have c11b0 : (a1 == 95) = false := beq_eq_false_iff_ne.mpr c11
      have c11b1 : (a1 != 95) = true := bne_iff_ne.mpr c11
      (first | rw [c11b0] | (simp only [i64_w, i32_w]; rw [c11b0]) | rw [c11b3] | rw [c11b2] | skip)
      by_cases c12 : a1 ≥ 48
      ·rw [if_pos c12] at H
       have c12b0 : decide (48 ≤ a1) = true := decide_eq_true c12
       clear c12
       by_cases c13 : a1 ≤ 57
       ·rw [if_pos c13] at H
        have c13b0 : decide (a1 ≤ 57) = true := decide_eq_true c13
        clear c13
        have H' := Aside0.mk H
        clear H
        go_wp2
        go_meet
        case rel => exact ⟨_, (true), (by first | rfl | (simp; done) | (simp [*]; done)), H', ⟨by have := HJ2.out; first | omega | exact Nat.le_refl _⟩, ⟨by repeat (first | (with_reducible first | exact HB.out | apply below_alloc | apply pw_below_drewN | apply below_drew1) | exact HB.out)⟩⟩
       ·rw [if_neg c13] at H
        have c13b0 : decide (a1 ≤ 57) = false := decide_eq_false c13
        clear c13
        by_cases c14 : a1 ≥ 97
        ·rw [if_pos c14] at H
         have c14b0 : decide (97 ≤ a1) = true := decide_eq_true c14
         clear c14
         by_cases c15 : a1 ≤ 122
         ·rw [if_pos c15] at H
          have c15b0 : decide (a1 ≤ 122) = true := decide_eq_true c15
          clear c15
          have H' := Aside0.mk H
          clear H
          go_wp2
          go_meet
          case rel => exact ⟨_, (true), (by first | rfl | (simp; done) | (simp [*]; done)), H', ⟨by have := HJ2.out; first | omega | exact Nat.le_refl _⟩, ⟨by repeat (first | (with_reducible first | exact HB.out | apply below_alloc | apply pw_below_drewN | apply below_drew1) | exact HB.out)⟩⟩
         ·rw [if_neg c15] at H
          have c15b0 : decide (a1 ≤ 122) = false := decide_eq_false c15
          clear c15
          by_cases c16 : a1 ≥ 65
          ·rw [if_pos c16] at H
           have c16b0 : decide (65 ≤ a1) = true := decide_eq_true c16
           clear c16
           have H' := Aside0.mk H
           clear H
           go_wp2
           go_meet
           case rel => exact ⟨_, (decide (a1 ≤ 90)), (by first | rfl | (simp; done) | (simp [*]; done)), H', ⟨by have := HJ2.out; first | omega | exact Nat.le_refl _⟩, ⟨by repeat (first | (with_reducible first | exact HB.out | apply below_alloc | apply pw_below_drewN | apply below_drew1) | exact HB.out)⟩⟩
          ·rw [if_neg c16] at H
           have c16b0 : decide (65 ≤ a1) = false := decide_eq_false c16
           clear c16
           have H' := Aside0.mk H
           clear H
           go_wp2
           go_meet
           case rel => exact ⟨_, (false), (by first | rfl | (simp; done) | (simp [*]; done)), H', ⟨by have := HJ2.out; first | omega | exact Nat.le_refl _⟩, ⟨by repeat (first | (with_reducible first | exact HB.out | apply below_alloc | apply pw_below_drewN | apply below_drew1) | exact HB.out)⟩⟩
        ·rw [if_neg c14] at H
         have c14b0 : decide (97 ≤ a1) = false := decide_eq_false c14
         clear c14
         by_cases c17 : a1 ≥ 65
         ·rw [if_pos c17] at H
          have c17b0 : decide (65 ≤ a1) = true := decide_eq_true c17
          clear c17
          have H' := Aside0.mk H
          clear H
          go_wp2
          go_meet
          case rel => exact ⟨_, (decide (a1 ≤ 90)), (by first | rfl | (simp; done) | (simp [*]; done)), H', ⟨by have := HJ2.out; first | omega | exact Nat.le_refl _⟩, ⟨by repeat (first | (with_reducible first | exact HB.out | apply below_alloc | apply pw_below_drewN | apply below_drew1) | exact HB.out)⟩⟩
         ·rw [if_neg c17] at H
          have c17b0 : decide (65 ≤ a1) = false := decide_eq_false c17
          clear c17
          have H' := Aside0.mk H
          clear H
          go_wp2
          go_meet
          case rel => exact ⟨_, (false), (by first | rfl | (simp; done) | (simp [*]; done)), H', ⟨by have := HJ2.out; first | omega | exact Nat.le_refl _⟩, ⟨by repeat (first | (with_reducible first | exact HB.out | apply below_alloc | apply pw_below_drewN | apply below_drew1) | exact HB.out)⟩⟩
      ·rw [if_neg c12] at H
       have c12b0 : decide (48 ≤ a1) = false := decide_eq_false c12
       clear c12
       by_cases c18 : a1 ≥ 97
       ·rw [if_pos c18] at H
        have c18b0 : decide (97 ≤ a1) = true := decide_eq_true c18
        clear c18
        by_cases c19 : a1 ≤ 122
        ·rw [if_pos c19] at H
         have c19b0 : decide (a1 ≤ 122) = true := decide_eq_true c19
         clear c19
         have H' := Aside0.mk H
         clear H
         go_wp2
         go_meet
         case rel => exact ⟨_, (true), (by first | rfl | (simp; done) | (simp [*]; done)), H', ⟨by have := HJ2.out; first | omega | exact Nat.le_refl _⟩, ⟨by repeat (first | (with_reducible first | exact HB.out | apply below_alloc | apply pw_below_drewN | apply below_drew1) | exact HB.out)⟩⟩
        ·rw [if_neg c19] at H
         have c19b0 : decide (a1 ≤ 122) = false := decide_eq_false c19
         clear c19
         by_cases c20 : a1 ≥ 65
         ·rw [if_pos c20] at H
          have c20b0 : decide (65 ≤ a1) = true := decide_eq_true c20
          clear c20
          have H' := Aside0.mk H
          clear H
          go_wp2
          go_meet
          case rel => exact ⟨_, (decide (a1 ≤ 90)), (by first | rfl | (simp; done) | (simp [*]; done)), H', ⟨by have := HJ2.out; first | omega | exact Nat.le_refl _⟩, ⟨by repeat (first | (with_reducible first | exact HB.out | apply below_alloc | apply pw_below_drewN | apply below_drew1) | exact HB.out)⟩⟩
         ·rw [if_neg c20] at H
          have c20b0 : decide (65 ≤ a1) = false := decide_eq_false c20
          clear c20
          have H' := Aside0.mk H
          clear H
          go_wp2
          go_meet
          case rel => exact ⟨_, (false), (by first | rfl | (simp; done) | (simp [*]; done)), H', ⟨by have := HJ2.out; first | omega | exact Nat.le_refl _⟩, ⟨by repeat (first | (with_reducible first | exact HB.out | apply below_alloc | apply pw_below_drewN | apply below_drew1) | exact HB.out)⟩⟩
       ·rw [if_neg c18] at H
        have c18b0 : decide (97 ≤ a1) = false := decide_eq_false c18
        clear c18
        by_cases c21 : a1 ≥ 65
        ·rw [if_pos c21] at H
         have c21b0 : decide (65 ≤ a1) = true := decide_eq_true c21
         clear c21
         have H' := Aside0.mk H
         clear H
         go_wp2
         go_meet
         case rel => exact ⟨_, (decide (a1 ≤ 90)), (by first | rfl | (simp; done) | (simp [*]; done)), H', ⟨by have := HJ2.out; first | omega | exact Nat.le_refl _⟩, ⟨by repeat (first | (with_reducible first | exact HB.out | apply below_alloc | apply pw_below_drewN | apply below_drew1) | exact HB.out)⟩⟩
        ·rw [if_neg c21] at H
         have c21b0 : decide (65 ≤ a1) = false := decide_eq_false c21
         clear c21
         have H' := Aside0.mk H
         clear H
         go_wp2
         go_meet
         case rel => exact ⟨_, (false), (by first | rfl | (simp; done) | (simp [*]; done)), H', ⟨by have := HJ2.out; first | omega | exact Nat.le_refl _⟩, ⟨by repeat (first | (with_reducible first | exact HB.out | apply below_alloc | apply pw_below_drewN | apply below_drew1) | exact HB.out)⟩⟩
    case rest =>
     clear HC10
     try clear c1
     try clear c2
     try clear p2
     try clear c4
     try clear c4b0
     try clear c4b1
     try clear c4b2
     try clear c7
     try clear c11
     try clear c11b0
     try clear c11b1
     try clear c11b2
     try clear c12
     try clear c12b0
     try clear c13
     try clear c13b0
     try clear c14
     try clear c14b0
     try clear c15
     try clear c15b0
     try clear c16
     try clear c16b0
     try clear c17
     try clear c17b0
     try clear c18
     try clear c18b0
     try clear c19
     try clear c19b0
     try clear c20
     try clear c20b0
     try clear c21
     try clear c21b0
     try clear p2
     obtain ⟨kq, x5_9, rfl, HA, HJ9, HB⟩ := hcut
     cases kq with
     | zero => exact absurd HA.out (by simp [law09_LexNamesExtend.j1])
     | succ kj9 =>
      have H := HA.out
      clear HA
      simp only [law09_LexNamesExtend.j1] at H
      have H' := Aside0.mk H
      clear H
      go_wp2
      go_loopg [44] kj9 (fun kq v44 w' => ∃ (x44_3 : Int), v44 = .int .i64 x44_3 ∧ Aside0 (law09_LexNamesExtend.l0 kq a0 a1 x5_9 (a0.size : Int) x44_3 = some r) ∧ Aside0 (kq ≤ kj9) ∧ Aside0 (Below w.heap.size w w'))
      case atStart => exact ⟨(0), (by first | rfl | (simp; done) | (simp [*]; done)), H', ⟨Nat.le_refl _⟩, ⟨by repeat (first | (with_reducible first | exact HB.out | apply below_alloc | apply pw_below_drewN | apply below_drew1) | exact HB.out)⟩⟩
      case round =>
       clear H'
       try clear c1
       try clear c2
       try clear p2
       try clear c4
       try clear c4b0
       try clear c4b1
       try clear c4b2
       try clear c7
       try clear c11
       try clear c11b0
       try clear c11b1
       try clear c11b2
       try clear c12
       try clear c12b0
       try clear c13
       try clear c13b0
       try clear c14
       try clear c14b0
       try clear c15
       try clear c15b0
       try clear c16
       try clear c16b0
       try clear c17
       try clear c17b0
       try clear c18
       try clear c18b0
       try clear c19
       try clear c19b0
       try clear c20
       try clear c20b0
       try clear c21
       try clear c21b0
       try clear p2
       obtain ⟨x44_3, rfl, HA, HK3, HB⟩ := hrel
       cases gk with
       | zero => exact absurd HA.out (by simp [law09_LexNamesExtend.l0])
       | succ k3 =>
        have H := HA.out
        clear HA
        simp only [law09_LexNamesExtend.l0] at H
        by_cases c22 : x44_3 < (a0.size : Int)
        ·rw [if_pos c22] at H
         have c22b0 : decide (x44_3 < (a0.size : Int)) = true := decide_eq_true c22
         clear c22
         by_cases c23 : x44_3 > 0
         ·rw [if_pos c23] at H
          have c23b0 : decide (0 < x44_3) = true := decide_eq_true c23
          clear c23
          by_cases c24 : 0 ≤ x44_3
          ·rw [if_pos c24] at H
           have c24b0 := eq_true c24
           have c24b1 : decide (0 ≤ x44_3) = true := decide_eq_true c24
           clear c24
           by_cases c25 : x44_3 ≤ (a0.size : Int)
           ·rw [if_pos c25] at H
            have c25b0 := eq_true c25
            have c25b1 : decide (x44_3 ≤ (a0.size : Int)) = true := decide_eq_true c25
            clear c25
            replace H := Option.bind_eq_some_iff.mp H
            obtain ⟨t141, A260, H⟩ := H
            replace H : (if t141 = true then (law09_LexNamesExtend.l0 k3 a0 a1 x5_9 (a0.size : Int) (wrap64 (x44_3 + 1))) else (some false)) = some r := H
            have A26 := Aside0.mk A260
            clear A260
            by_cases c27 : t141 = true
            ·subst c27
             have H1 : (law09_LexNamesExtend.l0 k3 a0 a1 x5_9 (a0.size : Int) (wrap64 (x44_3 + 1))) = some r := by rw [if_pos rfl] at H; exact H
             clear H
             have H := H1
             clear H1
             have H' := Aside0.mk H
             clear H
             go_wp2_with (first | (go_at_call 19; (with_reducible refine (lex_IsName.calls (a0.extract 0 (x44_3 : Int).toNat) true _ A26.out).mono ?_); rintro e w28 ⟨rfl, hb⟩; have n0_ := Aside0.mk (below_step (by repeat (first | (with_reducible first | exact HB.out | apply below_alloc | apply pw_below_drewN | apply below_drew1) | exact HB.out)) hb); clear HB; have HB := n0_; clear n0_; (try clear hb); (try clear hb2); (try clear hk); (try clear hi)))
             go_roundg k3
             case measure => have := HJ2.out; have := HJ9.out; have := HK3.out; omega
             case rel => exact ⟨(wrap64 (x44_3 + 1)), (by first | rfl | (simp; done) | (simp [*]; done)), H', ⟨by have := HJ2.out; have := HJ9.out; have := HK3.out; omega⟩, ⟨by repeat (first | (with_reducible first | exact HB.out | apply below_alloc | apply pw_below_drewN | apply below_drew1) | exact HB.out)⟩⟩
            ·replace c27 := Bool.eq_false_iff.mpr c27
             subst c27
             have H1 : (some false) = some r := by rw [if_neg (show ¬ (false = true) by decide)] at H; exact H
             clear H
             have H := H1
             clear H1
             obtain rfl := Option.some.inj H
             go_wp2_with (first | (go_at_call 19; (with_reducible refine (lex_IsName.calls (a0.extract 0 (x44_3 : Int).toNat) false _ A26.out).mono ?_); rintro e w29 ⟨rfl, hb⟩; have n0_ := Aside0.mk (below_step (by repeat (first | (with_reducible first | exact HB.out | apply below_alloc | apply pw_below_drewN | apply below_drew1) | exact HB.out)) hb); clear HB; have HB := n0_; clear n0_; (try clear hb); (try clear hb2); (try clear hk); (try clear hi)))
             go_ret
             exact ⟨by first | rfl | (simp [errW_none, errW_some] <;> rfl) | (simp [*, errW_none, errW_some] <;> rfl), by repeat (first | (with_reducible first | exact HB.out | apply below_alloc | apply pw_below_drewN | apply below_drew1) | exact HB.out)⟩
           ·rw [if_neg c25] at H
            exact absurd H (by simp)
          ·rw [if_neg c24] at H
           exact absurd H (by simp)
         ·rw [if_neg c23] at H
          have c23b0 : decide (0 < x44_3) = false := decide_eq_false c23
          clear c23
          have H' := Aside0.mk H
          clear H
          go_wp2
          go_roundg k3
          case measure => have := HJ2.out; have := HJ9.out; have := HK3.out; omega
          case rel => exact ⟨(wrap64 (x44_3 + 1)), (by first | rfl | (simp; done) | (simp [*]; done)), H', ⟨by have := HJ2.out; have := HJ9.out; have := HK3.out; omega⟩, ⟨by repeat (first | (with_reducible first | exact HB.out | apply below_alloc | apply pw_below_drewN | apply below_drew1) | exact HB.out)⟩⟩
        ·rw [if_neg c22] at H
         have c22b0 : decide (x44_3 < (a0.size : Int)) = false := decide_eq_false c22
         clear c22
         replace H := Option.bind_eq_some_iff.mp H
         obtain ⟨t142, A300, H⟩ := H
         replace H : (if t142 = true then (if (a0.size : Int) ≥ 1 then (if (a0.size : Int) ≤ 16 then ((some (([a1] : List Int) : List Int)).bind fun y143 => (if a0.size + (strOfNums y143).size ≤ 9223372036854775807 then ((lex_IsName.f (a0 ++ (strOfNums y143))).bind fun t146 => (if x5_9 = true then (if (t146 == (decide ((a0.size : Int) < 16))) = true then (if 1 + a0.size ≤ 9223372036854775807 then ((lex_IsName.f ((⟨#[48]⟩ : ByteArray) ++ a0)).bind fun t147 => (some (!t147))) else (none)) else (some false)) else (if (t146 == false) = true then (if 1 + a0.size ≤ 9223372036854775807 then ((lex_IsName.f ((⟨#[48]⟩ : ByteArray) ++ a0)).bind fun t148 => (some (!t148))) else (none)) else (some false)))) else (none))) else (some false)) else (some false)) else (some false)) = some r := H
         have A30 := Aside0.mk A300
         clear A300
         by_cases c31 : t142 = true
         ·subst c31
          have H1 : (if (a0.size : Int) ≥ 1 then (if (a0.size : Int) ≤ 16 then ((some (([a1] : List Int) : List Int)).bind fun y143 => (if a0.size + (strOfNums y143).size ≤ 9223372036854775807 then ((lex_IsName.f (a0 ++ (strOfNums y143))).bind fun t146 => (if x5_9 = true then (if (t146 == (decide ((a0.size : Int) < 16))) = true then (if 1 + a0.size ≤ 9223372036854775807 then ((lex_IsName.f ((⟨#[48]⟩ : ByteArray) ++ a0)).bind fun t147 => (some (!t147))) else (none)) else (some false)) else (if (t146 == false) = true then (if 1 + a0.size ≤ 9223372036854775807 then ((lex_IsName.f ((⟨#[48]⟩ : ByteArray) ++ a0)).bind fun t148 => (some (!t148))) else (none)) else (some false)))) else (none))) else (some false)) else (some false)) = some r := by rw [if_pos rfl] at H; exact H
          clear H
          have H := H1
          clear H1
          by_cases c32 : (a0.size : Int) ≥ 1
          ·rw [if_pos c32] at H
           have c32b0 : decide (1 ≤ (a0.size : Int)) = true := decide_eq_true c32
           have c32b1 : decide (1 ≤ a0.size) = true := decide_eq_true (by omega)
           clear c32
           by_cases c33 : (a0.size : Int) ≤ 16
           ·rw [if_pos c33] at H
            have c33b0 : decide ((a0.size : Int) ≤ 16) = true := decide_eq_true c33
            have c33b1 : decide (a0.size ≤ 16) = true := decide_eq_true (by omega)
            clear c33
            obtain ⟨y143, hy143⟩ : ∃ y_ : List Int, y_ = (([a1] : List Int)) := ⟨_, rfl⟩
            replace H : (if a0.size + (strOfNums y143).size ≤ 9223372036854775807 then ((lex_IsName.f (a0 ++ (strOfNums y143))).bind fun t146 => (if x5_9 = true then (if (t146 == (decide ((a0.size : Int) < 16))) = true then (if 1 + a0.size ≤ 9223372036854775807 then ((lex_IsName.f ((⟨#[48]⟩ : ByteArray) ++ a0)).bind fun t147 => (some (!t147))) else (none)) else (some false)) else (if (t146 == false) = true then (if 1 + a0.size ≤ 9223372036854775807 then ((lex_IsName.f ((⟨#[48]⟩ : ByteArray) ++ a0)).bind fun t148 => (some (!t148))) else (none)) else (some false)))) else (none)) = some r := by first | (rw [hy143]; with_reducible exact H) | (have H2_ := (Option.bind_some _ _).symm.trans H; rw [hy143]; with_reducible exact H2_) | (have H2_ := (Option.bind_some _ _).symm.trans H; with_reducible exact H2_) | with_reducible exact H | (rw [hy143]; exact H) | exact H
            have Ny143 := Aside0.mk hy143
            clear hy143
            by_cases c34 : a0.size + (strOfNums y143).size ≤ 9223372036854775807
            ·rw [if_pos c34] at H
             have c34b0 := eq_true c34
             have c34b1 : decide (a0.size + (strOfNums y143).size ≤ 9223372036854775807) = true := decide_eq_true c34
             try have c34b2 : (9223372036854775807 < a0.size + (strOfNums y143).size) = False := eq_false (Nat.not_lt.2 c34)
             replace H := Option.bind_eq_some_iff.mp H
             obtain ⟨t146, A350, H⟩ := H
             replace H : (if x5_9 = true then (if (t146 == (decide ((a0.size : Int) < 16))) = true then (if 1 + a0.size ≤ 9223372036854775807 then ((lex_IsName.f ((⟨#[48]⟩ : ByteArray) ++ a0)).bind fun t147 => (some (!t147))) else (none)) else (some false)) else (if (t146 == false) = true then (if 1 + a0.size ≤ 9223372036854775807 then ((lex_IsName.f ((⟨#[48]⟩ : ByteArray) ++ a0)).bind fun t148 => (some (!t148))) else (none)) else (some false))) = some r := H
             have A35 := Aside0.mk A350
             clear A350
             by_cases c36 : x5_9 = true
             ·subst c36
              have H1 : (if (t146 == (decide ((a0.size : Int) < 16))) = true then (if 1 + a0.size ≤ 9223372036854775807 then ((lex_IsName.f ((⟨#[48]⟩ : ByteArray) ++ a0)).bind fun t147 => (some (!t147))) else (none)) else (some false)) = some r := by rw [if_pos rfl] at H; exact H
              clear H
              have H := H1
              clear H1
              by_cases c37 : (t146 == (decide ((a0.size : Int) < 16))) = true
              ·rw [if_pos c37] at H
               have c37b0 : (t146 == (decide ((a0.size : Int) < 16))) = true := c37
               (try (have c37b1 : decide (t146 = (decide ((a0.size : Int) < 16))) = true := by simpa using c37))
               (try (have c37b2 : (t146 == (decide ((a0.size : Int) < 16))) = true := by simpa using c37))
               clear c37
               by_cases c38 : 1 + a0.size ≤ 9223372036854775807
               ·rw [if_pos c38] at H
                have c38b0 := eq_true c38
                have c38b1 : decide (1 + a0.size ≤ 9223372036854775807) = true := decide_eq_true c38
                try have c38b2 : (9223372036854775807 < 1 + a0.size) = False := eq_false (Nat.not_lt.2 c38)
                replace H := Option.bind_eq_some_iff.mp H
                obtain ⟨t147, A390, H⟩ := H
                replace H : (some (!t147)) = some r := H
                have A39 := Aside0.mk A390
                clear A390
                obtain rfl := Option.some.inj H
                go_wp2_with (first | ((with_reducible refine gate_callee (f := 15) rfl ?_); refine goesL_ (some 57) rfl rfl Tryd.func15 (by kernel_rfl) rfl #[] rfl (by (try simp only [List.map_toArray, List.map_cons, List.map_nil]); first | done | rfl | (simp only [List.length_drop, List.length_take]; rfl)) ?_; (with_reducible refine (law09_alive.calls  true _ (LaidW.below (m' := 9) hL rfl (by repeat (first | (with_reducible first | exact HB.out | apply below_alloc | apply pw_below_drewN | apply below_drew1) | exact HB.out))) A30.out).mono ?_); rintro e w40 ⟨rfl, hb⟩; refine ⟨_, rfl, ?_⟩; have n0_ := Aside0.mk (below_step (by repeat (first | (with_reducible first | exact HB.out | apply below_alloc | apply pw_below_drewN | apply below_drew1) | exact HB.out)) hb); clear HB; have HB := n0_; clear n0_; (try clear hb); (try clear hb2); (try clear hk); (try clear hi)) | ((with_reducible refine gate_dst (N := 71) rfl ?_); (try (refine gate_guard (by rfl) ?_; dsimp only)); refine Kd.R_lit (Kd.int .u8) _ 5 ?hg (N := 71) ?hd (xs := ([a1] : List Int)) (inner := [.int .u8 a1]) (ok := fun _ => True) (okp := fun _ => True) ?hr ?hp (fun _ hk => hk) trivial (Below.refl _ _) (Nat.le_refl _) (by simp) ?_; (case hd => rfl); (case hg => rfl); (case hr => first | (go_simp; done) | (go_simp; rfl)); (case hp => exact (Reps.one (show Kd.M (Kd.int .u8) _ _ _ a1 [.int .u8 a1] from rfl) (Reps.none _ _))); intro v144 w41 ho42 hb hg_ hnew_; clear hg_ hnew_; (first | rw [← Ny143.out] at ho42 | (simp only [Int.reduceToNat] at ho42; rw [← Ny143.out] at ho42)); have n0_ := Aside0.mk (Kd.R_lower ho42 (below_size (by repeat (first | (with_reducible first | exact HB.out | apply below_alloc | apply pw_below_drewN | apply below_drew1) | exact HB.out)))); have n1_ := Aside0.mk (below_step (by repeat (first | (with_reducible first | exact HB.out | apply below_alloc | apply pw_below_drewN | apply below_drew1) | exact HB.out)) hb); clear HB; have HO145 := n0_; have HB := n1_; clear n0_ n1_; clear hb ho42; have hcv43 := own_string (P := Tryd.prog) Tryd.underlying36 Tryd.underlying5 Tryd.underlying9 (Kd.own_of_R HO145.out)) | (go_at_call 19; (with_reducible refine (lex_IsName.calls (a0 ++ (strOfNums y143)) t146 _ A35.out).mono ?_); rintro e w44 ⟨rfl, hb⟩; have n0_ := Aside0.mk (Kd.R_below (by (with_reducible repeat (first | apply Kd.R_alloc | apply Kd.R_drewN | apply Kd.R_drew)); exact HO145.out) hb); have n1_ := Aside0.mk (below_step (by repeat (first | (with_reducible first | exact HB.out | apply below_alloc | apply pw_below_drewN | apply below_drew1) | exact HB.out)) hb); clear HO145; clear HB; have HO145 := n0_; have HB := n1_; clear n0_ n1_; (try clear hb); (try clear hb2); (try clear hk); (try clear hi)) | (go_at_call 19; (with_reducible refine (lex_IsName.calls ((⟨#[48]⟩ : ByteArray) ++ a0) t147 _ A39.out).mono ?_); rintro e w45 ⟨rfl, hb⟩; have n0_ := Aside0.mk (Kd.R_below (by (with_reducible repeat (first | apply Kd.R_alloc | apply Kd.R_drewN | apply Kd.R_drew)); exact HO145.out) hb); have n1_ := Aside0.mk (below_step (by repeat (first | (with_reducible first | exact HB.out | apply below_alloc | apply pw_below_drewN | apply below_drew1) | exact HB.out)) hb); clear HO145; clear HB; have HO145 := n0_; have HB := n1_; clear n0_ n1_; (try clear hb); (try clear hb2); (try clear hk); (try clear hi)))
                go_ret
                exact ⟨by first | rfl | (simp [errW_none, errW_some] <;> rfl) | (simp [*, errW_none, errW_some] <;> rfl), by repeat (first | (with_reducible first | exact HB.out | apply below_alloc | apply pw_below_drewN | apply below_drew1) | exact HB.out)⟩
               ·rw [if_neg c38] at H
                exact absurd H (by simp)
              ·rw [if_neg c37] at H
               have c37b0 : (t146 == (decide ((a0.size : Int) < 16))) = false := by simpa using c37
               (try (have c37b1 : decide (t146 = (decide ((a0.size : Int) < 16))) = false := by simpa using c37))
               (try (have c37b2 : (t146 == (decide ((a0.size : Int) < 16))) = false := by simpa using c37))
               (try (have c37b3 : ¬ (t146 = (decide ((a0.size : Int) < 16))) := by simpa using c37))
               clear c37
               obtain rfl := Option.some.inj H
               go_wp2_with (first | ((with_reducible refine gate_callee (f := 15) rfl ?_); refine goesL_ (some 57) rfl rfl Tryd.func15 (by kernel_rfl) rfl #[] rfl (by (try simp only [List.map_toArray, List.map_cons, List.map_nil]); first | done | rfl | (simp only [List.length_drop, List.length_take]; rfl)) ?_; (with_reducible refine (law09_alive.calls  true _ (LaidW.below (m' := 9) hL rfl (by repeat (first | (with_reducible first | exact HB.out | apply below_alloc | apply pw_below_drewN | apply below_drew1) | exact HB.out))) A30.out).mono ?_); rintro e w46 ⟨rfl, hb⟩; refine ⟨_, rfl, ?_⟩; have n0_ := Aside0.mk (below_step (by repeat (first | (with_reducible first | exact HB.out | apply below_alloc | apply pw_below_drewN | apply below_drew1) | exact HB.out)) hb); clear HB; have HB := n0_; clear n0_; (try clear hb); (try clear hb2); (try clear hk); (try clear hi)) | ((with_reducible refine gate_dst (N := 71) rfl ?_); (try (refine gate_guard (by rfl) ?_; dsimp only)); refine Kd.R_lit (Kd.int .u8) _ 5 ?hg (N := 71) ?hd (xs := ([a1] : List Int)) (inner := [.int .u8 a1]) (ok := fun _ => True) (okp := fun _ => True) ?hr ?hp (fun _ hk => hk) trivial (Below.refl _ _) (Nat.le_refl _) (by simp) ?_; (case hd => rfl); (case hg => rfl); (case hr => first | (go_simp; done) | (go_simp; rfl)); (case hp => exact (Reps.one (show Kd.M (Kd.int .u8) _ _ _ a1 [.int .u8 a1] from rfl) (Reps.none _ _))); intro v144 w47 ho48 hb hg_ hnew_; clear hg_ hnew_; (first | rw [← Ny143.out] at ho48 | (simp only [Int.reduceToNat] at ho48; rw [← Ny143.out] at ho48)); have n0_ := Aside0.mk (Kd.R_lower ho48 (below_size (by repeat (first | (with_reducible first | exact HB.out | apply below_alloc | apply pw_below_drewN | apply below_drew1) | exact HB.out)))); have n1_ := Aside0.mk (below_step (by repeat (first | (with_reducible first | exact HB.out | apply below_alloc | apply pw_below_drewN | apply below_drew1) | exact HB.out)) hb); clear HB; have HO145 := n0_; have HB := n1_; clear n0_ n1_; clear hb ho48; have hcv49 := own_string (P := Tryd.prog) Tryd.underlying36 Tryd.underlying5 Tryd.underlying9 (Kd.own_of_R HO145.out)) | (go_at_call 19; (with_reducible refine (lex_IsName.calls (a0 ++ (strOfNums y143)) t146 _ A35.out).mono ?_); rintro e w50 ⟨rfl, hb⟩; have n0_ := Aside0.mk (Kd.R_below (by (with_reducible repeat (first | apply Kd.R_alloc | apply Kd.R_drewN | apply Kd.R_drew)); exact HO145.out) hb); have n1_ := Aside0.mk (below_step (by repeat (first | (with_reducible first | exact HB.out | apply below_alloc | apply pw_below_drewN | apply below_drew1) | exact HB.out)) hb); clear HO145; clear HB; have HO145 := n0_; have HB := n1_; clear n0_ n1_; (try clear hb); (try clear hb2); (try clear hk); (try clear hi)))
               go_ret
               exact ⟨by first | rfl | (simp [errW_none, errW_some] <;> rfl) | (simp [*, errW_none, errW_some] <;> rfl), by repeat (first | (with_reducible first | exact HB.out | apply below_alloc | apply pw_below_drewN | apply below_drew1) | exact HB.out)⟩
             ·replace c36 := Bool.eq_false_iff.mpr c36
              subst c36
              have H1 : (if (t146 == false) = true then (if 1 + a0.size ≤ 9223372036854775807 then ((lex_IsName.f ((⟨#[48]⟩ : ByteArray) ++ a0)).bind fun t148 => (some (!t148))) else (none)) else (some false)) = some r := by rw [if_neg (show ¬ (false = true) by decide)] at H; exact H
              clear H
              have H := H1
              clear H1
              by_cases c51 : (t146 == false) = true
              ·rw [if_pos c51] at H
               have c51b0 : (t146 == false) = true := c51
               (try (have c51b1 : decide (t146 = false) = true := by simpa using c51))
               (try (have c51b2 : (t146 == false) = true := by simpa using c51))
               clear c51
               by_cases c52 : 1 + a0.size ≤ 9223372036854775807
               ·rw [if_pos c52] at H
                have c52b0 := eq_true c52
                have c52b1 : decide (1 + a0.size ≤ 9223372036854775807) = true := decide_eq_true c52
                try have c52b2 : (9223372036854775807 < 1 + a0.size) = False := eq_false (Nat.not_lt.2 c52)
                replace H := Option.bind_eq_some_iff.mp H
                obtain ⟨t148, A530, H⟩ := H
                replace H : (some (!t148)) = some r := H
                have A53 := Aside0.mk A530
                clear A530
                obtain rfl := Option.some.inj H
                go_wp2_with (first | ((with_reducible refine gate_callee (f := 15) rfl ?_); refine goesL_ (some 57) rfl rfl Tryd.func15 (by kernel_rfl) rfl #[] rfl (by (try simp only [List.map_toArray, List.map_cons, List.map_nil]); first | done | rfl | (simp only [List.length_drop, List.length_take]; rfl)) ?_; (with_reducible refine (law09_alive.calls  true _ (LaidW.below (m' := 9) hL rfl (by repeat (first | (with_reducible first | exact HB.out | apply below_alloc | apply pw_below_drewN | apply below_drew1) | exact HB.out))) A30.out).mono ?_); rintro e w54 ⟨rfl, hb⟩; refine ⟨_, rfl, ?_⟩; have n0_ := Aside0.mk (below_step (by repeat (first | (with_reducible first | exact HB.out | apply below_alloc | apply pw_below_drewN | apply below_drew1) | exact HB.out)) hb); clear HB; have HB := n0_; clear n0_; (try clear hb); (try clear hb2); (try clear hk); (try clear hi)) | ((with_reducible refine gate_dst (N := 71) rfl ?_); (try (refine gate_guard (by rfl) ?_; dsimp only)); refine Kd.R_lit (Kd.int .u8) _ 5 ?hg (N := 71) ?hd (xs := ([a1] : List Int)) (inner := [.int .u8 a1]) (ok := fun _ => True) (okp := fun _ => True) ?hr ?hp (fun _ hk => hk) trivial (Below.refl _ _) (Nat.le_refl _) (by simp) ?_; (case hd => rfl); (case hg => rfl); (case hr => first | (go_simp; done) | (go_simp; rfl)); (case hp => exact (Reps.one (show Kd.M (Kd.int .u8) _ _ _ a1 [.int .u8 a1] from rfl) (Reps.none _ _))); intro v144 w55 ho56 hb hg_ hnew_; clear hg_ hnew_; (first | rw [← Ny143.out] at ho56 | (simp only [Int.reduceToNat] at ho56; rw [← Ny143.out] at ho56)); have n0_ := Aside0.mk (Kd.R_lower ho56 (below_size (by repeat (first | (with_reducible first | exact HB.out | apply below_alloc | apply pw_below_drewN | apply below_drew1) | exact HB.out)))); have n1_ := Aside0.mk (below_step (by repeat (first | (with_reducible first | exact HB.out | apply below_alloc | apply pw_below_drewN | apply below_drew1) | exact HB.out)) hb); clear HB; have HO145 := n0_; have HB := n1_; clear n0_ n1_; clear hb ho56; have hcv57 := own_string (P := Tryd.prog) Tryd.underlying36 Tryd.underlying5 Tryd.underlying9 (Kd.own_of_R HO145.out)) | (go_at_call 19; (with_reducible refine (lex_IsName.calls (a0 ++ (strOfNums y143)) t146 _ A35.out).mono ?_); rintro e w58 ⟨rfl, hb⟩; have n0_ := Aside0.mk (Kd.R_below (by (with_reducible repeat (first | apply Kd.R_alloc | apply Kd.R_drewN | apply Kd.R_drew)); exact HO145.out) hb); have n1_ := Aside0.mk (below_step (by repeat (first | (with_reducible first | exact HB.out | apply below_alloc | apply pw_below_drewN | apply below_drew1) | exact HB.out)) hb); clear HO145; clear HB; have HO145 := n0_; have HB := n1_; clear n0_ n1_; (try clear hb); (try clear hb2); (try clear hk); (try clear hi)) | (go_at_call 19; (with_reducible refine (lex_IsName.calls ((⟨#[48]⟩ : ByteArray) ++ a0) t148 _ A53.out).mono ?_); rintro e w59 ⟨rfl, hb⟩; have n0_ := Aside0.mk (Kd.R_below (by (with_reducible repeat (first | apply Kd.R_alloc | apply Kd.R_drewN | apply Kd.R_drew)); exact HO145.out) hb); have n1_ := Aside0.mk (below_step (by repeat (first | (with_reducible first | exact HB.out | apply below_alloc | apply pw_below_drewN | apply below_drew1) | exact HB.out)) hb); clear HO145; clear HB; have HO145 := n0_; have HB := n1_; clear n0_ n1_; (try clear hb); (try clear hb2); (try clear hk); (try clear hi)))
                go_ret
                exact ⟨by first | rfl | (simp [errW_none, errW_some] <;> rfl) | (simp [*, errW_none, errW_some] <;> rfl), by repeat (first | (with_reducible first | exact HB.out | apply below_alloc | apply pw_below_drewN | apply below_drew1) | exact HB.out)⟩
               ·rw [if_neg c52] at H
                exact absurd H (by simp)
              ·rw [if_neg c51] at H
               have c51b0 : (t146 == false) = false := by simpa using c51
               (try (have c51b1 : decide (t146 = false) = false := by simpa using c51))
               (try (have c51b2 : (t146 == false) = false := by simpa using c51))
               (try (have c51b3 : ¬ (t146 = false) := by simpa using c51))
               clear c51
               obtain rfl := Option.some.inj H
               go_wp2_with (first | ((with_reducible refine gate_callee (f := 15) rfl ?_); refine goesL_ (some 57) rfl rfl Tryd.func15 (by kernel_rfl) rfl #[] rfl (by (try simp only [List.map_toArray, List.map_cons, List.map_nil]); first | done | rfl | (simp only [List.length_drop, List.length_take]; rfl)) ?_; (with_reducible refine (law09_alive.calls  true _ (LaidW.below (m' := 9) hL rfl (by repeat (first | (with_reducible first | exact HB.out | apply below_alloc | apply pw_below_drewN | apply below_drew1) | exact HB.out))) A30.out).mono ?_); rintro e w60 ⟨rfl, hb⟩; refine ⟨_, rfl, ?_⟩; have n0_ := Aside0.mk (below_step (by repeat (first | (with_reducible first | exact HB.out | apply below_alloc | apply pw_below_drewN | apply below_drew1) | exact HB.out)) hb); clear HB; have HB := n0_; clear n0_; (try clear hb); (try clear hb2); (try clear hk); (try clear hi)) | ((with_reducible refine gate_dst (N := 71) rfl ?_); (try (refine gate_guard (by rfl) ?_; dsimp only)); refine Kd.R_lit (Kd.int .u8) _ 5 ?hg (N := 71) ?hd (xs := ([a1] : List Int)) (inner := [.int .u8 a1]) (ok := fun _ => True) (okp := fun _ => True) ?hr ?hp (fun _ hk => hk) trivial (Below.refl _ _) (Nat.le_refl _) (by simp) ?_; (case hd => rfl); (case hg => rfl); (case hr => first | (go_simp; done) | (go_simp; rfl)); (case hp => exact (Reps.one (show Kd.M (Kd.int .u8) _ _ _ a1 [.int .u8 a1] from rfl) (Reps.none _ _))); intro v144 w61 ho62 hb hg_ hnew_; clear hg_ hnew_; (first | rw [← Ny143.out] at ho62 | (simp only [Int.reduceToNat] at ho62; rw [← Ny143.out] at ho62)); have n0_ := Aside0.mk (Kd.R_lower ho62 (below_size (by repeat (first | (with_reducible first | exact HB.out | apply below_alloc | apply pw_below_drewN | apply below_drew1) | exact HB.out)))); have n1_ := Aside0.mk (below_step (by repeat (first | (with_reducible first | exact HB.out | apply below_alloc | apply pw_below_drewN | apply below_drew1) | exact HB.out)) hb); clear HB; have HO145 := n0_; have HB := n1_; clear n0_ n1_; clear hb ho62; have hcv63 := own_string (P := Tryd.prog) Tryd.underlying36 Tryd.underlying5 Tryd.underlying9 (Kd.own_of_R HO145.out)) | (go_at_call 19; (with_reducible refine (lex_IsName.calls (a0 ++ (strOfNums y143)) t146 _ A35.out).mono ?_); rintro e w64 ⟨rfl, hb⟩; have n0_ := Aside0.mk (Kd.R_below (by (with_reducible repeat (first | apply Kd.R_alloc | apply Kd.R_drewN | apply Kd.R_drew)); exact HO145.out) hb); have n1_ := Aside0.mk (below_step (by repeat (first | (with_reducible first | exact HB.out | apply below_alloc | apply pw_below_drewN | apply below_drew1) | exact HB.out)) hb); clear HO145; clear HB; have HO145 := n0_; have HB := n1_; clear n0_ n1_; (try clear hb); (try clear hb2); (try clear hk); (try clear hi)))
               go_ret
               exact ⟨by first | rfl | (simp [errW_none, errW_some] <;> rfl) | (simp [*, errW_none, errW_some] <;> rfl), by repeat (first | (with_reducible first | exact HB.out | apply below_alloc | apply pw_below_drewN | apply below_drew1) | exact HB.out)⟩
            ·rw [if_neg c34] at H
             exact absurd H (by simp)
           ·rw [if_neg c33] at H
            have c33b0 : decide ((a0.size : Int) ≤ 16) = false := decide_eq_false c33
            have c33b1 : decide (a0.size ≤ 16) = false := decide_eq_false (by omega)
            clear c33
            obtain rfl := Option.some.inj H
            go_wp2_with (first | ((with_reducible refine gate_callee (f := 15) rfl ?_); refine goesL_ (some 57) rfl rfl Tryd.func15 (by kernel_rfl) rfl #[] rfl (by (try simp only [List.map_toArray, List.map_cons, List.map_nil]); first | done | rfl | (simp only [List.length_drop, List.length_take]; rfl)) ?_; (with_reducible refine (law09_alive.calls  true _ (LaidW.below (m' := 9) hL rfl (by repeat (first | (with_reducible first | exact HB.out | apply below_alloc | apply pw_below_drewN | apply below_drew1) | exact HB.out))) A30.out).mono ?_); rintro e w65 ⟨rfl, hb⟩; refine ⟨_, rfl, ?_⟩; have n0_ := Aside0.mk (below_step (by repeat (first | (with_reducible first | exact HB.out | apply below_alloc | apply pw_below_drewN | apply below_drew1) | exact HB.out)) hb); clear HB; have HB := n0_; clear n0_; (try clear hb); (try clear hb2); (try clear hk); (try clear hi)))
            go_ret
            exact ⟨by first | rfl | (simp [errW_none, errW_some] <;> rfl) | (simp [*, errW_none, errW_some] <;> rfl), by repeat (first | (with_reducible first | exact HB.out | apply below_alloc | apply pw_below_drewN | apply below_drew1) | exact HB.out)⟩
          ·rw [if_neg c32] at H
           have c32b0 : decide (1 ≤ (a0.size : Int)) = false := decide_eq_false c32
           have c32b1 : decide (1 ≤ a0.size) = false := decide_eq_false (by omega)
           clear c32
           obtain rfl := Option.some.inj H
           go_wp2_with (first | ((with_reducible refine gate_callee (f := 15) rfl ?_); refine goesL_ (some 57) rfl rfl Tryd.func15 (by kernel_rfl) rfl #[] rfl (by (try simp only [List.map_toArray, List.map_cons, List.map_nil]); first | done | rfl | (simp only [List.length_drop, List.length_take]; rfl)) ?_; (with_reducible refine (law09_alive.calls  true _ (LaidW.below (m' := 9) hL rfl (by repeat (first | (with_reducible first | exact HB.out | apply below_alloc | apply pw_below_drewN | apply below_drew1) | exact HB.out))) A30.out).mono ?_); rintro e w66 ⟨rfl, hb⟩; refine ⟨_, rfl, ?_⟩; have n0_ := Aside0.mk (below_step (by repeat (first | (with_reducible first | exact HB.out | apply below_alloc | apply pw_below_drewN | apply below_drew1) | exact HB.out)) hb); clear HB; have HB := n0_; clear n0_; (try clear hb); (try clear hb2); (try clear hk); (try clear hi)))
           go_ret
           exact ⟨by first | rfl | (simp [errW_none, errW_some] <;> rfl) | (simp [*, errW_none, errW_some] <;> rfl), by repeat (first | (with_reducible first | exact HB.out | apply below_alloc | apply pw_below_drewN | apply below_drew1) | exact HB.out)⟩
         ·replace c31 := Bool.eq_false_iff.mpr c31
          subst c31
          have H1 : (some false) = some r := by rw [if_neg (show ¬ (false = true) by decide)] at H; exact H
          clear H
          have H := H1
          clear H1
          obtain rfl := Option.some.inj H
          go_wp2_with (first | ((with_reducible refine gate_callee (f := 15) rfl ?_); refine goesL_ (some 57) rfl rfl Tryd.func15 (by kernel_rfl) rfl #[] rfl (by (try simp only [List.map_toArray, List.map_cons, List.map_nil]); first | done | rfl | (simp only [List.length_drop, List.length_take]; rfl)) ?_; (with_reducible refine (law09_alive.calls  false _ (LaidW.below (m' := 9) hL rfl (by repeat (first | (with_reducible first | exact HB.out | apply below_alloc | apply pw_below_drewN | apply below_drew1) | exact HB.out))) A30.out).mono ?_); rintro e w67 ⟨rfl, hb⟩; refine ⟨_, rfl, ?_⟩; have n0_ := Aside0.mk (below_step (by repeat (first | (with_reducible first | exact HB.out | apply below_alloc | apply pw_below_drewN | apply below_drew1) | exact HB.out)) hb); clear HB; have HB := n0_; clear n0_; (try clear hb); (try clear hb2); (try clear hk); (try clear hi)))
          go_ret
          exact ⟨by first | rfl | (simp [errW_none, errW_some] <;> rfl) | (simp [*, errW_none, errW_some] <;> rfl), by repeat (first | (with_reducible first | exact HB.out | apply below_alloc | apply pw_below_drewN | apply below_drew1) | exact HB.out)⟩

/-- THE ONE PURE STATEMENT of law09_LexNamesExtend: yours. -/
def law09_LexNamesExtend.Pure : Prop := ∀ (a0 : ByteArray) (a1 : Int), a0.size ≤ 140737488351232 → (Lit.int .u8 a1).wf = true → ∃ k, law09_LexNamesExtend.f k a0 a1 = some true
theorem law09_LexNamesExtend.walk (P : law09_LexNamesExtend.Pure) (a0 : ByteArray) (a1 : Int) (w : World) (w0 : a0.size ≤ 140737488351232) (w1 : (Lit.int .u8 a1).wf = true) (hL : Aside0 (LaidW 9 w)) :
  Calls Tryd.prog 4 #[.string a0, .int .u8 a1] w fun e w' => e = .returned (.bool true) ∧ Below w.heap.size w w' := by
 obtain ⟨k, h⟩ := P a0 a1 w0 w1
 refine (law09_LexNamesExtend.calls k a0 a1 true w hL h).mono ?_
 rintro e w' ⟨rfl, hd⟩
 exact ⟨rfl, hd⟩

end Go.Proofs.YthidobgadndclaaDoor.P

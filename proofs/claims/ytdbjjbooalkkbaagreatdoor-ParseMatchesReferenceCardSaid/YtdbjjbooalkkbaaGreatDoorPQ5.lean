-- Out of the translation's print, by a program. Lean checks it.
import Derived.Test.YtdbjjbooalkkbaaGreatDoorPQ0
namespace Go.Proofs.YtdbjjbooalkkbaaGreatDoor.P
open Go.RowKit Go.Proofs.YtdbjjbooalkkbaaGreatDoorW.PrintWords Go.Proofs.YtdbjjbooalkkbaaGreatDoorW.PrintLast Go.Proofs.YtdbjjbooalkkbaaGreatDoorW.PrintMore
attribute [local go_sem] max2_int min2_int max_two min_two max_three min_three max_four min_four   -- for this text's walks alone
set_option linter.unusedVariables false
set_option linter.unusedSimpArgs false

/-! ### ref09_words: function 55 -/
mutual
def ref09_words.l0 : Nat → ByteArray → List ByteArray → Int → Int → Option (List ByteArray × Bool)
 | 0, _, _, _, _ => none
 | k + 1, x0, x4, x5, x6 => if x6 ≤ (x0.size : Int) then (if x6 = (x0.size : Int) then (ref09_words.j1 k x0 x4 x5 x6 true) else (if 0 ≤ x6 then (if x6 < (x0.size : Int) then (ref09_words.j1 k x0 x4 x5 x6 ((bt x0 x6) == 59)) else (none)) else (none))) else (some (x4, true))
def ref09_words.j1 : Nat → ByteArray → List ByteArray → Int → Int → Bool → Option (List ByteArray × Bool)
 | 0, _, _, _, _, _ => none
 | k + 1, x0, x4, x5, x6, x7 => if x7 = true then (ref09_words.j2 k x0 x4 x5 x6 x7 false) else (if 0 ≤ x6 then (if x6 < (x0.size : Int) then (if (bt x0 x6) = 9 then (ref09_words.j2 k x0 x4 x5 x6 x7 false) else (if (bt x0 x6) < 32 then (ref09_words.j2 k x0 x4 x5 x6 x7 true) else (ref09_words.j2 k x0 x4 x5 x6 x7 (decide ((bt x0 x6) > 126))))) else (none)) else (none))
def ref09_words.j2 : Nat → ByteArray → List ByteArray → Int → Int → Bool → Bool → Option (List ByteArray × Bool)
 | 0, _, _, _, _, _, _ => none
 | k + 1, x0, x4, x5, x6, x7, x43 => if x43 = true then (some (([] : List ByteArray), false)) else (if x7 = true then (ref09_words.j3 k x0 x4 x5 x6 x7 true) else (if 0 ≤ x6 then (if x6 < (x0.size : Int) then (if (bt x0 x6) = 32 then (ref09_words.j3 k x0 x4 x5 x6 x7 true) else (ref09_words.j3 k x0 x4 x5 x6 x7 ((bt x0 x6) == 9))) else (none)) else (none)))
def ref09_words.j3 : Nat → ByteArray → List ByteArray → Int → Int → Bool → Bool → Option (List ByteArray × Bool)
 | 0, _, _, _, _, _, _ => none
 | k + 1, x0, x4, x5, x6, x7, x56 => if x56 = true then (if x5 ≥ 0 then (if 0 ≤ x5 then (if x5 ≤ x6 then (if x6 ≤ (x0.size : Int) then (if x4.length < 8796093022208 then (ref09_words.j4 k x0 (x4 ++ [x0.extract (x5 : Int).toNat (x6 : Int).toNat]) x6 x7) else (none)) else (none)) else (none)) else (none)) else (ref09_words.j4 k x0 x4 x6 x7)) else (if x5 < 0 then (ref09_words.l0 k x0 x4 x6 (wrap64 (x6 + 1))) else (ref09_words.l0 k x0 x4 x5 (wrap64 (x6 + 1))))
def ref09_words.j4 : Nat → ByteArray → List ByteArray → Int → Bool → Option (List ByteArray × Bool)
 | 0, _, _, _, _ => none
 | k + 1, x0, x4, x6, x7 => if x7 = true then (some (x4, true)) else (ref09_words.l0 k x0 x4 (-1) (wrap64 (x6 + 1)))
end
def ref09_words.f (k : Nat) (a0 : ByteArray) : Option (List ByteArray × Bool) := ref09_words.l0 k a0 ([] : List ByteArray) (-1) 0
theorem ref09_words.mono_l : ∀ k, (∀ y0 y1 y2 y3, LeO (ref09_words.l0 k y0 y1 y2 y3) (ref09_words.l0 (k + 1) y0 y1 y2 y3)) ∧ (∀ y0 y1 y2 y3 y4, LeO (ref09_words.j1 k y0 y1 y2 y3 y4) (ref09_words.j1 (k + 1) y0 y1 y2 y3 y4)) ∧ (∀ y0 y1 y2 y3 y4 y5, LeO (ref09_words.j2 k y0 y1 y2 y3 y4 y5) (ref09_words.j2 (k + 1) y0 y1 y2 y3 y4 y5)) ∧ (∀ y0 y1 y2 y3 y4 y5, LeO (ref09_words.j3 k y0 y1 y2 y3 y4 y5) (ref09_words.j3 (k + 1) y0 y1 y2 y3 y4 y5)) ∧ (∀ y0 y1 y2 y3, LeO (ref09_words.j4 k y0 y1 y2 y3) (ref09_words.j4 (k + 1) y0 y1 y2 y3))
 | 0 => ⟨fun _ _ _ _ r h => by simp [ref09_words.l0] at h, fun _ _ _ _ _ r h => by simp [ref09_words.j1] at h, fun _ _ _ _ _ _ r h => by simp [ref09_words.j2] at h, fun _ _ _ _ _ _ r h => by simp [ref09_words.j3] at h, fun _ _ _ _ r h => by simp [ref09_words.j4] at h⟩
 | k + 1 => by
  obtain ⟨ih0, ih1, ih2, ih3, ih4⟩ := ref09_words.mono_l k
  refine ⟨?_, ?_, ?_, ?_, ?_⟩
  ·intro y0 y1 y2 y3
   unfold ref09_words.l0
   repeat' first
   | (with_reducible exact ih0 _ _ _ _)
   | (with_reducible exact ih1 _ _ _ _ _)
   | (with_reducible exact ih2 _ _ _ _ _ _)
   | (with_reducible exact ih3 _ _ _ _ _ _)
   | (with_reducible exact ih4 _ _ _ _)
   | (with_reducible exact LeO.refl _)
   | (with_reducible exact LeO.none _)
   | (with_reducible refine LeO.ite ?_ ?_)
   | (with_reducible refine LeO.bind ?_ (fun _ => ?_))
   | exact ih0 _ _ _ _
   | exact ih1 _ _ _ _ _
   | exact ih2 _ _ _ _ _ _
   | exact ih3 _ _ _ _ _ _
   | exact ih4 _ _ _ _
   | exact LeO.none _
   | refine LeO.ite ?_ ?_
   | refine LeO.bind ?_ (fun _ => ?_)
  ·intro y0 y1 y2 y3 y4
   unfold ref09_words.j1
   repeat' first
   | (with_reducible exact ih0 _ _ _ _)
   | (with_reducible exact ih1 _ _ _ _ _)
   | (with_reducible exact ih2 _ _ _ _ _ _)
   | (with_reducible exact ih3 _ _ _ _ _ _)
   | (with_reducible exact ih4 _ _ _ _)
   | (with_reducible exact LeO.refl _)
   | (with_reducible exact LeO.none _)
   | (with_reducible refine LeO.ite ?_ ?_)
   | (with_reducible refine LeO.bind ?_ (fun _ => ?_))
   | exact ih0 _ _ _ _
   | exact ih1 _ _ _ _ _
   | exact ih2 _ _ _ _ _ _
   | exact ih3 _ _ _ _ _ _
   | exact ih4 _ _ _ _
   | exact LeO.none _
   | refine LeO.ite ?_ ?_
   | refine LeO.bind ?_ (fun _ => ?_)
  ·intro y0 y1 y2 y3 y4 y5
   unfold ref09_words.j2
   repeat' first
   | (with_reducible exact ih0 _ _ _ _)
   | (with_reducible exact ih1 _ _ _ _ _)
   | (with_reducible exact ih2 _ _ _ _ _ _)
   | (with_reducible exact ih3 _ _ _ _ _ _)
   | (with_reducible exact ih4 _ _ _ _)
   | (with_reducible exact LeO.refl _)
   | (with_reducible exact LeO.none _)
   | (with_reducible refine LeO.ite ?_ ?_)
   | (with_reducible refine LeO.bind ?_ (fun _ => ?_))
   | exact ih0 _ _ _ _
   | exact ih1 _ _ _ _ _
   | exact ih2 _ _ _ _ _ _
   | exact ih3 _ _ _ _ _ _
   | exact ih4 _ _ _ _
   | exact LeO.none _
   | refine LeO.ite ?_ ?_
   | refine LeO.bind ?_ (fun _ => ?_)
  ·intro y0 y1 y2 y3 y4 y5
   unfold ref09_words.j3
   repeat' first
   | (with_reducible exact ih0 _ _ _ _)
   | (with_reducible exact ih1 _ _ _ _ _)
   | (with_reducible exact ih2 _ _ _ _ _ _)
   | (with_reducible exact ih3 _ _ _ _ _ _)
   | (with_reducible exact ih4 _ _ _ _)
   | (with_reducible exact LeO.refl _)
   | (with_reducible exact LeO.none _)
   | (with_reducible refine LeO.ite ?_ ?_)
   | (with_reducible refine LeO.bind ?_ (fun _ => ?_))
   | exact ih0 _ _ _ _
   | exact ih1 _ _ _ _ _
   | exact ih2 _ _ _ _ _ _
   | exact ih3 _ _ _ _ _ _
   | exact ih4 _ _ _ _
   | exact LeO.none _
   | refine LeO.ite ?_ ?_
   | refine LeO.bind ?_ (fun _ => ?_)
  ·intro y0 y1 y2 y3
   unfold ref09_words.j4
   repeat' first
   | (with_reducible exact ih0 _ _ _ _)
   | (with_reducible exact ih1 _ _ _ _ _)
   | (with_reducible exact ih2 _ _ _ _ _ _)
   | (with_reducible exact ih3 _ _ _ _ _ _)
   | (with_reducible exact ih4 _ _ _ _)
   | (with_reducible exact LeO.refl _)
   | (with_reducible exact LeO.none _)
   | (with_reducible refine LeO.ite ?_ ?_)
   | (with_reducible refine LeO.bind ?_ (fun _ => ?_))
   | exact ih0 _ _ _ _
   | exact ih1 _ _ _ _ _
   | exact ih2 _ _ _ _ _ _
   | exact ih3 _ _ _ _ _ _
   | exact ih4 _ _ _ _
   | exact LeO.none _
   | refine LeO.ite ?_ ?_
   | refine LeO.bind ?_ (fun _ => ?_)
theorem ref09_words.mono : ∀ a0 k, LeO (ref09_words.f k a0) (ref09_words.f (k + 1) a0) := by
 intro a0 k
 obtain ⟨ih0, ih1, ih2, ih3, ih4⟩ := ref09_words.mono_l k
 unfold ref09_words.f
 repeat' first
   | (with_reducible exact ih0 _ _ _ _)
   | (with_reducible exact ih1 _ _ _ _ _)
   | (with_reducible exact ih2 _ _ _ _ _ _)
   | (with_reducible exact ih3 _ _ _ _ _ _)
   | (with_reducible exact ih4 _ _ _ _)
   | (with_reducible exact LeO.refl _)
   | (with_reducible exact LeO.none _)
   | (with_reducible refine LeO.ite ?_ ?_)
   | (with_reducible refine LeO.bind ?_ (fun _ => ?_))
   | exact ih0 _ _ _ _
   | exact ih1 _ _ _ _ _
   | exact ih2 _ _ _ _ _ _
   | exact ih3 _ _ _ _ _ _
   | exact ih4 _ _ _ _
   | exact LeO.none _
   | refine LeO.ite ?_ ?_
   | refine LeO.bind ?_ (fun _ => ?_)
set_option maxHeartbeats 8000000 in
set_option maxRecDepth 100000 in
theorem ref09_words.calls (k : Nat) (a0 : ByteArray) (r1 : List ByteArray) (r2 : Bool) (w : World) (h : ref09_words.f k a0 = some (r1, r2)) :
  Calls Tryz.prog 55 #[.string a0] w fun e w' => ∃ v0_ : Value, e = .returned (.tuple #[v0_, .bool r2]) ∧ Kd.R Kd.string 9 w' w.heap.size (fun _ => True) v0_ r1 ∧ Below w.heap.size w w' := by
 have HB := Aside0.mk (Below.refl w.heap.size w)
 have H : (ref09_words.l0 k a0 ([] : List ByteArray) (-1) 0) = some (r1, r2) := h
 clear h
 have H' := Aside0.mk H
 clear H
 go_enter Tryz.func55, Tryz.ntmps55
 go_wp2
 go_loopg [4, 5, 6] k (fun kq v4 v5 v6 w' => ∃ (x4_1 : List ByteArray) (x5_1 : Int) (x6_1 : Int), v5 = .int .i64 x5_1 ∧ v6 = .int .i64 x6_1 ∧ Aside0 (ref09_words.l0 kq a0 x4_1 x5_1 x6_1 = some (r1, r2)) ∧ Aside0 (kq ≤ k) ∧ Aside0 (Kd.R Kd.string 9 w' w.heap.size (fun _ => True) v4 x4_1) ∧ Aside0 (Below w.heap.size w w'))
 case atStart => exact ⟨(([] : List ByteArray)), ((-1)), (0), (by first | rfl | (simp; done) | (simp [*]; done)), (by first | rfl | (simp; done) | (simp [*]; done)), H', ⟨Nat.le_refl _⟩, ⟨by first | exact Kd.R_nil _ _ _ _ _ | exact Kd.N_nil _ _ _ _ _ | exact Kd.V_nil _ _ _ _ _ | exact Kd.Q_nil _ _ _ _ _ | exact Kd.S_nil _ _ _ _ _⟩, ⟨by repeat (first | (with_reducible first | exact HB.out | apply below_alloc | apply pw_below_drewN | apply below_drew1) | exact HB.out)⟩⟩
 case round =>
  clear H'
  obtain ⟨x4_1, x5_1, x6_1, rfl, rfl, HA, HK1, HO_4, HB⟩ := hrel
  cases gk with
  | zero => exact absurd HA.out (by simp [ref09_words.l0])
  | succ k1 =>
   have H := HA.out
   clear HA
   simp only [ref09_words.l0] at H
   by_cases c2 : x6_1 ≤ (a0.size : Int)
   ·rw [if_pos c2] at H
    have c2b0 : decide (x6_1 ≤ (a0.size : Int)) = true := decide_eq_true c2
    clear c2
    have HC3 := Aside0.mk H
    clear H
    go_upto_region 6 with (fail)
    go_cut [7] (fun v7 wc => ∃ (kq : Nat) (x7_2 : Bool), v7 = .bool x7_2 ∧ Aside0 (ref09_words.j1 kq a0 x4_1 x5_1 x6_1 x7_2 = some (r1, r2)) ∧ Aside0 (kq ≤ k1) ∧ Aside0 (Kd.R Kd.string 9 wc w.heap.size (fun _ => True) u4 x4_1) ∧ Aside0 (Below w.heap.size w wc))
    case first =>
     have H := HC3.out
     clear HC3
     by_cases c4 : x6_1 = (a0.size : Int)
     ·rw [if_pos c4] at H
      have c4b0 : (x6_1 == (a0.size : Int)) = true := beq_iff_eq.mpr c4
      have c4b1 : (x6_1 != (a0.size : Int)) = false := bne_eq_false_iff_eq.mpr c4
      clear c4
      (first | rw [c4b0] | (simp only [i64_w, i32_w]; rw [c4b0]) | rw [c4b3] | rw [c4b2] | skip)
      have H' := Aside0.mk H
      clear H
      go_wp2
      go_meet
      case rel => exact ⟨_, (true), (by first | rfl | (simp; done) | (simp [*]; done)), H', ⟨by have := HK1.out; first | omega | exact Nat.le_refl _⟩, ⟨by (with_reducible repeat (first | apply Kd.R_alloc | apply Kd.R_drewN | apply Kd.R_drew)); exact HO_4.out⟩, ⟨by repeat (first | (with_reducible first | exact HB.out | apply below_alloc | apply pw_below_drewN | apply below_drew1) | exact HB.out)⟩⟩
     ·rw [if_neg c4] at H
      have c4b0 : (x6_1 == (a0.size : Int)) = false := beq_eq_false_iff_ne.mpr c4
      have c4b1 : (x6_1 != (a0.size : Int)) = true := bne_iff_ne.mpr c4
      (first | rw [c4b0] | (simp only [i64_w, i32_w]; rw [c4b0]) | rw [c4b3] | rw [c4b2] | skip)
      by_cases c5 : 0 ≤ x6_1
      ·rw [if_pos c5] at H
       have c5b0 : decide (0 ≤ x6_1) = true := decide_eq_true c5
       clear c5
       by_cases c6 : x6_1 < (a0.size : Int)
       ·rw [if_pos c6] at H
        have c6b0 : decide (x6_1 < (a0.size : Int)) = true := decide_eq_true c6
        clear c6
        have H' := Aside0.mk H
        clear H
        have p7 : 0 ≤ (x6_1 : Int) := of_decide_eq_true (by first | (with_reducible assumption) | assumption)
        have q7 : x6_1 < (a0.size : Int) := of_decide_eq_true (by first | (with_reducible assumption) | assumption)
        have hx7 := bt_at a0 x6_1
        replace p7 := eq_true p7
        replace q7 := eq_true q7
        go_wp2
        go_meet
        case rel => exact ⟨_, (((bt a0 x6_1) == 59)), (by first | rfl | (simp; done) | (simp [*]; done)), H', ⟨by have := HK1.out; first | omega | exact Nat.le_refl _⟩, ⟨by (with_reducible repeat (first | apply Kd.R_alloc | apply Kd.R_drewN | apply Kd.R_drew)); exact HO_4.out⟩, ⟨by repeat (first | (with_reducible first | exact HB.out | apply below_alloc | apply pw_below_drewN | apply below_drew1) | exact HB.out)⟩⟩
       ·rw [if_neg c6] at H
        exact absurd H (by simp)
      ·rw [if_neg c5] at H
       exact absurd H (by simp)
    case rest =>
     clear HC3
     try clear c2
     try clear c2b0
     try clear p2
     try clear c4
     try clear c4b0
     try clear c4b1
     try clear c4b2
     try clear c5
     try clear c5b0
     try clear c6
     try clear c6b0
     try clear p7
     try clear q7
     try clear hx7
     try clear p7
     try clear q7
     obtain ⟨kq, x7_2, rfl, HA, HJ2, HO_4, HB⟩ := hcut
     cases kq with
     | zero => exact absurd HA.out (by simp [ref09_words.j1])
     | succ kj2 =>
      have H := HA.out
      clear HA
      simp only [ref09_words.j1] at H
      have HC8 := Aside0.mk H
      clear H
      go_upto_region 7 with (fail)
      go_cut [43] (fun v43 wc => ∃ (kq : Nat) (x43_7 : Bool), v43 = .bool x43_7 ∧ Aside0 (ref09_words.j2 kq a0 x4_1 x5_1 x6_1 x7_2 x43_7 = some (r1, r2)) ∧ Aside0 (kq ≤ kj2) ∧ Aside0 (Kd.R Kd.string 9 wc w.heap.size (fun _ => True) u4 x4_1) ∧ Aside0 (Below w.heap.size w wc))
      case first =>
       have H := HC8.out
       clear HC8
       by_cases c9 : x7_2 = true
       ·subst c9
        have H1 : (ref09_words.j2 kj2 a0 x4_1 x5_1 x6_1 true false) = some (r1, r2) := by rw [if_pos rfl] at H; exact H
        clear H
        have H := H1
        clear H1
        have H' := Aside0.mk H
        clear H
        go_wp2
        go_meet
        case rel => exact ⟨_, (false), (by first | rfl | (simp; done) | (simp [*]; done)), H', ⟨by have := HK1.out; have := HJ2.out; first | omega | exact Nat.le_refl _⟩, ⟨by (with_reducible repeat (first | apply Kd.R_alloc | apply Kd.R_drewN | apply Kd.R_drew)); exact HO_4.out⟩, ⟨by repeat (first | (with_reducible first | exact HB.out | apply below_alloc | apply pw_below_drewN | apply below_drew1) | exact HB.out)⟩⟩
       ·replace c9 := Bool.eq_false_iff.mpr c9
        subst c9
        have H1 : (if 0 ≤ x6_1 then (if x6_1 < (a0.size : Int) then (if (bt a0 x6_1) = 9 then (ref09_words.j2 kj2 a0 x4_1 x5_1 x6_1 false false) else (if (bt a0 x6_1) < 32 then (ref09_words.j2 kj2 a0 x4_1 x5_1 x6_1 false true) else (ref09_words.j2 kj2 a0 x4_1 x5_1 x6_1 false (decide ((bt a0 x6_1) > 126))))) else (none)) else (none)) = some (r1, r2) := by rw [if_neg (show ¬ (false = true) by decide)] at H; exact H
        clear H
        have H := H1
        clear H1
        by_cases c10 : 0 ≤ x6_1
        ·rw [if_pos c10] at H
         have c10b0 : decide (0 ≤ x6_1) = true := decide_eq_true c10
         clear c10
         (first | rw [c10b0] | (simp only [i64_w, i32_w]; rw [c10b0]) | rw [c10b3] | rw [c10b2] | skip)
         by_cases c11 : x6_1 < (a0.size : Int)
         ·rw [if_pos c11] at H
          have c11b0 : decide (x6_1 < (a0.size : Int)) = true := decide_eq_true c11
          clear c11
          by_cases c13 : (bt a0 x6_1) = 9
          ·rw [if_pos c13] at H
           have c13b0 : ((bt a0 x6_1) == 9) = true := beq_iff_eq.mpr c13
           have c13b1 : ((bt a0 x6_1) != 9) = false := bne_eq_false_iff_eq.mpr c13
           clear c13
           have H' := Aside0.mk H
           clear H
           have p12 : 0 ≤ (x6_1 : Int) := of_decide_eq_true (by first | (with_reducible assumption) | assumption)
           have q12 : x6_1 < (a0.size : Int) := of_decide_eq_true (by first | (with_reducible assumption) | assumption)
           have hx12 := bt_at a0 x6_1
           replace p12 := eq_true p12
           replace q12 := eq_true q12
           go_wp2
           go_meet
           case rel => exact ⟨_, (false), (by first | rfl | (simp; done) | (simp [*]; done)), H', ⟨by have := HK1.out; have := HJ2.out; first | omega | exact Nat.le_refl _⟩, ⟨by (with_reducible repeat (first | apply Kd.R_alloc | apply Kd.R_drewN | apply Kd.R_drew)); exact HO_4.out⟩, ⟨by repeat (first | (with_reducible first | exact HB.out | apply below_alloc | apply pw_below_drewN | apply below_drew1) | exact HB.out)⟩⟩
          ·rw [if_neg c13] at H
           have c13b0 : ((bt a0 x6_1) == 9) = false := beq_eq_false_iff_ne.mpr c13
           have c13b1 : ((bt a0 x6_1) != 9) = true := bne_iff_ne.mpr c13
           by_cases c15 : (bt a0 x6_1) < 32
           ·rw [if_pos c15] at H
            have c15b0 : decide ((bt a0 x6_1) < 32) = true := decide_eq_true c15
            clear c15
            have H' := Aside0.mk H
            clear H
            have p12 : 0 ≤ (x6_1 : Int) := of_decide_eq_true (by first | (with_reducible assumption) | assumption)
            have q12 : x6_1 < (a0.size : Int) := of_decide_eq_true (by first | (with_reducible assumption) | assumption)
            have hx12 := bt_at a0 x6_1
            replace p12 := eq_true p12
            replace q12 := eq_true q12
            have p14 : 0 ≤ (x6_1 : Int) := of_decide_eq_true (by first | (with_reducible assumption) | assumption)
            have q14 : x6_1 < (a0.size : Int) := of_decide_eq_true (by first | (with_reducible assumption) | assumption)
            have hx14 := bt_at a0 x6_1
            replace p14 := eq_true p14
            replace q14 := eq_true q14
            go_wp2
            go_meet
            case rel => exact ⟨_, (true), (by first | rfl | (simp; done) | (simp [*]; done)), H', ⟨by have := HK1.out; have := HJ2.out; first | omega | exact Nat.le_refl _⟩, ⟨by (with_reducible repeat (first | apply Kd.R_alloc | apply Kd.R_drewN | apply Kd.R_drew)); exact HO_4.out⟩, ⟨by repeat (first | (with_reducible first | exact HB.out | apply below_alloc | apply pw_below_drewN | apply below_drew1) | exact HB.out)⟩⟩
           ·rw [if_neg c15] at H
            have c15b0 : decide ((bt a0 x6_1) < 32) = false := decide_eq_false c15
            clear c15
            have H' := Aside0.mk H
            clear H
            have p12 : 0 ≤ (x6_1 : Int) := of_decide_eq_true (by first | (with_reducible assumption) | assumption)
            have q12 : x6_1 < (a0.size : Int) := of_decide_eq_true (by first | (with_reducible assumption) | assumption)
            have hx12 := bt_at a0 x6_1
            replace p12 := eq_true p12
            replace q12 := eq_true q12
            have p14 : 0 ≤ (x6_1 : Int) := of_decide_eq_true (by first | (with_reducible assumption) | assumption)
            have q14 : x6_1 < (a0.size : Int) := of_decide_eq_true (by first | (with_reducible assumption) | assumption)
            have hx14 := bt_at a0 x6_1
            replace p14 := eq_true p14
            replace q14 := eq_true q14
            have p16 : 0 ≤ (x6_1 : Int) := of_decide_eq_true (by first | (with_reducible assumption) | assumption)
            have q16 : x6_1 < (a0.size : Int) := of_decide_eq_true (by first | (with_reducible assumption) | assumption)
            have hx16 := bt_at a0 x6_1
            replace p16 := eq_true p16
            replace q16 := eq_true q16
            go_wp2
            go_meet
            case rel => exact ⟨_, (decide ((bt a0 x6_1) > 126)), (by first | rfl | (simp; done) | (simp [*]; done)), H', ⟨by have := HK1.out; have := HJ2.out; first | omega | exact Nat.le_refl _⟩, ⟨by (with_reducible repeat (first | apply Kd.R_alloc | apply Kd.R_drewN | apply Kd.R_drew)); exact HO_4.out⟩, ⟨by repeat (first | (with_reducible first | exact HB.out | apply below_alloc | apply pw_below_drewN | apply below_drew1) | exact HB.out)⟩⟩
         ·rw [if_neg c11] at H
          exact absurd H (by simp)
        ·rw [if_neg c10] at H
         exact absurd H (by simp)
      case rest =>
       clear HC8
       try clear c1
       try clear p1
       try clear q1
       try clear hx1
       try clear c2
       try clear c2b0
       try clear p2
       try clear c4
       try clear c4b0
       try clear c4b1
       try clear c4b2
       try clear c5
       try clear c5b0
       try clear c6
       try clear c6b0
       try clear p7
       try clear q7
       try clear hx7
       try clear c9
       try clear c10
       try clear c10b0
       try clear c10b2
       try clear c11
       try clear c11b0
       try clear p12
       try clear q12
       try clear hx12
       try clear c13
       try clear c13b0
       try clear c13b1
       try clear p14
       try clear q14
       try clear hx14
       try clear c15
       try clear c15b0
       try clear p16
       try clear q16
       try clear hx16
       try clear p12
       try clear p14
       try clear p16
       try clear p2
       try clear p7
       try clear q12
       try clear q14
       try clear q16
       try clear q7
       obtain ⟨kq, x43_7, rfl, HA, HJ7, HO_4, HB⟩ := hcut
       cases kq with
       | zero => exact absurd HA.out (by simp [ref09_words.j2])
       | succ kj7 =>
        have H := HA.out
        clear HA
        simp only [ref09_words.j2] at H
        by_cases c17 : x43_7 = true
        ·subst c17
         have H1 : (some (([] : List ByteArray), false)) = some (r1, r2) := by rw [if_pos rfl] at H; exact H
         clear H
         have H := H1
         clear H1
         simp only [Option.some.injEq, Prod.mk.injEq] at H
         obtain ⟨rfl, rfl⟩ := H
         go_wp2
         go_ret2
         exact ⟨_, by first | rfl | (simp [errW_none, errW_some] <;> rfl) | (simp [*, errW_none, errW_some] <;> rfl), by first | exact Kd.R_nil _ _ _ _ _ | exact Kd.N_nil _ _ _ _ _ | exact Kd.V_nil _ _ _ _ _ | exact Kd.Q_nil _ _ _ _ _ | exact Kd.S_nil _ _ _ _ _, by repeat (first | (with_reducible first | exact HB.out | apply below_alloc | apply pw_below_drewN | apply below_drew1) | exact HB.out)⟩
        ·replace c17 := Bool.eq_false_iff.mpr c17
         subst c17
         have H1 : (if x7_2 = true then (ref09_words.j3 kj7 a0 x4_1 x5_1 x6_1 x7_2 true) else (if 0 ≤ x6_1 then (if x6_1 < (a0.size : Int) then (if (bt a0 x6_1) = 32 then (ref09_words.j3 kj7 a0 x4_1 x5_1 x6_1 x7_2 true) else (ref09_words.j3 kj7 a0 x4_1 x5_1 x6_1 x7_2 ((bt a0 x6_1) == 9))) else (none)) else (none))) = some (r1, r2) := by rw [if_neg (show ¬ (false = true) by decide)] at H; exact H
         clear H
         have H := H1
         clear H1
         have HC18 := Aside0.mk H
         clear H
         go_upto_region 9 with (fail)
         go_cut [56] (fun v56 wc => ∃ (kq : Nat) (x56_17 : Bool), v56 = .bool x56_17 ∧ Aside0 (ref09_words.j3 kq a0 x4_1 x5_1 x6_1 x7_2 x56_17 = some (r1, r2)) ∧ Aside0 (kq ≤ kj7) ∧ Aside0 (Kd.R Kd.string 9 wc w.heap.size (fun _ => True) u4 x4_1) ∧ Aside0 (Below w.heap.size w wc))
         case first =>
          have H := HC18.out
          clear HC18
          by_cases c19 : x7_2 = true
          ·subst c19
           have H1 : (ref09_words.j3 kj7 a0 x4_1 x5_1 x6_1 true true) = some (r1, r2) := by rw [if_pos rfl] at H; exact H
           clear H
           have H := H1
           clear H1
           have H' := Aside0.mk H
           clear H
           go_wp2
           go_meet
           case rel => exact ⟨_, (true), (by first | rfl | (simp; done) | (simp [*]; done)), H', ⟨by have := HK1.out; have := HJ2.out; have := HJ7.out; first | omega | exact Nat.le_refl _⟩, ⟨by (with_reducible repeat (first | apply Kd.R_alloc | apply Kd.R_drewN | apply Kd.R_drew)); exact HO_4.out⟩, ⟨by repeat (first | (with_reducible first | exact HB.out | apply below_alloc | apply pw_below_drewN | apply below_drew1) | exact HB.out)⟩⟩
          ·replace c19 := Bool.eq_false_iff.mpr c19
           subst c19
           have H1 : (if 0 ≤ x6_1 then (if x6_1 < (a0.size : Int) then (if (bt a0 x6_1) = 32 then (ref09_words.j3 kj7 a0 x4_1 x5_1 x6_1 false true) else (ref09_words.j3 kj7 a0 x4_1 x5_1 x6_1 false ((bt a0 x6_1) == 9))) else (none)) else (none)) = some (r1, r2) := by rw [if_neg (show ¬ (false = true) by decide)] at H; exact H
           clear H
           have H := H1
           clear H1
           by_cases c20 : 0 ≤ x6_1
           ·rw [if_pos c20] at H
            have c20b0 : decide (0 ≤ x6_1) = true := decide_eq_true c20
            clear c20
            (first | rw [c20b0] | (simp only [i64_w, i32_w]; rw [c20b0]) | rw [c20b3] | rw [c20b2] | skip)
            by_cases c21 : x6_1 < (a0.size : Int)
            ·rw [if_pos c21] at H
             have c21b0 : decide (x6_1 < (a0.size : Int)) = true := decide_eq_true c21
             clear c21
             by_cases c23 : (bt a0 x6_1) = 32
             ·rw [if_pos c23] at H
              have c23b0 : ((bt a0 x6_1) == 32) = true := beq_iff_eq.mpr c23
              have c23b1 : ((bt a0 x6_1) != 32) = false := bne_eq_false_iff_eq.mpr c23
              clear c23
              have H' := Aside0.mk H
              clear H
              have p22 : 0 ≤ (x6_1 : Int) := of_decide_eq_true (by first | (with_reducible assumption) | assumption)
              have q22 : x6_1 < (a0.size : Int) := of_decide_eq_true (by first | (with_reducible assumption) | assumption)
              have hx22 := bt_at a0 x6_1
              replace p22 := eq_true p22
              replace q22 := eq_true q22
              go_wp2
              go_meet
              case rel => exact ⟨_, (true), (by first | rfl | (simp; done) | (simp [*]; done)), H', ⟨by have := HK1.out; have := HJ2.out; have := HJ7.out; first | omega | exact Nat.le_refl _⟩, ⟨by (with_reducible repeat (first | apply Kd.R_alloc | apply Kd.R_drewN | apply Kd.R_drew)); exact HO_4.out⟩, ⟨by repeat (first | (with_reducible first | exact HB.out | apply below_alloc | apply pw_below_drewN | apply below_drew1) | exact HB.out)⟩⟩
             ·rw [if_neg c23] at H
              have c23b0 : ((bt a0 x6_1) == 32) = false := beq_eq_false_iff_ne.mpr c23
              have c23b1 : ((bt a0 x6_1) != 32) = true := bne_iff_ne.mpr c23
              have H' := Aside0.mk H
              clear H
              have p22 : 0 ≤ (x6_1 : Int) := of_decide_eq_true (by first | (with_reducible assumption) | assumption)
              have q22 : x6_1 < (a0.size : Int) := of_decide_eq_true (by first | (with_reducible assumption) | assumption)
              have hx22 := bt_at a0 x6_1
              replace p22 := eq_true p22
              replace q22 := eq_true q22
              have p24 : 0 ≤ (x6_1 : Int) := of_decide_eq_true (by first | (with_reducible assumption) | assumption)
              have q24 : x6_1 < (a0.size : Int) := of_decide_eq_true (by first | (with_reducible assumption) | assumption)
              have hx24 := bt_at a0 x6_1
              replace p24 := eq_true p24
              replace q24 := eq_true q24
              go_wp2
              go_meet
              case rel => exact ⟨_, (((bt a0 x6_1) == 9)), (by first | rfl | (simp; done) | (simp [*]; done)), H', ⟨by have := HK1.out; have := HJ2.out; have := HJ7.out; first | omega | exact Nat.le_refl _⟩, ⟨by (with_reducible repeat (first | apply Kd.R_alloc | apply Kd.R_drewN | apply Kd.R_drew)); exact HO_4.out⟩, ⟨by repeat (first | (with_reducible first | exact HB.out | apply below_alloc | apply pw_below_drewN | apply below_drew1) | exact HB.out)⟩⟩
            ·rw [if_neg c21] at H
             exact absurd H (by simp)
           ·rw [if_neg c20] at H
            exact absurd H (by simp)
         case rest =>
          clear HC18
          try clear c1
          try clear p1
          try clear q1
          try clear hx1
          try clear c2
          try clear c2b0
          try clear p2
          try clear q2
          try clear hx2
          try clear c4
          try clear c4b0
          try clear c4b1
          try clear c4b2
          try clear c5
          try clear c5b0
          try clear c6
          try clear c6b0
          try clear p7
          try clear q7
          try clear hx7
          try clear c9
          try clear c10
          try clear c10b0
          try clear c10b2
          try clear c11
          try clear c11b0
          try clear p12
          try clear q12
          try clear hx12
          try clear c13
          try clear c13b0
          try clear c13b1
          try clear p14
          try clear q14
          try clear hx14
          try clear c15
          try clear c15b0
          try clear p16
          try clear q16
          try clear hx16
          try clear c17
          try clear c19
          try clear c20
          try clear c20b0
          try clear c20b2
          try clear c21
          try clear c21b0
          try clear p22
          try clear q22
          try clear hx22
          try clear c23
          try clear c23b0
          try clear c23b1
          try clear p24
          try clear q24
          try clear hx24
          try clear p1
          try clear p12
          try clear p14
          try clear p16
          try clear p2
          try clear p22
          try clear p24
          try clear p7
          try clear q1
          try clear q12
          try clear q14
          try clear q16
          try clear q22
          try clear q24
          try clear q7
          obtain ⟨kq, x56_17, rfl, HA, HJ17, HO_4, HB⟩ := hcut
          cases kq with
          | zero => exact absurd HA.out (by simp [ref09_words.j3])
          | succ kj17 =>
           have H := HA.out
           clear HA
           simp only [ref09_words.j3] at H
           by_cases c25 : x56_17 = true
           ·subst c25
            have H1 : (if x5_1 ≥ 0 then (if 0 ≤ x5_1 then (if x5_1 ≤ x6_1 then (if x6_1 ≤ (a0.size : Int) then (if x4_1.length < 8796093022208 then (ref09_words.j4 kj17 a0 (x4_1 ++ [a0.extract (x5_1 : Int).toNat (x6_1 : Int).toNat]) x6_1 x7_2) else (none)) else (none)) else (none)) else (none)) else (ref09_words.j4 kj17 a0 x4_1 x6_1 x7_2)) = some (r1, r2) := by rw [if_pos rfl] at H; exact H
            clear H
            have H := H1
            clear H1
            have HC26 := Aside0.mk H
            clear H
            go_upto_if 58 with (fail)
            go_cut [4] (fun v4 wc => ∃ (kq : Nat) (x4_25 : List ByteArray), Aside0 (ref09_words.j4 kq a0 x4_25 x6_1 x7_2 = some (r1, r2)) ∧ Aside0 (kq ≤ kj17) ∧ Aside0 (Kd.R Kd.string 9 wc w.heap.size (fun _ => True) v4 x4_25) ∧ Aside0 (Below w.heap.size w wc))
            case first =>
             have H := HC26.out
             clear HC26
             by_cases c27 : x5_1 ≥ 0
             ·rw [if_pos c27] at H
              have c27b0 : decide (0 ≤ x5_1) = true := decide_eq_true c27
              clear c27
              (first | rw [c27b0] | (simp only [i64_w, i32_w]; rw [c27b0]) | rw [c27b3] | rw [c27b2] | skip)
              by_cases c28 : 0 ≤ x5_1
              ·rw [if_pos c28] at H
               have c28b0 := eq_true c28
               have c28b1 : decide (0 ≤ x5_1) = true := decide_eq_true c28
               clear c28
               by_cases c29 : x5_1 ≤ x6_1
               ·rw [if_pos c29] at H
                have c29b0 := eq_true c29
                have c29b1 : decide (x5_1 ≤ x6_1) = true := decide_eq_true c29
                clear c29
                by_cases c30 : x6_1 ≤ (a0.size : Int)
                ·rw [if_pos c30] at H
                 have c30b0 := eq_true c30
                 have c30b1 : decide (x6_1 ≤ (a0.size : Int)) = true := decide_eq_true c30
                 clear c30
                 by_cases c31 : x4_1.length < 8796093022208
                 ·rw [if_pos c31] at H
                  have LMc31 := Aside0.mk c31
                  clear c31
                  obtain ⟨y123, hy123⟩ : ∃ y_ : List ByteArray, y_ = (x4_1 ++ [a0.extract (x5_1 : Int).toNat (x6_1 : Int).toNat]) := ⟨_, rfl⟩
                  replace H : (ref09_words.j4 kj17 a0 y123 x6_1 x7_2) = some (r1, r2) := by first | (rw [hy123]; with_reducible exact H) | (have H2_ := (Option.bind_some _ _).symm.trans H; rw [hy123]; with_reducible exact H2_) | (have H2_ := (Option.bind_some _ _).symm.trans H; with_reducible exact H2_) | with_reducible exact H | (rw [hy123]; exact H) | exact H
                  have Ny123 := Aside0.mk hy123
                  clear hy123
                  have H' := Aside0.mk H
                  clear H
                  go_wp2_with (first | ((with_reducible refine gate_builtin (b := .append) (xs := #[.tmp 59, .tmp 64]) rfl ?_); at_builtin; refine Kd.R_append Kd.string (w0 := w) w.heap.size rfl (.tmp 59) (.tmp 64) 34 9 (.string ⟨#[]⟩) 16 rfl Tryz.underlying34 info9 rfl (by decide) (by omega) u4 x4_1 (a0.extract (x5_1 : Int).toNat (x6_1 : Int).toNat) [.string (a0.extract (x5_1 : Int).toNat (x6_1 : Int).toNat)] (fun _ => True) (fun _ => False) rfl rfl ?aP (fun _ hk => hk.elim) ?aF ?aO ?aB ?aS ?aL ?_; (case aP => exact rfl); (case aB => exact (by repeat (first | (with_reducible first | exact HB.out | apply below_alloc | apply pw_below_drewN | apply below_drew1) | exact HB.out))); (case aF => exact (fun _ _ => trivial)); (case aO => exact (by (with_reducible repeat (first | apply Kd.R_alloc | apply Kd.R_drewN | apply Kd.R_drew)); exact HO_4.out)); (case aS => exact (below_size (by repeat (first | (with_reducible first | exact HB.out | apply below_alloc | apply pw_below_drewN | apply below_drew1) | exact HB.out)))); (case aL => have := LMc31.out; omega); intro v124 w32 ho hb hg hat; rw [← Ny123.out] at ho; have n0_ := Aside0.mk (hb); have n1_ := Aside0.mk (ho); clear HB; clear HO_4; have HB := n0_; have HO125 := n1_; clear n0_ n1_; clear ho hb hg hat))
                  go_meet
                  case rel => exact ⟨_, (y123), H', ⟨by have := HK1.out; have := HJ2.out; have := HJ7.out; have := HJ17.out; first | omega | exact Nat.le_refl _⟩, ⟨by (with_reducible repeat (first | apply Kd.R_alloc | apply Kd.R_drewN | apply Kd.R_drew)); exact HO125.out⟩, ⟨by repeat (first | (with_reducible first | exact HB.out | apply below_alloc | apply pw_below_drewN | apply below_drew1) | exact HB.out)⟩⟩
                 ·rw [if_neg c31] at H
                  exact absurd H (by simp)
                ·rw [if_neg c30] at H
                 exact absurd H (by simp)
               ·rw [if_neg c29] at H
                exact absurd H (by simp)
              ·rw [if_neg c28] at H
               exact absurd H (by simp)
             ·rw [if_neg c27] at H
              have c27b0 : decide (0 ≤ x5_1) = false := decide_eq_false c27
              clear c27
              (first | rw [c27b0] | (simp only [i64_w, i32_w]; rw [c27b0]) | rw [c27b3] | rw [c27b2] | skip)
              have H' := Aside0.mk H
              clear H
              go_wp2
              go_meet
              case rel => exact ⟨_, (x4_1), H', ⟨by have := HK1.out; have := HJ2.out; have := HJ7.out; have := HJ17.out; first | omega | exact Nat.le_refl _⟩, ⟨by (with_reducible repeat (first | apply Kd.R_alloc | apply Kd.R_drewN | apply Kd.R_drew)); exact HO_4.out⟩, ⟨by repeat (first | (with_reducible first | exact HB.out | apply below_alloc | apply pw_below_drewN | apply below_drew1) | exact HB.out)⟩⟩
            case rest =>
             clear HC26
             try clear c1
             try clear p1
             try clear q1
             try clear hx1
             try clear c2
             try clear c2b0
             try clear p2
             try clear q2
             try clear hx2
             try clear c3
             try clear c4
             try clear c4b0
             try clear c4b1
             try clear c4b2
             try clear c5
             try clear c5b0
             try clear c6
             try clear c6b0
             try clear p7
             try clear q7
             try clear hx7
             try clear c9
             try clear c10
             try clear c10b0
             try clear c10b2
             try clear c11
             try clear c11b0
             try clear p12
             try clear q12
             try clear hx12
             try clear c13
             try clear c13b0
             try clear c13b1
             try clear p14
             try clear q14
             try clear hx14
             try clear c15
             try clear c15b0
             try clear p16
             try clear q16
             try clear hx16
             try clear c17
             try clear c19
             try clear c20
             try clear c20b0
             try clear c20b2
             try clear c21
             try clear c21b0
             try clear p22
             try clear q22
             try clear hx22
             try clear c23
             try clear c23b0
             try clear c23b1
             try clear p24
             try clear q24
             try clear hx24
             try clear c25
             try clear c27
             try clear c27b0
             try clear c27b2
             try clear c28
             try clear c28b0
             try clear c28b1
             try clear c29
             try clear c29b0
             try clear c29b1
             try clear c30
             try clear c30b0
             try clear c30b1
             try clear c31
             try clear p1
             try clear p12
             try clear p14
             try clear p16
             try clear p2
             try clear p22
             try clear p24
             try clear p7
             try clear q1
             try clear q12
             try clear q14
             try clear q16
             try clear q2
             try clear q22
             try clear q24
             try clear q7
             obtain ⟨kq, x4_25, HA, HJ25, HO_4, HB⟩ := hcut
             cases kq with
             | zero => exact absurd HA.out (by simp [ref09_words.j4])
             | succ kj25 =>
              have H := HA.out
              clear HA
              simp only [ref09_words.j4] at H
              by_cases c33 : x7_2 = true
              ·subst c33
               have H1 : (some (x4_25, true)) = some (r1, r2) := by rw [if_pos rfl] at H; exact H
               clear H
               have H := H1
               clear H1
               simp only [Option.some.injEq, Prod.mk.injEq] at H
               obtain ⟨rfl, rfl⟩ := H
               go_wp2
               go_ret2
               exact ⟨_, by first | rfl | (simp [errW_none, errW_some] <;> rfl) | (simp [*, errW_none, errW_some] <;> rfl), by (with_reducible repeat (first | apply Kd.R_alloc | apply Kd.R_drewN | apply Kd.R_drew)); exact HO_4.out, by repeat (first | (with_reducible first | exact HB.out | apply below_alloc | apply pw_below_drewN | apply below_drew1) | exact HB.out)⟩
              ·replace c33 := Bool.eq_false_iff.mpr c33
               subst c33
               have H1 : (ref09_words.l0 kj25 a0 x4_25 (-1) (wrap64 (x6_1 + 1))) = some (r1, r2) := by rw [if_neg (show ¬ (false = true) by decide)] at H; exact H
               clear H
               have H := H1
               clear H1
               have H' := Aside0.mk H
               clear H
               go_wp2
               go_roundg kj25
               case measure => have := HK1.out; have := HJ2.out; have := HJ7.out; have := HJ17.out; have := HJ25.out; omega
               case rel => exact ⟨(x4_25), ((-1)), (wrap64 (x6_1 + 1)), (by first | rfl | (simp; done) | (simp [*]; done)), (by first | rfl | (simp; done) | (simp [*]; done)), H', ⟨by have := HK1.out; have := HJ2.out; have := HJ7.out; have := HJ17.out; have := HJ25.out; omega⟩, ⟨by (with_reducible repeat (first | apply Kd.R_alloc | apply Kd.R_drewN | apply Kd.R_drew)); exact HO_4.out⟩, ⟨by repeat (first | (with_reducible first | exact HB.out | apply below_alloc | apply pw_below_drewN | apply below_drew1) | exact HB.out)⟩⟩
           ·replace c25 := Bool.eq_false_iff.mpr c25
            subst c25
            have H1 : (if x5_1 < 0 then (ref09_words.l0 kj17 a0 x4_1 x6_1 (wrap64 (x6_1 + 1))) else (ref09_words.l0 kj17 a0 x4_1 x5_1 (wrap64 (x6_1 + 1)))) = some (r1, r2) := by rw [if_neg (show ¬ (false = true) by decide)] at H; exact H
            clear H
            have H := H1
            clear H1
            by_cases c34 : x5_1 < 0
            ·rw [if_pos c34] at H
             have c34b0 : decide (x5_1 < 0) = true := decide_eq_true c34
             clear c34
             have H' := Aside0.mk H
             clear H
             go_wp2
             go_roundg kj17
             case measure => have := HK1.out; have := HJ2.out; have := HJ7.out; have := HJ17.out; omega
             case rel => exact ⟨(x4_1), (x6_1), (wrap64 (x6_1 + 1)), (by first | rfl | (simp; done) | (simp [*]; done)), (by first | rfl | (simp; done) | (simp [*]; done)), H', ⟨by have := HK1.out; have := HJ2.out; have := HJ7.out; have := HJ17.out; omega⟩, ⟨by (with_reducible repeat (first | apply Kd.R_alloc | apply Kd.R_drewN | apply Kd.R_drew)); exact HO_4.out⟩, ⟨by repeat (first | (with_reducible first | exact HB.out | apply below_alloc | apply pw_below_drewN | apply below_drew1) | exact HB.out)⟩⟩
            ·rw [if_neg c34] at H
             have c34b0 : decide (x5_1 < 0) = false := decide_eq_false c34
             clear c34
             have H' := Aside0.mk H
             clear H
             go_wp2
             go_roundg kj17
             case measure => have := HK1.out; have := HJ2.out; have := HJ7.out; have := HJ17.out; omega
             case rel => exact ⟨(x4_1), (x5_1), (wrap64 (x6_1 + 1)), (by first | rfl | (simp; done) | (simp [*]; done)), (by first | rfl | (simp; done) | (simp [*]; done)), H', ⟨by have := HK1.out; have := HJ2.out; have := HJ7.out; have := HJ17.out; omega⟩, ⟨by (with_reducible repeat (first | apply Kd.R_alloc | apply Kd.R_drewN | apply Kd.R_drew)); exact HO_4.out⟩, ⟨by repeat (first | (with_reducible first | exact HB.out | apply below_alloc | apply pw_below_drewN | apply below_drew1) | exact HB.out)⟩⟩
   ·rw [if_neg c2] at H
    have c2b0 : decide (x6_1 ≤ (a0.size : Int)) = false := decide_eq_false c2
    clear c2
    simp only [Option.some.injEq, Prod.mk.injEq] at H
    obtain ⟨rfl, rfl⟩ := H
    go_wp2
    go_ret2
    exact ⟨_, by first | rfl | (simp [errW_none, errW_some] <;> rfl) | (simp [*, errW_none, errW_some] <;> rfl), by (with_reducible repeat (first | apply Kd.R_alloc | apply Kd.R_drewN | apply Kd.R_drew)); exact HO_4.out, by repeat (first | (with_reducible first | exact HB.out | apply below_alloc | apply pw_below_drewN | apply below_drew1) | exact HB.out)⟩

end Go.Proofs.YtdbjjbooalkkbaaGreatDoor.P

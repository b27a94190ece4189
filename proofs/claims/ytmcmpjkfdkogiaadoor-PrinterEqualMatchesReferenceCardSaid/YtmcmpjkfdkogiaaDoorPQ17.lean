-- Out of the translation's print, by a program. Lean checks it.
import Derived.Test.YtmcmpjkfdkogiaaDoorPQ0
import Derived.Test.YtmcmpjkfdkogiaaDoorPQ1
import Derived.Test.YtmcmpjkfdkogiaaDoorPQ2
namespace Go.Proofs.YtmcmpjkfdkogiaaDoor.P
open Go.RowKit Go.Proofs.YtmcmpjkfdkogiaaDoorW.PrintWords Go.Proofs.YtmcmpjkfdkogiaaDoorW.PrintLast Go.Proofs.YtmcmpjkfdkogiaaDoorW.PrintMore
attribute [local go_sem] max2_int min2_int max_two min_two max_three min_three max_four min_four   -- for this text's walks alone
set_option linter.unusedVariables false
set_option linter.unusedSimpArgs false

attribute [local go_sem high] eqA50 eqA53
/-! ### api_Contact: function 44 -/
def api_Contact.l0 : Nat → List (S50) → List (S50) → Int → Int → Option (Bool)
 | 0, _, _, _, _ => none
 | k + 1, x0, x1, x12, x13 => if x13 < x12 then (if 0 ≤ x13 then (if x13 < (x0.length : Int) then (if x13 < (x1.length : Int) then (if (!(((rd_T50 x0 x13).f0) == ((rd_T50 x1 x13).f0)) || ((!(((rd_T50 x0 x13).f1.f0) == ((rd_T50 x1 x13).f1.f0)) || (!(((rd_T50 x0 x13).f1.f1) == ((rd_T50 x1 x13).f1.f1)))) || (!((((rd_T50 x0 x13).f2).toList) == (((rd_T50 x1 x13).f2).toList)) || (!((((rd_T50 x0 x13).f3).toList) == (((rd_T50 x1 x13).f3).toList)))))) = true then (some false) else (api_Contact.l0 k x0 x1 x12 (wrap64 (x13 + 1)))) else (none)) else (none)) else (none)) else (some true)
def api_Contact.f (k : Nat) (l0 : List (S50)) (l1 : List (S50)) : Option (Bool) := if (l0.length : Int) = (l1.length : Int) then (api_Contact.l0 k l0 l1 (l0.length : Int) 0) else (some false)
theorem api_Contact.mono_l : ∀ k, (∀ y0 y1 y2 y3, LeO (api_Contact.l0 k y0 y1 y2 y3) (api_Contact.l0 (k + 1) y0 y1 y2 y3))
 | 0 => fun _ _ _ _ r h => by simp [api_Contact.l0] at h
 | k + 1 => by
  have ih0 := api_Contact.mono_l k
  ·intro y0 y1 y2 y3
   unfold api_Contact.l0
   repeat' first
   | (with_reducible exact ih0 _ _ _ _)
   | (with_reducible exact LeO.refl _)
   | (with_reducible exact LeO.none _)
   | (with_reducible refine LeO.ite ?_ ?_)
   | (with_reducible refine LeO.bind ?_ (fun _ => ?_))
   | exact ih0 _ _ _ _
   | exact LeO.none _
   | refine LeO.ite ?_ ?_
   | refine LeO.bind ?_ (fun _ => ?_)
theorem api_Contact.mono : ∀ a0 a1 k, LeO (api_Contact.f k a0 a1) (api_Contact.f (k + 1) a0 a1) := by
 intro a0 a1 k
 have ih0 := api_Contact.mono_l k
 unfold api_Contact.f
 repeat' first
   | (with_reducible exact ih0 _ _ _ _)
   | (with_reducible exact LeO.refl _)
   | (with_reducible exact LeO.none _)
   | (with_reducible refine LeO.ite ?_ ?_)
   | (with_reducible refine LeO.bind ?_ (fun _ => ?_))
   | exact ih0 _ _ _ _
   | exact LeO.none _
   | refine LeO.ite ?_ ?_
   | refine LeO.bind ?_ (fun _ => ?_)
set_option maxHeartbeats 8000000 in
set_option maxRecDepth 100000 in
theorem api_Contact.calls (k : Nat) (A0 : Option Addr) (c0 : Nat) (l0 : List (S50)) (A1 : Option Addr) (c1 : Nat) (l1 : List (S50)) (r : Bool) (w : World) (hr0 : Kd.C k50 w A0 l0.length l0) (hc0 : l0.length ≤ c0) (hr1 : Kd.C k50 w A1 l1.length l1) (hc1 : l1.length ≤ c1) (h : api_Contact.f k l0 l1 = some r) :
  Calls Tryd.prog 44 #[.slice A0 l0.length c0, .slice A1 l1.length c1] w fun e w' => e = .returned (.bool r) ∧ Drawn0 w w' := by
 have hu50 := Tryd.underlying50
 have HR0 := Aside0.mk hr0
 have HC0 := Aside0.mk hc0
 clear hr0 hc0
 have HR1 := Aside0.mk hr1
 have HC1 := Aside0.mk hc1
 clear hr1 hc1
 have H : (if (l0.length : Int) = (l1.length : Int) then (api_Contact.l0 k l0 l1 (l0.length : Int) 0) else (some false)) = some r := h
 clear h
 by_cases c3 : (l0.length : Int) = (l1.length : Int)
 ·rw [if_pos c3] at H
  have c3b0 : ((l0.length : Int) == (l1.length : Int)) = true := beq_iff_eq.mpr c3
  have c3b1 : ((l0.length : Int) != (l1.length : Int)) = false := bne_eq_false_iff_eq.mpr c3
  have c3b2 : (l0.length == l1.length) = true := by first | simpa using c3 | (simp at c3 ⊢; omega)
  clear c3
  have H' := Aside0.mk H
  clear H
  go_enter Tryd.func44, Tryd.ntmps44
  go_wp2
  repeat (go_quiet (fail); try go_wp2)
  go_loopg [13] k (fun kq v13 w' => ∃ (x13_1 : Int), v13 = .int .i64 x13_1 ∧ Aside0 (api_Contact.l0 kq l0 l1 (l0.length : Int) x13_1 = some r) ∧ Aside0 (kq ≤ k) ∧ Drawn0 w w')
  case atStart => exact ⟨(0), (by first | rfl | (simp; done) | (simp [*]; done)), H', ⟨Nat.le_refl _⟩, by repeat (first | exact Drawn0.refl _ | apply Drawn0.step)⟩
  case round =>
   clear H'
   try clear c1
   try clear p2
   try clear c3
   try clear c3b0
   try clear c3b1
   try clear c3b2
   obtain ⟨x13_1, rfl, HA, HK1, ⟨m1, rfl⟩⟩ := hrel
   cases gk with
   | zero => exact absurd HA.out (by simp [api_Contact.l0])
   | succ k1 =>
    have H := HA.out
    clear HA
    simp only [api_Contact.l0] at H
    by_cases c4 : x13_1 < (l0.length : Int)
    ·rw [if_pos c4] at H
     have c4b0 : decide (x13_1 < (l0.length : Int)) = true := decide_eq_true c4
     clear c4
     by_cases c5 : 0 ≤ x13_1
     ·rw [if_pos c5] at H
      have c5b0 : decide (0 ≤ x13_1) = true := decide_eq_true c5
      clear c5
      by_cases c6 : x13_1 < (l0.length : Int)
      ·rw [if_pos c6] at H
       have c6b0 : decide (x13_1 < (l0.length : Int)) = true := decide_eq_true c6
       clear c6
       by_cases c7 : x13_1 < (l1.length : Int)
       ·rw [if_pos c7] at H
        have c7b0 : decide (x13_1 < (l1.length : Int)) = true := decide_eq_true c7
        clear c7
        by_cases c8 : (!(((rd_T50 l0 x13_1).f0) == ((rd_T50 l1 x13_1).f0)) || ((!(((rd_T50 l0 x13_1).f1.f0) == ((rd_T50 l1 x13_1).f1.f0)) || (!(((rd_T50 l0 x13_1).f1.f1) == ((rd_T50 l1 x13_1).f1.f1)))) || (!((((rd_T50 l0 x13_1).f2).toList) == (((rd_T50 l1 x13_1).f2).toList)) || (!((((rd_T50 l0 x13_1).f3).toList) == (((rd_T50 l1 x13_1).f3).toList)))))) = true
        ·rw [if_pos c8] at H
         have c8b0 : (!(((rd_T50 l0 x13_1).f0) == ((rd_T50 l1 x13_1).f0)) || ((!(((rd_T50 l0 x13_1).f1.f0) == ((rd_T50 l1 x13_1).f1.f0)) || (!(((rd_T50 l0 x13_1).f1.f1) == ((rd_T50 l1 x13_1).f1.f1)))) || (!((((rd_T50 l0 x13_1).f2).toList) == (((rd_T50 l1 x13_1).f2).toList)) || (!((((rd_T50 l0 x13_1).f3).toList) == (((rd_T50 l1 x13_1).f3).toList)))))) = true := c8
         clear c8
         obtain rfl := Option.some.inj H
         have p249 : 0 ≤ (x13_1 : Int) := of_decide_eq_true (by first | (with_reducible assumption) | assumption)
         have q249 : x13_1 < (l0.length : Int) := of_decide_eq_true (by first | (with_reducible assumption) | assumption)
         obtain ⟨ad249, e249, hx249_0, hx249_1, hx249_2, hx249_3, hx249_4⟩ := at_T50 HR0.out x13_1 p249 q249
         cases e249
         replace p249 := eq_true p249
         replace q249 := eq_true q249
         have p250 : 0 ≤ (x13_1 : Int) := of_decide_eq_true (by first | (with_reducible assumption) | assumption)
         have q250 : x13_1 < (l1.length : Int) := of_decide_eq_true (by first | (with_reducible assumption) | assumption)
         obtain ⟨ad250, e250, hx250_0, hx250_1, hx250_2, hx250_3, hx250_4⟩ := at_T50 HR1.out x13_1 p250 q250
         cases e250
         replace p250 := eq_true p250
         replace q250 := eq_true q250
         go_wp2
         repeat (go_quiet (fail); try go_wp2)
         go_ret
         exact ⟨by first | rfl | (simp; done) | (simp [*]; done), by repeat (first | exact Drawn0.refl _ | apply Drawn0.step)⟩
        ·rw [if_neg c8] at H
         have c8b0 : (!(((rd_T50 l0 x13_1).f0) == ((rd_T50 l1 x13_1).f0)) || ((!(((rd_T50 l0 x13_1).f1.f0) == ((rd_T50 l1 x13_1).f1.f0)) || (!(((rd_T50 l0 x13_1).f1.f1) == ((rd_T50 l1 x13_1).f1.f1)))) || (!((((rd_T50 l0 x13_1).f2).toList) == (((rd_T50 l1 x13_1).f2).toList)) || (!((((rd_T50 l0 x13_1).f3).toList) == (((rd_T50 l1 x13_1).f3).toList)))))) = false := by simpa using c8
         clear c8
         have H' := Aside0.mk H
         clear H
         have p249 : 0 ≤ (x13_1 : Int) := of_decide_eq_true (by first | (with_reducible assumption) | assumption)
         have q249 : x13_1 < (l0.length : Int) := of_decide_eq_true (by first | (with_reducible assumption) | assumption)
         obtain ⟨ad249, e249, hx249_0, hx249_1, hx249_2, hx249_3, hx249_4⟩ := at_T50 HR0.out x13_1 p249 q249
         cases e249
         replace p249 := eq_true p249
         replace q249 := eq_true q249
         have p250 : 0 ≤ (x13_1 : Int) := of_decide_eq_true (by first | (with_reducible assumption) | assumption)
         have q250 : x13_1 < (l1.length : Int) := of_decide_eq_true (by first | (with_reducible assumption) | assumption)
         obtain ⟨ad250, e250, hx250_0, hx250_1, hx250_2, hx250_3, hx250_4⟩ := at_T50 HR1.out x13_1 p250 q250
         cases e250
         replace p250 := eq_true p250
         replace q250 := eq_true q250
         go_wp2
         repeat (go_quiet (fail); try go_wp2)
         go_roundg k1
         case measure => have := HK1.out; omega
         case rel => exact ⟨(wrap64 (x13_1 + 1)), (by first | rfl | (simp; done) | (simp [*]; done)), H', ⟨by have := HK1.out; omega⟩, by repeat (first | exact Drawn0.refl _ | apply Drawn0.step)⟩
       ·rw [if_neg c7] at H
        exact absurd H (by simp)
      ·rw [if_neg c6] at H
       exact absurd H (by simp)
     ·rw [if_neg c5] at H
      exact absurd H (by simp)
    ·rw [if_neg c4] at H
     have c4b0 : decide (x13_1 < (l0.length : Int)) = false := decide_eq_false c4
     clear c4
     obtain rfl := Option.some.inj H
     go_wp2
     repeat (go_quiet (fail); try go_wp2)
     go_ret
     exact ⟨by first | rfl | (simp; done) | (simp [*]; done), by repeat (first | exact Drawn0.refl _ | apply Drawn0.step)⟩
 ·rw [if_neg c3] at H
  have c3b0 : ((l0.length : Int) == (l1.length : Int)) = false := beq_eq_false_iff_ne.mpr c3
  have c3b1 : ((l0.length : Int) != (l1.length : Int)) = true := bne_iff_ne.mpr c3
  have c3b2 : (l0.length == l1.length) = false := by first | simpa using c3 | (simp at c3 ⊢; omega)
  obtain rfl := Option.some.inj H
  go_enter Tryd.func44, Tryd.ntmps44
  go_wp2
  repeat (go_quiet (fail); try go_wp2)
  go_ret
  exact ⟨by first | rfl | (simp; done) | (simp [*]; done), by repeat (first | exact Drawn0.refl _ | apply Drawn0.step)⟩

/-! ### api_Coil: function 45 -/
def api_Coil.l0 : Nat → List (S53) → List (S53) → Int → Int → Option (Bool)
 | 0, _, _, _, _ => none
 | k + 1, x0, x1, x12, x13 => if x13 < x12 then (if 0 ≤ x13 then (if x13 < (x0.length : Int) then (if x13 < (x1.length : Int) then (if (!(((rd_T53 x0 x13).f0) == ((rd_T53 x1 x13).f0)) || ((!(((rd_T53 x0 x13).f1.f0) == ((rd_T53 x1 x13).f1.f0)) || (!(((rd_T53 x0 x13).f1.f1) == ((rd_T53 x1 x13).f1.f1)))))) = true then (some false) else (api_Coil.l0 k x0 x1 x12 (wrap64 (x13 + 1)))) else (none)) else (none)) else (none)) else (some true)
def api_Coil.f (k : Nat) (l0 : List (S53)) (l1 : List (S53)) : Option (Bool) := if (l0.length : Int) = (l1.length : Int) then (api_Coil.l0 k l0 l1 (l0.length : Int) 0) else (some false)
theorem api_Coil.mono_l : ∀ k, (∀ y0 y1 y2 y3, LeO (api_Coil.l0 k y0 y1 y2 y3) (api_Coil.l0 (k + 1) y0 y1 y2 y3))
 | 0 => fun _ _ _ _ r h => by simp [api_Coil.l0] at h
 | k + 1 => by
  have ih0 := api_Coil.mono_l k
  ·intro y0 y1 y2 y3
   unfold api_Coil.l0
   repeat' first
   | (with_reducible exact ih0 _ _ _ _)
   | (with_reducible exact LeO.refl _)
   | (with_reducible exact LeO.none _)
   | (with_reducible refine LeO.ite ?_ ?_)
   | (with_reducible refine LeO.bind ?_ (fun _ => ?_))
   | exact ih0 _ _ _ _
   | exact LeO.none _
   | refine LeO.ite ?_ ?_
   | refine LeO.bind ?_ (fun _ => ?_)
theorem api_Coil.mono : ∀ a0 a1 k, LeO (api_Coil.f k a0 a1) (api_Coil.f (k + 1) a0 a1) := by
 intro a0 a1 k
 have ih0 := api_Coil.mono_l k
 unfold api_Coil.f
 repeat' first
   | (with_reducible exact ih0 _ _ _ _)
   | (with_reducible exact LeO.refl _)
   | (with_reducible exact LeO.none _)
   | (with_reducible refine LeO.ite ?_ ?_)
   | (with_reducible refine LeO.bind ?_ (fun _ => ?_))
   | exact ih0 _ _ _ _
   | exact LeO.none _
   | refine LeO.ite ?_ ?_
   | refine LeO.bind ?_ (fun _ => ?_)
set_option maxHeartbeats 8000000 in
set_option maxRecDepth 100000 in
theorem api_Coil.calls (k : Nat) (A0 : Option Addr) (c0 : Nat) (l0 : List (S53)) (A1 : Option Addr) (c1 : Nat) (l1 : List (S53)) (r : Bool) (w : World) (hr0 : Kd.C k53 w A0 l0.length l0) (hc0 : l0.length ≤ c0) (hr1 : Kd.C k53 w A1 l1.length l1) (hc1 : l1.length ≤ c1) (h : api_Coil.f k l0 l1 = some r) :
  Calls Tryd.prog 45 #[.slice A0 l0.length c0, .slice A1 l1.length c1] w fun e w' => e = .returned (.bool r) ∧ Drawn0 w w' := by
 have hu53 := Tryd.underlying53
 have HR0 := Aside0.mk hr0
 have HC0 := Aside0.mk hc0
 clear hr0 hc0
 have HR1 := Aside0.mk hr1
 have HC1 := Aside0.mk hc1
 clear hr1 hc1
 have H : (if (l0.length : Int) = (l1.length : Int) then (api_Coil.l0 k l0 l1 (l0.length : Int) 0) else (some false)) = some r := h
 clear h
 by_cases c3 : (l0.length : Int) = (l1.length : Int)
 ·rw [if_pos c3] at H
  have c3b0 : ((l0.length : Int) == (l1.length : Int)) = true := beq_iff_eq.mpr c3
  have c3b1 : ((l0.length : Int) != (l1.length : Int)) = false := bne_eq_false_iff_eq.mpr c3
  have c3b2 : (l0.length == l1.length) = true := by first | simpa using c3 | (simp at c3 ⊢; omega)
  clear c3
  have H' := Aside0.mk H
  clear H
  go_enter Tryd.func45, Tryd.ntmps45
  go_wp2
  repeat (go_quiet (fail); try go_wp2)
  go_loopg [13] k (fun kq v13 w' => ∃ (x13_1 : Int), v13 = .int .i64 x13_1 ∧ Aside0 (api_Coil.l0 kq l0 l1 (l0.length : Int) x13_1 = some r) ∧ Aside0 (kq ≤ k) ∧ Drawn0 w w')
  case atStart => exact ⟨(0), (by first | rfl | (simp; done) | (simp [*]; done)), H', ⟨Nat.le_refl _⟩, by repeat (first | exact Drawn0.refl _ | apply Drawn0.step)⟩
  case round =>
   clear H'
   try clear c1
   try clear p2
   try clear c3
   try clear c3b0
   try clear c3b1
   try clear c3b2
   obtain ⟨x13_1, rfl, HA, HK1, ⟨m1, rfl⟩⟩ := hrel
   cases gk with
   | zero => exact absurd HA.out (by simp [api_Coil.l0])
   | succ k1 =>
    have H := HA.out
    clear HA
    simp only [api_Coil.l0] at H
    by_cases c4 : x13_1 < (l0.length : Int)
    ·rw [if_pos c4] at H
     have c4b0 : decide (x13_1 < (l0.length : Int)) = true := decide_eq_true c4
     clear c4
     by_cases c5 : 0 ≤ x13_1
     ·rw [if_pos c5] at H
      have c5b0 : decide (0 ≤ x13_1) = true := decide_eq_true c5
      clear c5
      by_cases c6 : x13_1 < (l0.length : Int)
      ·rw [if_pos c6] at H
       have c6b0 : decide (x13_1 < (l0.length : Int)) = true := decide_eq_true c6
       clear c6
       by_cases c7 : x13_1 < (l1.length : Int)
       ·rw [if_pos c7] at H
        have c7b0 : decide (x13_1 < (l1.length : Int)) = true := decide_eq_true c7
        clear c7
        by_cases c8 : (!(((rd_T53 l0 x13_1).f0) == ((rd_T53 l1 x13_1).f0)) || ((!(((rd_T53 l0 x13_1).f1.f0) == ((rd_T53 l1 x13_1).f1.f0)) || (!(((rd_T53 l0 x13_1).f1.f1) == ((rd_T53 l1 x13_1).f1.f1)))))) = true
        ·rw [if_pos c8] at H
         have c8b0 : (!(((rd_T53 l0 x13_1).f0) == ((rd_T53 l1 x13_1).f0)) || ((!(((rd_T53 l0 x13_1).f1.f0) == ((rd_T53 l1 x13_1).f1.f0)) || (!(((rd_T53 l0 x13_1).f1.f1) == ((rd_T53 l1 x13_1).f1.f1)))))) = true := c8
         clear c8
         obtain rfl := Option.some.inj H
         have p251 : 0 ≤ (x13_1 : Int) := of_decide_eq_true (by first | (with_reducible assumption) | assumption)
         have q251 : x13_1 < (l0.length : Int) := of_decide_eq_true (by first | (with_reducible assumption) | assumption)
         obtain ⟨ad251, e251, hx251_0, hx251_1, hx251_2⟩ := at_T53 HR0.out x13_1 p251 q251
         cases e251
         replace p251 := eq_true p251
         replace q251 := eq_true q251
         have p252 : 0 ≤ (x13_1 : Int) := of_decide_eq_true (by first | (with_reducible assumption) | assumption)
         have q252 : x13_1 < (l1.length : Int) := of_decide_eq_true (by first | (with_reducible assumption) | assumption)
         obtain ⟨ad252, e252, hx252_0, hx252_1, hx252_2⟩ := at_T53 HR1.out x13_1 p252 q252
         cases e252
         replace p252 := eq_true p252
         replace q252 := eq_true q252
         go_wp2
         repeat (go_quiet (fail); try go_wp2)
         go_ret
         exact ⟨by first | rfl | (simp; done) | (simp [*]; done), by repeat (first | exact Drawn0.refl _ | apply Drawn0.step)⟩
        ·rw [if_neg c8] at H
         have c8b0 : (!(((rd_T53 l0 x13_1).f0) == ((rd_T53 l1 x13_1).f0)) || ((!(((rd_T53 l0 x13_1).f1.f0) == ((rd_T53 l1 x13_1).f1.f0)) || (!(((rd_T53 l0 x13_1).f1.f1) == ((rd_T53 l1 x13_1).f1.f1)))))) = false := by simpa using c8
         clear c8
         have H' := Aside0.mk H
         clear H
         have p251 : 0 ≤ (x13_1 : Int) := of_decide_eq_true (by first | (with_reducible assumption) | assumption)
         have q251 : x13_1 < (l0.length : Int) := of_decide_eq_true (by first | (with_reducible assumption) | assumption)
         obtain ⟨ad251, e251, hx251_0, hx251_1, hx251_2⟩ := at_T53 HR0.out x13_1 p251 q251
         cases e251
         replace p251 := eq_true p251
         replace q251 := eq_true q251
         have p252 : 0 ≤ (x13_1 : Int) := of_decide_eq_true (by first | (with_reducible assumption) | assumption)
         have q252 : x13_1 < (l1.length : Int) := of_decide_eq_true (by first | (with_reducible assumption) | assumption)
         obtain ⟨ad252, e252, hx252_0, hx252_1, hx252_2⟩ := at_T53 HR1.out x13_1 p252 q252
         cases e252
         replace p252 := eq_true p252
         replace q252 := eq_true q252
         go_wp2
         repeat (go_quiet (fail); try go_wp2)
         go_roundg k1
         case measure => have := HK1.out; omega
         case rel => exact ⟨(wrap64 (x13_1 + 1)), (by first | rfl | (simp; done) | (simp [*]; done)), H', ⟨by have := HK1.out; omega⟩, by repeat (first | exact Drawn0.refl _ | apply Drawn0.step)⟩
       ·rw [if_neg c7] at H
        exact absurd H (by simp)
      ·rw [if_neg c6] at H
       exact absurd H (by simp)
     ·rw [if_neg c5] at H
      exact absurd H (by simp)
    ·rw [if_neg c4] at H
     have c4b0 : decide (x13_1 < (l0.length : Int)) = false := decide_eq_false c4
     clear c4
     obtain rfl := Option.some.inj H
     go_wp2
     repeat (go_quiet (fail); try go_wp2)
     go_ret
     exact ⟨by first | rfl | (simp; done) | (simp [*]; done), by repeat (first | exact Drawn0.refl _ | apply Drawn0.step)⟩
 ·rw [if_neg c3] at H
  have c3b0 : ((l0.length : Int) == (l1.length : Int)) = false := beq_eq_false_iff_ne.mpr c3
  have c3b1 : ((l0.length : Int) != (l1.length : Int)) = true := bne_iff_ne.mpr c3
  have c3b2 : (l0.length == l1.length) = false := by first | simpa using c3 | (simp at c3 ⊢; omega)
  obtain rfl := Option.some.inj H
  go_enter Tryd.func45, Tryd.ntmps45
  go_wp2
  repeat (go_quiet (fail); try go_wp2)
  go_ret
  exact ⟨by first | rfl | (simp; done) | (simp [*]; done), by repeat (first | exact Drawn0.refl _ | apply Drawn0.step)⟩

/-! ### printer_Equal_1: function 43 -/
def printer_Equal_1.f (k : Nat) (a0_0 : ByteArray) (l0_1 : List (S50)) (l0_2 : List (S53)) (a0_3 : ByteArray) (a1_0 : ByteArray) (l1_1 : List (S50)) (l1_2 : List (S53)) (a1_3 : ByteArray) : Option (Bool) := if a0_0.toList = a1_0.toList then (if a0_3.toList = a1_3.toList then ((api_Contact.f k l0_1 l1_1).bind fun t255 => (if t255 = true then ((api_Coil.f k l0_2 l1_2).bind fun t256 => (some t256)) else (some false))) else (some false)) else (some false)
theorem printer_Equal_1.mono : ∀ a0 a1 a2 a3 a4 a5 a6 a7 k, LeO (printer_Equal_1.f k a0 a1 a2 a3 a4 a5 a6 a7) (printer_Equal_1.f (k + 1) a0 a1 a2 a3 a4 a5 a6 a7) := by
 intro a0 a1 a2 a3 a4 a5 a6 a7 k
 unfold printer_Equal_1.f
 repeat' first
   | (with_reducible exact api_Coil.mono _ _ _)
   | (with_reducible exact api_Contact.mono _ _ _)
   | (with_reducible exact LeO.refl _)
   | (with_reducible exact LeO.none _)
   | (with_reducible refine LeO.ite ?_ ?_)
   | (with_reducible refine LeO.bind ?_ (fun _ => ?_))
   | exact api_Coil.mono _ _ _
   | exact api_Contact.mono _ _ _
   | exact LeO.none _
   | refine LeO.ite ?_ ?_
   | refine LeO.bind ?_ (fun _ => ?_)
set_option maxHeartbeats 8000000 in
set_option maxRecDepth 100000 in
theorem printer_Equal_1.calls (k : Nat) (a0_0 : ByteArray) (A0_1 : Option Addr) (c0_1 : Nat) (l0_1 : List (S50)) (A0_2 : Option Addr) (c0_2 : Nat) (l0_2 : List (S53)) (a0_3 : ByteArray) (a1_0 : ByteArray) (A1_1 : Option Addr) (c1_1 : Nat) (l1_1 : List (S50)) (A1_2 : Option Addr) (c1_2 : Nat) (l1_2 : List (S53)) (a1_3 : ByteArray) (r : Bool) (w : World) (hr0_1 : Kd.C k50 w A0_1 l0_1.length l0_1) (hc0_1 : l0_1.length ≤ c0_1) (hr0_2 : Kd.C k53 w A0_2 l0_2.length l0_2) (hc0_2 : l0_2.length ≤ c0_2) (hr1_1 : Kd.C k50 w A1_1 l1_1.length l1_1) (hc1_1 : l1_1.length ≤ c1_1) (hr1_2 : Kd.C k53 w A1_2 l1_2.length l1_2) (hc1_2 : l1_2.length ≤ c1_2) (h : printer_Equal_1.f k a0_0 l0_1 l0_2 a0_3 a1_0 l1_1 l1_2 a1_3 = some r) :
  Calls Tryd.prog 43 #[.agg #[.string a0_0, .slice A0_1 l0_1.length c0_1, .slice A0_2 l0_2.length c0_2, .string a0_3], .agg #[.string a1_0, .slice A1_1 l1_1.length c1_1, .slice A1_2 l1_2.length c1_2, .string a1_3]] w fun e w' => e = .returned (.bool r) ∧ Below w.heap.size w w' := by
 have hu40 := Tryd.underlying40
 have HR0_1 := Aside0.mk hr0_1
 have HC0_1 := Aside0.mk hc0_1
 clear hr0_1 hc0_1
 have HR0_2 := Aside0.mk hr0_2
 have HC0_2 := Aside0.mk hc0_2
 clear hr0_2 hc0_2
 have HR1_1 := Aside0.mk hr1_1
 have HC1_1 := Aside0.mk hc1_1
 clear hr1_1 hc1_1
 have HR1_2 := Aside0.mk hr1_2
 have HC1_2 := Aside0.mk hc1_2
 clear hr1_2 hc1_2
 have HB := Aside0.mk (Below.refl w.heap.size w)
 have H : (if a0_0.toList = a1_0.toList then (if a0_3.toList = a1_3.toList then ((api_Contact.f k l0_1 l1_1).bind fun t255 => (if t255 = true then ((api_Coil.f k l0_2 l1_2).bind fun t256 => (some t256)) else (some false))) else (some false)) else (some false)) = some r := h
 clear h
 by_cases c3 : a0_0.toList = a1_0.toList
 ·rw [if_pos c3] at H
  have c3b0 : (a0_0.toList == a1_0.toList) = true := beq_iff_eq.mpr c3
  have c3b1 : (a0_0.toList != a1_0.toList) = false := bne_eq_false_iff_eq.mpr c3
  clear c3
  by_cases c4 : a0_3.toList = a1_3.toList
  ·rw [if_pos c4] at H
   have c4b0 : (a0_3.toList == a1_3.toList) = true := beq_iff_eq.mpr c4
   have c4b1 : (a0_3.toList != a1_3.toList) = false := bne_eq_false_iff_eq.mpr c4
   clear c4
   replace H := Option.bind_eq_some_iff.mp H
   obtain ⟨t255, A50, H⟩ := H
   replace H : (if t255 = true then ((api_Coil.f k l0_2 l1_2).bind fun t256 => (some t256)) else (some false)) = some r := H
   have A5 := Aside0.mk A50
   clear A50
   by_cases c6 : t255 = true
   ·subst c6
    have H1 : ((api_Coil.f k l0_2 l1_2).bind fun t256 => (some t256)) = some r := by rw [if_pos rfl] at H; exact H
    clear H
    have H := H1
    clear H1
    replace H := Option.bind_eq_some_iff.mp H
    obtain ⟨t256, A70, H⟩ := H
    replace H : (some t256) = some r := H
    have A7 := Aside0.mk A70
    clear A70
    obtain rfl := Option.some.inj H
    go_enter Tryd.func43, Tryd.ntmps43
    go_wp2_with (first | ((with_reducible refine gate_dst (N := 2) rfl ?_); refine box_event ?hg (N := 2) ?hd (cs := #[.string a0_0, .slice A0_1 l0_1.length c0_1, .slice A0_2 l0_2.length c0_2, .string a0_3]) (t := 40) ?hr ?_; (case hd => rfl); (case hg => rfl); (case hr => first | (go_simp; done) | (go_simp; rfl)); intro gb253 hg w8 hbox hb; have n0_ := Aside0.mk (below_step (by repeat (first | (with_reducible first | exact HB.out | apply below_alloc | apply pw_below_drewN | apply below_drew1) | exact HB.out)) hb); have n1_ := Aside0.mk (hbox); have n2_ := Aside0.mk ((by rw [hg]; exact (below_size (by repeat (first | (with_reducible first | exact HB.out | apply below_alloc | apply pw_below_drewN | apply below_drew1) | exact HB.out))) : w.heap.size ≤ gb253)); have n3_ := Aside0.mk ((by rw [hg]; exact (below_size (by repeat (first | (with_reducible first | exact HB.out | apply below_alloc | apply pw_below_drewN | apply below_drew1) | exact HB.out))) : w.heap.size ≤ gb253)); clear HB; have HB := n0_; have BK253 := n1_; have GW253 := n2_; have GE253 := n3_; clear n0_ n1_ n2_ n3_; clear hb hbox hg) | ((with_reducible refine gate_dst (N := 3) rfl ?_); refine box_event ?hg (N := 3) ?hd (cs := #[.string a1_0, .slice A1_1 l1_1.length c1_1, .slice A1_2 l1_2.length c1_2, .string a1_3]) (t := 40) ?hr ?_; (case hd => rfl); (case hg => rfl); (case hr => first | (go_simp; done) | (go_simp; rfl)); intro gb254 hg w9 hbox hb; have n0_ := Aside0.mk (blk_below (g := gb253) (o := .cells #[.string a0_0, .slice A0_1 l0_1.length c0_1, .slice A0_2 l0_2.length c0_2, .string a0_3] 40 (0, 0)) (by (with_reducible repeat (first | refine blk_drewN ?_ _ | refine blk_drew ?_ | refine blk_alloc ?_ _)); exact BK253.out) hb); have n1_ := Aside0.mk (below_step (by repeat (first | (with_reducible first | exact HB.out | apply below_alloc | apply pw_below_drewN | apply below_drew1 | refine below_set ?_ GE253.out) | exact HB.out)) hb); have n2_ := Aside0.mk (hbox); have n3_ := Aside0.mk ((by rw [hg]; exact (below_size (by repeat (first | (with_reducible first | exact HB.out | apply below_alloc | apply pw_below_drewN | apply below_drew1 | refine below_set ?_ GE253.out) | exact HB.out))) : w.heap.size ≤ gb254)); have n4_ := Aside0.mk ((by rw [hg]; exact (below_size (by repeat (first | (with_reducible first | exact HB.out | apply below_alloc | apply pw_below_drewN | apply below_drew1 | refine below_set ?_ GE253.out) | exact HB.out))) : w.heap.size ≤ gb254)); have n5_ := Aside0.mk ((by rw [hg]; exact Nat.ne_of_lt (blk_lt (g := gb253) (o := .cells #[.string a0_0, .slice A0_1 l0_1.length c0_1, .slice A0_2 l0_2.length c0_2, .string a0_3] 40 (0, 0)) (by (with_reducible repeat (first | refine blk_drewN ?_ _ | refine blk_drew ?_ | refine blk_alloc ?_ _)); exact BK253.out)) : gb253 ≠ gb254)); have n6_ := Aside0.mk ((by rw [hg]; exact Nat.ne_of_gt (blk_lt (g := gb253) (o := .cells #[.string a0_0, .slice A0_1 l0_1.length c0_1, .slice A0_2 l0_2.length c0_2, .string a0_3] 40 (0, 0)) (by (with_reducible repeat (first | refine blk_drewN ?_ _ | refine blk_drew ?_ | refine blk_alloc ?_ _)); exact BK253.out)) : gb254 ≠ gb253)); clear BK253; clear HB; have BK253 := n0_; have HB := n1_; have BK254 := n2_; have GW254 := n3_; have GE254 := n4_; have NB253_254 := n5_; have NB254_253 := n6_; clear n0_ n1_ n2_ n3_ n4_ n5_ n6_; clear hb hbox hg; have hnb10 := NB253_254.out; have hnc10 := NB254_253.out; have hcz11_0 : w9.cell? ⟨gb253, 0, none⟩ = some (.string a0_0) := (blk_cell BK253.out 0).trans rfl; have hcz11_1 : w9.cell? ⟨gb253, 1, none⟩ = some (.slice A0_1 l0_1.length c0_1) := (blk_cell BK253.out 1).trans rfl; have hcz11_2 : w9.cell? ⟨gb253, 2, none⟩ = some (.slice A0_2 l0_2.length c0_2) := (blk_cell BK253.out 2).trans rfl; have hcz11_3 : w9.cell? ⟨gb253, 3, none⟩ = some (.string a0_3) := (blk_cell BK253.out 3).trans rfl; have hfz11_0 := blk_frozen BK253.out 0; have hfz11_1 := blk_frozen BK253.out 1; have hfz11_2 := blk_frozen BK253.out 2; have hfz11_3 := blk_frozen BK253.out 3; have hcz12_0 : w9.cell? ⟨gb254, 0, none⟩ = some (.string a1_0) := (blk_cell BK254.out 0).trans rfl; have hcz12_1 : w9.cell? ⟨gb254, 1, none⟩ = some (.slice A1_1 l1_1.length c1_1) := (blk_cell BK254.out 1).trans rfl; have hcz12_2 : w9.cell? ⟨gb254, 2, none⟩ = some (.slice A1_2 l1_2.length c1_2) := (blk_cell BK254.out 2).trans rfl; have hcz12_3 : w9.cell? ⟨gb254, 3, none⟩ = some (.string a1_3) := (blk_cell BK254.out 3).trans rfl; have hfz12_0 := blk_frozen BK254.out 0; have hfz12_1 := blk_frozen BK254.out 1; have hfz12_2 := blk_frozen BK254.out 2; have hfz12_3 := blk_frozen BK254.out 3) | (go_at_call 44; (with_reducible refine (api_Contact.calls k _ _ l0_1 _ _ l1_1 true _ ?side1 ?side2 ?side3 ?side4 A5.out).mono ?_); (case side1 => repeat (first | exact (Kd.C_below HR0_1.out HB.out) | (with_reducible refine Kd.C_alloc ?_ _) | (with_reducible refine Kd.C_drewN ?_ _) | (with_reducible refine Kd.C_drew ?_))); (case side2 => exact HC0_1.out); (case side3 => repeat (first | exact (Kd.C_below HR1_1.out HB.out) | (with_reducible refine Kd.C_alloc ?_ _) | (with_reducible refine Kd.C_drewN ?_ _) | (with_reducible refine Kd.C_drew ?_))); (case side4 => exact HC1_1.out); rintro e w' ⟨rfl, ⟨nd, rfl⟩⟩) | (go_at_call 45; (with_reducible refine (api_Coil.calls k _ _ l0_2 _ _ l1_2 t256 _ ?side1 ?side2 ?side3 ?side4 A7.out).mono ?_); (case side1 => repeat (first | exact (Kd.C_below HR0_2.out (by repeat (first | (with_reducible first | exact HB.out | apply below_alloc | apply pw_below_drewN | apply below_drew1 | refine below_set ?_ GE253.out | refine below_set ?_ GE254.out) | exact HB.out))) | (with_reducible refine Kd.C_alloc ?_ _) | (with_reducible refine Kd.C_drewN ?_ _) | (with_reducible refine Kd.C_drew ?_))); (case side2 => exact HC0_2.out); (case side3 => repeat (first | exact (Kd.C_below HR1_2.out (by repeat (first | (with_reducible first | exact HB.out | apply below_alloc | apply pw_below_drewN | apply below_drew1 | refine below_set ?_ GE253.out | refine below_set ?_ GE254.out) | exact HB.out))) | (with_reducible refine Kd.C_alloc ?_ _) | (with_reducible refine Kd.C_drewN ?_ _) | (with_reducible refine Kd.C_drew ?_))); (case side4 => exact HC1_2.out); rintro e w' ⟨rfl, ⟨nd, rfl⟩⟩))
    go_ret
    exact ⟨by first | rfl | (simp [errW_none, errW_some] <;> rfl) | (simp [*, errW_none, errW_some] <;> rfl), by repeat (first | (with_reducible first | exact HB.out | apply below_alloc | apply pw_below_drewN | apply below_drew1 | refine below_set ?_ GE253.out | refine below_set ?_ GE254.out) | exact HB.out)⟩
   ·replace c6 := Bool.eq_false_iff.mpr c6
    subst c6
    have H1 : (some false) = some r := by rw [if_neg (show ¬ (false = true) by decide)] at H; exact H
    clear H
    have H := H1
    clear H1
    obtain rfl := Option.some.inj H
    go_enter Tryd.func43, Tryd.ntmps43
    go_wp2_with (first | ((with_reducible refine gate_dst (N := 2) rfl ?_); refine box_event ?hg (N := 2) ?hd (cs := #[.string a0_0, .slice A0_1 l0_1.length c0_1, .slice A0_2 l0_2.length c0_2, .string a0_3]) (t := 40) ?hr ?_; (case hd => rfl); (case hg => rfl); (case hr => first | (go_simp; done) | (go_simp; rfl)); intro gb253 hg w13 hbox hb; have n0_ := Aside0.mk (below_step (by repeat (first | (with_reducible first | exact HB.out | apply below_alloc | apply pw_below_drewN | apply below_drew1) | exact HB.out)) hb); have n1_ := Aside0.mk (hbox); have n2_ := Aside0.mk ((by rw [hg]; exact (below_size (by repeat (first | (with_reducible first | exact HB.out | apply below_alloc | apply pw_below_drewN | apply below_drew1) | exact HB.out))) : w.heap.size ≤ gb253)); have n3_ := Aside0.mk ((by rw [hg]; exact (below_size (by repeat (first | (with_reducible first | exact HB.out | apply below_alloc | apply pw_below_drewN | apply below_drew1) | exact HB.out))) : w.heap.size ≤ gb253)); clear HB; have HB := n0_; have BK253 := n1_; have GW253 := n2_; have GE253 := n3_; clear n0_ n1_ n2_ n3_; clear hb hbox hg) | ((with_reducible refine gate_dst (N := 3) rfl ?_); refine box_event ?hg (N := 3) ?hd (cs := #[.string a1_0, .slice A1_1 l1_1.length c1_1, .slice A1_2 l1_2.length c1_2, .string a1_3]) (t := 40) ?hr ?_; (case hd => rfl); (case hg => rfl); (case hr => first | (go_simp; done) | (go_simp; rfl)); intro gb254 hg w14 hbox hb; have n0_ := Aside0.mk (blk_below (g := gb253) (o := .cells #[.string a0_0, .slice A0_1 l0_1.length c0_1, .slice A0_2 l0_2.length c0_2, .string a0_3] 40 (0, 0)) (by (with_reducible repeat (first | refine blk_drewN ?_ _ | refine blk_drew ?_ | refine blk_alloc ?_ _)); exact BK253.out) hb); have n1_ := Aside0.mk (below_step (by repeat (first | (with_reducible first | exact HB.out | apply below_alloc | apply pw_below_drewN | apply below_drew1 | refine below_set ?_ GE253.out) | exact HB.out)) hb); have n2_ := Aside0.mk (hbox); have n3_ := Aside0.mk ((by rw [hg]; exact (below_size (by repeat (first | (with_reducible first | exact HB.out | apply below_alloc | apply pw_below_drewN | apply below_drew1 | refine below_set ?_ GE253.out) | exact HB.out))) : w.heap.size ≤ gb254)); have n4_ := Aside0.mk ((by rw [hg]; exact (below_size (by repeat (first | (with_reducible first | exact HB.out | apply below_alloc | apply pw_below_drewN | apply below_drew1 | refine below_set ?_ GE253.out) | exact HB.out))) : w.heap.size ≤ gb254)); have n5_ := Aside0.mk ((by rw [hg]; exact Nat.ne_of_lt (blk_lt (g := gb253) (o := .cells #[.string a0_0, .slice A0_1 l0_1.length c0_1, .slice A0_2 l0_2.length c0_2, .string a0_3] 40 (0, 0)) (by (with_reducible repeat (first | refine blk_drewN ?_ _ | refine blk_drew ?_ | refine blk_alloc ?_ _)); exact BK253.out)) : gb253 ≠ gb254)); have n6_ := Aside0.mk ((by rw [hg]; exact Nat.ne_of_gt (blk_lt (g := gb253) (o := .cells #[.string a0_0, .slice A0_1 l0_1.length c0_1, .slice A0_2 l0_2.length c0_2, .string a0_3] 40 (0, 0)) (by (with_reducible repeat (first | refine blk_drewN ?_ _ | refine blk_drew ?_ | refine blk_alloc ?_ _)); exact BK253.out)) : gb254 ≠ gb253)); clear BK253; clear HB; have BK253 := n0_; have HB := n1_; have BK254 := n2_; have GW254 := n3_; have GE254 := n4_; have NB253_254 := n5_; have NB254_253 := n6_; clear n0_ n1_ n2_ n3_ n4_ n5_ n6_; clear hb hbox hg; have hnb15 := NB253_254.out; have hnc15 := NB254_253.out; have hcz16_0 : w14.cell? ⟨gb253, 0, none⟩ = some (.string a0_0) := (blk_cell BK253.out 0).trans rfl; have hcz16_1 : w14.cell? ⟨gb253, 1, none⟩ = some (.slice A0_1 l0_1.length c0_1) := (blk_cell BK253.out 1).trans rfl; have hcz16_2 : w14.cell? ⟨gb253, 2, none⟩ = some (.slice A0_2 l0_2.length c0_2) := (blk_cell BK253.out 2).trans rfl; have hcz16_3 : w14.cell? ⟨gb253, 3, none⟩ = some (.string a0_3) := (blk_cell BK253.out 3).trans rfl; have hfz16_0 := blk_frozen BK253.out 0; have hfz16_1 := blk_frozen BK253.out 1; have hfz16_2 := blk_frozen BK253.out 2; have hfz16_3 := blk_frozen BK253.out 3; have hcz17_0 : w14.cell? ⟨gb254, 0, none⟩ = some (.string a1_0) := (blk_cell BK254.out 0).trans rfl; have hcz17_1 : w14.cell? ⟨gb254, 1, none⟩ = some (.slice A1_1 l1_1.length c1_1) := (blk_cell BK254.out 1).trans rfl; have hcz17_2 : w14.cell? ⟨gb254, 2, none⟩ = some (.slice A1_2 l1_2.length c1_2) := (blk_cell BK254.out 2).trans rfl; have hcz17_3 : w14.cell? ⟨gb254, 3, none⟩ = some (.string a1_3) := (blk_cell BK254.out 3).trans rfl; have hfz17_0 := blk_frozen BK254.out 0; have hfz17_1 := blk_frozen BK254.out 1; have hfz17_2 := blk_frozen BK254.out 2; have hfz17_3 := blk_frozen BK254.out 3) | (go_at_call 44; (with_reducible refine (api_Contact.calls k _ _ l0_1 _ _ l1_1 false _ ?side1 ?side2 ?side3 ?side4 A5.out).mono ?_); (case side1 => repeat (first | exact (Kd.C_below HR0_1.out HB.out) | (with_reducible refine Kd.C_alloc ?_ _) | (with_reducible refine Kd.C_drewN ?_ _) | (with_reducible refine Kd.C_drew ?_))); (case side2 => exact HC0_1.out); (case side3 => repeat (first | exact (Kd.C_below HR1_1.out HB.out) | (with_reducible refine Kd.C_alloc ?_ _) | (with_reducible refine Kd.C_drewN ?_ _) | (with_reducible refine Kd.C_drew ?_))); (case side4 => exact HC1_1.out); rintro e w' ⟨rfl, ⟨nd, rfl⟩⟩))
    go_ret
    exact ⟨by first | rfl | (simp [errW_none, errW_some] <;> rfl) | (simp [*, errW_none, errW_some] <;> rfl), by repeat (first | (with_reducible first | exact HB.out | apply below_alloc | apply pw_below_drewN | apply below_drew1 | refine below_set ?_ GE253.out | refine below_set ?_ GE254.out) | exact HB.out)⟩
  ·rw [if_neg c4] at H
   have c4b0 : (a0_3.toList == a1_3.toList) = false := beq_eq_false_iff_ne.mpr c4
   have c4b1 : (a0_3.toList != a1_3.toList) = true := bne_iff_ne.mpr c4
   obtain rfl := Option.some.inj H
   go_enter Tryd.func43, Tryd.ntmps43
   go_wp2_with (first | ((with_reducible refine gate_dst (N := 2) rfl ?_); refine box_event ?hg (N := 2) ?hd (cs := #[.string a0_0, .slice A0_1 l0_1.length c0_1, .slice A0_2 l0_2.length c0_2, .string a0_3]) (t := 40) ?hr ?_; (case hd => rfl); (case hg => rfl); (case hr => first | (go_simp; done) | (go_simp; rfl)); intro gb253 hg w18 hbox hb; have n0_ := Aside0.mk (below_step (by repeat (first | (with_reducible first | exact HB.out | apply below_alloc | apply pw_below_drewN | apply below_drew1) | exact HB.out)) hb); have n1_ := Aside0.mk (hbox); have n2_ := Aside0.mk ((by rw [hg]; exact (below_size (by repeat (first | (with_reducible first | exact HB.out | apply below_alloc | apply pw_below_drewN | apply below_drew1) | exact HB.out))) : w.heap.size ≤ gb253)); have n3_ := Aside0.mk ((by rw [hg]; exact (below_size (by repeat (first | (with_reducible first | exact HB.out | apply below_alloc | apply pw_below_drewN | apply below_drew1) | exact HB.out))) : w.heap.size ≤ gb253)); clear HB; have HB := n0_; have BK253 := n1_; have GW253 := n2_; have GE253 := n3_; clear n0_ n1_ n2_ n3_; clear hb hbox hg) | ((with_reducible refine gate_dst (N := 3) rfl ?_); refine box_event ?hg (N := 3) ?hd (cs := #[.string a1_0, .slice A1_1 l1_1.length c1_1, .slice A1_2 l1_2.length c1_2, .string a1_3]) (t := 40) ?hr ?_; (case hd => rfl); (case hg => rfl); (case hr => first | (go_simp; done) | (go_simp; rfl)); intro gb254 hg w19 hbox hb; have n0_ := Aside0.mk (blk_below (g := gb253) (o := .cells #[.string a0_0, .slice A0_1 l0_1.length c0_1, .slice A0_2 l0_2.length c0_2, .string a0_3] 40 (0, 0)) (by (with_reducible repeat (first | refine blk_drewN ?_ _ | refine blk_drew ?_ | refine blk_alloc ?_ _)); exact BK253.out) hb); have n1_ := Aside0.mk (below_step (by repeat (first | (with_reducible first | exact HB.out | apply below_alloc | apply pw_below_drewN | apply below_drew1 | refine below_set ?_ GE253.out) | exact HB.out)) hb); have n2_ := Aside0.mk (hbox); have n3_ := Aside0.mk ((by rw [hg]; exact (below_size (by repeat (first | (with_reducible first | exact HB.out | apply below_alloc | apply pw_below_drewN | apply below_drew1 | refine below_set ?_ GE253.out) | exact HB.out))) : w.heap.size ≤ gb254)); have n4_ := Aside0.mk ((by rw [hg]; exact (below_size (by repeat (first | (with_reducible first | exact HB.out | apply below_alloc | apply pw_below_drewN | apply below_drew1 | refine below_set ?_ GE253.out) | exact HB.out))) : w.heap.size ≤ gb254)); have n5_ := Aside0.mk ((by rw [hg]; exact Nat.ne_of_lt (blk_lt (g := gb253) (o := .cells #[.string a0_0, .slice A0_1 l0_1.length c0_1, .slice A0_2 l0_2.length c0_2, .string a0_3] 40 (0, 0)) (by (with_reducible repeat (first | refine blk_drewN ?_ _ | refine blk_drew ?_ | refine blk_alloc ?_ _)); exact BK253.out)) : gb253 ≠ gb254)); have n6_ := Aside0.mk ((by rw [hg]; exact Nat.ne_of_gt (blk_lt (g := gb253) (o := .cells #[.string a0_0, .slice A0_1 l0_1.length c0_1, .slice A0_2 l0_2.length c0_2, .string a0_3] 40 (0, 0)) (by (with_reducible repeat (first | refine blk_drewN ?_ _ | refine blk_drew ?_ | refine blk_alloc ?_ _)); exact BK253.out)) : gb254 ≠ gb253)); clear BK253; clear HB; have BK253 := n0_; have HB := n1_; have BK254 := n2_; have GW254 := n3_; have GE254 := n4_; have NB253_254 := n5_; have NB254_253 := n6_; clear n0_ n1_ n2_ n3_ n4_ n5_ n6_; clear hb hbox hg; have hnb20 := NB253_254.out; have hnc20 := NB254_253.out; have hcz21_0 : w19.cell? ⟨gb253, 0, none⟩ = some (.string a0_0) := (blk_cell BK253.out 0).trans rfl; have hcz21_1 : w19.cell? ⟨gb253, 1, none⟩ = some (.slice A0_1 l0_1.length c0_1) := (blk_cell BK253.out 1).trans rfl; have hcz21_2 : w19.cell? ⟨gb253, 2, none⟩ = some (.slice A0_2 l0_2.length c0_2) := (blk_cell BK253.out 2).trans rfl; have hcz21_3 : w19.cell? ⟨gb253, 3, none⟩ = some (.string a0_3) := (blk_cell BK253.out 3).trans rfl; have hfz21_0 := blk_frozen BK253.out 0; have hfz21_1 := blk_frozen BK253.out 1; have hfz21_2 := blk_frozen BK253.out 2; have hfz21_3 := blk_frozen BK253.out 3; have hcz22_0 : w19.cell? ⟨gb254, 0, none⟩ = some (.string a1_0) := (blk_cell BK254.out 0).trans rfl; have hcz22_1 : w19.cell? ⟨gb254, 1, none⟩ = some (.slice A1_1 l1_1.length c1_1) := (blk_cell BK254.out 1).trans rfl; have hcz22_2 : w19.cell? ⟨gb254, 2, none⟩ = some (.slice A1_2 l1_2.length c1_2) := (blk_cell BK254.out 2).trans rfl; have hcz22_3 : w19.cell? ⟨gb254, 3, none⟩ = some (.string a1_3) := (blk_cell BK254.out 3).trans rfl; have hfz22_0 := blk_frozen BK254.out 0; have hfz22_1 := blk_frozen BK254.out 1; have hfz22_2 := blk_frozen BK254.out 2; have hfz22_3 := blk_frozen BK254.out 3))
   go_ret
   exact ⟨by first | rfl | (simp [errW_none, errW_some] <;> rfl) | (simp [*, errW_none, errW_some] <;> rfl), by repeat (first | (with_reducible first | exact HB.out | apply below_alloc | apply pw_below_drewN | apply below_drew1 | refine below_set ?_ GE253.out | refine below_set ?_ GE254.out) | exact HB.out)⟩
 ·rw [if_neg c3] at H
  have c3b0 : (a0_0.toList == a1_0.toList) = false := beq_eq_false_iff_ne.mpr c3
  have c3b1 : (a0_0.toList != a1_0.toList) = true := bne_iff_ne.mpr c3
  obtain rfl := Option.some.inj H
  go_enter Tryd.func43, Tryd.ntmps43
  go_wp2_with (first | ((with_reducible refine gate_dst (N := 2) rfl ?_); refine box_event ?hg (N := 2) ?hd (cs := #[.string a0_0, .slice A0_1 l0_1.length c0_1, .slice A0_2 l0_2.length c0_2, .string a0_3]) (t := 40) ?hr ?_; (case hd => rfl); (case hg => rfl); (case hr => first | (go_simp; done) | (go_simp; rfl)); intro gb253 hg w23 hbox hb; have n0_ := Aside0.mk (below_step (by repeat (first | (with_reducible first | exact HB.out | apply below_alloc | apply pw_below_drewN | apply below_drew1) | exact HB.out)) hb); have n1_ := Aside0.mk (hbox); have n2_ := Aside0.mk ((by rw [hg]; exact (below_size (by repeat (first | (with_reducible first | exact HB.out | apply below_alloc | apply pw_below_drewN | apply below_drew1) | exact HB.out))) : w.heap.size ≤ gb253)); have n3_ := Aside0.mk ((by rw [hg]; exact (below_size (by repeat (first | (with_reducible first | exact HB.out | apply below_alloc | apply pw_below_drewN | apply below_drew1) | exact HB.out))) : w.heap.size ≤ gb253)); clear HB; have HB := n0_; have BK253 := n1_; have GW253 := n2_; have GE253 := n3_; clear n0_ n1_ n2_ n3_; clear hb hbox hg) | ((with_reducible refine gate_dst (N := 3) rfl ?_); refine box_event ?hg (N := 3) ?hd (cs := #[.string a1_0, .slice A1_1 l1_1.length c1_1, .slice A1_2 l1_2.length c1_2, .string a1_3]) (t := 40) ?hr ?_; (case hd => rfl); (case hg => rfl); (case hr => first | (go_simp; done) | (go_simp; rfl)); intro gb254 hg w24 hbox hb; have n0_ := Aside0.mk (blk_below (g := gb253) (o := .cells #[.string a0_0, .slice A0_1 l0_1.length c0_1, .slice A0_2 l0_2.length c0_2, .string a0_3] 40 (0, 0)) (by (with_reducible repeat (first | refine blk_drewN ?_ _ | refine blk_drew ?_ | refine blk_alloc ?_ _)); exact BK253.out) hb); have n1_ := Aside0.mk (below_step (by repeat (first | (with_reducible first | exact HB.out | apply below_alloc | apply pw_below_drewN | apply below_drew1 | refine below_set ?_ GE253.out) | exact HB.out)) hb); have n2_ := Aside0.mk (hbox); have n3_ := Aside0.mk ((by rw [hg]; exact (below_size (by repeat (first | (with_reducible first | exact HB.out | apply below_alloc | apply pw_below_drewN | apply below_drew1 | refine below_set ?_ GE253.out) | exact HB.out))) : w.heap.size ≤ gb254)); have n4_ := Aside0.mk ((by rw [hg]; exact (below_size (by repeat (first | (with_reducible first | exact HB.out | apply below_alloc | apply pw_below_drewN | apply below_drew1 | refine below_set ?_ GE253.out) | exact HB.out))) : w.heap.size ≤ gb254)); have n5_ := Aside0.mk ((by rw [hg]; exact Nat.ne_of_lt (blk_lt (g := gb253) (o := .cells #[.string a0_0, .slice A0_1 l0_1.length c0_1, .slice A0_2 l0_2.length c0_2, .string a0_3] 40 (0, 0)) (by (with_reducible repeat (first | refine blk_drewN ?_ _ | refine blk_drew ?_ | refine blk_alloc ?_ _)); exact BK253.out)) : gb253 ≠ gb254)); have n6_ := Aside0.mk ((by rw [hg]; exact Nat.ne_of_gt (blk_lt (g := gb253) (o := .cells #[.string a0_0, .slice A0_1 l0_1.length c0_1, .slice A0_2 l0_2.length c0_2, .string a0_3] 40 (0, 0)) (by (with_reducible repeat (first | refine blk_drewN ?_ _ | refine blk_drew ?_ | refine blk_alloc ?_ _)); exact BK253.out)) : gb254 ≠ gb253)); clear BK253; clear HB; have BK253 := n0_; have HB := n1_; have BK254 := n2_; have GW254 := n3_; have GE254 := n4_; have NB253_254 := n5_; have NB254_253 := n6_; clear n0_ n1_ n2_ n3_ n4_ n5_ n6_; clear hb hbox hg; have hnb25 := NB253_254.out; have hnc25 := NB254_253.out; have hcz26_0 : w24.cell? ⟨gb253, 0, none⟩ = some (.string a0_0) := (blk_cell BK253.out 0).trans rfl; have hcz26_1 : w24.cell? ⟨gb253, 1, none⟩ = some (.slice A0_1 l0_1.length c0_1) := (blk_cell BK253.out 1).trans rfl; have hcz26_2 : w24.cell? ⟨gb253, 2, none⟩ = some (.slice A0_2 l0_2.length c0_2) := (blk_cell BK253.out 2).trans rfl; have hcz26_3 : w24.cell? ⟨gb253, 3, none⟩ = some (.string a0_3) := (blk_cell BK253.out 3).trans rfl; have hfz26_0 := blk_frozen BK253.out 0; have hfz26_1 := blk_frozen BK253.out 1; have hfz26_2 := blk_frozen BK253.out 2; have hfz26_3 := blk_frozen BK253.out 3; have hcz27_0 : w24.cell? ⟨gb254, 0, none⟩ = some (.string a1_0) := (blk_cell BK254.out 0).trans rfl; have hcz27_1 : w24.cell? ⟨gb254, 1, none⟩ = some (.slice A1_1 l1_1.length c1_1) := (blk_cell BK254.out 1).trans rfl; have hcz27_2 : w24.cell? ⟨gb254, 2, none⟩ = some (.slice A1_2 l1_2.length c1_2) := (blk_cell BK254.out 2).trans rfl; have hcz27_3 : w24.cell? ⟨gb254, 3, none⟩ = some (.string a1_3) := (blk_cell BK254.out 3).trans rfl; have hfz27_0 := blk_frozen BK254.out 0; have hfz27_1 := blk_frozen BK254.out 1; have hfz27_2 := blk_frozen BK254.out 2; have hfz27_3 := blk_frozen BK254.out 3))
  go_ret
  exact ⟨by first | rfl | (simp [errW_none, errW_some] <;> rfl) | (simp [*, errW_none, errW_some] <;> rfl), by repeat (first | (with_reducible first | exact HB.out | apply below_alloc | apply pw_below_drewN | apply below_drew1 | refine below_set ?_ GE253.out | refine below_set ?_ GE254.out) | exact HB.out)⟩

/-! ### api_Rung_42: function 42 -/
def api_Rung_42.l0 : Nat → List (S40) → List (S40) → Int → Int → Option (Bool)
 | 0, _, _, _, _ => none
 | k + 1, x1, x15, x16, x17 => if x17 < x16 then (if 0 ≤ x17 then (if x17 < (x15.length : Int) then (if x17 < (x1.length : Int) then ((printer_Equal_1.f k ((rd_T40 x15 x17).f0) ((rd_T40 x15 x17).f1) ((rd_T40 x15 x17).f2) ((rd_T40 x15 x17).f3) ((rd_T40 x1 x17).f0) ((rd_T40 x1 x17).f1) ((rd_T40 x1 x17).f2) ((rd_T40 x1 x17).f3)).bind fun t261 => (if t261 = true then (api_Rung_42.l0 k x1 x15 x16 (wrap64 (x17 + 1))) else (some false))) else (none)) else (none)) else (none)) else (some true)
def api_Rung_42.f (k : Nat) (l0 : List (S40)) (l1 : List (S40))  : Option (Bool) := if (l0.length : Int) = (l1.length : Int) then (api_Rung_42.l0 k l1 l0 (l0.length : Int) 0) else (some false)
theorem api_Rung_42.mono_l : ∀ k, (∀ y0 y1 y2 y3, LeO (api_Rung_42.l0 k y0 y1 y2 y3) (api_Rung_42.l0 (k + 1) y0 y1 y2 y3))
 | 0 => fun _ _ _ _ r h => by simp [api_Rung_42.l0] at h
 | k + 1 => by
  have ih0 := api_Rung_42.mono_l k
  ·intro y0 y1 y2 y3
   unfold api_Rung_42.l0
   repeat' first
   | (with_reducible exact ih0 _ _ _ _)
   | (with_reducible exact printer_Equal_1.mono _ _ _ _ _ _ _ _ _)
   | (with_reducible exact LeO.refl _)
   | (with_reducible exact LeO.none _)
   | (with_reducible refine LeO.ite ?_ ?_)
   | (with_reducible refine LeO.bind ?_ (fun _ => ?_))
   | exact ih0 _ _ _ _
   | exact printer_Equal_1.mono _ _ _ _ _ _ _ _ _
   | exact LeO.none _
   | refine LeO.ite ?_ ?_
   | refine LeO.bind ?_ (fun _ => ?_)
theorem api_Rung_42.mono : ∀ a0 a1 k, LeO (api_Rung_42.f k a0 a1) (api_Rung_42.f (k + 1) a0 a1) := by
 intro a0 a1 k
 have ih0 := api_Rung_42.mono_l k
 unfold api_Rung_42.f
 repeat' first
   | (with_reducible exact ih0 _ _ _ _)
   | (with_reducible exact printer_Equal_1.mono _ _ _ _ _ _ _ _ _)
   | (with_reducible exact LeO.refl _)
   | (with_reducible exact LeO.none _)
   | (with_reducible refine LeO.ite ?_ ?_)
   | (with_reducible refine LeO.bind ?_ (fun _ => ?_))
   | exact ih0 _ _ _ _
   | exact printer_Equal_1.mono _ _ _ _ _ _ _ _ _
   | exact LeO.none _
   | refine LeO.ite ?_ ?_
   | refine LeO.bind ?_ (fun _ => ?_)
set_option maxHeartbeats 8000000 in
set_option maxRecDepth 100000 in
theorem api_Rung_42.calls (k : Nat) (A0 : Option Addr) (c0 : Nat) (l0 : List (S40)) (A1 : Option Addr) (c1 : Nat) (l1 : List (S40))  (r : Bool) (w : World) (hr0 : Kd.C k40 w A0 l0.length l0) (hc0 : l0.length ≤ c0) (hr1 : Kd.C k40 w A1 l1.length l1) (hc1 : l1.length ≤ c1) (h : api_Rung_42.f k l0 l1 = some r) :
  Calls Tryd.prog 42 #[.slice A0 l0.length c0, .slice A1 l1.length c1, .func (.func 43) #[] #[]] w fun e w' => e = .returned (.bool r) ∧ Below w.heap.size w w' := by
 have hu40 := Tryd.underlying40
 have HR0 := Aside0.mk hr0
 have HC0 := Aside0.mk hc0
 clear hr0 hc0
 have HR1 := Aside0.mk hr1
 have HC1 := Aside0.mk hc1
 clear hr1 hc1
 have HB := Aside0.mk (Below.refl w.heap.size w)
 have H : (if (l0.length : Int) = (l1.length : Int) then (api_Rung_42.l0 k l1 l0 (l0.length : Int) 0) else (some false)) = some r := h
 clear h
 by_cases c4 : (l0.length : Int) = (l1.length : Int)
 ·rw [if_pos c4] at H
  have c4b0 : ((l0.length : Int) == (l1.length : Int)) = true := beq_iff_eq.mpr c4
  have c4b1 : ((l0.length : Int) != (l1.length : Int)) = false := bne_eq_false_iff_eq.mpr c4
  have c4b2 : (l0.length == l1.length) = true := by first | simpa using c4 | (simp at c4 ⊢; omega)
  clear c4
  have H' := Aside0.mk H
  clear H
  go_enter Tryd.func42, Tryd.ntmps42
  go_wp2
  go_loopg [17] k (fun kq v17 w' => ∃ (x17_1 : Int), v17 = .int .i64 x17_1 ∧ Aside0 (api_Rung_42.l0 kq l1 l0 (l0.length : Int) x17_1 = some r) ∧ Aside0 (kq ≤ k) ∧ Aside0 (Below w.heap.size w w'))
  case atStart => exact ⟨(0), (by first | rfl | (simp; done) | (simp [*]; done)), H', ⟨Nat.le_refl _⟩, ⟨by repeat (first | (with_reducible first | exact HB.out | apply below_alloc | apply pw_below_drewN | apply below_drew1) | exact HB.out)⟩⟩
  case round =>
   clear H'
   try clear c1
   try clear p2
   try clear c4
   try clear c4b0
   try clear c4b1
   try clear c4b2
   obtain ⟨x17_1, rfl, HA, HK1, HB⟩ := hrel
   cases gk with
   | zero => exact absurd HA.out (by simp [api_Rung_42.l0])
   | succ k1 =>
    have H := HA.out
    clear HA
    simp only [api_Rung_42.l0] at H
    by_cases c5 : x17_1 < (l0.length : Int)
    ·rw [if_pos c5] at H
     have c5b0 : decide (x17_1 < (l0.length : Int)) = true := decide_eq_true c5
     clear c5
     by_cases c6 : 0 ≤ x17_1
     ·rw [if_pos c6] at H
      have c6b0 : decide (0 ≤ x17_1) = true := decide_eq_true c6
      clear c6
      by_cases c7 : x17_1 < (l0.length : Int)
      ·rw [if_pos c7] at H
       have c7b0 : decide (x17_1 < (l0.length : Int)) = true := decide_eq_true c7
       clear c7
       by_cases c8 : x17_1 < (l1.length : Int)
       ·rw [if_pos c8] at H
        have c8b0 : decide (x17_1 < (l1.length : Int)) = true := decide_eq_true c8
        clear c8
        replace H := Option.bind_eq_some_iff.mp H
        obtain ⟨t261, A90, H⟩ := H
        replace H : (if t261 = true then (api_Rung_42.l0 k1 l1 l0 (l0.length : Int) (wrap64 (x17_1 + 1))) else (some false)) = some r := H
        have A9 := Aside0.mk A90
        clear A90
        by_cases c10 : t261 = true
        ·subst c10
         have H1 : (api_Rung_42.l0 k1 l1 l0 (l0.length : Int) (wrap64 (x17_1 + 1))) = some r := by rw [if_pos rfl] at H; exact H
         clear H
         have H := H1
         clear H1
         have H' := Aside0.mk H
         clear H
         have p257 : 0 ≤ (x17_1 : Int) := of_decide_eq_true (by first | (with_reducible assumption) | assumption)
         have q257 : x17_1 < (l0.length : Int) := of_decide_eq_true (by first | (with_reducible assumption) | assumption)
         obtain ⟨ad257, A257_1, c257_1, A257_2, c257_2, e257, hx257_0, hx257_1, hx257_2, hx257_3, hl257_1, hi257_1, hl257_2, hi257_2⟩ := at_T40 HR0.out x17_1 p257 q257
         cases e257
         replace hx257_0 := (HB.out.cell (World.block_lt_of_cell? w _ hx257_0)).trans hx257_0
         replace hx257_1 := (HB.out.cell (World.block_lt_of_cell? w _ hx257_1)).trans hx257_1
         replace hx257_2 := (HB.out.cell (World.block_lt_of_cell? w _ hx257_2)).trans hx257_2
         replace hx257_3 := (HB.out.cell (World.block_lt_of_cell? w _ hx257_3)).trans hx257_3
         have HR257_1 := Aside0.mk hi257_1
         have HC257_1 := Aside0.mk hl257_1
         clear hi257_1 hl257_1
         have HR257_2 := Aside0.mk hi257_2
         have HC257_2 := Aside0.mk hl257_2
         clear hi257_2 hl257_2
         replace p257 := eq_true p257
         replace q257 := eq_true q257
         go_wp2_with (first | ((with_reducible refine gate_dst (N := 8) rfl ?_); refine box_event ?hg (N := 8) ?hd (cs := #[.string (⟨#[]⟩ : ByteArray), .slice none 0 0, .slice none 0 0, .string (⟨#[]⟩ : ByteArray)]) (t := 40) ?hr ?_; (case hd => rfl); (case hg => rfl); (case hr => first | (go_simp; done) | (go_simp; rfl)); intro gb258 hg w11 hbox hb; have n0_ := Aside0.mk (below_step (by repeat (first | (with_reducible first | exact HB.out | apply below_alloc | apply pw_below_drewN | apply below_drew1) | exact HB.out)) hb); have n1_ := Aside0.mk (hbox); have n2_ := Aside0.mk ((by rw [hg]; exact (below_size (by repeat (first | (with_reducible first | exact HB.out | apply below_alloc | apply pw_below_drewN | apply below_drew1) | exact HB.out))) : w.heap.size ≤ gb258)); have n3_ := Aside0.mk ((by rw [hg]; exact (below_size (by repeat (first | (with_reducible first | exact HB.out | apply below_alloc | apply pw_below_drewN | apply below_drew1) | exact HB.out))) : w.heap.size ≤ gb258)); clear HB; have HB := n0_; have BK258 := n1_; have GW258 := n2_; have GE258 := n3_; clear n0_ n1_ n2_ n3_; clear hb hbox hg; have hcz12_0 : w11.cell? ⟨gb258, 0, none⟩ = some (.string (⟨#[]⟩ : ByteArray)) := (blk_cell BK258.out 0).trans rfl; have hcz12_1 : w11.cell? ⟨gb258, 1, none⟩ = some (.slice none 0 0) := (blk_cell BK258.out 1).trans rfl; have hcz12_2 : w11.cell? ⟨gb258, 2, none⟩ = some (.slice none 0 0) := (blk_cell BK258.out 2).trans rfl; have hcz12_3 : w11.cell? ⟨gb258, 3, none⟩ = some (.string (⟨#[]⟩ : ByteArray)) := (blk_cell BK258.out 3).trans rfl; have hfz12_0 := blk_frozen BK258.out 0; have hfz12_1 := blk_frozen BK258.out 1; have hfz12_2 := blk_frozen BK258.out 2; have hfz12_3 := blk_frozen BK258.out 3; have p259 : 0 ≤ (x17_1 : Int) := of_decide_eq_true (by first | (with_reducible assumption) | assumption); have q259 : x17_1 < (l1.length : Int) := of_decide_eq_true (by first | (with_reducible assumption) | assumption); obtain ⟨ad259, A259_1, c259_1, A259_2, c259_2, e259, hx259_0, hx259_1, hx259_2, hx259_3, hl259_1, hi259_1, hl259_2, hi259_2⟩ := at_T40 HR1.out x17_1 p259 q259; cases e259; have hn259_0 : ad259.block ≠ gb258 := Nat.ne_of_lt (Nat.lt_of_lt_of_le (by have := World.block_lt_of_cell? _ _ hx259_0; first | rwa [add_block] at this | exact this) GW258.out); have hn259_1 : ad259.block ≠ gb258 := Nat.ne_of_lt (Nat.lt_of_lt_of_le (by have := World.block_lt_of_cell? _ _ hx259_0; first | rwa [add_block] at this | exact this) GW258.out); have hn259_2 : ad259.block ≠ gb258 := Nat.ne_of_lt (Nat.lt_of_lt_of_le (by have := World.block_lt_of_cell? _ _ hx259_0; first | rwa [add_block] at this | exact this) GW258.out); have hn259_3 : ad259.block ≠ gb258 := Nat.ne_of_lt (Nat.lt_of_lt_of_le (by have := World.block_lt_of_cell? _ _ hx259_0; first | rwa [add_block] at this | exact this) GW258.out); replace hx259_0 := (HB.out.cell (World.block_lt_of_cell? w _ hx259_0)).trans hx259_0; replace hx259_1 := (HB.out.cell (World.block_lt_of_cell? w _ hx259_1)).trans hx259_1; replace hx259_2 := (HB.out.cell (World.block_lt_of_cell? w _ hx259_2)).trans hx259_2; replace hx259_3 := (HB.out.cell (World.block_lt_of_cell? w _ hx259_3)).trans hx259_3; have HR259_1 := Aside0.mk hi259_1; have HC259_1 := Aside0.mk hl259_1; clear hi259_1 hl259_1; have HR259_2 := Aside0.mk hi259_2; have HC259_2 := Aside0.mk hl259_2; clear hi259_2 hl259_2; replace hx259_0 := (cell_far (p := ⟨gb258, 0, none⟩) (by first | (rw [add_block]; exact hn259_0) | (show (Addr.add _ _).block ≠ _; rw [add_block]; exact hn259_0) | exact hn259_0) (.string ((rd_T40 l0 x17_1).f0))).trans hx259_0; replace hx259_1 := (cell_far (p := ⟨gb258, 0, none⟩) (by first | (rw [add_block]; exact hn259_0) | (show (Addr.add _ _).block ≠ _; rw [add_block]; exact hn259_0) | exact hn259_0) (.string ((rd_T40 l0 x17_1).f0))).trans hx259_1; replace hx259_2 := (cell_far (p := ⟨gb258, 0, none⟩) (by first | (rw [add_block]; exact hn259_0) | (show (Addr.add _ _).block ≠ _; rw [add_block]; exact hn259_0) | exact hn259_0) (.string ((rd_T40 l0 x17_1).f0))).trans hx259_2; replace hx259_3 := (cell_far (p := ⟨gb258, 0, none⟩) (by first | (rw [add_block]; exact hn259_0) | (show (Addr.add _ _).block ≠ _; rw [add_block]; exact hn259_0) | exact hn259_0) (.string ((rd_T40 l0 x17_1).f0))).trans hx259_3; replace hx259_0 := (cell_far (p := ⟨gb258, 1, none⟩) (by first | (rw [add_block]; exact hn259_1) | (show (Addr.add _ _).block ≠ _; rw [add_block]; exact hn259_1) | exact hn259_1) (.slice A257_1 ((rd_T40 l0 x17_1).f1).length c257_1)).trans hx259_0; replace hx259_1 := (cell_far (p := ⟨gb258, 1, none⟩) (by first | (rw [add_block]; exact hn259_1) | (show (Addr.add _ _).block ≠ _; rw [add_block]; exact hn259_1) | exact hn259_1) (.slice A257_1 ((rd_T40 l0 x17_1).f1).length c257_1)).trans hx259_1; replace hx259_2 := (cell_far (p := ⟨gb258, 1, none⟩) (by first | (rw [add_block]; exact hn259_1) | (show (Addr.add _ _).block ≠ _; rw [add_block]; exact hn259_1) | exact hn259_1) (.slice A257_1 ((rd_T40 l0 x17_1).f1).length c257_1)).trans hx259_2; replace hx259_3 := (cell_far (p := ⟨gb258, 1, none⟩) (by first | (rw [add_block]; exact hn259_1) | (show (Addr.add _ _).block ≠ _; rw [add_block]; exact hn259_1) | exact hn259_1) (.slice A257_1 ((rd_T40 l0 x17_1).f1).length c257_1)).trans hx259_3; replace hx259_0 := (cell_far (p := ⟨gb258, 2, none⟩) (by first | (rw [add_block]; exact hn259_2) | (show (Addr.add _ _).block ≠ _; rw [add_block]; exact hn259_2) | exact hn259_2) (.slice A257_2 ((rd_T40 l0 x17_1).f2).length c257_2)).trans hx259_0; replace hx259_1 := (cell_far (p := ⟨gb258, 2, none⟩) (by first | (rw [add_block]; exact hn259_2) | (show (Addr.add _ _).block ≠ _; rw [add_block]; exact hn259_2) | exact hn259_2) (.slice A257_2 ((rd_T40 l0 x17_1).f2).length c257_2)).trans hx259_1; replace hx259_2 := (cell_far (p := ⟨gb258, 2, none⟩) (by first | (rw [add_block]; exact hn259_2) | (show (Addr.add _ _).block ≠ _; rw [add_block]; exact hn259_2) | exact hn259_2) (.slice A257_2 ((rd_T40 l0 x17_1).f2).length c257_2)).trans hx259_2; replace hx259_3 := (cell_far (p := ⟨gb258, 2, none⟩) (by first | (rw [add_block]; exact hn259_2) | (show (Addr.add _ _).block ≠ _; rw [add_block]; exact hn259_2) | exact hn259_2) (.slice A257_2 ((rd_T40 l0 x17_1).f2).length c257_2)).trans hx259_3; replace hx259_0 := (cell_far (p := ⟨gb258, 3, none⟩) (by first | (rw [add_block]; exact hn259_3) | (show (Addr.add _ _).block ≠ _; rw [add_block]; exact hn259_3) | exact hn259_3) (.string ((rd_T40 l0 x17_1).f3))).trans hx259_0; replace hx259_1 := (cell_far (p := ⟨gb258, 3, none⟩) (by first | (rw [add_block]; exact hn259_3) | (show (Addr.add _ _).block ≠ _; rw [add_block]; exact hn259_3) | exact hn259_3) (.string ((rd_T40 l0 x17_1).f3))).trans hx259_1; replace hx259_2 := (cell_far (p := ⟨gb258, 3, none⟩) (by first | (rw [add_block]; exact hn259_3) | (show (Addr.add _ _).block ≠ _; rw [add_block]; exact hn259_3) | exact hn259_3) (.string ((rd_T40 l0 x17_1).f3))).trans hx259_2; replace hx259_3 := (cell_far (p := ⟨gb258, 3, none⟩) (by first | (rw [add_block]; exact hn259_3) | (show (Addr.add _ _).block ≠ _; rw [add_block]; exact hn259_3) | exact hn259_3) (.string ((rd_T40 l0 x17_1).f3))).trans hx259_3; clear hn259_0; clear hn259_1; clear hn259_2; clear hn259_3; replace p259 := eq_true p259; replace q259 := eq_true q259) | ((with_reducible refine gate_dst (N := 9) rfl ?_); refine box_event ?hg (N := 9) ?hd (cs := #[.string (⟨#[]⟩ : ByteArray), .slice none 0 0, .slice none 0 0, .string (⟨#[]⟩ : ByteArray)]) (t := 40) ?hr ?_; (case hd => rfl); (case hg => rfl); (case hr => first | (go_simp; done) | (go_simp; rfl)); intro gb260 hg w13 hbox hb; have n0_ := Aside0.mk (blk_below (g := gb258) (o := .cells #[.string ((rd_T40 l0 x17_1).f0), .slice A257_1 ((rd_T40 l0 x17_1).f1).length c257_1, .slice A257_2 ((rd_T40 l0 x17_1).f2).length c257_2, .string ((rd_T40 l0 x17_1).f3)] 40 (0, 0)) (by (with_reducible repeat (first | refine blk_drewN ?_ _ | refine blk_drew ?_ | refine blk_alloc ?_ _)); refine blk_put (cs := #[.string ((rd_T40 l0 x17_1).f0), .slice A257_1 ((rd_T40 l0 x17_1).f1).length c257_1, .slice A257_2 ((rd_T40 l0 x17_1).f2).length c257_2, .string (⟨#[]⟩ : ByteArray)]) ?_ 3 _ rfl; (with_reducible repeat (first | refine blk_drewN ?_ _ | refine blk_drew ?_ | refine blk_alloc ?_ _)); refine blk_put (cs := #[.string ((rd_T40 l0 x17_1).f0), .slice A257_1 ((rd_T40 l0 x17_1).f1).length c257_1, .slice none 0 0, .string (⟨#[]⟩ : ByteArray)]) ?_ 2 _ rfl; (with_reducible repeat (first | refine blk_drewN ?_ _ | refine blk_drew ?_ | refine blk_alloc ?_ _)); refine blk_put (cs := #[.string ((rd_T40 l0 x17_1).f0), .slice none 0 0, .slice none 0 0, .string (⟨#[]⟩ : ByteArray)]) ?_ 1 _ rfl; (with_reducible repeat (first | refine blk_drewN ?_ _ | refine blk_drew ?_ | refine blk_alloc ?_ _)); refine blk_put (cs := #[.string (⟨#[]⟩ : ByteArray), .slice none 0 0, .slice none 0 0, .string (⟨#[]⟩ : ByteArray)]) ?_ 0 _ rfl; (with_reducible repeat (first | refine blk_drewN ?_ _ | refine blk_drew ?_ | refine blk_alloc ?_ _)); exact BK258.out) hb); have n1_ := Aside0.mk (below_step (by repeat (first | (with_reducible first | exact HB.out | apply below_alloc | apply pw_below_drewN | apply below_drew1 | refine below_set ?_ GE258.out) | exact HB.out)) hb); have n2_ := Aside0.mk (hbox); have n3_ := Aside0.mk ((by rw [hg]; exact (below_size (by repeat (first | (with_reducible first | exact HB.out | apply below_alloc | apply pw_below_drewN | apply below_drew1 | refine below_set ?_ GE258.out) | exact HB.out))) : w.heap.size ≤ gb260)); have n4_ := Aside0.mk ((by rw [hg]; exact (below_size (by repeat (first | (with_reducible first | exact HB.out | apply below_alloc | apply pw_below_drewN | apply below_drew1 | refine below_set ?_ GE258.out) | exact HB.out))) : w.heap.size ≤ gb260)); have n5_ := Aside0.mk ((by rw [hg]; exact Nat.ne_of_lt (blk_lt (g := gb258) (o := .cells #[.string ((rd_T40 l0 x17_1).f0), .slice A257_1 ((rd_T40 l0 x17_1).f1).length c257_1, .slice A257_2 ((rd_T40 l0 x17_1).f2).length c257_2, .string ((rd_T40 l0 x17_1).f3)] 40 (0, 0)) (by (with_reducible repeat (first | refine blk_drewN ?_ _ | refine blk_drew ?_ | refine blk_alloc ?_ _)); refine blk_put (cs := #[.string ((rd_T40 l0 x17_1).f0), .slice A257_1 ((rd_T40 l0 x17_1).f1).length c257_1, .slice A257_2 ((rd_T40 l0 x17_1).f2).length c257_2, .string (⟨#[]⟩ : ByteArray)]) ?_ 3 _ rfl; (with_reducible repeat (first | refine blk_drewN ?_ _ | refine blk_drew ?_ | refine blk_alloc ?_ _)); refine blk_put (cs := #[.string ((rd_T40 l0 x17_1).f0), .slice A257_1 ((rd_T40 l0 x17_1).f1).length c257_1, .slice none 0 0, .string (⟨#[]⟩ : ByteArray)]) ?_ 2 _ rfl; (with_reducible repeat (first | refine blk_drewN ?_ _ | refine blk_drew ?_ | refine blk_alloc ?_ _)); refine blk_put (cs := #[.string ((rd_T40 l0 x17_1).f0), .slice none 0 0, .slice none 0 0, .string (⟨#[]⟩ : ByteArray)]) ?_ 1 _ rfl; (with_reducible repeat (first | refine blk_drewN ?_ _ | refine blk_drew ?_ | refine blk_alloc ?_ _)); refine blk_put (cs := #[.string (⟨#[]⟩ : ByteArray), .slice none 0 0, .slice none 0 0, .string (⟨#[]⟩ : ByteArray)]) ?_ 0 _ rfl; (with_reducible repeat (first | refine blk_drewN ?_ _ | refine blk_drew ?_ | refine blk_alloc ?_ _)); exact BK258.out)) : gb258 ≠ gb260)); have n6_ := Aside0.mk ((by rw [hg]; exact Nat.ne_of_gt (blk_lt (g := gb258) (o := .cells #[.string ((rd_T40 l0 x17_1).f0), .slice A257_1 ((rd_T40 l0 x17_1).f1).length c257_1, .slice A257_2 ((rd_T40 l0 x17_1).f2).length c257_2, .string ((rd_T40 l0 x17_1).f3)] 40 (0, 0)) (by (with_reducible repeat (first | refine blk_drewN ?_ _ | refine blk_drew ?_ | refine blk_alloc ?_ _)); refine blk_put (cs := #[.string ((rd_T40 l0 x17_1).f0), .slice A257_1 ((rd_T40 l0 x17_1).f1).length c257_1, .slice A257_2 ((rd_T40 l0 x17_1).f2).length c257_2, .string (⟨#[]⟩ : ByteArray)]) ?_ 3 _ rfl; (with_reducible repeat (first | refine blk_drewN ?_ _ | refine blk_drew ?_ | refine blk_alloc ?_ _)); refine blk_put (cs := #[.string ((rd_T40 l0 x17_1).f0), .slice A257_1 ((rd_T40 l0 x17_1).f1).length c257_1, .slice none 0 0, .string (⟨#[]⟩ : ByteArray)]) ?_ 2 _ rfl; (with_reducible repeat (first | refine blk_drewN ?_ _ | refine blk_drew ?_ | refine blk_alloc ?_ _)); refine blk_put (cs := #[.string ((rd_T40 l0 x17_1).f0), .slice none 0 0, .slice none 0 0, .string (⟨#[]⟩ : ByteArray)]) ?_ 1 _ rfl; (with_reducible repeat (first | refine blk_drewN ?_ _ | refine blk_drew ?_ | refine blk_alloc ?_ _)); refine blk_put (cs := #[.string (⟨#[]⟩ : ByteArray), .slice none 0 0, .slice none 0 0, .string (⟨#[]⟩ : ByteArray)]) ?_ 0 _ rfl; (with_reducible repeat (first | refine blk_drewN ?_ _ | refine blk_drew ?_ | refine blk_alloc ?_ _)); exact BK258.out)) : gb260 ≠ gb258)); clear BK258; clear HB; have BK258 := n0_; have HB := n1_; have BK260 := n2_; have GW260 := n3_; have GE260 := n4_; have NB258_260 := n5_; have NB260_258 := n6_; clear n0_ n1_ n2_ n3_ n4_ n5_ n6_; clear hb hbox hg; have hnb14 := NB260_258.out; have hnc14 := NB258_260.out; have hcz15_0 : w13.cell? ⟨gb260, 0, none⟩ = some (.string (⟨#[]⟩ : ByteArray)) := (blk_cell BK260.out 0).trans rfl; have hcz15_1 : w13.cell? ⟨gb260, 1, none⟩ = some (.slice none 0 0) := (blk_cell BK260.out 1).trans rfl; have hcz15_2 : w13.cell? ⟨gb260, 2, none⟩ = some (.slice none 0 0) := (blk_cell BK260.out 2).trans rfl; have hcz15_3 : w13.cell? ⟨gb260, 3, none⟩ = some (.string (⟨#[]⟩ : ByteArray)) := (blk_cell BK260.out 3).trans rfl; have hfz15_0 := blk_frozen BK260.out 0; have hfz15_1 := blk_frozen BK260.out 1; have hfz15_2 := blk_frozen BK260.out 2; have hfz15_3 := blk_frozen BK260.out 3; have hcz16_0 : w13.cell? ⟨gb258, 0, none⟩ = some (.string ((rd_T40 l0 x17_1).f0)) := (blk_cell BK258.out 0).trans rfl; have hcz16_1 : w13.cell? ⟨gb258, 1, none⟩ = some (.slice A257_1 ((rd_T40 l0 x17_1).f1).length c257_1) := (blk_cell BK258.out 1).trans rfl; have hcz16_2 : w13.cell? ⟨gb258, 2, none⟩ = some (.slice A257_2 ((rd_T40 l0 x17_1).f2).length c257_2) := (blk_cell BK258.out 2).trans rfl; have hcz16_3 : w13.cell? ⟨gb258, 3, none⟩ = some (.string ((rd_T40 l0 x17_1).f3)) := (blk_cell BK258.out 3).trans rfl; have hfz16_0 := blk_frozen BK258.out 0; have hfz16_1 := blk_frozen BK258.out 1; have hfz16_2 := blk_frozen BK258.out 2; have hfz16_3 := blk_frozen BK258.out 3) | (go_at_call 43; (with_reducible refine (printer_Equal_1.calls k1 ((rd_T40 l0 x17_1).f0) _ _ ((rd_T40 l0 x17_1).f1) _ _ ((rd_T40 l0 x17_1).f2) ((rd_T40 l0 x17_1).f3) ((rd_T40 l1 x17_1).f0) _ _ ((rd_T40 l1 x17_1).f1) _ _ ((rd_T40 l1 x17_1).f2) ((rd_T40 l1 x17_1).f3) true _ ?side1 ?side2 ?side3 ?side4 ?side5 ?side6 ?side7 ?side8 A9.out).mono ?_); (case side1 => exact Kd.C_below HR257_1.out (by repeat (first | (with_reducible first | exact HB.out | apply below_alloc | apply pw_below_drewN | apply below_drew1 | refine below_set ?_ GE258.out | refine below_set ?_ GE260.out) | exact HB.out))); (case side2 => exact HC257_1.out); (case side3 => exact Kd.C_below HR257_2.out (by repeat (first | (with_reducible first | exact HB.out | apply below_alloc | apply pw_below_drewN | apply below_drew1 | refine below_set ?_ GE258.out | refine below_set ?_ GE260.out) | exact HB.out))); (case side4 => exact HC257_2.out); (case side5 => exact Kd.C_below HR259_1.out (by repeat (first | (with_reducible first | exact HB.out | apply below_alloc | apply pw_below_drewN | apply below_drew1 | refine below_set ?_ GE258.out | refine below_set ?_ GE260.out) | exact HB.out))); (case side6 => exact HC259_1.out); (case side7 => exact Kd.C_below HR259_2.out (by repeat (first | (with_reducible first | exact HB.out | apply below_alloc | apply pw_below_drewN | apply below_drew1 | refine below_set ?_ GE258.out | refine below_set ?_ GE260.out) | exact HB.out))); (case side8 => exact HC259_2.out); rintro e w17 ⟨rfl, hb⟩; have n0_ := Aside0.mk (blk_below (g := gb258) (o := .cells #[.string ((rd_T40 l0 x17_1).f0), .slice A257_1 ((rd_T40 l0 x17_1).f1).length c257_1, .slice A257_2 ((rd_T40 l0 x17_1).f2).length c257_2, .string ((rd_T40 l0 x17_1).f3)] 40 (0, 0)) (by (with_reducible repeat (first | refine blk_drewN ?_ _ | refine blk_drew ?_ | refine blk_alloc ?_ _)); refine blk_far ?_ NB258_260.out _; (with_reducible repeat (first | refine blk_drewN ?_ _ | refine blk_drew ?_ | refine blk_alloc ?_ _)); refine blk_far ?_ NB258_260.out _; (with_reducible repeat (first | refine blk_drewN ?_ _ | refine blk_drew ?_ | refine blk_alloc ?_ _)); refine blk_far ?_ NB258_260.out _; (with_reducible repeat (first | refine blk_drewN ?_ _ | refine blk_drew ?_ | refine blk_alloc ?_ _)); refine blk_far ?_ NB258_260.out _; (with_reducible repeat (first | refine blk_drewN ?_ _ | refine blk_drew ?_ | refine blk_alloc ?_ _)); exact BK258.out) hb); have n1_ := Aside0.mk (blk_below (g := gb260) (o := .cells #[.string ((rd_T40 l1 x17_1).f0), .slice A259_1 ((rd_T40 l1 x17_1).f1).length c259_1, .slice A259_2 ((rd_T40 l1 x17_1).f2).length c259_2, .string ((rd_T40 l1 x17_1).f3)] 40 (0, 0)) (by (with_reducible repeat (first | refine blk_drewN ?_ _ | refine blk_drew ?_ | refine blk_alloc ?_ _)); refine blk_put (cs := #[.string ((rd_T40 l1 x17_1).f0), .slice A259_1 ((rd_T40 l1 x17_1).f1).length c259_1, .slice A259_2 ((rd_T40 l1 x17_1).f2).length c259_2, .string (⟨#[]⟩ : ByteArray)]) ?_ 3 _ rfl; (with_reducible repeat (first | refine blk_drewN ?_ _ | refine blk_drew ?_ | refine blk_alloc ?_ _)); refine blk_put (cs := #[.string ((rd_T40 l1 x17_1).f0), .slice A259_1 ((rd_T40 l1 x17_1).f1).length c259_1, .slice none 0 0, .string (⟨#[]⟩ : ByteArray)]) ?_ 2 _ rfl; (with_reducible repeat (first | refine blk_drewN ?_ _ | refine blk_drew ?_ | refine blk_alloc ?_ _)); refine blk_put (cs := #[.string ((rd_T40 l1 x17_1).f0), .slice none 0 0, .slice none 0 0, .string (⟨#[]⟩ : ByteArray)]) ?_ 1 _ rfl; (with_reducible repeat (first | refine blk_drewN ?_ _ | refine blk_drew ?_ | refine blk_alloc ?_ _)); refine blk_put (cs := #[.string (⟨#[]⟩ : ByteArray), .slice none 0 0, .slice none 0 0, .string (⟨#[]⟩ : ByteArray)]) ?_ 0 _ rfl; (with_reducible repeat (first | refine blk_drewN ?_ _ | refine blk_drew ?_ | refine blk_alloc ?_ _)); exact BK260.out) hb); have n2_ := Aside0.mk (below_step (by repeat (first | (with_reducible first | exact HB.out | apply below_alloc | apply pw_below_drewN | apply below_drew1 | refine below_set ?_ GE258.out | refine below_set ?_ GE260.out) | exact HB.out)) hb); clear BK258; clear BK260; clear HB; have BK258 := n0_; have BK260 := n1_; have HB := n2_; clear n0_ n1_ n2_; (try clear hb); (try clear hb2); (try clear hk); (try clear hi)))
         go_roundg k1
         case measure => have := HK1.out; omega
         case rel => exact ⟨(wrap64 (x17_1 + 1)), (by first | rfl | (simp; done) | (simp [*]; done)), H', ⟨by have := HK1.out; omega⟩, ⟨by repeat (first | (with_reducible first | exact HB.out | apply below_alloc | apply pw_below_drewN | apply below_drew1 | refine below_set ?_ GE258.out | refine below_set ?_ GE260.out) | exact HB.out)⟩⟩
        ·replace c10 := Bool.eq_false_iff.mpr c10
         subst c10
         have H1 : (some false) = some r := by rw [if_neg (show ¬ (false = true) by decide)] at H; exact H
         clear H
         have H := H1
         clear H1
         obtain rfl := Option.some.inj H
         have p257 : 0 ≤ (x17_1 : Int) := of_decide_eq_true (by first | (with_reducible assumption) | assumption)
         have q257 : x17_1 < (l0.length : Int) := of_decide_eq_true (by first | (with_reducible assumption) | assumption)
         obtain ⟨ad257, A257_1, c257_1, A257_2, c257_2, e257, hx257_0, hx257_1, hx257_2, hx257_3, hl257_1, hi257_1, hl257_2, hi257_2⟩ := at_T40 HR0.out x17_1 p257 q257
         cases e257
         replace hx257_0 := (HB.out.cell (World.block_lt_of_cell? w _ hx257_0)).trans hx257_0
         replace hx257_1 := (HB.out.cell (World.block_lt_of_cell? w _ hx257_1)).trans hx257_1
         replace hx257_2 := (HB.out.cell (World.block_lt_of_cell? w _ hx257_2)).trans hx257_2
         replace hx257_3 := (HB.out.cell (World.block_lt_of_cell? w _ hx257_3)).trans hx257_3
         have HR257_1 := Aside0.mk hi257_1
         have HC257_1 := Aside0.mk hl257_1
         clear hi257_1 hl257_1
         have HR257_2 := Aside0.mk hi257_2
         have HC257_2 := Aside0.mk hl257_2
         clear hi257_2 hl257_2
         replace p257 := eq_true p257
         replace q257 := eq_true q257
         go_wp2_with (first | ((with_reducible refine gate_dst (N := 8) rfl ?_); refine box_event ?hg (N := 8) ?hd (cs := #[.string (⟨#[]⟩ : ByteArray), .slice none 0 0, .slice none 0 0, .string (⟨#[]⟩ : ByteArray)]) (t := 40) ?hr ?_; (case hd => rfl); (case hg => rfl); (case hr => first | (go_simp; done) | (go_simp; rfl)); intro gb258 hg w18 hbox hb; have n0_ := Aside0.mk (below_step (by repeat (first | (with_reducible first | exact HB.out | apply below_alloc | apply pw_below_drewN | apply below_drew1) | exact HB.out)) hb); have n1_ := Aside0.mk (hbox); have n2_ := Aside0.mk ((by rw [hg]; exact (below_size (by repeat (first | (with_reducible first | exact HB.out | apply below_alloc | apply pw_below_drewN | apply below_drew1) | exact HB.out))) : w.heap.size ≤ gb258)); have n3_ := Aside0.mk ((by rw [hg]; exact (below_size (by repeat (first | (with_reducible first | exact HB.out | apply below_alloc | apply pw_below_drewN | apply below_drew1) | exact HB.out))) : w.heap.size ≤ gb258)); clear HB; have HB := n0_; have BK258 := n1_; have GW258 := n2_; have GE258 := n3_; clear n0_ n1_ n2_ n3_; clear hb hbox hg; have hcz19_0 : w18.cell? ⟨gb258, 0, none⟩ = some (.string (⟨#[]⟩ : ByteArray)) := (blk_cell BK258.out 0).trans rfl; have hcz19_1 : w18.cell? ⟨gb258, 1, none⟩ = some (.slice none 0 0) := (blk_cell BK258.out 1).trans rfl; have hcz19_2 : w18.cell? ⟨gb258, 2, none⟩ = some (.slice none 0 0) := (blk_cell BK258.out 2).trans rfl; have hcz19_3 : w18.cell? ⟨gb258, 3, none⟩ = some (.string (⟨#[]⟩ : ByteArray)) := (blk_cell BK258.out 3).trans rfl; have hfz19_0 := blk_frozen BK258.out 0; have hfz19_1 := blk_frozen BK258.out 1; have hfz19_2 := blk_frozen BK258.out 2; have hfz19_3 := blk_frozen BK258.out 3; have p259 : 0 ≤ (x17_1 : Int) := of_decide_eq_true (by first | (with_reducible assumption) | assumption); have q259 : x17_1 < (l1.length : Int) := of_decide_eq_true (by first | (with_reducible assumption) | assumption); obtain ⟨ad259, A259_1, c259_1, A259_2, c259_2, e259, hx259_0, hx259_1, hx259_2, hx259_3, hl259_1, hi259_1, hl259_2, hi259_2⟩ := at_T40 HR1.out x17_1 p259 q259; cases e259; have hn259_0 : ad259.block ≠ gb258 := Nat.ne_of_lt (Nat.lt_of_lt_of_le (by have := World.block_lt_of_cell? _ _ hx259_0; first | rwa [add_block] at this | exact this) GW258.out); have hn259_1 : ad259.block ≠ gb258 := Nat.ne_of_lt (Nat.lt_of_lt_of_le (by have := World.block_lt_of_cell? _ _ hx259_0; first | rwa [add_block] at this | exact this) GW258.out); have hn259_2 : ad259.block ≠ gb258 := Nat.ne_of_lt (Nat.lt_of_lt_of_le (by have := World.block_lt_of_cell? _ _ hx259_0; first | rwa [add_block] at this | exact this) GW258.out); have hn259_3 : ad259.block ≠ gb258 := Nat.ne_of_lt (Nat.lt_of_lt_of_le (by have := World.block_lt_of_cell? _ _ hx259_0; first | rwa [add_block] at this | exact this) GW258.out); replace hx259_0 := (HB.out.cell (World.block_lt_of_cell? w _ hx259_0)).trans hx259_0; replace hx259_1 := (HB.out.cell (World.block_lt_of_cell? w _ hx259_1)).trans hx259_1; replace hx259_2 := (HB.out.cell (World.block_lt_of_cell? w _ hx259_2)).trans hx259_2; replace hx259_3 := (HB.out.cell (World.block_lt_of_cell? w _ hx259_3)).trans hx259_3; have HR259_1 := Aside0.mk hi259_1; have HC259_1 := Aside0.mk hl259_1; clear hi259_1 hl259_1; have HR259_2 := Aside0.mk hi259_2; have HC259_2 := Aside0.mk hl259_2; clear hi259_2 hl259_2; replace hx259_0 := (cell_far (p := ⟨gb258, 0, none⟩) (by first | (rw [add_block]; exact hn259_0) | (show (Addr.add _ _).block ≠ _; rw [add_block]; exact hn259_0) | exact hn259_0) (.string ((rd_T40 l0 x17_1).f0))).trans hx259_0; replace hx259_1 := (cell_far (p := ⟨gb258, 0, none⟩) (by first | (rw [add_block]; exact hn259_0) | (show (Addr.add _ _).block ≠ _; rw [add_block]; exact hn259_0) | exact hn259_0) (.string ((rd_T40 l0 x17_1).f0))).trans hx259_1; replace hx259_2 := (cell_far (p := ⟨gb258, 0, none⟩) (by first | (rw [add_block]; exact hn259_0) | (show (Addr.add _ _).block ≠ _; rw [add_block]; exact hn259_0) | exact hn259_0) (.string ((rd_T40 l0 x17_1).f0))).trans hx259_2; replace hx259_3 := (cell_far (p := ⟨gb258, 0, none⟩) (by first | (rw [add_block]; exact hn259_0) | (show (Addr.add _ _).block ≠ _; rw [add_block]; exact hn259_0) | exact hn259_0) (.string ((rd_T40 l0 x17_1).f0))).trans hx259_3; replace hx259_0 := (cell_far (p := ⟨gb258, 1, none⟩) (by first | (rw [add_block]; exact hn259_1) | (show (Addr.add _ _).block ≠ _; rw [add_block]; exact hn259_1) | exact hn259_1) (.slice A257_1 ((rd_T40 l0 x17_1).f1).length c257_1)).trans hx259_0; replace hx259_1 := (cell_far (p := ⟨gb258, 1, none⟩) (by first | (rw [add_block]; exact hn259_1) | (show (Addr.add _ _).block ≠ _; rw [add_block]; exact hn259_1) | exact hn259_1) (.slice A257_1 ((rd_T40 l0 x17_1).f1).length c257_1)).trans hx259_1; replace hx259_2 := (cell_far (p := ⟨gb258, 1, none⟩) (by first | (rw [add_block]; exact hn259_1) | (show (Addr.add _ _).block ≠ _; rw [add_block]; exact hn259_1) | exact hn259_1) (.slice A257_1 ((rd_T40 l0 x17_1).f1).length c257_1)).trans hx259_2; replace hx259_3 := (cell_far (p := ⟨gb258, 1, none⟩) (by first | (rw [add_block]; exact hn259_1) | (show (Addr.add _ _).block ≠ _; rw [add_block]; exact hn259_1) | exact hn259_1) (.slice A257_1 ((rd_T40 l0 x17_1).f1).length c257_1)).trans hx259_3; replace hx259_0 := (cell_far (p := ⟨gb258, 2, none⟩) (by first | (rw [add_block]; exact hn259_2) | (show (Addr.add _ _).block ≠ _; rw [add_block]; exact hn259_2) | exact hn259_2) (.slice A257_2 ((rd_T40 l0 x17_1).f2).length c257_2)).trans hx259_0; replace hx259_1 := (cell_far (p := ⟨gb258, 2, none⟩) (by first | (rw [add_block]; exact hn259_2) | (show (Addr.add _ _).block ≠ _; rw [add_block]; exact hn259_2) | exact hn259_2) (.slice A257_2 ((rd_T40 l0 x17_1).f2).length c257_2)).trans hx259_1; replace hx259_2 := (cell_far (p := ⟨gb258, 2, none⟩) (by first | (rw [add_block]; exact hn259_2) | (show (Addr.add _ _).block ≠ _; rw [add_block]; exact hn259_2) | exact hn259_2) (.slice A257_2 ((rd_T40 l0 x17_1).f2).length c257_2)).trans hx259_2; replace hx259_3 := (cell_far (p := ⟨gb258, 2, none⟩) (by first | (rw [add_block]; exact hn259_2) | (show (Addr.add _ _).block ≠ _; rw [add_block]; exact hn259_2) | exact hn259_2) (.slice A257_2 ((rd_T40 l0 x17_1).f2).length c257_2)).trans hx259_3; replace hx259_0 := (cell_far (p := ⟨gb258, 3, none⟩) (by first | (rw [add_block]; exact hn259_3) | (show (Addr.add _ _).block ≠ _; rw [add_block]; exact hn259_3) | exact hn259_3) (.string ((rd_T40 l0 x17_1).f3))).trans hx259_0; replace hx259_1 := (cell_far (p := ⟨gb258, 3, none⟩) (by first | (rw [add_block]; exact hn259_3) | (show (Addr.add _ _).block ≠ _; rw [add_block]; exact hn259_3) | exact hn259_3) (.string ((rd_T40 l0 x17_1).f3))).trans hx259_1; replace hx259_2 := (cell_far (p := ⟨gb258, 3, none⟩) (by first | (rw [add_block]; exact hn259_3) | (show (Addr.add _ _).block ≠ _; rw [add_block]; exact hn259_3) | exact hn259_3) (.string ((rd_T40 l0 x17_1).f3))).trans hx259_2; replace hx259_3 := (cell_far (p := ⟨gb258, 3, none⟩) (by first | (rw [add_block]; exact hn259_3) | (show (Addr.add _ _).block ≠ _; rw [add_block]; exact hn259_3) | exact hn259_3) (.string ((rd_T40 l0 x17_1).f3))).trans hx259_3; clear hn259_0; clear hn259_1; clear hn259_2; clear hn259_3; replace p259 := eq_true p259; replace q259 := eq_true q259) | ((with_reducible refine gate_dst (N := 9) rfl ?_); refine box_event ?hg (N := 9) ?hd (cs := #[.string (⟨#[]⟩ : ByteArray), .slice none 0 0, .slice none 0 0, .string (⟨#[]⟩ : ByteArray)]) (t := 40) ?hr ?_; (case hd => rfl); (case hg => rfl); (case hr => first | (go_simp; done) | (go_simp; rfl)); intro gb260 hg w20 hbox hb; have n0_ := Aside0.mk (blk_below (g := gb258) (o := .cells #[.string ((rd_T40 l0 x17_1).f0), .slice A257_1 ((rd_T40 l0 x17_1).f1).length c257_1, .slice A257_2 ((rd_T40 l0 x17_1).f2).length c257_2, .string ((rd_T40 l0 x17_1).f3)] 40 (0, 0)) (by (with_reducible repeat (first | refine blk_drewN ?_ _ | refine blk_drew ?_ | refine blk_alloc ?_ _)); refine blk_put (cs := #[.string ((rd_T40 l0 x17_1).f0), .slice A257_1 ((rd_T40 l0 x17_1).f1).length c257_1, .slice A257_2 ((rd_T40 l0 x17_1).f2).length c257_2, .string (⟨#[]⟩ : ByteArray)]) ?_ 3 _ rfl; (with_reducible repeat (first | refine blk_drewN ?_ _ | refine blk_drew ?_ | refine blk_alloc ?_ _)); refine blk_put (cs := #[.string ((rd_T40 l0 x17_1).f0), .slice A257_1 ((rd_T40 l0 x17_1).f1).length c257_1, .slice none 0 0, .string (⟨#[]⟩ : ByteArray)]) ?_ 2 _ rfl; (with_reducible repeat (first | refine blk_drewN ?_ _ | refine blk_drew ?_ | refine blk_alloc ?_ _)); refine blk_put (cs := #[.string ((rd_T40 l0 x17_1).f0), .slice none 0 0, .slice none 0 0, .string (⟨#[]⟩ : ByteArray)]) ?_ 1 _ rfl; (with_reducible repeat (first | refine blk_drewN ?_ _ | refine blk_drew ?_ | refine blk_alloc ?_ _)); refine blk_put (cs := #[.string (⟨#[]⟩ : ByteArray), .slice none 0 0, .slice none 0 0, .string (⟨#[]⟩ : ByteArray)]) ?_ 0 _ rfl; (with_reducible repeat (first | refine blk_drewN ?_ _ | refine blk_drew ?_ | refine blk_alloc ?_ _)); exact BK258.out) hb); have n1_ := Aside0.mk (below_step (by repeat (first | (with_reducible first | exact HB.out | apply below_alloc | apply pw_below_drewN | apply below_drew1 | refine below_set ?_ GE258.out) | exact HB.out)) hb); have n2_ := Aside0.mk (hbox); have n3_ := Aside0.mk ((by rw [hg]; exact (below_size (by repeat (first | (with_reducible first | exact HB.out | apply below_alloc | apply pw_below_drewN | apply below_drew1 | refine below_set ?_ GE258.out) | exact HB.out))) : w.heap.size ≤ gb260)); have n4_ := Aside0.mk ((by rw [hg]; exact (below_size (by repeat (first | (with_reducible first | exact HB.out | apply below_alloc | apply pw_below_drewN | apply below_drew1 | refine below_set ?_ GE258.out) | exact HB.out))) : w.heap.size ≤ gb260)); have n5_ := Aside0.mk ((by rw [hg]; exact Nat.ne_of_lt (blk_lt (g := gb258) (o := .cells #[.string ((rd_T40 l0 x17_1).f0), .slice A257_1 ((rd_T40 l0 x17_1).f1).length c257_1, .slice A257_2 ((rd_T40 l0 x17_1).f2).length c257_2, .string ((rd_T40 l0 x17_1).f3)] 40 (0, 0)) (by (with_reducible repeat (first | refine blk_drewN ?_ _ | refine blk_drew ?_ | refine blk_alloc ?_ _)); refine blk_put (cs := #[.string ((rd_T40 l0 x17_1).f0), .slice A257_1 ((rd_T40 l0 x17_1).f1).length c257_1, .slice A257_2 ((rd_T40 l0 x17_1).f2).length c257_2, .string (⟨#[]⟩ : ByteArray)]) ?_ 3 _ rfl; (with_reducible repeat (first | refine blk_drewN ?_ _ | refine blk_drew ?_ | refine blk_alloc ?_ _)); refine blk_put (cs := #[.string ((rd_T40 l0 x17_1).f0), .slice A257_1 ((rd_T40 l0 x17_1).f1).length c257_1, .slice none 0 0, .string (⟨#[]⟩ : ByteArray)]) ?_ 2 _ rfl; (with_reducible repeat (first | refine blk_drewN ?_ _ | refine blk_drew ?_ | refine blk_alloc ?_ _)); refine blk_put (cs := #[.string ((rd_T40 l0 x17_1).f0), .slice none 0 0, .slice none 0 0, .string (⟨#[]⟩ : ByteArray)]) ?_ 1 _ rfl; (with_reducible repeat (first | refine blk_drewN ?_ _ | refine blk_drew ?_ | refine blk_alloc ?_ _)); refine blk_put (cs := #[.string (⟨#[]⟩ : ByteArray), .slice none 0 0, .slice none 0 0, .string (⟨#[]⟩ : ByteArray)]) ?_ 0 _ rfl; (with_reducible repeat (first | refine blk_drewN ?_ _ | refine blk_drew ?_ | refine blk_alloc ?_ _)); exact BK258.out)) : gb258 ≠ gb260)); have n6_ := Aside0.mk ((by rw [hg]; exact Nat.ne_of_gt (blk_lt (g := gb258) (o := .cells #[.string ((rd_T40 l0 x17_1).f0), .slice A257_1 ((rd_T40 l0 x17_1).f1).length c257_1, .slice A257_2 ((rd_T40 l0 x17_1).f2).length c257_2, .string ((rd_T40 l0 x17_1).f3)] 40 (0, 0)) (by (with_reducible repeat (first | refine blk_drewN ?_ _ | refine blk_drew ?_ | refine blk_alloc ?_ _)); refine blk_put (cs := #[.string ((rd_T40 l0 x17_1).f0), .slice A257_1 ((rd_T40 l0 x17_1).f1).length c257_1, .slice A257_2 ((rd_T40 l0 x17_1).f2).length c257_2, .string (⟨#[]⟩ : ByteArray)]) ?_ 3 _ rfl; (with_reducible repeat (first | refine blk_drewN ?_ _ | refine blk_drew ?_ | refine blk_alloc ?_ _)); refine blk_put (cs := #[.string ((rd_T40 l0 x17_1).f0), .slice A257_1 ((rd_T40 l0 x17_1).f1).length c257_1, .slice none 0 0, .string (⟨#[]⟩ : ByteArray)]) ?_ 2 _ rfl; (with_reducible repeat (first | refine blk_drewN ?_ _ | refine blk_drew ?_ | refine blk_alloc ?_ _)); refine blk_put (cs := #[.string ((rd_T40 l0 x17_1).f0), .slice none 0 0, .slice none 0 0, .string (⟨#[]⟩ : ByteArray)]) ?_ 1 _ rfl; (with_reducible repeat (first | refine blk_drewN ?_ _ | refine blk_drew ?_ | refine blk_alloc ?_ _)); refine blk_put (cs := #[.string (⟨#[]⟩ : ByteArray), .slice none 0 0, .slice none 0 0, .string (⟨#[]⟩ : ByteArray)]) ?_ 0 _ rfl; (with_reducible repeat (first | refine blk_drewN ?_ _ | refine blk_drew ?_ | refine blk_alloc ?_ _)); exact BK258.out)) : gb260 ≠ gb258)); clear BK258; clear HB; have BK258 := n0_; have HB := n1_; have BK260 := n2_; have GW260 := n3_; have GE260 := n4_; have NB258_260 := n5_; have NB260_258 := n6_; clear n0_ n1_ n2_ n3_ n4_ n5_ n6_; clear hb hbox hg; have hnb21 := NB260_258.out; have hnc21 := NB258_260.out; have hcz22_0 : w20.cell? ⟨gb260, 0, none⟩ = some (.string (⟨#[]⟩ : ByteArray)) := (blk_cell BK260.out 0).trans rfl; have hcz22_1 : w20.cell? ⟨gb260, 1, none⟩ = some (.slice none 0 0) := (blk_cell BK260.out 1).trans rfl; have hcz22_2 : w20.cell? ⟨gb260, 2, none⟩ = some (.slice none 0 0) := (blk_cell BK260.out 2).trans rfl; have hcz22_3 : w20.cell? ⟨gb260, 3, none⟩ = some (.string (⟨#[]⟩ : ByteArray)) := (blk_cell BK260.out 3).trans rfl; have hfz22_0 := blk_frozen BK260.out 0; have hfz22_1 := blk_frozen BK260.out 1; have hfz22_2 := blk_frozen BK260.out 2; have hfz22_3 := blk_frozen BK260.out 3; have hcz23_0 : w20.cell? ⟨gb258, 0, none⟩ = some (.string ((rd_T40 l0 x17_1).f0)) := (blk_cell BK258.out 0).trans rfl; have hcz23_1 : w20.cell? ⟨gb258, 1, none⟩ = some (.slice A257_1 ((rd_T40 l0 x17_1).f1).length c257_1) := (blk_cell BK258.out 1).trans rfl; have hcz23_2 : w20.cell? ⟨gb258, 2, none⟩ = some (.slice A257_2 ((rd_T40 l0 x17_1).f2).length c257_2) := (blk_cell BK258.out 2).trans rfl; have hcz23_3 : w20.cell? ⟨gb258, 3, none⟩ = some (.string ((rd_T40 l0 x17_1).f3)) := (blk_cell BK258.out 3).trans rfl; have hfz23_0 := blk_frozen BK258.out 0; have hfz23_1 := blk_frozen BK258.out 1; have hfz23_2 := blk_frozen BK258.out 2; have hfz23_3 := blk_frozen BK258.out 3) | (go_at_call 43; (with_reducible refine (printer_Equal_1.calls k1 ((rd_T40 l0 x17_1).f0) _ _ ((rd_T40 l0 x17_1).f1) _ _ ((rd_T40 l0 x17_1).f2) ((rd_T40 l0 x17_1).f3) ((rd_T40 l1 x17_1).f0) _ _ ((rd_T40 l1 x17_1).f1) _ _ ((rd_T40 l1 x17_1).f2) ((rd_T40 l1 x17_1).f3) false _ ?side1 ?side2 ?side3 ?side4 ?side5 ?side6 ?side7 ?side8 A9.out).mono ?_); (case side1 => exact Kd.C_below HR257_1.out (by repeat (first | (with_reducible first | exact HB.out | apply below_alloc | apply pw_below_drewN | apply below_drew1 | refine below_set ?_ GE258.out | refine below_set ?_ GE260.out) | exact HB.out))); (case side2 => exact HC257_1.out); (case side3 => exact Kd.C_below HR257_2.out (by repeat (first | (with_reducible first | exact HB.out | apply below_alloc | apply pw_below_drewN | apply below_drew1 | refine below_set ?_ GE258.out | refine below_set ?_ GE260.out) | exact HB.out))); (case side4 => exact HC257_2.out); (case side5 => exact Kd.C_below HR259_1.out (by repeat (first | (with_reducible first | exact HB.out | apply below_alloc | apply pw_below_drewN | apply below_drew1 | refine below_set ?_ GE258.out | refine below_set ?_ GE260.out) | exact HB.out))); (case side6 => exact HC259_1.out); (case side7 => exact Kd.C_below HR259_2.out (by repeat (first | (with_reducible first | exact HB.out | apply below_alloc | apply pw_below_drewN | apply below_drew1 | refine below_set ?_ GE258.out | refine below_set ?_ GE260.out) | exact HB.out))); (case side8 => exact HC259_2.out); rintro e w24 ⟨rfl, hb⟩; have n0_ := Aside0.mk (blk_below (g := gb258) (o := .cells #[.string ((rd_T40 l0 x17_1).f0), .slice A257_1 ((rd_T40 l0 x17_1).f1).length c257_1, .slice A257_2 ((rd_T40 l0 x17_1).f2).length c257_2, .string ((rd_T40 l0 x17_1).f3)] 40 (0, 0)) (by (with_reducible repeat (first | refine blk_drewN ?_ _ | refine blk_drew ?_ | refine blk_alloc ?_ _)); refine blk_far ?_ NB258_260.out _; (with_reducible repeat (first | refine blk_drewN ?_ _ | refine blk_drew ?_ | refine blk_alloc ?_ _)); refine blk_far ?_ NB258_260.out _; (with_reducible repeat (first | refine blk_drewN ?_ _ | refine blk_drew ?_ | refine blk_alloc ?_ _)); refine blk_far ?_ NB258_260.out _; (with_reducible repeat (first | refine blk_drewN ?_ _ | refine blk_drew ?_ | refine blk_alloc ?_ _)); refine blk_far ?_ NB258_260.out _; (with_reducible repeat (first | refine blk_drewN ?_ _ | refine blk_drew ?_ | refine blk_alloc ?_ _)); exact BK258.out) hb); have n1_ := Aside0.mk (blk_below (g := gb260) (o := .cells #[.string ((rd_T40 l1 x17_1).f0), .slice A259_1 ((rd_T40 l1 x17_1).f1).length c259_1, .slice A259_2 ((rd_T40 l1 x17_1).f2).length c259_2, .string ((rd_T40 l1 x17_1).f3)] 40 (0, 0)) (by (with_reducible repeat (first | refine blk_drewN ?_ _ | refine blk_drew ?_ | refine blk_alloc ?_ _)); refine blk_put (cs := #[.string ((rd_T40 l1 x17_1).f0), .slice A259_1 ((rd_T40 l1 x17_1).f1).length c259_1, .slice A259_2 ((rd_T40 l1 x17_1).f2).length c259_2, .string (⟨#[]⟩ : ByteArray)]) ?_ 3 _ rfl; (with_reducible repeat (first | refine blk_drewN ?_ _ | refine blk_drew ?_ | refine blk_alloc ?_ _)); refine blk_put (cs := #[.string ((rd_T40 l1 x17_1).f0), .slice A259_1 ((rd_T40 l1 x17_1).f1).length c259_1, .slice none 0 0, .string (⟨#[]⟩ : ByteArray)]) ?_ 2 _ rfl; (with_reducible repeat (first | refine blk_drewN ?_ _ | refine blk_drew ?_ | refine blk_alloc ?_ _)); refine blk_put (cs := #[.string ((rd_T40 l1 x17_1).f0), .slice none 0 0, .slice none 0 0, .string (⟨#[]⟩ : ByteArray)]) ?_ 1 _ rfl; (with_reducible repeat (first | refine blk_drewN ?_ _ | refine blk_drew ?_ | refine blk_alloc ?_ _)); refine blk_put (cs := #[.string (⟨#[]⟩ : ByteArray), .slice none 0 0, .slice none 0 0, .string (⟨#[]⟩ : ByteArray)]) ?_ 0 _ rfl; (with_reducible repeat (first | refine blk_drewN ?_ _ | refine blk_drew ?_ | refine blk_alloc ?_ _)); exact BK260.out) hb); have n2_ := Aside0.mk (below_step (by repeat (first | (with_reducible first | exact HB.out | apply below_alloc | apply pw_below_drewN | apply below_drew1 | refine below_set ?_ GE258.out | refine below_set ?_ GE260.out) | exact HB.out)) hb); clear BK258; clear BK260; clear HB; have BK258 := n0_; have BK260 := n1_; have HB := n2_; clear n0_ n1_ n2_; (try clear hb); (try clear hb2); (try clear hk); (try clear hi)))
         go_ret
         exact ⟨by first | rfl | (simp [errW_none, errW_some] <;> rfl) | (simp [*, errW_none, errW_some] <;> rfl), by repeat (first | (with_reducible first | exact HB.out | apply below_alloc | apply pw_below_drewN | apply below_drew1 | refine below_set ?_ GE258.out | refine below_set ?_ GE260.out) | exact HB.out)⟩
       ·rw [if_neg c8] at H
        exact absurd H (by simp)
      ·rw [if_neg c7] at H
       exact absurd H (by simp)
     ·rw [if_neg c6] at H
      exact absurd H (by simp)
    ·rw [if_neg c5] at H
     have c5b0 : decide (x17_1 < (l0.length : Int)) = false := decide_eq_false c5
     clear c5
     obtain rfl := Option.some.inj H
     go_wp2
     go_ret
     exact ⟨by first | rfl | (simp [errW_none, errW_some] <;> rfl) | (simp [*, errW_none, errW_some] <;> rfl), by repeat (first | (with_reducible first | exact HB.out | apply below_alloc | apply pw_below_drewN | apply below_drew1) | exact HB.out)⟩
 ·rw [if_neg c4] at H
  have c4b0 : ((l0.length : Int) == (l1.length : Int)) = false := beq_eq_false_iff_ne.mpr c4
  have c4b1 : ((l0.length : Int) != (l1.length : Int)) = true := bne_iff_ne.mpr c4
  have c4b2 : (l0.length == l1.length) = false := by first | simpa using c4 | (simp at c4 ⊢; omega)
  obtain rfl := Option.some.inj H
  go_enter Tryd.func42, Tryd.ntmps42
  go_wp2
  go_ret
  exact ⟨by first | rfl | (simp [errW_none, errW_some] <;> rfl) | (simp [*, errW_none, errW_some] <;> rfl), by repeat (first | (with_reducible first | exact HB.out | apply below_alloc | apply pw_below_drewN | apply below_drew1) | exact HB.out)⟩

end Go.Proofs.YtmcmpjkfdkogiaaDoor.P

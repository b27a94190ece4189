-- Out of the translation's print, by a program. Lean checks it.
import Derived.Test.YtmcmpjkfdkogiaaDoorPQ0
namespace Go.Proofs.YtmcmpjkfdkogiaaDoor.P
open Go.RowKit Go.Proofs.YtmcmpjkfdkogiaaDoorW.PrintWords Go.Proofs.YtmcmpjkfdkogiaaDoorW.PrintLast Go.Proofs.YtmcmpjkfdkogiaaDoorW.PrintMore
attribute [local go_sem] max2_int min2_int max_two min_two max_three min_three max_four min_four   -- for this text's walks alone
set_option linter.unusedVariables false
set_option linter.unusedSimpArgs false

-- BY HAND: function 13 (printer_Print)

/-! ### ref01_Decimal: function 37 -/
def ref01_Decimal.l0 : Nat → Int → ByteArray → Option (ByteArray)
 | 0, _, _ => none
 | k + 1, x0, x3 => if x0 > 0 then ((some (([(wrap64 (48 + (Int.tmod x0 10))) % 256] : List Int) : List Int)).bind fun y190 => (if (strOfNums y190).size + x3.size ≤ 9223372036854775807 then (ref01_Decimal.l0 k (wrap64 (Int.tdiv x0 10)) ((strOfNums y190) ++ x3)) else (none))) else (if x3.toList = ([] : List UInt8) then ((some (([(wrap64 (48 + (Int.tmod x0 10))) % 256] : List Int) : List Int)).bind fun y193 => (if (strOfNums y193).size + x3.size ≤ 9223372036854775807 then (ref01_Decimal.l0 k (wrap64 (Int.tdiv x0 10)) ((strOfNums y193) ++ x3)) else (none))) else (some x3))
def ref01_Decimal.f (k : Nat) (a0 : Int) : Option (ByteArray) := ref01_Decimal.l0 k a0 (⟨#[]⟩ : ByteArray)
theorem ref01_Decimal.mono_l : ∀ k, (∀ y0 y1, LeO (ref01_Decimal.l0 k y0 y1) (ref01_Decimal.l0 (k + 1) y0 y1))
 | 0 => fun _ _ r h => by simp [ref01_Decimal.l0] at h
 | k + 1 => by
  have ih0 := ref01_Decimal.mono_l k
  ·intro y0 y1
   unfold ref01_Decimal.l0
   repeat' first
   | (with_reducible exact ih0 _ _)
   | (with_reducible exact LeO.refl _)
   | (with_reducible exact LeO.none _)
   | (with_reducible refine LeO.ite ?_ ?_)
   | (with_reducible refine LeO.bind ?_ (fun _ => ?_))
   | exact ih0 _ _
   | exact LeO.none _
   | refine LeO.ite ?_ ?_
   | refine LeO.bind ?_ (fun _ => ?_)
theorem ref01_Decimal.mono : ∀ a0 k, LeO (ref01_Decimal.f k a0) (ref01_Decimal.f (k + 1) a0) := by
 intro a0 k
 have ih0 := ref01_Decimal.mono_l k
 unfold ref01_Decimal.f
 repeat' first
   | (with_reducible exact ih0 _ _)
   | (with_reducible exact LeO.refl _)
   | (with_reducible exact LeO.none _)
   | (with_reducible refine LeO.ite ?_ ?_)
   | (with_reducible refine LeO.bind ?_ (fun _ => ?_))
   | exact ih0 _ _
   | exact LeO.none _
   | refine LeO.ite ?_ ?_
   | refine LeO.bind ?_ (fun _ => ?_)
set_option maxHeartbeats 8000000 in
set_option maxRecDepth 100000 in
theorem ref01_Decimal.calls (k : Nat) (a0 : Int) (r : ByteArray) (w : World) (h : ref01_Decimal.f k a0 = some r) :
  Calls Tryd.prog 37 #[.int .i64 a0] w fun e w' => e = .returned (.string r) ∧ Below w.heap.size w w' := by
 have HB := Aside0.mk (Below.refl w.heap.size w)
 have H : (ref01_Decimal.l0 k a0 (⟨#[]⟩ : ByteArray)) = some r := h
 clear h
 have H' := Aside0.mk H
 clear H
 go_enter Tryd.func37, Tryd.ntmps37
 go_wp2
 go_loopg [0, 3] k (fun kq v0 v3 w' => ∃ (x0_1 : Int) (x3_1 : ByteArray), v0 = .int .i64 x0_1 ∧ v3 = .string x3_1 ∧ Aside0 (ref01_Decimal.l0 kq x0_1 x3_1 = some r) ∧ Aside0 (kq ≤ k) ∧ Aside0 (Below w.heap.size w w'))
 case atStart => exact ⟨(a0), ((⟨#[]⟩ : ByteArray)), (by first | rfl | (simp; done) | (simp [*]; done)), (by first | rfl | (simp; done) | (simp [*]; done)), H', ⟨Nat.le_refl _⟩, ⟨by repeat (first | (with_reducible first | exact HB.out | apply below_alloc | apply pw_below_drewN | apply below_drew1) | exact HB.out)⟩⟩
 case round =>
  clear H'
  obtain ⟨x0_1, x3_1, rfl, rfl, HA, HK1, HB⟩ := hrel
  cases gk with
  | zero => exact absurd HA.out (by simp [ref01_Decimal.l0])
  | succ k1 =>
   have H := HA.out
   clear HA
   simp only [ref01_Decimal.l0] at H
   by_cases c2 : x0_1 > 0
   ·rw [if_pos c2] at H
    have c2b0 : decide (0 < x0_1) = true := decide_eq_true c2
    clear c2
    obtain ⟨y190, hy190⟩ : ∃ y_ : List Int, y_ = (([(wrap64 (48 + (Int.tmod x0_1 10))) % 256] : List Int)) := ⟨_, rfl⟩
    replace H : (if (strOfNums y190).size + x3_1.size ≤ 9223372036854775807 then (ref01_Decimal.l0 k1 (wrap64 (Int.tdiv x0_1 10)) ((strOfNums y190) ++ x3_1)) else (none)) = some r := by first | (rw [hy190]; with_reducible exact H) | (have H2_ := (Option.bind_some _ _).symm.trans H; rw [hy190]; with_reducible exact H2_) | (have H2_ := (Option.bind_some _ _).symm.trans H; with_reducible exact H2_) | with_reducible exact H | (rw [hy190]; exact H) | exact H
    have Ny190 := Aside0.mk hy190
    clear hy190
    by_cases c3 : (strOfNums y190).size + x3_1.size ≤ 9223372036854775807
    ·rw [if_pos c3] at H
     have c3b0 := eq_true c3
     have c3b1 : decide ((strOfNums y190).size + x3_1.size ≤ 9223372036854775807) = true := decide_eq_true c3
     try have c3b2 : (9223372036854775807 < (strOfNums y190).size + x3_1.size) = False := eq_false (Nat.not_lt.2 c3)
     have H' := Aside0.mk H
     clear H
     go_wp2_with (first | ((with_reducible refine gate_dst (N := 14) rfl ?_); refine Kd.R_lit (Kd.int .u8) _ 5 ?hg (N := 14) ?hd (xs := ([(wrap64 (48 + (Int.tmod x0_1 10))) % 256] : List Int)) (inner := [.int .u8 ((wrap64 (48 + (Int.tmod x0_1 10))) % 256)]) (ok := fun _ => True) (okp := fun _ => True) ?hr ?hp (fun _ hk => hk) trivial (Below.refl _ _) (Nat.le_refl _) (by simp) ?_; (case hd => rfl); (case hg => rfl); (case hr => first | (go_simp; done) | (go_simp; rfl)); (case hp => exact (Reps.one (show Kd.M (Kd.int .u8) _ _ _ ((wrap64 (48 + (Int.tmod x0_1 10))) % 256) [.int .u8 ((wrap64 (48 + (Int.tmod x0_1 10))) % 256)] from rfl) (Reps.none _ _))); intro v191 w4 ho5 hb hg_ hnew_; clear hg_ hnew_; (first | rw [← Ny190.out] at ho5 | (simp only [Int.reduceToNat] at ho5; rw [← Ny190.out] at ho5)); have n0_ := Aside0.mk (Kd.R_lower ho5 (below_size (by repeat (first | (with_reducible first | exact HB.out | apply below_alloc | apply pw_below_drewN | apply below_drew1) | exact HB.out)))); have n1_ := Aside0.mk (below_step (by repeat (first | (with_reducible first | exact HB.out | apply below_alloc | apply pw_below_drewN | apply below_drew1) | exact HB.out)) hb); clear HB; have HO192 := n0_; have HB := n1_; clear n0_ n1_; clear hb ho5; have hcv6 := own_string (P := Tryd.prog) Tryd.underlying77 Tryd.underlying5 Tryd.underlying9 (Kd.own_of_R HO192.out)))
     go_roundg k1
     case measure => have := HK1.out; omega
     case rel => exact ⟨(wrap64 (Int.tdiv x0_1 10)), ((strOfNums y190) ++ x3_1), (by first | rfl | (simp; done) | (simp [*]; done)), (by first | rfl | (simp; done) | (simp [*]; done)), H', ⟨by have := HK1.out; omega⟩, ⟨by repeat (first | (with_reducible first | exact HB.out | apply below_alloc | apply pw_below_drewN | apply below_drew1) | exact HB.out)⟩⟩
    ·rw [if_neg c3] at H
     exact absurd H (by simp)
   ·rw [if_neg c2] at H
    have c2b0 : decide (0 < x0_1) = false := decide_eq_false c2
    clear c2
    by_cases c7 : x3_1.toList = ([] : List UInt8)
    ·rw [if_pos c7] at H
     have c7b0 : (x3_1.toList == ([] : List UInt8)) = true := beq_iff_eq.mpr c7
     have c7b1 : (x3_1.toList != ([] : List UInt8)) = false := bne_eq_false_iff_eq.mpr c7
     (try (have c7b2 : x3_1.toList.isEmpty = true := List.isEmpty_iff.mpr c7))
     (try (have c7b3 : (!x3_1.toList.isEmpty) = false := by rw [List.isEmpty_iff.mpr c7]; rfl))
     clear c7
     obtain ⟨y193, hy193⟩ : ∃ y_ : List Int, y_ = (([(wrap64 (48 + (Int.tmod x0_1 10))) % 256] : List Int)) := ⟨_, rfl⟩
     replace H : (if (strOfNums y193).size + x3_1.size ≤ 9223372036854775807 then (ref01_Decimal.l0 k1 (wrap64 (Int.tdiv x0_1 10)) ((strOfNums y193) ++ x3_1)) else (none)) = some r := by first | (rw [hy193]; with_reducible exact H) | (have H2_ := (Option.bind_some _ _).symm.trans H; rw [hy193]; with_reducible exact H2_) | (have H2_ := (Option.bind_some _ _).symm.trans H; with_reducible exact H2_) | with_reducible exact H | (rw [hy193]; exact H) | exact H
     have Ny193 := Aside0.mk hy193
     clear hy193
     by_cases c8 : (strOfNums y193).size + x3_1.size ≤ 9223372036854775807
     ·rw [if_pos c8] at H
      have c8b0 := eq_true c8
      have c8b1 : decide ((strOfNums y193).size + x3_1.size ≤ 9223372036854775807) = true := decide_eq_true c8
      try have c8b2 : (9223372036854775807 < (strOfNums y193).size + x3_1.size) = False := eq_false (Nat.not_lt.2 c8)
      have H' := Aside0.mk H
      clear H
      go_wp2_with (first | ((with_reducible refine gate_dst (N := 14) rfl ?_); refine Kd.R_lit (Kd.int .u8) _ 5 ?hg (N := 14) ?hd (xs := ([(wrap64 (48 + (Int.tmod x0_1 10))) % 256] : List Int)) (inner := [.int .u8 ((wrap64 (48 + (Int.tmod x0_1 10))) % 256)]) (ok := fun _ => True) (okp := fun _ => True) ?hr ?hp (fun _ hk => hk) trivial (Below.refl _ _) (Nat.le_refl _) (by simp) ?_; (case hd => rfl); (case hg => rfl); (case hr => first | (go_simp; done) | (go_simp; rfl)); (case hp => exact (Reps.one (show Kd.M (Kd.int .u8) _ _ _ ((wrap64 (48 + (Int.tmod x0_1 10))) % 256) [.int .u8 ((wrap64 (48 + (Int.tmod x0_1 10))) % 256)] from rfl) (Reps.none _ _))); intro v194 w9 ho10 hb hg_ hnew_; clear hg_ hnew_; (first | rw [← Ny193.out] at ho10 | (simp only [Int.reduceToNat] at ho10; rw [← Ny193.out] at ho10)); have n0_ := Aside0.mk (Kd.R_lower ho10 (below_size (by repeat (first | (with_reducible first | exact HB.out | apply below_alloc | apply pw_below_drewN | apply below_drew1) | exact HB.out)))); have n1_ := Aside0.mk (below_step (by repeat (first | (with_reducible first | exact HB.out | apply below_alloc | apply pw_below_drewN | apply below_drew1) | exact HB.out)) hb); clear HB; have HO195 := n0_; have HB := n1_; clear n0_ n1_; clear hb ho10; have hcv11 := own_string (P := Tryd.prog) Tryd.underlying77 Tryd.underlying5 Tryd.underlying9 (Kd.own_of_R HO195.out)))
      go_roundg k1
      case measure => have := HK1.out; omega
      case rel => exact ⟨(wrap64 (Int.tdiv x0_1 10)), ((strOfNums y193) ++ x3_1), (by first | rfl | (simp; done) | (simp [*]; done)), (by first | rfl | (simp; done) | (simp [*]; done)), H', ⟨by have := HK1.out; omega⟩, ⟨by repeat (first | (with_reducible first | exact HB.out | apply below_alloc | apply pw_below_drewN | apply below_drew1) | exact HB.out)⟩⟩
     ·rw [if_neg c8] at H
      exact absurd H (by simp)
    ·rw [if_neg c7] at H
     have c7b0 : (x3_1.toList == ([] : List UInt8)) = false := beq_eq_false_iff_ne.mpr c7
     have c7b1 : (x3_1.toList != ([] : List UInt8)) = true := bne_iff_ne.mpr c7
     (try (have c7b2 : x3_1.toList.isEmpty = false := List.isEmpty_eq_false_iff.mpr c7))
     (try (have c7b3 : (!x3_1.toList.isEmpty) = true := by rw [List.isEmpty_eq_false_iff.mpr c7]; rfl))
     obtain rfl := Option.some.inj H
     go_wp2
     go_ret
     exact ⟨by first | rfl | (simp [errW_none, errW_some] <;> rfl) | (simp [*, errW_none, errW_some] <;> rfl), by repeat (first | (with_reducible first | exact HB.out | apply below_alloc | apply pw_below_drewN | apply below_drew1) | exact HB.out)⟩

/-! ### ref10_ContactKeywords: function 38 -/
def ref10_ContactKeywords.f  : Option (List ByteArray) := some (([(⟨#[110, 111]⟩ : ByteArray), (⟨#[110, 99]⟩ : ByteArray), (⟨#[117, 112]⟩ : ByteArray), (⟨#[100, 111, 119, 110]⟩ : ByteArray)] : List ByteArray))
set_option maxHeartbeats 8000000 in
set_option maxRecDepth 100000 in
theorem ref10_ContactKeywords.calls  (r : List ByteArray) (w : World) (h : ref10_ContactKeywords.f  = some r) :
  Calls Tryd.prog 38 #[] w fun e w' => ∃ v0_ : Value, e = .returned (v0_) ∧ Kd.R Kd.string 9 w' w.heap.size (fun _ => True) v0_ r ∧ Below w.heap.size w w' := by
 have HB := Aside0.mk (Below.refl w.heap.size w)
 have H : (some (([(⟨#[110, 111]⟩ : ByteArray), (⟨#[110, 99]⟩ : ByteArray), (⟨#[117, 112]⟩ : ByteArray), (⟨#[100, 111, 119, 110]⟩ : ByteArray)] : List ByteArray))) = some r := h
 clear h
 obtain ⟨y196, hy196⟩ : ∃ y_ : List ByteArray, y_ = (([(⟨#[110, 111]⟩ : ByteArray), (⟨#[110, 99]⟩ : ByteArray), (⟨#[117, 112]⟩ : ByteArray), (⟨#[100, 111, 119, 110]⟩ : ByteArray)] : List ByteArray)) := ⟨_, rfl⟩
 replace H : (some y196) = some r := by first | (rw [hy196]; with_reducible exact H) | (have H2_ := (Option.bind_some _ _).symm.trans H; rw [hy196]; with_reducible exact H2_) | (have H2_ := (Option.bind_some _ _).symm.trans H; with_reducible exact H2_) | with_reducible exact H | (rw [hy196]; exact H) | exact H
 have Ny196 := Aside0.mk hy196
 clear hy196
 obtain rfl := Option.some.inj H
 go_enter Tryd.func38, Tryd.ntmps38
 go_wp2_with (first | ((with_reducible refine gate_dst (N := 1) rfl ?_); refine Kd.R_lit Kd.string _ 9 ?hg (N := 1) ?hd (xs := ([(⟨#[110, 111]⟩ : ByteArray), (⟨#[110, 99]⟩ : ByteArray), (⟨#[117, 112]⟩ : ByteArray), (⟨#[100, 111, 119, 110]⟩ : ByteArray)] : List ByteArray)) (inner := [.string (⟨#[110, 111]⟩ : ByteArray), .string (⟨#[110, 99]⟩ : ByteArray), .string (⟨#[117, 112]⟩ : ByteArray), .string (⟨#[100, 111, 119, 110]⟩ : ByteArray)]) (ok := fun _ => True) (okp := fun _ => True) ?hr ?hp (fun _ hk => hk) trivial (Below.refl _ _) (Nat.le_refl _) (by simp) ?_; (case hd => rfl); (case hg => rfl); (case hr => first | (go_simp; done) | (go_simp; rfl)); (case hp => exact (Reps.one (show Kd.M Kd.string _ _ _ (⟨#[110, 111]⟩ : ByteArray) [.string (⟨#[110, 111]⟩ : ByteArray)] from rfl) (Reps.one (show Kd.M Kd.string _ _ _ (⟨#[110, 99]⟩ : ByteArray) [.string (⟨#[110, 99]⟩ : ByteArray)] from rfl) (Reps.one (show Kd.M Kd.string _ _ _ (⟨#[117, 112]⟩ : ByteArray) [.string (⟨#[117, 112]⟩ : ByteArray)] from rfl) (Reps.one (show Kd.M Kd.string _ _ _ (⟨#[100, 111, 119, 110]⟩ : ByteArray) [.string (⟨#[100, 111, 119, 110]⟩ : ByteArray)] from rfl) (Reps.none _ _)))))); intro v197 w1 ho2 hb hg_ hnew_; clear hg_ hnew_; (first | rw [← Ny196.out] at ho2 | (simp only [Int.reduceToNat] at ho2; rw [← Ny196.out] at ho2)); have n0_ := Aside0.mk (Kd.R_lower ho2 (below_size (by repeat (first | (with_reducible first | exact HB.out | apply below_alloc | apply pw_below_drewN | apply below_drew1) | exact HB.out)))); have n1_ := Aside0.mk (below_step (by repeat (first | (with_reducible first | exact HB.out | apply below_alloc | apply pw_below_drewN | apply below_drew1) | exact HB.out)) hb); clear HB; have HO198 := n0_; have HB := n1_; clear n0_ n1_; clear hb ho2))
 go_ret
 exact ⟨_, by first | rfl | (simp [errW_none, errW_some] <;> rfl) | (simp [*, errW_none, errW_some] <;> rfl), by (with_reducible repeat (first | apply Kd.R_alloc | apply Kd.R_drewN | apply Kd.R_drew)); exact HO198.out, by repeat (first | (with_reducible first | exact HB.out | apply below_alloc | apply pw_below_drewN | apply below_drew1) | exact HB.out)⟩

/-! ### ref01_Format: function 39 -/
def ref01_Format.f (k : Nat) (a0_0 : Int) (a0_1 : Int) : Option (ByteArray) := if a0_0 < 0 then (some (⟨#[]⟩ : ByteArray)) else (if a0_0 > 2 then (some (⟨#[]⟩ : ByteArray)) else (if a0_1 < 0 then (some (⟨#[]⟩ : ByteArray)) else (if a0_1 > 255 then (some (⟨#[]⟩ : ByteArray)) else (if 0 ≤ a0_0 then (if a0_0 ≤ (wrap64 (a0_0 + 1)) then (if (wrap64 (a0_0 + 1)) ≤ 3 then ((ref01_Decimal.f k a0_1).bind fun t200 => (if ((⟨#[73, 81, 77]⟩ : ByteArray).extract (a0_0 : Int).toNat ((wrap64 (a0_0 + 1)) : Int).toNat).size + t200.size ≤ 9223372036854775807 then (some (((⟨#[73, 81, 77]⟩ : ByteArray).extract (a0_0 : Int).toNat ((wrap64 (a0_0 + 1)) : Int).toNat) ++ t200)) else (none))) else (none)) else (none)) else (none)))))
theorem ref01_Format.mono : ∀ a0 a1 k, LeO (ref01_Format.f k a0 a1) (ref01_Format.f (k + 1) a0 a1) := by
 intro a0 a1 k
 unfold ref01_Format.f
 repeat' first
   | (with_reducible exact ref01_Decimal.mono _ _)
   | (with_reducible exact LeO.refl _)
   | (with_reducible exact LeO.none _)
   | (with_reducible refine LeO.ite ?_ ?_)
   | (with_reducible refine LeO.bind ?_ (fun _ => ?_))
   | exact ref01_Decimal.mono _ _
   | exact LeO.none _
   | refine LeO.ite ?_ ?_
   | refine LeO.bind ?_ (fun _ => ?_)
def ref01_Format.T3 : Bool × List (List Nat × List Nat) := (true, [([], []), ([0], [0]), ([], []), ([2], [2]), ([3], [3]), ([1, 4], [1, 4]), ([], []), ([6], [6]), ([7], [7]), ([5, 8], [5, 8]), ([9, 8, 0, 1, 2, 3, 4, 5, 6, 7, 8, 9], [9])])
def ref01_Format.B3 : List Nat := [0, 1, 0, 4, 12, 31, 0, 64, 192, 511, 1023]
theorem ref01_Format.tab3 : rtab .any (opsOf Tryd.f39 3) = ref01_Format.T3 := by kernel_rfl
theorem ref01_Format.bits3 : waitsOk ref01_Format.T3.2 ref01_Format.B3 = true := by kernel_rfl
set_option maxHeartbeats 8000000 in
set_option maxRecDepth 100000 in
theorem ref01_Format.calls (k : Nat) (a0_0 : Int) (a0_1 : Int) (r : ByteArray) (w : World) (h : ref01_Format.f k a0_0 a0_1 = some r) :
  Calls Tryd.prog 39 #[.agg #[.int .i64 a0_0, .int .i64 a0_1]] w fun e w' => e = .returned (.string r) ∧ Below w.heap.size w w' := by
 have hu48 := Tryd.underlying48
 have HB := Aside0.mk (Below.refl w.heap.size w)
 have H : (if a0_0 < 0 then (some (⟨#[]⟩ : ByteArray)) else (if a0_0 > 2 then (some (⟨#[]⟩ : ByteArray)) else (if a0_1 < 0 then (some (⟨#[]⟩ : ByteArray)) else (if a0_1 > 255 then (some (⟨#[]⟩ : ByteArray)) else (if 0 ≤ a0_0 then (if a0_0 ≤ (wrap64 (a0_0 + 1)) then (if (wrap64 (a0_0 + 1)) ≤ 3 then ((ref01_Decimal.f k a0_1).bind fun t200 => (if ((⟨#[73, 81, 77]⟩ : ByteArray).extract (a0_0 : Int).toNat ((wrap64 (a0_0 + 1)) : Int).toNat).size + t200.size ≤ 9223372036854775807 then (some (((⟨#[73, 81, 77]⟩ : ByteArray).extract (a0_0 : Int).toNat ((wrap64 (a0_0 + 1)) : Int).toNat) ++ t200)) else (none))) else (none)) else (none)) else (none)))))) = some r := h
 clear h
 by_cases c2 : a0_0 < 0
 ·rw [if_pos c2] at H
  have c2b0 : decide (a0_0 < 0) = true := decide_eq_true c2
  clear c2
  obtain rfl := Option.some.inj H
  go_enter Tryd.func39, Tryd.ntmps39
  go_wp2_with (first | ((with_reducible refine gate_dst (N := 1) rfl ?_); refine box_event ?hg (N := 1) ?hd (cs := #[.int .i64 a0_0, .int .i64 a0_1]) (t := 48) ?hr ?_; (case hd => rfl); (case hg => rfl); (case hr => first | (go_simp; done) | (go_simp; rfl)); intro gb199 hg w3 hbox hb; have n0_ := Aside0.mk (below_step (by repeat (first | (with_reducible first | exact HB.out | apply below_alloc | apply pw_below_drewN | apply below_drew1) | exact HB.out)) hb); have n1_ := Aside0.mk (hbox); have n2_ := Aside0.mk ((by rw [hg]; exact (below_size (by repeat (first | (with_reducible first | exact HB.out | apply below_alloc | apply pw_below_drewN | apply below_drew1) | exact HB.out))) : w.heap.size ≤ gb199)); have n3_ := Aside0.mk ((by rw [hg]; exact (below_size (by repeat (first | (with_reducible first | exact HB.out | apply below_alloc | apply pw_below_drewN | apply below_drew1) | exact HB.out))) : w.heap.size ≤ gb199)); clear HB; have HB := n0_; have BK199 := n1_; have GW199 := n2_; have GE199 := n3_; clear n0_ n1_ n2_ n3_; clear hb hbox hg; have hcz4_0 : w3.cell? ⟨gb199, 0, none⟩ = some (.int .i64 a0_0) := (blk_cell BK199.out 0).trans rfl; have hcz4_1 : w3.cell? ⟨gb199, 1, none⟩ = some (.int .i64 a0_1) := (blk_cell BK199.out 1).trans rfl; have hfz4_0 := blk_frozen BK199.out 0; have hfz4_1 := blk_frozen BK199.out 1))
  go_ret
  exact ⟨by first | rfl | (simp [errW_none, errW_some] <;> rfl) | (simp [*, errW_none, errW_some] <;> rfl), by repeat (first | (with_reducible first | exact HB.out | apply below_alloc | apply pw_below_drewN | apply below_drew1 | refine below_set ?_ GE199.out) | exact HB.out)⟩
 ·rw [if_neg c2] at H
  have c2b0 : decide (a0_0 < 0) = false := decide_eq_false c2
  clear c2
  by_cases c5 : a0_0 > 2
  ·rw [if_pos c5] at H
   have c5b0 : decide (2 < a0_0) = true := decide_eq_true c5
   clear c5
   obtain rfl := Option.some.inj H
   go_enter Tryd.func39, Tryd.ntmps39
   go_wp2_with (first | ((with_reducible refine gate_dst (N := 1) rfl ?_); refine box_event ?hg (N := 1) ?hd (cs := #[.int .i64 a0_0, .int .i64 a0_1]) (t := 48) ?hr ?_; (case hd => rfl); (case hg => rfl); (case hr => first | (go_simp; done) | (go_simp; rfl)); intro gb199 hg w6 hbox hb; have n0_ := Aside0.mk (below_step (by repeat (first | (with_reducible first | exact HB.out | apply below_alloc | apply pw_below_drewN | apply below_drew1) | exact HB.out)) hb); have n1_ := Aside0.mk (hbox); have n2_ := Aside0.mk ((by rw [hg]; exact (below_size (by repeat (first | (with_reducible first | exact HB.out | apply below_alloc | apply pw_below_drewN | apply below_drew1) | exact HB.out))) : w.heap.size ≤ gb199)); have n3_ := Aside0.mk ((by rw [hg]; exact (below_size (by repeat (first | (with_reducible first | exact HB.out | apply below_alloc | apply pw_below_drewN | apply below_drew1) | exact HB.out))) : w.heap.size ≤ gb199)); clear HB; have HB := n0_; have BK199 := n1_; have GW199 := n2_; have GE199 := n3_; clear n0_ n1_ n2_ n3_; clear hb hbox hg; have hcz7_0 : w6.cell? ⟨gb199, 0, none⟩ = some (.int .i64 a0_0) := (blk_cell BK199.out 0).trans rfl; have hcz7_1 : w6.cell? ⟨gb199, 1, none⟩ = some (.int .i64 a0_1) := (blk_cell BK199.out 1).trans rfl; have hfz7_0 := blk_frozen BK199.out 0; have hfz7_1 := blk_frozen BK199.out 1))
   go_ret
   exact ⟨by first | rfl | (simp [errW_none, errW_some] <;> rfl) | (simp [*, errW_none, errW_some] <;> rfl), by repeat (first | (with_reducible first | exact HB.out | apply below_alloc | apply pw_below_drewN | apply below_drew1 | refine below_set ?_ GE199.out) | exact HB.out)⟩
  ·rw [if_neg c5] at H
   have c5b0 : decide (2 < a0_0) = false := decide_eq_false c5
   clear c5
   by_cases c8 : a0_1 < 0
   ·rw [if_pos c8] at H
    have c8b0 : decide (a0_1 < 0) = true := decide_eq_true c8
    clear c8
    obtain rfl := Option.some.inj H
    go_enter Tryd.func39, Tryd.ntmps39
    go_wp2_with (first | ((with_reducible refine gate_dst (N := 1) rfl ?_); refine box_event ?hg (N := 1) ?hd (cs := #[.int .i64 a0_0, .int .i64 a0_1]) (t := 48) ?hr ?_; (case hd => rfl); (case hg => rfl); (case hr => first | (go_simp; done) | (go_simp; rfl)); intro gb199 hg w9 hbox hb; have n0_ := Aside0.mk (below_step (by repeat (first | (with_reducible first | exact HB.out | apply below_alloc | apply pw_below_drewN | apply below_drew1) | exact HB.out)) hb); have n1_ := Aside0.mk (hbox); have n2_ := Aside0.mk ((by rw [hg]; exact (below_size (by repeat (first | (with_reducible first | exact HB.out | apply below_alloc | apply pw_below_drewN | apply below_drew1) | exact HB.out))) : w.heap.size ≤ gb199)); have n3_ := Aside0.mk ((by rw [hg]; exact (below_size (by repeat (first | (with_reducible first | exact HB.out | apply below_alloc | apply pw_below_drewN | apply below_drew1) | exact HB.out))) : w.heap.size ≤ gb199)); clear HB; have HB := n0_; have BK199 := n1_; have GW199 := n2_; have GE199 := n3_; clear n0_ n1_ n2_ n3_; clear hb hbox hg; have hcz10_0 : w9.cell? ⟨gb199, 0, none⟩ = some (.int .i64 a0_0) := (blk_cell BK199.out 0).trans rfl; have hcz10_1 : w9.cell? ⟨gb199, 1, none⟩ = some (.int .i64 a0_1) := (blk_cell BK199.out 1).trans rfl; have hfz10_0 := blk_frozen BK199.out 0; have hfz10_1 := blk_frozen BK199.out 1))
    go_ret
    exact ⟨by first | rfl | (simp [errW_none, errW_some] <;> rfl) | (simp [*, errW_none, errW_some] <;> rfl), by repeat (first | (with_reducible first | exact HB.out | apply below_alloc | apply pw_below_drewN | apply below_drew1 | refine below_set ?_ GE199.out) | exact HB.out)⟩
   ·rw [if_neg c8] at H
    have c8b0 : decide (a0_1 < 0) = false := decide_eq_false c8
    clear c8
    by_cases c11 : a0_1 > 255
    ·rw [if_pos c11] at H
     have c11b0 : decide (255 < a0_1) = true := decide_eq_true c11
     clear c11
     obtain rfl := Option.some.inj H
     go_enter Tryd.func39, Tryd.ntmps39
     go_wp2_with (first | ((with_reducible refine gate_dst (N := 1) rfl ?_); refine box_event ?hg (N := 1) ?hd (cs := #[.int .i64 a0_0, .int .i64 a0_1]) (t := 48) ?hr ?_; (case hd => rfl); (case hg => rfl); (case hr => first | (go_simp; done) | (go_simp; rfl)); intro gb199 hg w12 hbox hb; have n0_ := Aside0.mk (below_step (by repeat (first | (with_reducible first | exact HB.out | apply below_alloc | apply pw_below_drewN | apply below_drew1) | exact HB.out)) hb); have n1_ := Aside0.mk (hbox); have n2_ := Aside0.mk ((by rw [hg]; exact (below_size (by repeat (first | (with_reducible first | exact HB.out | apply below_alloc | apply pw_below_drewN | apply below_drew1) | exact HB.out))) : w.heap.size ≤ gb199)); have n3_ := Aside0.mk ((by rw [hg]; exact (below_size (by repeat (first | (with_reducible first | exact HB.out | apply below_alloc | apply pw_below_drewN | apply below_drew1) | exact HB.out))) : w.heap.size ≤ gb199)); clear HB; have HB := n0_; have BK199 := n1_; have GW199 := n2_; have GE199 := n3_; clear n0_ n1_ n2_ n3_; clear hb hbox hg; have hcz13_0 : w12.cell? ⟨gb199, 0, none⟩ = some (.int .i64 a0_0) := (blk_cell BK199.out 0).trans rfl; have hcz13_1 : w12.cell? ⟨gb199, 1, none⟩ = some (.int .i64 a0_1) := (blk_cell BK199.out 1).trans rfl; have hfz13_0 := blk_frozen BK199.out 0; have hfz13_1 := blk_frozen BK199.out 1))
     go_ret
     exact ⟨by first | rfl | (simp [errW_none, errW_some] <;> rfl) | (simp [*, errW_none, errW_some] <;> rfl), by repeat (first | (with_reducible first | exact HB.out | apply below_alloc | apply pw_below_drewN | apply below_drew1 | refine below_set ?_ GE199.out) | exact HB.out)⟩
    ·rw [if_neg c11] at H
     have c11b0 : decide (255 < a0_1) = false := decide_eq_false c11
     clear c11
     by_cases c14 : 0 ≤ a0_0
     ·rw [if_pos c14] at H
      have c14b0 := eq_true c14
      have c14b1 : decide (0 ≤ a0_0) = true := decide_eq_true c14
      clear c14
      by_cases c15 : a0_0 ≤ (wrap64 (a0_0 + 1))
      ·rw [if_pos c15] at H
       have c15b0 := eq_true c15
       have c15b1 : decide (a0_0 ≤ (wrap64 (a0_0 + 1))) = true := decide_eq_true c15
       by_cases c16 : (wrap64 (a0_0 + 1)) ≤ 3
       ·rw [if_pos c16] at H
        have c16b0 := eq_true c16
        have c16b1 : decide ((wrap64 (a0_0 + 1)) ≤ 3) = true := decide_eq_true c16
        replace H := Option.bind_eq_some_iff.mp H
        obtain ⟨t200, A170, H⟩ := H
        replace H : (if ((⟨#[73, 81, 77]⟩ : ByteArray).extract (a0_0 : Int).toNat ((wrap64 (a0_0 + 1)) : Int).toNat).size + t200.size ≤ 9223372036854775807 then (some (((⟨#[73, 81, 77]⟩ : ByteArray).extract (a0_0 : Int).toNat ((wrap64 (a0_0 + 1)) : Int).toNat) ++ t200)) else (none)) = some r := H
        have A17 := Aside0.mk A170
        clear A170
        by_cases c18 : ((⟨#[73, 81, 77]⟩ : ByteArray).extract (a0_0 : Int).toNat ((wrap64 (a0_0 + 1)) : Int).toNat).size + t200.size ≤ 9223372036854775807
        ·rw [if_pos c18] at H
         have c18b0 := eq_true c18
         have c18b1 : decide (((⟨#[73, 81, 77]⟩ : ByteArray).extract (a0_0 : Int).toNat ((wrap64 (a0_0 + 1)) : Int).toNat).size + t200.size ≤ 9223372036854775807) = true := decide_eq_true c18
         try have c18b2 : (9223372036854775807 < ((⟨#[73, 81, 77]⟩ : ByteArray).extract (a0_0 : Int).toNat ((wrap64 (a0_0 + 1)) : Int).toNat).size + t200.size) = False := eq_false (Nat.not_lt.2 c18)
         try have c18b3 : ¬ (9223372036854775807 < ((wrap64 (a0_0 + 1))).toNat - (a0_0).toNat + t200.size) := by have h_ := c18; have hs_ : (⟨#[73, 81, 77]⟩ : ByteArray).size = 3 := rfl; simp only [ByteArray.size_extract, hs_] at h_; omega
         obtain rfl := Option.some.inj H
         go_enter Tryd.func39, Tryd.ntmps39
         try go_wp2_with (first | ((with_reducible refine gate_dst (N := 1) rfl ?_); refine box_event ?hg (N := 1) ?hd (cs := #[.int .i64 a0_0, .int .i64 a0_1]) (t := 48) ?hr ?_; (case hd => rfl); (case hg => rfl); (case hr => first | (go_simp; done) | (go_simp; rfl)); intro gb199 hg w19 hbox hb; have n0_ := Aside0.mk (below_step (by repeat (first | (with_reducible first | exact HB.out | apply below_alloc | apply pw_below_drewN | apply below_drew1) | exact HB.out)) hb); have n1_ := Aside0.mk (hbox); have n2_ := Aside0.mk ((by rw [hg]; exact (below_size (by repeat (first | (with_reducible first | exact HB.out | apply below_alloc | apply pw_below_drewN | apply below_drew1) | exact HB.out))) : w.heap.size ≤ gb199)); have n3_ := Aside0.mk ((by rw [hg]; exact (below_size (by repeat (first | (with_reducible first | exact HB.out | apply below_alloc | apply pw_below_drewN | apply below_drew1) | exact HB.out))) : w.heap.size ≤ gb199)); clear HB; have HB := n0_; have BK199 := n1_; have GW199 := n2_; have GE199 := n3_; clear n0_ n1_ n2_ n3_; clear hb hbox hg; have hcz20_0 : w19.cell? ⟨gb199, 0, none⟩ = some (.int .i64 a0_0) := (blk_cell BK199.out 0).trans rfl; have hcz20_1 : w19.cell? ⟨gb199, 1, none⟩ = some (.int .i64 a0_1) := (blk_cell BK199.out 1).trans rfl; have hfz20_0 := blk_frozen BK199.out 0; have hfz20_1 := blk_frozen BK199.out 1))
         have n0_ := Aside0.mk (blk_drew BK199.out)
         have n1_ := Aside0.mk (below_drew1 HB.out)
         clear BK199
         clear HB
         have BK199 := n0_
         have HB := n1_
         clear n0_ n1_
         refine start_ (n := 11) (S := fun w' => w'.cell? ⟨gb199, 0, none⟩ = some (.int .i64 a0_0) ∧ w'.cell? ⟨gb199, 1, none⟩ = some (.int .i64 a0_1)) (ds := []) #[false, false, false, false, false, false, false, false, false, false, false] (by kernel_rfl) rfl rfl ⟨(blk_cell BK199.out 0).trans rfl, (blk_cell BK199.out 1).trans rfl⟩ (fun hHeld => ?_); refine with_tabW ref01_Format.tab3 ref01_Format.bits3 (fun HT_ HW_ => ?_)
         generalize w19.drew = w21 at BK199 HB hHeld ⊢
         refine pure_ (i := 0) (N := some 21) (v := ?_) (a' := ?_) #[true, false, false, false, false, false, false, false, false, false, false] rfl rfl (any_of HT_.out (by kernel_rfl)) (fun _ _ _ h => h) (Or.inl ⟨by rfl, ?_⟩) ?_ ?_
         rotate_left
         ·intro w'
          go_simp
          with_reducible rfl
         rotate_left
         ·simp only [Act.put, List.setIfInBounds_toArray, List.set_cons_zero, List.set_cons_succ, i64_w, i32_w]
          rfl
         refine pure_ (i := 2) (N := some 23) (v := ?_) (a' := ?_) #[true, false, true, false, false, false, false, false, false, false, false] rfl rfl (any_of HT_.out (by kernel_rfl)) (fun _ _ _ h => h) (Or.inl ⟨by rfl, ?_⟩) ?_ ?_
         rotate_left
         ·intro w'
          go_simp
          with_reducible rfl
         rotate_left
         ·simp only [Act.put, List.setIfInBounds_toArray, List.set_cons_zero, List.set_cons_succ, i64_w, i32_w]
          rfl
         refine pure_ (i := 6) (N := some 27) (v := ?_) (a' := ?_) #[true, false, true, false, false, false, true, false, false, false, false] rfl rfl (any_of HT_.out (by kernel_rfl)) (fun _ _ _ h => h) (Or.inl ⟨by rfl, ?_⟩) ?_ ?_
         rotate_left
         ·intro w'
          go_simp
          with_reducible rfl
         rotate_left
         ·simp only [Act.put, List.setIfInBounds_toArray, List.set_cons_zero, List.set_cons_succ, i64_w, i32_w]
          rfl
         refine take_ (i := 1) (N := some 22) (v := ?_) (a' := ?_) #[true, true, true, false, false, false, true, false, false, false, false] rfl rfl (take_ofW HT_.out HW_.out (by kernel_rfl)) (fun _ _ _ h => h) (Or.inl ⟨by rfl, ?_⟩) hHeld ?_ ?_
         rotate_left
         ·rintro w' ⟨s0, s1⟩
          go_simp
          with_reducible rfl
         rotate_left
         ·simp only [Act.put, List.setIfInBounds_toArray, List.set_cons_zero, List.set_cons_succ, i64_w, i32_w]
          rfl
         refine take_ (i := 3) (N := some 24) (v := ?_) (a' := ?_) #[true, true, true, true, false, false, true, false, false, false, false] rfl rfl (take_ofW HT_.out HW_.out (by kernel_rfl)) (fun _ _ _ h => h) (Or.inl ⟨by rfl, ?_⟩) hHeld ?_ ?_
         rotate_left
         ·rintro w' ⟨s0, s1⟩
          go_simp
          with_reducible rfl
         rotate_left
         ·simp only [Act.put, List.setIfInBounds_toArray, List.set_cons_zero, List.set_cons_succ, i64_w, i32_w]
          rfl
         refine pure_ (i := 4) (N := some 25) (v := ?_) (a' := ?_) #[true, true, true, true, true, false, true, false, false, false, false] rfl rfl (any_of HT_.out (by kernel_rfl)) (fun _ _ _ h => h) (Or.inl ⟨by rfl, ?_⟩) ?_ ?_
         rotate_left
         ·intro w'
          go_simp
          with_reducible rfl
         rotate_left
         ·simp only [Act.put, List.setIfInBounds_toArray, List.set_cons_zero, List.set_cons_succ, i64_w, i32_w]
          rfl
         refine pure_ (i := 5) (N := some 26) (v := ?_) (a' := ?_) #[true, true, true, true, true, true, true, false, false, false, false] rfl rfl (any_of HT_.out (by kernel_rfl)) (fun _ _ _ h => h) (Or.inl ⟨by rfl, ?_⟩) ?_ ?_
         rotate_left
         ·intro w'
          go_simp
          with_reducible rfl
         rotate_left
         ·simp only [Act.put, List.setIfInBounds_toArray, List.set_cons_zero, List.set_cons_succ, i64_w, i32_w]
          rfl
         refine take_ (i := 7) (N := some 28) (v := ?_) (a' := ?_) #[true, true, true, true, true, true, true, true, false, false, false] rfl rfl (take_ofW HT_.out HW_.out (by kernel_rfl)) (fun _ _ _ h => h) (Or.inl ⟨by rfl, ?_⟩) hHeld ?_ ?_
         rotate_left
         ·rintro w' ⟨s0, s1⟩
          go_simp
          with_reducible rfl
         rotate_left
         ·simp only [Act.put, List.setIfInBounds_toArray, List.set_cons_zero, List.set_cons_succ, i64_w, i32_w]
          rfl
         refine one_ (i := 8) (N := some 29) #[true, true, true, true, true, true, true, true, true, false, false] rfl rfl (one_of HT_.out (by kernel_rfl)) (by decide) (fun K hK => ?_)
         refine goes_ Tryd.func37 (by kernel_rfl) rfl #[.int .i64 a0_1] (by rfl) rfl rfl (by (try simp only [List.map_toArray, List.map_cons, List.map_nil]); first | done | rfl | (simp only [List.length_drop, List.length_take]; rfl)) ?_
         with_reducible refine (ref01_Decimal.calls k a0_1 t200 _ A17.out).mono ?_
         rintro e w22 ⟨rfl, hb⟩
         refine ⟨_, rfl, ?_⟩
         have n0_ := Aside0.mk (blk_below (g := gb199) (o := .cells #[.int .i64 a0_0, .int .i64 a0_1] 48 (0, 0)) (by (with_reducible repeat (first | refine blk_drewN ?_ _ | refine blk_drew ?_ | refine blk_alloc ?_ _)); exact BK199.out) hb)
         have n1_ := Aside0.mk (below_step (by repeat (first | (with_reducible first | exact HB.out | apply below_alloc | apply pw_below_drewN | apply below_drew1 | refine below_set ?_ GE199.out) | exact HB.out)) hb)
         clear BK199
         clear HB
         have BK199 := n0_
         have HB := n1_
         clear n0_ n1_
         (try clear hb)
         (try clear hb2)
         (try clear hk)
         (try clear hi)
         refine hK.out _ _ ⟨(blk_cell BK199.out 0).trans rfl, (blk_cell BK199.out 1).trans rfl⟩ (fun hHeld => ?_)
         clear hK K
         refine norm_ (a' := ?_) ?_ ?_
         rotate_left
         ·show Act.put _ (some 29) _ = _
          simp only [Act.put, List.setIfInBounds_toArray, List.set_cons_zero, List.set_cons_succ, i64_w, i32_w]
          rfl
         refine pure_ (i := 9) (N := some 30) (v := ?_) (a' := ?_) #[true, true, true, true, true, true, true, true, true, true, false] rfl rfl (any_of HT_.out (by kernel_rfl)) (fun _ _ _ h => h) (Or.inl ⟨by rfl, ?_⟩) ?_ ?_
         rotate_left
         ·intro w'
          go_simp
          with_reducible rfl
         rotate_left
         ·simp only [Act.put, List.setIfInBounds_toArray, List.set_cons_zero, List.set_cons_succ, i64_w, i32_w]
          rfl
         refine pure_ (i := 10) (N := some 2) (v := ?_) (a' := ?_) #[true, true, true, true, true, true, true, true, true, true, true] rfl rfl (any_of HT_.out (by kernel_rfl)) (fun _ _ _ h => h) (Or.inl ⟨by rfl, ?_⟩) ?_ ?_
         rotate_left
         ·intro w'
          go_simp
          with_reducible rfl
         rotate_left
         ·simp only [Act.put, List.setIfInBounds_toArray, List.set_cons_zero, List.set_cons_succ, i64_w, i32_w]
          rfl
         refine done_ (done_of HT_.out (by kernel_rfl)) ?_
         try go_wp2
         go_ret
         exact ⟨by first | rfl | (simp [errW_none, errW_some] <;> rfl) | (simp [*, errW_none, errW_some] <;> rfl), by repeat (first | (with_reducible first | exact HB.out | apply below_alloc | apply pw_below_drewN | apply below_drew1 | refine below_set ?_ GE199.out) | exact HB.out)⟩
        ·rw [if_neg c18] at H
         exact absurd H (by simp)
       ·rw [if_neg c16] at H
        exact absurd H (by simp)
      ·rw [if_neg c15] at H
       exact absurd H (by simp)
     ·rw [if_neg c14] at H
      exact absurd H (by simp)

/-! ### ref10_CoilKeywords: function 40 -/
def ref10_CoilKeywords.f  : Option (List ByteArray) := some (([(⟨#[111, 117, 116]⟩ : ByteArray), (⟨#[110, 111, 116]⟩ : ByteArray), (⟨#[115, 101, 116]⟩ : ByteArray), (⟨#[114, 101, 115, 101, 116]⟩ : ByteArray)] : List ByteArray))
set_option maxHeartbeats 8000000 in
set_option maxRecDepth 100000 in
theorem ref10_CoilKeywords.calls  (r : List ByteArray) (w : World) (h : ref10_CoilKeywords.f  = some r) :
  Calls Tryd.prog 40 #[] w fun e w' => ∃ v0_ : Value, e = .returned (v0_) ∧ Kd.R Kd.string 9 w' w.heap.size (fun _ => True) v0_ r ∧ Below w.heap.size w w' := by
 have HB := Aside0.mk (Below.refl w.heap.size w)
 have H : (some (([(⟨#[111, 117, 116]⟩ : ByteArray), (⟨#[110, 111, 116]⟩ : ByteArray), (⟨#[115, 101, 116]⟩ : ByteArray), (⟨#[114, 101, 115, 101, 116]⟩ : ByteArray)] : List ByteArray))) = some r := h
 clear h
 obtain ⟨y201, hy201⟩ : ∃ y_ : List ByteArray, y_ = (([(⟨#[111, 117, 116]⟩ : ByteArray), (⟨#[110, 111, 116]⟩ : ByteArray), (⟨#[115, 101, 116]⟩ : ByteArray), (⟨#[114, 101, 115, 101, 116]⟩ : ByteArray)] : List ByteArray)) := ⟨_, rfl⟩
 replace H : (some y201) = some r := by first | (rw [hy201]; with_reducible exact H) | (have H2_ := (Option.bind_some _ _).symm.trans H; rw [hy201]; with_reducible exact H2_) | (have H2_ := (Option.bind_some _ _).symm.trans H; with_reducible exact H2_) | with_reducible exact H | (rw [hy201]; exact H) | exact H
 have Ny201 := Aside0.mk hy201
 clear hy201
 obtain rfl := Option.some.inj H
 go_enter Tryd.func40, Tryd.ntmps40
 go_wp2_with (first | ((with_reducible refine gate_dst (N := 1) rfl ?_); refine Kd.R_lit Kd.string _ 9 ?hg (N := 1) ?hd (xs := ([(⟨#[111, 117, 116]⟩ : ByteArray), (⟨#[110, 111, 116]⟩ : ByteArray), (⟨#[115, 101, 116]⟩ : ByteArray), (⟨#[114, 101, 115, 101, 116]⟩ : ByteArray)] : List ByteArray)) (inner := [.string (⟨#[111, 117, 116]⟩ : ByteArray), .string (⟨#[110, 111, 116]⟩ : ByteArray), .string (⟨#[115, 101, 116]⟩ : ByteArray), .string (⟨#[114, 101, 115, 101, 116]⟩ : ByteArray)]) (ok := fun _ => True) (okp := fun _ => True) ?hr ?hp (fun _ hk => hk) trivial (Below.refl _ _) (Nat.le_refl _) (by simp) ?_; (case hd => rfl); (case hg => rfl); (case hr => first | (go_simp; done) | (go_simp; rfl)); (case hp => exact (Reps.one (show Kd.M Kd.string _ _ _ (⟨#[111, 117, 116]⟩ : ByteArray) [.string (⟨#[111, 117, 116]⟩ : ByteArray)] from rfl) (Reps.one (show Kd.M Kd.string _ _ _ (⟨#[110, 111, 116]⟩ : ByteArray) [.string (⟨#[110, 111, 116]⟩ : ByteArray)] from rfl) (Reps.one (show Kd.M Kd.string _ _ _ (⟨#[115, 101, 116]⟩ : ByteArray) [.string (⟨#[115, 101, 116]⟩ : ByteArray)] from rfl) (Reps.one (show Kd.M Kd.string _ _ _ (⟨#[114, 101, 115, 101, 116]⟩ : ByteArray) [.string (⟨#[114, 101, 115, 101, 116]⟩ : ByteArray)] from rfl) (Reps.none _ _)))))); intro v202 w1 ho2 hb hg_ hnew_; clear hg_ hnew_; (first | rw [← Ny201.out] at ho2 | (simp only [Int.reduceToNat] at ho2; rw [← Ny201.out] at ho2)); have n0_ := Aside0.mk (Kd.R_lower ho2 (below_size (by repeat (first | (with_reducible first | exact HB.out | apply below_alloc | apply pw_below_drewN | apply below_drew1) | exact HB.out)))); have n1_ := Aside0.mk (below_step (by repeat (first | (with_reducible first | exact HB.out | apply below_alloc | apply pw_below_drewN | apply below_drew1) | exact HB.out)) hb); clear HB; have HO203 := n0_; have HB := n1_; clear n0_ n1_; clear hb ho2))
 go_ret
 exact ⟨_, by first | rfl | (simp [errW_none, errW_some] <;> rfl) | (simp [*, errW_none, errW_some] <;> rfl), by (with_reducible repeat (first | apply Kd.R_alloc | apply Kd.R_drewN | apply Kd.R_drew)); exact HO203.out, by repeat (first | (with_reducible first | exact HB.out | apply below_alloc | apply pw_below_drewN | apply below_drew1) | exact HB.out)⟩

end Go.Proofs.YtmcmpjkfdkogiaaDoor.P

-- Out of the translation's print, by a program. Lean checks it.
import Derived.Test.YtmcmpjkfdkogiaaGreatDoorPQ0
import Derived.Test.YtmcmpjkfdkogiaaGreatDoorXAlive10
import Derived.Test.YtmcmpjkfdkogiaaGreatDoorXLaid
import Derived.Test.YtmcmpjkfdkogiaaGreatDoorXParseAll
import Derived.Test.YtmcmpjkfdkogiaaGreatDoorXStrings
namespace Go.Proofs.YtmcmpjkfdkogiaaGreatDoor.P
open Go.RowKit Go.Proofs.YtmcmpjkfdkogiaaGreatDoorW.PrintWords Go.Proofs.YtmcmpjkfdkogiaaGreatDoorW.PrintLast Go.Proofs.YtmcmpjkfdkogiaaGreatDoorW.PrintMore
attribute [local go_sem] max2_int min2_int max_two min_two max_three min_three max_four min_four   -- for this text's walks alone
set_option linter.unusedVariables false
set_option linter.unusedSimpArgs false

-- NOT PRINTED: function 105 (abi_NoEscape)

-- NOT PRINTED: function 76 (strings_Builder_copyCheck)

-- NOT PRINTED: function 106 (bytealg_MakeNoZero)

-- NOT PRINTED: function 77 (strings_Builder_grow)

-- NOT PRINTED: function 38 (strings_Builder_Grow)

-- NOT PRINTED: function 39 (strings_Builder_WriteString)

-- NOT PRINTED: function 40 (strings_Builder_String)

-- NOT PRINTED: function 14 (strings_Join)

-- NOT PRINTED: function 41 (slices_Clone_string_string)

-- NOT PRINTED: function 15 (parse_ContactKeywords)

-- NOT PRINTED: function 17 (parse_CoilKeywords)

-- NOT PRINTED: function 4 (law10_ParseMatchesReference)

-- BY HAND: function 19 (strings_Repeat)

/-! ### law10_ParseCapacities: function 5 -/
mutual
def law10_ParseCapacities.l0 : Nat → Int → List (S41) → Int → Int → Option (Bool)
 | 0, _, _, _, _ => none
 | k + 1, x0, x17, x18, x19 => if x19 < x18 then (if 0 ≤ x19 then (if x19 < (x17.length : Int) then (if x19 > 0 then (if 11 + 5 ≤ 9223372036854775807 then (law10_ParseCapacities.j1 k x0 x19 (wrap64 ((wrap64 (((rd_T41 x17 x19).f0) - 1)) + (wrap64 (Int.tmod x0 3)))) ((⟨#[115, 105, 122, 101, 32, 49, 32, 49, 32, 48, 10]⟩ : ByteArray) ++ (⟨#[114, 117, 110, 103, 10]⟩ : ByteArray)) 2 x17 x18 x19 ((rd_T41 x17 x19).f0) ((rd_T41 x17 x19).f1)) else (none)) else (law10_ParseCapacities.j1 k x0 x19 (wrap64 ((wrap64 (((rd_T41 x17 x19).f0) - 1)) + (wrap64 (Int.tmod x0 3)))) (⟨#[115, 105, 122, 101, 32, 49, 32, 49, 32, 48, 10]⟩ : ByteArray) 1 x17 x18 x19 ((rd_T41 x17 x19).f0) ((rd_T41 x17 x19).f1))) else (none)) else (none)) else ((law10_alive.f).bind fun t256 => (some t256))
def law10_ParseCapacities.j1 : Nat → Int → Int → Int → ByteArray → Int → List (S41) → Int → Int → Int → ByteArray → Option (Bool)
 | 0, _, _, _, _, _, _, _, _, _, _ => none
 | k + 1, x0, x3, x5, x6, x7, x17, x18, x19, x259000, x259001 => (strings_Repeat.f x259001 x5).bind fun t259 => (if x6.size + t259.size ≤ 9223372036854775807 then ((parse_Parse.f (x6 ++ t259)).bind fun bt260 => (if x5 > x259000 then (if bt260.2.2.2.2.2.2 = 10 then (if bt260.2.2.2.2.2.1 = (wrap64 ((wrap64 (x7 + x259000)) + 1)) then (if (bt260.2.2.2.1.length : Int) = 0 then (law10_ParseCapacities.l0 k x0 x17 x18 (wrap64 (x19 + 1))) else (some false)) else (some false)) else (some false)) else (if bt260.2.2.2.2.2.2 = 0 then (if bt260.2.2.2.2.2.1 = 0 then (law10_ParseCapacities.j2 k x0 x3 x5 x17 x18 x19 ((bt260.2.2.2.1.length : Int) == 0) bt260.1 bt260.2.1 bt260.2.2.1 bt260.2.2.2.1) else (law10_ParseCapacities.j2 k x0 x3 x5 x17 x18 x19 true bt260.1 bt260.2.1 bt260.2.2.1 bt260.2.2.2.1)) else (law10_ParseCapacities.j2 k x0 x3 x5 x17 x18 x19 true bt260.1 bt260.2.1 bt260.2.2.1 bt260.2.2.2.1)))) else (none))
def law10_ParseCapacities.j2 : Nat → Int → Int → Int → List (S41) → Int → Int → Bool → Int → Int → Int → List (S47) → Option (Bool)
 | 0, _, _, _, _, _, _, _, _, _, _, _ => none
 | k + 1, x0, x3, x5, x17, x18, x19, x79, x272000, x272001, x272002, x272003 => if x79 = true then (some false) else (if 0 < (x272003.length : Int) then ((some (([(x272003.length : Int), (((rd_T47 x272003 0).f1).length : Int), (((rd_T47 x272003 0).f2).length : Int)] : List Int) : List Int)).bind fun y274 => (if 0 ≤ x3 then (if x3 < (y274.length : Int) then (if (rd y274 x3) = x5 then (law10_ParseCapacities.l0 k x0 x17 x18 (wrap64 (x19 + 1))) else (some false)) else (none)) else (none))) else (none))
end
def law10_ParseCapacities.f (k : Nat) (a0 : Int) : Option (Bool) := (some (([(⟨64, (⟨#[114, 117, 110, 103, 10]⟩ : ByteArray)⟩ : S41), (⟨256, (⟨#[110, 111, 32, 73, 48, 32, 76, 32, 82, 10]⟩ : ByteArray)⟩ : S41), (⟨16, (⟨#[111, 117, 116, 32, 81, 48, 10]⟩ : ByteArray)⟩ : S41)] : List (S41)) : List (S41))).bind fun y253 => (law10_ParseCapacities.l0 k a0 y253 (y253.length : Int) 0)
theorem law10_ParseCapacities.mono_l : ∀ k, (∀ y0 y1 y2 y3, LeO (law10_ParseCapacities.l0 k y0 y1 y2 y3) (law10_ParseCapacities.l0 (k + 1) y0 y1 y2 y3)) ∧ (∀ y0 y1 y2 y3 y4 y5 y6 y7 y8 y9, LeO (law10_ParseCapacities.j1 k y0 y1 y2 y3 y4 y5 y6 y7 y8 y9) (law10_ParseCapacities.j1 (k + 1) y0 y1 y2 y3 y4 y5 y6 y7 y8 y9)) ∧ (∀ y0 y1 y2 y3 y4 y5 y6 y7 y8 y9 y10, LeO (law10_ParseCapacities.j2 k y0 y1 y2 y3 y4 y5 y6 y7 y8 y9 y10) (law10_ParseCapacities.j2 (k + 1) y0 y1 y2 y3 y4 y5 y6 y7 y8 y9 y10))
 | 0 => ⟨fun _ _ _ _ r h => by simp [law10_ParseCapacities.l0] at h, fun _ _ _ _ _ _ _ _ _ _ r h => by simp [law10_ParseCapacities.j1] at h, fun _ _ _ _ _ _ _ _ _ _ _ r h => by simp [law10_ParseCapacities.j2] at h⟩
 | k + 1 => by
  obtain ⟨ih0, ih1, ih2⟩ := law10_ParseCapacities.mono_l k
  refine ⟨?_, ?_, ?_⟩
  ·intro y0 y1 y2 y3
   unfold law10_ParseCapacities.l0
   repeat' first
   | (with_reducible exact ih0 _ _ _ _)
   | (with_reducible exact ih1 _ _ _ _ _ _ _ _ _ _)
   | (with_reducible exact ih2 _ _ _ _ _ _ _ _ _ _ _)
   | (with_reducible exact LeO.refl _)
   | (with_reducible exact LeO.none _)
   | (with_reducible refine LeO.ite ?_ ?_)
   | (with_reducible refine LeO.bind ?_ (fun _ => ?_))
   | exact ih0 _ _ _ _
   | exact ih1 _ _ _ _ _ _ _ _ _ _
   | exact ih2 _ _ _ _ _ _ _ _ _ _ _
   | exact LeO.none _
   | refine LeO.ite ?_ ?_
   | refine LeO.bind ?_ (fun _ => ?_)
  ·intro y0 y1 y2 y3 y4 y5 y6 y7 y8 y9
   unfold law10_ParseCapacities.j1
   repeat' first
   | (with_reducible exact ih0 _ _ _ _)
   | (with_reducible exact ih1 _ _ _ _ _ _ _ _ _ _)
   | (with_reducible exact ih2 _ _ _ _ _ _ _ _ _ _ _)
   | (with_reducible exact LeO.refl _)
   | (with_reducible exact LeO.none _)
   | (with_reducible refine LeO.ite ?_ ?_)
   | (with_reducible refine LeO.bind ?_ (fun _ => ?_))
   | exact ih0 _ _ _ _
   | exact ih1 _ _ _ _ _ _ _ _ _ _
   | exact ih2 _ _ _ _ _ _ _ _ _ _ _
   | exact LeO.none _
   | refine LeO.ite ?_ ?_
   | refine LeO.bind ?_ (fun _ => ?_)
  ·intro y0 y1 y2 y3 y4 y5 y6 y7 y8 y9 y10
   unfold law10_ParseCapacities.j2
   repeat' first
   | (with_reducible exact ih0 _ _ _ _)
   | (with_reducible exact ih1 _ _ _ _ _ _ _ _ _ _)
   | (with_reducible exact ih2 _ _ _ _ _ _ _ _ _ _ _)
   | (with_reducible exact LeO.refl _)
   | (with_reducible exact LeO.none _)
   | (with_reducible refine LeO.ite ?_ ?_)
   | (with_reducible refine LeO.bind ?_ (fun _ => ?_))
   | exact ih0 _ _ _ _
   | exact ih1 _ _ _ _ _ _ _ _ _ _
   | exact ih2 _ _ _ _ _ _ _ _ _ _ _
   | exact LeO.none _
   | refine LeO.ite ?_ ?_
   | refine LeO.bind ?_ (fun _ => ?_)
theorem law10_ParseCapacities.mono : ∀ a0 k, LeO (law10_ParseCapacities.f k a0) (law10_ParseCapacities.f (k + 1) a0) := by
 intro a0 k
 obtain ⟨ih0, ih1, ih2⟩ := law10_ParseCapacities.mono_l k
 unfold law10_ParseCapacities.f
 repeat' first
   | (with_reducible exact ih0 _ _ _ _)
   | (with_reducible exact ih1 _ _ _ _ _ _ _ _ _ _)
   | (with_reducible exact ih2 _ _ _ _ _ _ _ _ _ _ _)
   | (with_reducible exact LeO.refl _)
   | (with_reducible exact LeO.none _)
   | (with_reducible refine LeO.ite ?_ ?_)
   | (with_reducible refine LeO.bind ?_ (fun _ => ?_))
   | exact ih0 _ _ _ _
   | exact ih1 _ _ _ _ _ _ _ _ _ _
   | exact ih2 _ _ _ _ _ _ _ _ _ _ _
   | exact LeO.none _
   | refine LeO.ite ?_ ?_
   | refine LeO.bind ?_ (fun _ => ?_)
set_option maxHeartbeats 8000000 in
set_option maxRecDepth 100000 in
theorem law10_ParseCapacities.calls (k : Nat) (a0 : Int) (r : Bool) (w : World) (hL : Aside0 (LaidW 47 w)) (h : law10_ParseCapacities.f k a0 = some r) :
  Calls Tryz.prog 5 #[.int .u16 a0] w fun e w' => e = .returned (.bool r) ∧ Below w.heap.size w w' := by
 have hu41 := Tryz.underlying41
 have hu25 := Tryz.underlying25
 have hu47 := Tryz.underlying47
 have HB := Aside0.mk (Below.refl w.heap.size w)
 have H : ((some (([(⟨64, (⟨#[114, 117, 110, 103, 10]⟩ : ByteArray)⟩ : S41), (⟨256, (⟨#[110, 111, 32, 73, 48, 32, 76, 32, 82, 10]⟩ : ByteArray)⟩ : S41), (⟨16, (⟨#[111, 117, 116, 32, 81, 48, 10]⟩ : ByteArray)⟩ : S41)] : List (S41)) : List (S41))).bind fun y253 => (law10_ParseCapacities.l0 k a0 y253 (y253.length : Int) 0)) = some r := h
 clear h
 obtain ⟨y253, hy253⟩ : ∃ y_ : List (S41), y_ = (([(⟨64, (⟨#[114, 117, 110, 103, 10]⟩ : ByteArray)⟩ : S41), (⟨256, (⟨#[110, 111, 32, 73, 48, 32, 76, 32, 82, 10]⟩ : ByteArray)⟩ : S41), (⟨16, (⟨#[111, 117, 116, 32, 81, 48, 10]⟩ : ByteArray)⟩ : S41)] : List (S41))) := ⟨_, rfl⟩
 replace H : (law10_ParseCapacities.l0 k a0 y253 (y253.length : Int) 0) = some r := by first | (rw [hy253]; with_reducible exact H) | (have H2_ := (Option.bind_some _ _).symm.trans H; rw [hy253]; with_reducible exact H2_) | (have H2_ := (Option.bind_some _ _).symm.trans H; with_reducible exact H2_) | with_reducible exact H | (rw [hy253]; exact H) | exact H
 have Ny253 := Aside0.mk hy253
 clear hy253
 have H' := Aside0.mk H
 clear H
 go_enter Tryz.func5, Tryz.ntmps5
 go_wp2_with (first | ((with_reducible refine gate_dst (N := 17) rfl ?_); (try (refine gate_guard (by rfl) ?_; dsimp only)); refine Kd.R_lit k41 _ 41 ?hg (N := 17) ?hd (xs := ([(⟨64, (⟨#[114, 117, 110, 103, 10]⟩ : ByteArray)⟩ : S41), (⟨256, (⟨#[110, 111, 32, 73, 48, 32, 76, 32, 82, 10]⟩ : ByteArray)⟩ : S41), (⟨16, (⟨#[111, 117, 116, 32, 81, 48, 10]⟩ : ByteArray)⟩ : S41)] : List (S41))) (inner := [.int .i64 64, .string (⟨#[114, 117, 110, 103, 10]⟩ : ByteArray), .int .i64 256, .string (⟨#[110, 111, 32, 73, 48, 32, 76, 32, 82, 10]⟩ : ByteArray), .int .i64 16, .string (⟨#[111, 117, 116, 32, 81, 48, 10]⟩ : ByteArray)]) (ok := fun _ => True) (okp := fun _ => True) ?hr ?hp (fun _ hk => hk) trivial (Below.refl _ _) (Nat.le_refl _) (by simp) ?_; (case hd => rfl); (case hg => rfl); (case hr => first | (go_simp; done) | (go_simp; rfl)); (case hp => exact (Reps.c2 (show Kd.M k41 _ _ _ (⟨64, (⟨#[114, 117, 110, 103, 10]⟩ : ByteArray)⟩ : S41) [.int .i64 64, .string (⟨#[114, 117, 110, 103, 10]⟩ : ByteArray)] from (k41_mkM _ _ _ (⟨64, (⟨#[114, 117, 110, 103, 10]⟩ : ByteArray)⟩ : S41) )) (Reps.c2 (show Kd.M k41 _ _ _ (⟨256, (⟨#[110, 111, 32, 73, 48, 32, 76, 32, 82, 10]⟩ : ByteArray)⟩ : S41) [.int .i64 256, .string (⟨#[110, 111, 32, 73, 48, 32, 76, 32, 82, 10]⟩ : ByteArray)] from (k41_mkM _ _ _ (⟨256, (⟨#[110, 111, 32, 73, 48, 32, 76, 32, 82, 10]⟩ : ByteArray)⟩ : S41) )) (Reps.c2 (show Kd.M k41 _ _ _ (⟨16, (⟨#[111, 117, 116, 32, 81, 48, 10]⟩ : ByteArray)⟩ : S41) [.int .i64 16, .string (⟨#[111, 117, 116, 32, 81, 48, 10]⟩ : ByteArray)] from (k41_mkM _ _ _ (⟨16, (⟨#[111, 117, 116, 32, 81, 48, 10]⟩ : ByteArray)⟩ : S41) )) (Reps.none _ _))))); intro v254 w2 ho3 hb hg_ hnew_; clear hg_ hnew_; (first | rw [← Ny253.out] at ho3 | (simp only [Int.reduceToNat] at ho3; rw [← Ny253.out] at ho3)); have n0_ := Aside0.mk (Kd.R_lower ho3 (below_size (by repeat (first | (with_reducible first | exact HB.out | apply below_alloc | apply pw_below_drewN | apply below_drew1) | exact HB.out)))); have n1_ := Aside0.mk (below_step (by repeat (first | (with_reducible first | exact HB.out | apply below_alloc | apply pw_below_drewN | apply below_drew1) | exact HB.out)) hb); clear HB; have HO255 := n0_; have HB := n1_; clear n0_ n1_; clear hb ho3; obtain ⟨Ao4, co4, eo4⟩ := Kd.R_slice HO255.out; subst eo4))
 go_loopg [19] k (fun kq v19 w' => ∃ (x19_1 : Int), v19 = .int .i64 x19_1 ∧ Aside0 (law10_ParseCapacities.l0 kq a0 y253 (y253.length : Int) x19_1 = some r) ∧ Aside0 (kq ≤ k) ∧ Aside0 (Kd.R k41 41 w' w.heap.size (fun _ => True) (.slice Ao4 y253.length co4) y253) ∧ Aside0 (Below w.heap.size w w'))
 case atStart => exact ⟨(0), (by first | rfl | (simp; done) | (simp [*]; done)), H', ⟨Nat.le_refl _⟩, ⟨by (with_reducible repeat (first | apply Kd.R_alloc | apply Kd.R_drewN | apply Kd.R_drew)); exact HO255.out⟩, ⟨by repeat (first | (with_reducible first | exact HB.out | apply below_alloc | apply pw_below_drewN | apply below_drew1) | exact HB.out)⟩⟩
 case round =>
  clear H'
  try clear c2
  try clear p2
  obtain ⟨x19_1, rfl, HA, HK1, HO_17, HB⟩ := hrel
  cases gk with
  | zero => exact absurd HA.out (by simp [law10_ParseCapacities.l0])
  | succ k1 =>
   have H := HA.out
   clear HA
   simp only [law10_ParseCapacities.l0] at H
   by_cases c5 : x19_1 < (y253.length : Int)
   ·rw [if_pos c5] at H
    have c5b0 : decide (x19_1 < (y253.length : Int)) = true := decide_eq_true c5
    clear c5
    by_cases c6 : 0 ≤ x19_1
    ·rw [if_pos c6] at H
     have c6b0 : decide (0 ≤ x19_1) = true := decide_eq_true c6
     clear c6
     by_cases c7 : x19_1 < (y253.length : Int)
     ·rw [if_pos c7] at H
      have c7b0 : decide (x19_1 < (y253.length : Int)) = true := decide_eq_true c7
      clear c7
      have HC8 := Aside0.mk H
      clear H
      have p257 : 0 ≤ (x19_1 : Int) := of_decide_eq_true (by first | (with_reducible assumption) | assumption)
      have q257 : x19_1 < (y253.length : Int) := of_decide_eq_true (by first | (with_reducible assumption) | assumption)
      obtain ⟨ad257, e257, hx257_0, hx257_1⟩ := at_T41 (Kd.R_reads' HO_17.out).2.2 x19_1 p257 q257
      cases e257
      replace p257 := eq_true p257
      replace q257 := eq_true q257
      go_upto_if 32 with (first | ((with_reducible refine gate_dst (N := 4) rfl ?_); (try (refine gate_guard (by rfl) ?_; dsimp only)); refine box_event ?hg (N := 4) ?hd (cs := #[.int .i64 0, .string (⟨#[]⟩ : ByteArray)]) (t := 41) ?hr ?_; (case hd => rfl); (case hg => rfl); (case hr => first | (go_simp; done) | (go_simp; rfl)); intro gb258 hg w9 hbox hb; have n0_ := Aside0.mk (Kd.R_below (Kd.R_elderB (by (with_reducible repeat (first | apply Kd.R_alloc | apply Kd.R_drewN | apply Kd.R_drew)); exact HO_17.out) gb258 (Nat.le_of_eq hg.symm)) hb); have n1_ := Aside0.mk (below_step (by repeat (first | (with_reducible first | exact HB.out | apply below_alloc | apply pw_below_drewN | apply below_drew1) | exact HB.out)) hb); have n2_ := Aside0.mk (hbox); have n3_ := Aside0.mk ((by rw [hg]; exact (below_size (by repeat (first | (with_reducible first | exact HB.out | apply below_alloc | apply pw_below_drewN | apply below_drew1) | exact HB.out))) : w.heap.size ≤ gb258)); have n4_ := Aside0.mk ((by rw [hg]; exact (below_size (by repeat (first | (with_reducible first | exact HB.out | apply below_alloc | apply pw_below_drewN | apply below_drew1) | exact HB.out))) : w.heap.size ≤ gb258)); clear HO_17; clear HB; have HO_17 := n0_; have HB := n1_; have BK258 := n2_; have GW258 := n3_; have GE258 := n4_; clear n0_ n1_ n2_ n3_ n4_; clear hb hbox hg; have hcz10_0 : w9.cell? ⟨gb258, 0, none⟩ = some (.int .i64 0) := (blk_cell BK258.out 0).trans rfl; have hcz10_1 : w9.cell? ⟨gb258, 1, none⟩ = some (.string (⟨#[]⟩ : ByteArray)) := (blk_cell BK258.out 1).trans rfl; have hfz10_0 := blk_frozen BK258.out 0; have hfz10_1 := blk_frozen BK258.out 1))
      (try simp only [Act.put, List.setIfInBounds_toArray, List.set_cons_zero, List.set_cons_succ])
      go_cut [6, 7] (fun v6 v7 wc => ∃ (kq : Nat) (x6_7 : ByteArray) (x7_7 : Int), v6 = .string x6_7 ∧ v7 = .int .i64 x7_7 ∧ Aside0 (law10_ParseCapacities.j1 kq a0 x19_1 (wrap64 ((wrap64 (((rd_T41 y253 x19_1).f0) - 1)) + (wrap64 (Int.tmod a0 3)))) x6_7 x7_7 y253 (y253.length : Int) x19_1 ((rd_T41 y253 x19_1).f0) ((rd_T41 y253 x19_1).f1) = some r) ∧ Aside0 (kq ≤ k1) ∧ Aside0 (Kd.R k41 41 wc w.heap.size (fun k_ => k_ ≠ gb258) (.slice (some ad257) y253.length co4) y253) ∧ Aside0 (wc.heap[gb258]? = some (.cells #[.int .i64 ((rd_T41 y253 x19_1).f0), .string ((rd_T41 y253 x19_1).f1)] 41 (0, 0))) ∧ Aside0 (Below w.heap.size w wc))
      case first =>
       have H := HC8.out
       clear HC8
       by_cases c11 : x19_1 > 0
       ·rw [if_pos c11] at H
        have c11b0 : decide (0 < x19_1) = true := decide_eq_true c11
        clear c11
        (first | rw [c11b0] | (simp only [i64_w, i32_w]; rw [c11b0]) | rw [c11b3] | rw [c11b2] | skip)
        by_cases c12 : 11 + 5 ≤ 9223372036854775807
        ·rw [if_pos c12] at H
         have c12b0 := eq_true c12
         have c12b1 : decide (11 + 5 ≤ 9223372036854775807) = true := decide_eq_true c12
         try have c12b2 : (9223372036854775807 < 11 + 5) = False := eq_false (Nat.not_lt.2 c12)
         have H' := Aside0.mk H
         clear H
         go_wp2
         go_meet
         case rel => exact ⟨_, ((⟨#[115, 105, 122, 101, 32, 49, 32, 49, 32, 48, 10]⟩ : ByteArray) ++ (⟨#[114, 117, 110, 103, 10]⟩ : ByteArray)), (2), (by first | rfl | (simp; done) | (simp [*]; done)), (by first | rfl | (simp; done) | (simp [*]; done)), H', ⟨by have := HK1.out; first | omega | exact Nat.le_refl _⟩, ⟨by (with_reducible repeat (first | apply Kd.R_alloc | apply Kd.R_drewN | apply Kd.R_drew)); exact Kd.R_mono (Kd.R_far (p := ⟨gb258, 1, none⟩) (Kd.R_far (p := ⟨gb258, 0, none⟩) (Kd.R_mono HO_17.out (fun k_ hk => (⟨hk, hk.2⟩ : _ ∧ k_ ≠ gb258))) (fun _ hk => hk.2) (.int .i64 ((rd_T41 y253 x19_1).f0))) (fun _ hk => hk.2) (.string ((rd_T41 y253 x19_1).f1))) (fun _ hk => hk.1.2)⟩, ⟨by (with_reducible repeat (first | refine blk_drewN ?_ _ | refine blk_drew ?_ | refine blk_alloc ?_ _)); refine blk_put (cs := #[.int .i64 ((rd_T41 y253 x19_1).f0), .string (⟨#[]⟩ : ByteArray)]) ?_ 1 _ rfl; (with_reducible repeat (first | refine blk_drewN ?_ _ | refine blk_drew ?_ | refine blk_alloc ?_ _)); refine blk_put (cs := #[.int .i64 0, .string (⟨#[]⟩ : ByteArray)]) ?_ 0 _ rfl; (with_reducible repeat (first | refine blk_drewN ?_ _ | refine blk_drew ?_ | refine blk_alloc ?_ _)); exact BK258.out⟩, ⟨by repeat (first | (with_reducible first | exact HB.out | apply below_alloc | apply pw_below_drewN | apply below_drew1 | refine below_set ?_ GE258.out) | exact HB.out)⟩⟩
        ·rw [if_neg c12] at H
         exact absurd H (by simp)
       ·rw [if_neg c11] at H
        have c11b0 : decide (0 < x19_1) = false := decide_eq_false c11
        clear c11
        (first | rw [c11b0] | (simp only [i64_w, i32_w]; rw [c11b0]) | rw [c11b3] | rw [c11b2] | skip)
        have H' := Aside0.mk H
        clear H
        go_wp2
        go_meet
        case rel => exact ⟨_, ((⟨#[115, 105, 122, 101, 32, 49, 32, 49, 32, 48, 10]⟩ : ByteArray)), (1), (by first | rfl | (simp; done) | (simp [*]; done)), (by first | rfl | (simp; done) | (simp [*]; done)), H', ⟨by have := HK1.out; first | omega | exact Nat.le_refl _⟩, ⟨by (with_reducible repeat (first | apply Kd.R_alloc | apply Kd.R_drewN | apply Kd.R_drew)); exact Kd.R_mono (Kd.R_far (p := ⟨gb258, 1, none⟩) (Kd.R_far (p := ⟨gb258, 0, none⟩) (Kd.R_mono HO_17.out (fun k_ hk => (⟨hk, hk.2⟩ : _ ∧ k_ ≠ gb258))) (fun _ hk => hk.2) (.int .i64 ((rd_T41 y253 x19_1).f0))) (fun _ hk => hk.2) (.string ((rd_T41 y253 x19_1).f1))) (fun _ hk => hk.1.2)⟩, ⟨by (with_reducible repeat (first | refine blk_drewN ?_ _ | refine blk_drew ?_ | refine blk_alloc ?_ _)); refine blk_put (cs := #[.int .i64 ((rd_T41 y253 x19_1).f0), .string (⟨#[]⟩ : ByteArray)]) ?_ 1 _ rfl; (with_reducible repeat (first | refine blk_drewN ?_ _ | refine blk_drew ?_ | refine blk_alloc ?_ _)); refine blk_put (cs := #[.int .i64 0, .string (⟨#[]⟩ : ByteArray)]) ?_ 0 _ rfl; (with_reducible repeat (first | refine blk_drewN ?_ _ | refine blk_drew ?_ | refine blk_alloc ?_ _)); exact BK258.out⟩, ⟨by repeat (first | (with_reducible first | exact HB.out | apply below_alloc | apply pw_below_drewN | apply below_drew1 | refine below_set ?_ GE258.out) | exact HB.out)⟩⟩
      case rest =>
       clear HC8
       try clear c1
       try clear c2
       try clear p2
       try clear q2
       try clear hx2
       try clear c5
       try clear c5b0
       try clear c6
       try clear c6b0
       try clear p6
       try clear c7
       try clear c7b0
       try clear c11
       try clear c11b0
       try clear c11b2
       try clear c12
       try clear c12b0
       try clear c12b1
       try clear c12b2
       try clear hcz10_0
       try clear hcz10_1
       try clear hfz10_0
       try clear hfz10_1
       try clear hx257_0
       try clear hx257_1
       try clear p2
       try clear p257
       try clear q257
       obtain ⟨kq, x6_7, x7_7, rfl, rfl, HA, HJ7, HO_17, BK258, HB⟩ := hcut
       cases kq with
       | zero => exact absurd HA.out (by simp [law10_ParseCapacities.j1])
       | succ kj7 =>
        have H := HA.out
        clear HA
        simp only [law10_ParseCapacities.j1] at H
        replace H := Option.bind_eq_some_iff.mp H
        obtain ⟨t259, A130, H⟩ := H
        replace H : (if x6_7.size + t259.size ≤ 9223372036854775807 then ((parse_Parse.f (x6_7 ++ t259)).bind fun bt260 => (if (wrap64 ((wrap64 (((rd_T41 y253 x19_1).f0) - 1)) + (wrap64 (Int.tmod a0 3)))) > ((rd_T41 y253 x19_1).f0) then (if bt260.2.2.2.2.2.2 = 10 then (if bt260.2.2.2.2.2.1 = (wrap64 ((wrap64 (x7_7 + ((rd_T41 y253 x19_1).f0))) + 1)) then (if (bt260.2.2.2.1.length : Int) = 0 then (law10_ParseCapacities.l0 kj7 a0 y253 (y253.length : Int) (wrap64 (x19_1 + 1))) else (some false)) else (some false)) else (some false)) else (if bt260.2.2.2.2.2.2 = 0 then (if bt260.2.2.2.2.2.1 = 0 then (law10_ParseCapacities.j2 kj7 a0 x19_1 (wrap64 ((wrap64 (((rd_T41 y253 x19_1).f0) - 1)) + (wrap64 (Int.tmod a0 3)))) y253 (y253.length : Int) x19_1 ((bt260.2.2.2.1.length : Int) == 0) bt260.1 bt260.2.1 bt260.2.2.1 bt260.2.2.2.1) else (law10_ParseCapacities.j2 kj7 a0 x19_1 (wrap64 ((wrap64 (((rd_T41 y253 x19_1).f0) - 1)) + (wrap64 (Int.tmod a0 3)))) y253 (y253.length : Int) x19_1 true bt260.1 bt260.2.1 bt260.2.2.1 bt260.2.2.2.1)) else (law10_ParseCapacities.j2 kj7 a0 x19_1 (wrap64 ((wrap64 (((rd_T41 y253 x19_1).f0) - 1)) + (wrap64 (Int.tmod a0 3)))) y253 (y253.length : Int) x19_1 true bt260.1 bt260.2.1 bt260.2.2.1 bt260.2.2.2.1)))) else (none)) = some r := H
        have A13 := Aside0.mk A130
        clear A130
        by_cases c14 : x6_7.size + t259.size ≤ 9223372036854775807
        ·rw [if_pos c14] at H
         have c14b0 := eq_true c14
         have c14b1 : decide (x6_7.size + t259.size ≤ 9223372036854775807) = true := decide_eq_true c14
         try have c14b2 : (9223372036854775807 < x6_7.size + t259.size) = False := eq_false (Nat.not_lt.2 c14)
         replace H := Option.bind_eq_some_iff.mp H
         obtain ⟨⟨t260, t261, t262, t263, t266, t269, t270⟩, A150, H⟩ := H
         replace H : (if (wrap64 ((wrap64 (((rd_T41 y253 x19_1).f0) - 1)) + (wrap64 (Int.tmod a0 3)))) > ((rd_T41 y253 x19_1).f0) then (if t270 = 10 then (if t269 = (wrap64 ((wrap64 (x7_7 + ((rd_T41 y253 x19_1).f0))) + 1)) then (if (t263.length : Int) = 0 then (law10_ParseCapacities.l0 kj7 a0 y253 (y253.length : Int) (wrap64 (x19_1 + 1))) else (some false)) else (some false)) else (some false)) else (if t270 = 0 then (if t269 = 0 then (law10_ParseCapacities.j2 kj7 a0 x19_1 (wrap64 ((wrap64 (((rd_T41 y253 x19_1).f0) - 1)) + (wrap64 (Int.tmod a0 3)))) y253 (y253.length : Int) x19_1 ((t263.length : Int) == 0) t260 t261 t262 t263) else (law10_ParseCapacities.j2 kj7 a0 x19_1 (wrap64 ((wrap64 (((rd_T41 y253 x19_1).f0) - 1)) + (wrap64 (Int.tmod a0 3)))) y253 (y253.length : Int) x19_1 true t260 t261 t262 t263)) else (law10_ParseCapacities.j2 kj7 a0 x19_1 (wrap64 ((wrap64 (((rd_T41 y253 x19_1).f0) - 1)) + (wrap64 (Int.tmod a0 3)))) y253 (y253.length : Int) x19_1 true t260 t261 t262 t263))) = some r := H
         have A15 := Aside0.mk A150
         clear A150
         by_cases c16 : (wrap64 ((wrap64 (((rd_T41 y253 x19_1).f0) - 1)) + (wrap64 (Int.tmod a0 3)))) > ((rd_T41 y253 x19_1).f0)
         ·rw [if_pos c16] at H
          have c16b0 : decide (((rd_T41 y253 x19_1).f0) < (wrap64 ((wrap64 (((rd_T41 y253 x19_1).f0) - 1)) + (wrap64 (Int.tmod a0 3))))) = true := decide_eq_true c16
          clear c16
          by_cases c17 : t270 = 10
          ·rw [if_pos c17] at H
           have c17b0 : (t270 == 10) = true := beq_iff_eq.mpr c17
           have c17b1 : (t270 != 10) = false := bne_eq_false_iff_eq.mpr c17
           clear c17
           by_cases c18 : t269 = (wrap64 ((wrap64 (x7_7 + ((rd_T41 y253 x19_1).f0))) + 1))
           ·rw [if_pos c18] at H
            have c18b0 : (t269 == (wrap64 ((wrap64 (x7_7 + ((rd_T41 y253 x19_1).f0))) + 1))) = true := beq_iff_eq.mpr c18
            have c18b1 : (t269 != (wrap64 ((wrap64 (x7_7 + ((rd_T41 y253 x19_1).f0))) + 1))) = false := bne_eq_false_iff_eq.mpr c18
            clear c18
            by_cases c19 : (t263.length : Int) = 0
            ·rw [if_pos c19] at H
             have c19b0 : ((t263.length : Int) == 0) = true := beq_iff_eq.mpr c19
             have c19b1 : ((t263.length : Int) != 0) = false := bne_eq_false_iff_eq.mpr c19
             clear c19
             have H' := Aside0.mk H
             clear H
             have hcz20_0 : wc.cell? ⟨gb258, 0, none⟩ = some (.int .i64 ((rd_T41 y253 x19_1).f0)) := (blk_cell BK258.out 0).trans rfl
             have hcz20_1 : wc.cell? ⟨gb258, 1, none⟩ = some (.string ((rd_T41 y253 x19_1).f1)) := (blk_cell BK258.out 1).trans rfl
             have hfz20_0 := blk_frozen BK258.out 0
             have hfz20_1 := blk_frozen BK258.out 1
             go_wp2_with (first | ((with_reducible refine gate_callee (f := 19) rfl ?_); refine goesL_ (some 40) rfl rfl Tryz.func19 (by kernel_rfl) rfl #[.string ((rd_T41 y253 x19_1).f1), .int .i64 (wrap64 ((wrap64 (((rd_T41 y253 x19_1).f0) - 1)) + (wrap64 (Int.tmod a0 3))))] rfl (by (try simp only [List.map_toArray, List.map_cons, List.map_nil]); first | done | rfl | (simp only [List.length_drop, List.length_take]; rfl)) ?_; (with_reducible refine (strings_Repeat.calls ((rd_T41 y253 x19_1).f1) (wrap64 ((wrap64 (((rd_T41 y253 x19_1).f0) - 1)) + (wrap64 (Int.tmod a0 3)))) t259 _ A13.out).mono ?_); rintro e w21 ⟨rfl, hb⟩; refine ⟨_, rfl, ?_⟩; have n0_ := Aside0.mk (Kd.R_below (by (with_reducible repeat (first | apply Kd.R_alloc | apply Kd.R_drewN | apply Kd.R_drew)); exact HO_17.out) hb); have n1_ := Aside0.mk (blk_below (g := gb258) (o := .cells #[.int .i64 ((rd_T41 y253 x19_1).f0), .string ((rd_T41 y253 x19_1).f1)] 41 (0, 0)) (by (with_reducible repeat (first | refine blk_drewN ?_ _ | refine blk_drew ?_ | refine blk_alloc ?_ _)); exact BK258.out) hb); have n2_ := Aside0.mk (below_step (by repeat (first | (with_reducible first | exact HB.out | apply below_alloc | apply pw_below_drewN | apply below_drew1 | refine below_set ?_ GE258.out) | exact HB.out)) hb); clear HO_17; clear BK258; clear HB; have HO_17 := n0_; have BK258 := n1_; have HB := n2_; clear n0_ n1_ n2_; (try clear hb); (try clear hb2); (try clear hk); (try clear hi)) | ((with_reducible refine gate_callee (f := 9) rfl ?_); refine goesL_ (some 42) rfl rfl Tryz.func9 (by kernel_rfl) rfl #[.string (x6_7 ++ t259)] rfl (by (try simp only [List.map_toArray, List.map_cons, List.map_nil]); first | done | rfl | (simp only [List.length_drop, List.length_take]; rfl)) ?_; (with_reducible refine (parse_Parse.calls (x6_7 ++ t259) t260 t261 t262 t263 t266 t269 t270 _ (LaidW.below (m' := 47) hL rfl (by repeat (first | (with_reducible first | exact HB.out | apply below_alloc | apply pw_below_drewN | apply below_drew1 | refine below_set ?_ GE258.out) | exact HB.out))) A15.out).mono ?_); rintro e w22 ⟨v264, v267, rfl, ho0, ho1, hb⟩; refine ⟨_, rfl, ?_⟩; have n0_ := Aside0.mk (Kd.R_below (by (with_reducible repeat (first | apply Kd.R_alloc | apply Kd.R_drewN | apply Kd.R_drew)); exact HO_17.out) hb); have n1_ := Aside0.mk (Kd.S_lower ho0 (below_size (by repeat (first | (with_reducible first | exact HB.out | apply below_alloc | apply pw_below_drewN | apply below_drew1 | refine below_set ?_ GE258.out) | exact HB.out)))); have n2_ := Aside0.mk (Kd.R_lower ho1 (below_size (by repeat (first | (with_reducible first | exact HB.out | apply below_alloc | apply pw_below_drewN | apply below_drew1 | refine below_set ?_ GE258.out) | exact HB.out)))); have n3_ := Aside0.mk (blk_below (g := gb258) (o := .cells #[.int .i64 ((rd_T41 y253 x19_1).f0), .string ((rd_T41 y253 x19_1).f1)] 41 (0, 0)) (by (with_reducible repeat (first | refine blk_drewN ?_ _ | refine blk_drew ?_ | refine blk_alloc ?_ _)); exact BK258.out) hb); have n4_ := Aside0.mk (below_step (by repeat (first | (with_reducible first | exact HB.out | apply below_alloc | apply pw_below_drewN | apply below_drew1 | refine below_set ?_ GE258.out) | exact HB.out)) hb); clear HO_17; clear BK258; clear HB; have HO_17 := n0_; have HO265 := n1_; have HO268 := n2_; have BK258 := n3_; have HB := n4_; clear n0_ n1_ n2_ n3_ n4_; (try clear hb); (try clear hb2); (try clear hk); (try clear hi); (try clear ho0); (try clear ho1)) | ((with_reducible refine gate_dst (N := 8) rfl ?_); (try (refine gate_guard (by rfl) ?_; dsimp only)); refine box_event ?hg (N := 8) ?hd (cs := #[.int .i64 0, .int .i64 0, .int .i64 0, .slice none 0 0]) (t := 25) ?hr ?_; (case hd => rfl); (case hg => rfl); (case hr => first | (go_simp; done) | (go_simp; rfl)); intro gb271 hg w23 hbox hb; have n0_ := Aside0.mk (Kd.R_below (by (with_reducible repeat (first | apply Kd.R_alloc | apply Kd.R_drewN | apply Kd.R_drew)); exact HO_17.out) hb); have n1_ := Aside0.mk (Kd.S_below (by (with_reducible repeat (first | apply Kd.S_alloc | apply Kd.S_drewN | apply Kd.S_drew)); exact HO265.out) hb); have n2_ := Aside0.mk (Kd.R_below (by (with_reducible repeat (first | apply Kd.R_alloc | apply Kd.R_drewN | apply Kd.R_drew)); exact HO268.out) hb); have n3_ := Aside0.mk (blk_below (g := gb258) (o := .cells #[.int .i64 ((rd_T41 y253 x19_1).f0), .string ((rd_T41 y253 x19_1).f1)] 41 (0, 0)) (by (with_reducible repeat (first | refine blk_drewN ?_ _ | refine blk_drew ?_ | refine blk_alloc ?_ _)); exact BK258.out) hb); have n4_ := Aside0.mk (below_step (by repeat (first | (with_reducible first | exact HB.out | apply below_alloc | apply pw_below_drewN | apply below_drew1 | refine below_set ?_ GE258.out) | exact HB.out)) hb); have n5_ := Aside0.mk (hbox); have n6_ := Aside0.mk ((by rw [hg]; exact (below_size (by repeat (first | (with_reducible first | exact HB.out | apply below_alloc | apply pw_below_drewN | apply below_drew1 | refine below_set ?_ GE258.out) | exact HB.out))) : w.heap.size ≤ gb271)); have n7_ := Aside0.mk ((by rw [hg]; exact (below_size (by repeat (first | (with_reducible first | exact HB.out | apply below_alloc | apply pw_below_drewN | apply below_drew1 | refine below_set ?_ GE258.out) | exact HB.out))) : w.heap.size ≤ gb271)); have n8_ := Aside0.mk ((by rw [hg]; exact Nat.ne_of_lt (blk_lt (g := gb258) (o := .cells #[.int .i64 ((rd_T41 y253 x19_1).f0), .string ((rd_T41 y253 x19_1).f1)] 41 (0, 0)) (by (with_reducible repeat (first | refine blk_drewN ?_ _ | refine blk_drew ?_ | refine blk_alloc ?_ _)); exact BK258.out)) : gb258 ≠ gb271)); have n9_ := Aside0.mk ((by rw [hg]; exact Nat.ne_of_gt (blk_lt (g := gb258) (o := .cells #[.int .i64 ((rd_T41 y253 x19_1).f0), .string ((rd_T41 y253 x19_1).f1)] 41 (0, 0)) (by (with_reducible repeat (first | refine blk_drewN ?_ _ | refine blk_drew ?_ | refine blk_alloc ?_ _)); exact BK258.out)) : gb271 ≠ gb258)); clear HO_17; clear HO265; clear HO268; clear BK258; clear HB; have HO_17 := n0_; have HO265 := n1_; have HO268 := n2_; have BK258 := n3_; have HB := n4_; have BK271 := n5_; have GW271 := n6_; have GE271 := n7_; have NB258_271 := n8_; have NB271_258 := n9_; clear n0_ n1_ n2_ n3_ n4_ n5_ n6_ n7_ n8_ n9_; clear hb hbox hg; have hnb24 := NB271_258.out; have hnc24 := NB258_271.out; have hcz25_0 : w23.cell? ⟨gb271, 0, none⟩ = some (.int .i64 0) := (blk_cell BK271.out 0).trans rfl; have hcz25_1 : w23.cell? ⟨gb271, 1, none⟩ = some (.int .i64 0) := (blk_cell BK271.out 1).trans rfl; have hcz25_2 : w23.cell? ⟨gb271, 2, none⟩ = some (.int .i64 0) := (blk_cell BK271.out 2).trans rfl; have hcz25_3 : w23.cell? ⟨gb271, 3, none⟩ = some (.slice none 0 0) := (blk_cell BK271.out 3).trans rfl; have hfz25_0 := blk_frozen BK271.out 0; have hfz25_1 := blk_frozen BK271.out 1; have hfz25_2 := blk_frozen BK271.out 2; have hfz25_3 := blk_frozen BK271.out 3; obtain ⟨Ao26, co26, eo26⟩ := Kd.S_slice HO265.out; subst eo26; have hcz27_0 : w23.cell? ⟨gb258, 0, none⟩ = some (.int .i64 ((rd_T41 y253 x19_1).f0)) := (blk_cell BK258.out 0).trans rfl; have hcz27_1 : w23.cell? ⟨gb258, 1, none⟩ = some (.string ((rd_T41 y253 x19_1).f1)) := (blk_cell BK258.out 1).trans rfl; have hfz27_0 := blk_frozen BK258.out 0; have hfz27_1 := blk_frozen BK258.out 1))
             go_roundg kj7
             case measure => have := HK1.out; have := HJ7.out; omega
             case rel => exact ⟨(wrap64 (x19_1 + 1)), (by first | rfl | (simp; done) | (simp [*]; done)), H', ⟨by have := HK1.out; have := HJ7.out; omega⟩, ⟨by (with_reducible repeat (first | apply Kd.R_alloc | apply Kd.R_drewN | apply Kd.R_drew)); exact Kd.R_mono (Kd.R_far (p := ⟨gb271, 3, none⟩) (Kd.R_far (p := ⟨gb271, 2, none⟩) (Kd.R_far (p := ⟨gb271, 1, none⟩) (Kd.R_far (p := ⟨gb271, 0, none⟩) (Kd.R_types HO_17.out BK271.out (by decide)) (fun _ hk => hk.2) (.int .i64 t260)) (fun _ hk => hk.2) (.int .i64 t261)) (fun _ hk => hk.2) (.int .i64 t262)) (fun _ hk => hk.2) (.slice Ao26 t263.length co26)) (fun _ hk => trivial)⟩, ⟨by repeat (first | (with_reducible first | exact HB.out | apply below_alloc | apply pw_below_drewN | apply below_drew1 | refine below_set ?_ GE258.out | refine below_set ?_ GE271.out) | exact HB.out)⟩⟩
            ·rw [if_neg c19] at H
             have c19b0 : ((t263.length : Int) == 0) = false := beq_eq_false_iff_ne.mpr c19
             have c19b1 : ((t263.length : Int) != 0) = true := bne_iff_ne.mpr c19
             have c19b2 : ¬ (t263 = []) := fun h_ => c19 (by rw [h_]; rfl)
             obtain rfl := Option.some.inj H
             have hcz28_0 : wc.cell? ⟨gb258, 0, none⟩ = some (.int .i64 ((rd_T41 y253 x19_1).f0)) := (blk_cell BK258.out 0).trans rfl
             have hcz28_1 : wc.cell? ⟨gb258, 1, none⟩ = some (.string ((rd_T41 y253 x19_1).f1)) := (blk_cell BK258.out 1).trans rfl
             have hfz28_0 := blk_frozen BK258.out 0
             have hfz28_1 := blk_frozen BK258.out 1
             go_wp2_with (first | ((with_reducible refine gate_callee (f := 19) rfl ?_); refine goesL_ (some 40) rfl rfl Tryz.func19 (by kernel_rfl) rfl #[.string ((rd_T41 y253 x19_1).f1), .int .i64 (wrap64 ((wrap64 (((rd_T41 y253 x19_1).f0) - 1)) + (wrap64 (Int.tmod a0 3))))] rfl (by (try simp only [List.map_toArray, List.map_cons, List.map_nil]); first | done | rfl | (simp only [List.length_drop, List.length_take]; rfl)) ?_; (with_reducible refine (strings_Repeat.calls ((rd_T41 y253 x19_1).f1) (wrap64 ((wrap64 (((rd_T41 y253 x19_1).f0) - 1)) + (wrap64 (Int.tmod a0 3)))) t259 _ A13.out).mono ?_); rintro e w29 ⟨rfl, hb⟩; refine ⟨_, rfl, ?_⟩; have n0_ := Aside0.mk (Kd.R_below (by (with_reducible repeat (first | apply Kd.R_alloc | apply Kd.R_drewN | apply Kd.R_drew)); exact HO_17.out) hb); have n1_ := Aside0.mk (blk_below (g := gb258) (o := .cells #[.int .i64 ((rd_T41 y253 x19_1).f0), .string ((rd_T41 y253 x19_1).f1)] 41 (0, 0)) (by (with_reducible repeat (first | refine blk_drewN ?_ _ | refine blk_drew ?_ | refine blk_alloc ?_ _)); exact BK258.out) hb); have n2_ := Aside0.mk (below_step (by repeat (first | (with_reducible first | exact HB.out | apply below_alloc | apply pw_below_drewN | apply below_drew1 | refine below_set ?_ GE258.out) | exact HB.out)) hb); clear HO_17; clear BK258; clear HB; have HO_17 := n0_; have BK258 := n1_; have HB := n2_; clear n0_ n1_ n2_; (try clear hb); (try clear hb2); (try clear hk); (try clear hi)) | ((with_reducible refine gate_callee (f := 9) rfl ?_); refine goesL_ (some 42) rfl rfl Tryz.func9 (by kernel_rfl) rfl #[.string (x6_7 ++ t259)] rfl (by (try simp only [List.map_toArray, List.map_cons, List.map_nil]); first | done | rfl | (simp only [List.length_drop, List.length_take]; rfl)) ?_; (with_reducible refine (parse_Parse.calls (x6_7 ++ t259) t260 t261 t262 t263 t266 t269 t270 _ (LaidW.below (m' := 47) hL rfl (by repeat (first | (with_reducible first | exact HB.out | apply below_alloc | apply pw_below_drewN | apply below_drew1 | refine below_set ?_ GE258.out) | exact HB.out))) A15.out).mono ?_); rintro e w30 ⟨v264, v267, rfl, ho0, ho1, hb⟩; refine ⟨_, rfl, ?_⟩; have n0_ := Aside0.mk (Kd.R_below (by (with_reducible repeat (first | apply Kd.R_alloc | apply Kd.R_drewN | apply Kd.R_drew)); exact HO_17.out) hb); have n1_ := Aside0.mk (Kd.S_lower ho0 (below_size (by repeat (first | (with_reducible first | exact HB.out | apply below_alloc | apply pw_below_drewN | apply below_drew1 | refine below_set ?_ GE258.out) | exact HB.out)))); have n2_ := Aside0.mk (Kd.R_lower ho1 (below_size (by repeat (first | (with_reducible first | exact HB.out | apply below_alloc | apply pw_below_drewN | apply below_drew1 | refine below_set ?_ GE258.out) | exact HB.out)))); have n3_ := Aside0.mk (blk_below (g := gb258) (o := .cells #[.int .i64 ((rd_T41 y253 x19_1).f0), .string ((rd_T41 y253 x19_1).f1)] 41 (0, 0)) (by (with_reducible repeat (first | refine blk_drewN ?_ _ | refine blk_drew ?_ | refine blk_alloc ?_ _)); exact BK258.out) hb); have n4_ := Aside0.mk (below_step (by repeat (first | (with_reducible first | exact HB.out | apply below_alloc | apply pw_below_drewN | apply below_drew1 | refine below_set ?_ GE258.out) | exact HB.out)) hb); clear HO_17; clear BK258; clear HB; have HO_17 := n0_; have HO265 := n1_; have HO268 := n2_; have BK258 := n3_; have HB := n4_; clear n0_ n1_ n2_ n3_ n4_; (try clear hb); (try clear hb2); (try clear hk); (try clear hi); (try clear ho0); (try clear ho1)) | ((with_reducible refine gate_dst (N := 8) rfl ?_); (try (refine gate_guard (by rfl) ?_; dsimp only)); refine box_event ?hg (N := 8) ?hd (cs := #[.int .i64 0, .int .i64 0, .int .i64 0, .slice none 0 0]) (t := 25) ?hr ?_; (case hd => rfl); (case hg => rfl); (case hr => first | (go_simp; done) | (go_simp; rfl)); intro gb271 hg w31 hbox hb; have n0_ := Aside0.mk (Kd.R_below (by (with_reducible repeat (first | apply Kd.R_alloc | apply Kd.R_drewN | apply Kd.R_drew)); exact HO_17.out) hb); have n1_ := Aside0.mk (Kd.S_below (by (with_reducible repeat (first | apply Kd.S_alloc | apply Kd.S_drewN | apply Kd.S_drew)); exact HO265.out) hb); have n2_ := Aside0.mk (Kd.R_below (by (with_reducible repeat (first | apply Kd.R_alloc | apply Kd.R_drewN | apply Kd.R_drew)); exact HO268.out) hb); have n3_ := Aside0.mk (blk_below (g := gb258) (o := .cells #[.int .i64 ((rd_T41 y253 x19_1).f0), .string ((rd_T41 y253 x19_1).f1)] 41 (0, 0)) (by (with_reducible repeat (first | refine blk_drewN ?_ _ | refine blk_drew ?_ | refine blk_alloc ?_ _)); exact BK258.out) hb); have n4_ := Aside0.mk (below_step (by repeat (first | (with_reducible first | exact HB.out | apply below_alloc | apply pw_below_drewN | apply below_drew1 | refine below_set ?_ GE258.out) | exact HB.out)) hb); have n5_ := Aside0.mk (hbox); have n6_ := Aside0.mk ((by rw [hg]; exact (below_size (by repeat (first | (with_reducible first | exact HB.out | apply below_alloc | apply pw_below_drewN | apply below_drew1 | refine below_set ?_ GE258.out) | exact HB.out))) : w.heap.size ≤ gb271)); have n7_ := Aside0.mk ((by rw [hg]; exact (below_size (by repeat (first | (with_reducible first | exact HB.out | apply below_alloc | apply pw_below_drewN | apply below_drew1 | refine below_set ?_ GE258.out) | exact HB.out))) : w.heap.size ≤ gb271)); have n8_ := Aside0.mk ((by rw [hg]; exact Nat.ne_of_lt (blk_lt (g := gb258) (o := .cells #[.int .i64 ((rd_T41 y253 x19_1).f0), .string ((rd_T41 y253 x19_1).f1)] 41 (0, 0)) (by (with_reducible repeat (first | refine blk_drewN ?_ _ | refine blk_drew ?_ | refine blk_alloc ?_ _)); exact BK258.out)) : gb258 ≠ gb271)); have n9_ := Aside0.mk ((by rw [hg]; exact Nat.ne_of_gt (blk_lt (g := gb258) (o := .cells #[.int .i64 ((rd_T41 y253 x19_1).f0), .string ((rd_T41 y253 x19_1).f1)] 41 (0, 0)) (by (with_reducible repeat (first | refine blk_drewN ?_ _ | refine blk_drew ?_ | refine blk_alloc ?_ _)); exact BK258.out)) : gb271 ≠ gb258)); clear HO_17; clear HO265; clear HO268; clear BK258; clear HB; have HO_17 := n0_; have HO265 := n1_; have HO268 := n2_; have BK258 := n3_; have HB := n4_; have BK271 := n5_; have GW271 := n6_; have GE271 := n7_; have NB258_271 := n8_; have NB271_258 := n9_; clear n0_ n1_ n2_ n3_ n4_ n5_ n6_ n7_ n8_ n9_; clear hb hbox hg; have hnb32 := NB271_258.out; have hnc32 := NB258_271.out; have hcz33_0 : w31.cell? ⟨gb271, 0, none⟩ = some (.int .i64 0) := (blk_cell BK271.out 0).trans rfl; have hcz33_1 : w31.cell? ⟨gb271, 1, none⟩ = some (.int .i64 0) := (blk_cell BK271.out 1).trans rfl; have hcz33_2 : w31.cell? ⟨gb271, 2, none⟩ = some (.int .i64 0) := (blk_cell BK271.out 2).trans rfl; have hcz33_3 : w31.cell? ⟨gb271, 3, none⟩ = some (.slice none 0 0) := (blk_cell BK271.out 3).trans rfl; have hfz33_0 := blk_frozen BK271.out 0; have hfz33_1 := blk_frozen BK271.out 1; have hfz33_2 := blk_frozen BK271.out 2; have hfz33_3 := blk_frozen BK271.out 3; obtain ⟨Ao34, co34, eo34⟩ := Kd.S_slice HO265.out; subst eo34; have hcz35_0 : w31.cell? ⟨gb258, 0, none⟩ = some (.int .i64 ((rd_T41 y253 x19_1).f0)) := (blk_cell BK258.out 0).trans rfl; have hcz35_1 : w31.cell? ⟨gb258, 1, none⟩ = some (.string ((rd_T41 y253 x19_1).f1)) := (blk_cell BK258.out 1).trans rfl; have hfz35_0 := blk_frozen BK258.out 0; have hfz35_1 := blk_frozen BK258.out 1))
             go_ret
             exact ⟨by first | rfl | (simp [errW_none, errW_some] <;> rfl) | (simp [*, errW_none, errW_some] <;> rfl), by repeat (first | (with_reducible first | exact HB.out | apply below_alloc | apply pw_below_drewN | apply below_drew1 | refine below_set ?_ GE258.out | refine below_set ?_ GE271.out) | exact HB.out)⟩
           ·rw [if_neg c18] at H
            have c18b0 : (t269 == (wrap64 ((wrap64 (x7_7 + ((rd_T41 y253 x19_1).f0))) + 1))) = false := beq_eq_false_iff_ne.mpr c18
            have c18b1 : (t269 != (wrap64 ((wrap64 (x7_7 + ((rd_T41 y253 x19_1).f0))) + 1))) = true := bne_iff_ne.mpr c18
            obtain rfl := Option.some.inj H
            have hcz36_0 : wc.cell? ⟨gb258, 0, none⟩ = some (.int .i64 ((rd_T41 y253 x19_1).f0)) := (blk_cell BK258.out 0).trans rfl
            have hcz36_1 : wc.cell? ⟨gb258, 1, none⟩ = some (.string ((rd_T41 y253 x19_1).f1)) := (blk_cell BK258.out 1).trans rfl
            have hfz36_0 := blk_frozen BK258.out 0
            have hfz36_1 := blk_frozen BK258.out 1
            go_wp2_with (first | ((with_reducible refine gate_callee (f := 19) rfl ?_); refine goesL_ (some 40) rfl rfl Tryz.func19 (by kernel_rfl) rfl #[.string ((rd_T41 y253 x19_1).f1), .int .i64 (wrap64 ((wrap64 (((rd_T41 y253 x19_1).f0) - 1)) + (wrap64 (Int.tmod a0 3))))] rfl (by (try simp only [List.map_toArray, List.map_cons, List.map_nil]); first | done | rfl | (simp only [List.length_drop, List.length_take]; rfl)) ?_; (with_reducible refine (strings_Repeat.calls ((rd_T41 y253 x19_1).f1) (wrap64 ((wrap64 (((rd_T41 y253 x19_1).f0) - 1)) + (wrap64 (Int.tmod a0 3)))) t259 _ A13.out).mono ?_); rintro e w37 ⟨rfl, hb⟩; refine ⟨_, rfl, ?_⟩; have n0_ := Aside0.mk (Kd.R_below (by (with_reducible repeat (first | apply Kd.R_alloc | apply Kd.R_drewN | apply Kd.R_drew)); exact HO_17.out) hb); have n1_ := Aside0.mk (blk_below (g := gb258) (o := .cells #[.int .i64 ((rd_T41 y253 x19_1).f0), .string ((rd_T41 y253 x19_1).f1)] 41 (0, 0)) (by (with_reducible repeat (first | refine blk_drewN ?_ _ | refine blk_drew ?_ | refine blk_alloc ?_ _)); exact BK258.out) hb); have n2_ := Aside0.mk (below_step (by repeat (first | (with_reducible first | exact HB.out | apply below_alloc | apply pw_below_drewN | apply below_drew1 | refine below_set ?_ GE258.out) | exact HB.out)) hb); clear HO_17; clear BK258; clear HB; have HO_17 := n0_; have BK258 := n1_; have HB := n2_; clear n0_ n1_ n2_; (try clear hb); (try clear hb2); (try clear hk); (try clear hi)) | ((with_reducible refine gate_callee (f := 9) rfl ?_); refine goesL_ (some 42) rfl rfl Tryz.func9 (by kernel_rfl) rfl #[.string (x6_7 ++ t259)] rfl (by (try simp only [List.map_toArray, List.map_cons, List.map_nil]); first | done | rfl | (simp only [List.length_drop, List.length_take]; rfl)) ?_; (with_reducible refine (parse_Parse.calls (x6_7 ++ t259) t260 t261 t262 t263 t266 t269 t270 _ (LaidW.below (m' := 47) hL rfl (by repeat (first | (with_reducible first | exact HB.out | apply below_alloc | apply pw_below_drewN | apply below_drew1 | refine below_set ?_ GE258.out) | exact HB.out))) A15.out).mono ?_); rintro e w38 ⟨v264, v267, rfl, ho0, ho1, hb⟩; refine ⟨_, rfl, ?_⟩; have n0_ := Aside0.mk (Kd.R_below (by (with_reducible repeat (first | apply Kd.R_alloc | apply Kd.R_drewN | apply Kd.R_drew)); exact HO_17.out) hb); have n1_ := Aside0.mk (Kd.S_lower ho0 (below_size (by repeat (first | (with_reducible first | exact HB.out | apply below_alloc | apply pw_below_drewN | apply below_drew1 | refine below_set ?_ GE258.out) | exact HB.out)))); have n2_ := Aside0.mk (Kd.R_lower ho1 (below_size (by repeat (first | (with_reducible first | exact HB.out | apply below_alloc | apply pw_below_drewN | apply below_drew1 | refine below_set ?_ GE258.out) | exact HB.out)))); have n3_ := Aside0.mk (blk_below (g := gb258) (o := .cells #[.int .i64 ((rd_T41 y253 x19_1).f0), .string ((rd_T41 y253 x19_1).f1)] 41 (0, 0)) (by (with_reducible repeat (first | refine blk_drewN ?_ _ | refine blk_drew ?_ | refine blk_alloc ?_ _)); exact BK258.out) hb); have n4_ := Aside0.mk (below_step (by repeat (first | (with_reducible first | exact HB.out | apply below_alloc | apply pw_below_drewN | apply below_drew1 | refine below_set ?_ GE258.out) | exact HB.out)) hb); clear HO_17; clear BK258; clear HB; have HO_17 := n0_; have HO265 := n1_; have HO268 := n2_; have BK258 := n3_; have HB := n4_; clear n0_ n1_ n2_ n3_ n4_; (try clear hb); (try clear hb2); (try clear hk); (try clear hi); (try clear ho0); (try clear ho1)) | ((with_reducible refine gate_dst (N := 8) rfl ?_); (try (refine gate_guard (by rfl) ?_; dsimp only)); refine box_event ?hg (N := 8) ?hd (cs := #[.int .i64 0, .int .i64 0, .int .i64 0, .slice none 0 0]) (t := 25) ?hr ?_; (case hd => rfl); (case hg => rfl); (case hr => first | (go_simp; done) | (go_simp; rfl)); intro gb271 hg w39 hbox hb; have n0_ := Aside0.mk (Kd.R_below (by (with_reducible repeat (first | apply Kd.R_alloc | apply Kd.R_drewN | apply Kd.R_drew)); exact HO_17.out) hb); have n1_ := Aside0.mk (Kd.S_below (by (with_reducible repeat (first | apply Kd.S_alloc | apply Kd.S_drewN | apply Kd.S_drew)); exact HO265.out) hb); have n2_ := Aside0.mk (Kd.R_below (by (with_reducible repeat (first | apply Kd.R_alloc | apply Kd.R_drewN | apply Kd.R_drew)); exact HO268.out) hb); have n3_ := Aside0.mk (blk_below (g := gb258) (o := .cells #[.int .i64 ((rd_T41 y253 x19_1).f0), .string ((rd_T41 y253 x19_1).f1)] 41 (0, 0)) (by (with_reducible repeat (first | refine blk_drewN ?_ _ | refine blk_drew ?_ | refine blk_alloc ?_ _)); exact BK258.out) hb); have n4_ := Aside0.mk (below_step (by repeat (first | (with_reducible first | exact HB.out | apply below_alloc | apply pw_below_drewN | apply below_drew1 | refine below_set ?_ GE258.out) | exact HB.out)) hb); have n5_ := Aside0.mk (hbox); have n6_ := Aside0.mk ((by rw [hg]; exact (below_size (by repeat (first | (with_reducible first | exact HB.out | apply below_alloc | apply pw_below_drewN | apply below_drew1 | refine below_set ?_ GE258.out) | exact HB.out))) : w.heap.size ≤ gb271)); have n7_ := Aside0.mk ((by rw [hg]; exact (below_size (by repeat (first | (with_reducible first | exact HB.out | apply below_alloc | apply pw_below_drewN | apply below_drew1 | refine below_set ?_ GE258.out) | exact HB.out))) : w.heap.size ≤ gb271)); have n8_ := Aside0.mk ((by rw [hg]; exact Nat.ne_of_lt (blk_lt (g := gb258) (o := .cells #[.int .i64 ((rd_T41 y253 x19_1).f0), .string ((rd_T41 y253 x19_1).f1)] 41 (0, 0)) (by (with_reducible repeat (first | refine blk_drewN ?_ _ | refine blk_drew ?_ | refine blk_alloc ?_ _)); exact BK258.out)) : gb258 ≠ gb271)); have n9_ := Aside0.mk ((by rw [hg]; exact Nat.ne_of_gt (blk_lt (g := gb258) (o := .cells #[.int .i64 ((rd_T41 y253 x19_1).f0), .string ((rd_T41 y253 x19_1).f1)] 41 (0, 0)) (by (with_reducible repeat (first | refine blk_drewN ?_ _ | refine blk_drew ?_ | refine blk_alloc ?_ _)); exact BK258.out)) : gb271 ≠ gb258)); clear HO_17; clear HO265; clear HO268; clear BK258; clear HB; have HO_17 := n0_; have HO265 := n1_; have HO268 := n2_; have BK258 := n3_; have HB := n4_; have BK271 := n5_; have GW271 := n6_; have GE271 := n7_; have NB258_271 := n8_; have NB271_258 := n9_; clear n0_ n1_ n2_ n3_ n4_ n5_ n6_ n7_ n8_ n9_; clear hb hbox hg; have hnb40 := NB271_258.out; have hnc40 := NB258_271.out; have hcz41_0 : w39.cell? ⟨gb271, 0, none⟩ = some (.int .i64 0) := (blk_cell BK271.out 0).trans rfl; have hcz41_1 : w39.cell? ⟨gb271, 1, none⟩ = some (.int .i64 0) := (blk_cell BK271.out 1).trans rfl; have hcz41_2 : w39.cell? ⟨gb271, 2, none⟩ = some (.int .i64 0) := (blk_cell BK271.out 2).trans rfl; have hcz41_3 : w39.cell? ⟨gb271, 3, none⟩ = some (.slice none 0 0) := (blk_cell BK271.out 3).trans rfl; have hfz41_0 := blk_frozen BK271.out 0; have hfz41_1 := blk_frozen BK271.out 1; have hfz41_2 := blk_frozen BK271.out 2; have hfz41_3 := blk_frozen BK271.out 3; obtain ⟨Ao42, co42, eo42⟩ := Kd.S_slice HO265.out; subst eo42; have hcz43_0 : w39.cell? ⟨gb258, 0, none⟩ = some (.int .i64 ((rd_T41 y253 x19_1).f0)) := (blk_cell BK258.out 0).trans rfl; have hcz43_1 : w39.cell? ⟨gb258, 1, none⟩ = some (.string ((rd_T41 y253 x19_1).f1)) := (blk_cell BK258.out 1).trans rfl; have hfz43_0 := blk_frozen BK258.out 0; have hfz43_1 := blk_frozen BK258.out 1))
            go_ret
            exact ⟨by first | rfl | (simp [errW_none, errW_some] <;> rfl) | (simp [*, errW_none, errW_some] <;> rfl), by repeat (first | (with_reducible first | exact HB.out | apply below_alloc | apply pw_below_drewN | apply below_drew1 | refine below_set ?_ GE258.out | refine below_set ?_ GE271.out) | exact HB.out)⟩
          ·rw [if_neg c17] at H
           have c17b0 : (t270 == 10) = false := beq_eq_false_iff_ne.mpr c17
           have c17b1 : (t270 != 10) = true := bne_iff_ne.mpr c17
           obtain rfl := Option.some.inj H
           have hcz44_0 : wc.cell? ⟨gb258, 0, none⟩ = some (.int .i64 ((rd_T41 y253 x19_1).f0)) := (blk_cell BK258.out 0).trans rfl
           have hcz44_1 : wc.cell? ⟨gb258, 1, none⟩ = some (.string ((rd_T41 y253 x19_1).f1)) := (blk_cell BK258.out 1).trans rfl
           have hfz44_0 := blk_frozen BK258.out 0
           have hfz44_1 := blk_frozen BK258.out 1
           go_wp2_with (first | ((with_reducible refine gate_callee (f := 19) rfl ?_); refine goesL_ (some 40) rfl rfl Tryz.func19 (by kernel_rfl) rfl #[.string ((rd_T41 y253 x19_1).f1), .int .i64 (wrap64 ((wrap64 (((rd_T41 y253 x19_1).f0) - 1)) + (wrap64 (Int.tmod a0 3))))] rfl (by (try simp only [List.map_toArray, List.map_cons, List.map_nil]); first | done | rfl | (simp only [List.length_drop, List.length_take]; rfl)) ?_; (with_reducible refine (strings_Repeat.calls ((rd_T41 y253 x19_1).f1) (wrap64 ((wrap64 (((rd_T41 y253 x19_1).f0) - 1)) + (wrap64 (Int.tmod a0 3)))) t259 _ A13.out).mono ?_); rintro e w45 ⟨rfl, hb⟩; refine ⟨_, rfl, ?_⟩; have n0_ := Aside0.mk (Kd.R_below (by (with_reducible repeat (first | apply Kd.R_alloc | apply Kd.R_drewN | apply Kd.R_drew)); exact HO_17.out) hb); have n1_ := Aside0.mk (blk_below (g := gb258) (o := .cells #[.int .i64 ((rd_T41 y253 x19_1).f0), .string ((rd_T41 y253 x19_1).f1)] 41 (0, 0)) (by (with_reducible repeat (first | refine blk_drewN ?_ _ | refine blk_drew ?_ | refine blk_alloc ?_ _)); exact BK258.out) hb); have n2_ := Aside0.mk (below_step (by repeat (first | (with_reducible first | exact HB.out | apply below_alloc | apply pw_below_drewN | apply below_drew1 | refine below_set ?_ GE258.out) | exact HB.out)) hb); clear HO_17; clear BK258; clear HB; have HO_17 := n0_; have BK258 := n1_; have HB := n2_; clear n0_ n1_ n2_; (try clear hb); (try clear hb2); (try clear hk); (try clear hi)) | ((with_reducible refine gate_callee (f := 9) rfl ?_); refine goesL_ (some 42) rfl rfl Tryz.func9 (by kernel_rfl) rfl #[.string (x6_7 ++ t259)] rfl (by (try simp only [List.map_toArray, List.map_cons, List.map_nil]); first | done | rfl | (simp only [List.length_drop, List.length_take]; rfl)) ?_; (with_reducible refine (parse_Parse.calls (x6_7 ++ t259) t260 t261 t262 t263 t266 t269 t270 _ (LaidW.below (m' := 47) hL rfl (by repeat (first | (with_reducible first | exact HB.out | apply below_alloc | apply pw_below_drewN | apply below_drew1 | refine below_set ?_ GE258.out) | exact HB.out))) A15.out).mono ?_); rintro e w46 ⟨v264, v267, rfl, ho0, ho1, hb⟩; refine ⟨_, rfl, ?_⟩; have n0_ := Aside0.mk (Kd.R_below (by (with_reducible repeat (first | apply Kd.R_alloc | apply Kd.R_drewN | apply Kd.R_drew)); exact HO_17.out) hb); have n1_ := Aside0.mk (Kd.S_lower ho0 (below_size (by repeat (first | (with_reducible first | exact HB.out | apply below_alloc | apply pw_below_drewN | apply below_drew1 | refine below_set ?_ GE258.out) | exact HB.out)))); have n2_ := Aside0.mk (Kd.R_lower ho1 (below_size (by repeat (first | (with_reducible first | exact HB.out | apply below_alloc | apply pw_below_drewN | apply below_drew1 | refine below_set ?_ GE258.out) | exact HB.out)))); have n3_ := Aside0.mk (blk_below (g := gb258) (o := .cells #[.int .i64 ((rd_T41 y253 x19_1).f0), .string ((rd_T41 y253 x19_1).f1)] 41 (0, 0)) (by (with_reducible repeat (first | refine blk_drewN ?_ _ | refine blk_drew ?_ | refine blk_alloc ?_ _)); exact BK258.out) hb); have n4_ := Aside0.mk (below_step (by repeat (first | (with_reducible first | exact HB.out | apply below_alloc | apply pw_below_drewN | apply below_drew1 | refine below_set ?_ GE258.out) | exact HB.out)) hb); clear HO_17; clear BK258; clear HB; have HO_17 := n0_; have HO265 := n1_; have HO268 := n2_; have BK258 := n3_; have HB := n4_; clear n0_ n1_ n2_ n3_ n4_; (try clear hb); (try clear hb2); (try clear hk); (try clear hi); (try clear ho0); (try clear ho1)) | ((with_reducible refine gate_dst (N := 8) rfl ?_); (try (refine gate_guard (by rfl) ?_; dsimp only)); refine box_event ?hg (N := 8) ?hd (cs := #[.int .i64 0, .int .i64 0, .int .i64 0, .slice none 0 0]) (t := 25) ?hr ?_; (case hd => rfl); (case hg => rfl); (case hr => first | (go_simp; done) | (go_simp; rfl)); intro gb271 hg w47 hbox hb; have n0_ := Aside0.mk (Kd.R_below (by (with_reducible repeat (first | apply Kd.R_alloc | apply Kd.R_drewN | apply Kd.R_drew)); exact HO_17.out) hb); have n1_ := Aside0.mk (Kd.S_below (by (with_reducible repeat (first | apply Kd.S_alloc | apply Kd.S_drewN | apply Kd.S_drew)); exact HO265.out) hb); have n2_ := Aside0.mk (Kd.R_below (by (with_reducible repeat (first | apply Kd.R_alloc | apply Kd.R_drewN | apply Kd.R_drew)); exact HO268.out) hb); have n3_ := Aside0.mk (blk_below (g := gb258) (o := .cells #[.int .i64 ((rd_T41 y253 x19_1).f0), .string ((rd_T41 y253 x19_1).f1)] 41 (0, 0)) (by (with_reducible repeat (first | refine blk_drewN ?_ _ | refine blk_drew ?_ | refine blk_alloc ?_ _)); exact BK258.out) hb); have n4_ := Aside0.mk (below_step (by repeat (first | (with_reducible first | exact HB.out | apply below_alloc | apply pw_below_drewN | apply below_drew1 | refine below_set ?_ GE258.out) | exact HB.out)) hb); have n5_ := Aside0.mk (hbox); have n6_ := Aside0.mk ((by rw [hg]; exact (below_size (by repeat (first | (with_reducible first | exact HB.out | apply below_alloc | apply pw_below_drewN | apply below_drew1 | refine below_set ?_ GE258.out) | exact HB.out))) : w.heap.size ≤ gb271)); have n7_ := Aside0.mk ((by rw [hg]; exact (below_size (by repeat (first | (with_reducible first | exact HB.out | apply below_alloc | apply pw_below_drewN | apply below_drew1 | refine below_set ?_ GE258.out) | exact HB.out))) : w.heap.size ≤ gb271)); have n8_ := Aside0.mk ((by rw [hg]; exact Nat.ne_of_lt (blk_lt (g := gb258) (o := .cells #[.int .i64 ((rd_T41 y253 x19_1).f0), .string ((rd_T41 y253 x19_1).f1)] 41 (0, 0)) (by (with_reducible repeat (first | refine blk_drewN ?_ _ | refine blk_drew ?_ | refine blk_alloc ?_ _)); exact BK258.out)) : gb258 ≠ gb271)); have n9_ := Aside0.mk ((by rw [hg]; exact Nat.ne_of_gt (blk_lt (g := gb258) (o := .cells #[.int .i64 ((rd_T41 y253 x19_1).f0), .string ((rd_T41 y253 x19_1).f1)] 41 (0, 0)) (by (with_reducible repeat (first | refine blk_drewN ?_ _ | refine blk_drew ?_ | refine blk_alloc ?_ _)); exact BK258.out)) : gb271 ≠ gb258)); clear HO_17; clear HO265; clear HO268; clear BK258; clear HB; have HO_17 := n0_; have HO265 := n1_; have HO268 := n2_; have BK258 := n3_; have HB := n4_; have BK271 := n5_; have GW271 := n6_; have GE271 := n7_; have NB258_271 := n8_; have NB271_258 := n9_; clear n0_ n1_ n2_ n3_ n4_ n5_ n6_ n7_ n8_ n9_; clear hb hbox hg; have hnb48 := NB271_258.out; have hnc48 := NB258_271.out; have hcz49_0 : w47.cell? ⟨gb271, 0, none⟩ = some (.int .i64 0) := (blk_cell BK271.out 0).trans rfl; have hcz49_1 : w47.cell? ⟨gb271, 1, none⟩ = some (.int .i64 0) := (blk_cell BK271.out 1).trans rfl; have hcz49_2 : w47.cell? ⟨gb271, 2, none⟩ = some (.int .i64 0) := (blk_cell BK271.out 2).trans rfl; have hcz49_3 : w47.cell? ⟨gb271, 3, none⟩ = some (.slice none 0 0) := (blk_cell BK271.out 3).trans rfl; have hfz49_0 := blk_frozen BK271.out 0; have hfz49_1 := blk_frozen BK271.out 1; have hfz49_2 := blk_frozen BK271.out 2; have hfz49_3 := blk_frozen BK271.out 3; obtain ⟨Ao50, co50, eo50⟩ := Kd.S_slice HO265.out; subst eo50; have hcz51_0 : w47.cell? ⟨gb258, 0, none⟩ = some (.int .i64 ((rd_T41 y253 x19_1).f0)) := (blk_cell BK258.out 0).trans rfl; have hcz51_1 : w47.cell? ⟨gb258, 1, none⟩ = some (.string ((rd_T41 y253 x19_1).f1)) := (blk_cell BK258.out 1).trans rfl; have hfz51_0 := blk_frozen BK258.out 0; have hfz51_1 := blk_frozen BK258.out 1))
           go_ret
           exact ⟨by first | rfl | (simp [errW_none, errW_some] <;> rfl) | (simp [*, errW_none, errW_some] <;> rfl), by repeat (first | (with_reducible first | exact HB.out | apply below_alloc | apply pw_below_drewN | apply below_drew1 | refine below_set ?_ GE258.out | refine below_set ?_ GE271.out) | exact HB.out)⟩
         ·rw [if_neg c16] at H
          have c16b0 : decide (((rd_T41 y253 x19_1).f0) < (wrap64 ((wrap64 (((rd_T41 y253 x19_1).f0) - 1)) + (wrap64 (Int.tmod a0 3))))) = false := decide_eq_false c16
          clear c16
          have HC52 := Aside0.mk H
          clear H
          have hcz53_0 : wc.cell? ⟨gb258, 0, none⟩ = some (.int .i64 ((rd_T41 y253 x19_1).f0)) := (blk_cell BK258.out 0).trans rfl
          have hcz53_1 : wc.cell? ⟨gb258, 1, none⟩ = some (.string ((rd_T41 y253 x19_1).f1)) := (blk_cell BK258.out 1).trans rfl
          have hfz53_0 := blk_frozen BK258.out 0
          have hfz53_1 := blk_frozen BK258.out 1
          go_upto_region 12 with (first | ((with_reducible refine gate_callee (f := 19) rfl ?_); refine goesL_ (some 40) rfl rfl Tryz.func19 (by kernel_rfl) rfl #[.string ((rd_T41 y253 x19_1).f1), .int .i64 (wrap64 ((wrap64 (((rd_T41 y253 x19_1).f0) - 1)) + (wrap64 (Int.tmod a0 3))))] rfl (by (try simp only [List.map_toArray, List.map_cons, List.map_nil]); first | done | rfl | (simp only [List.length_drop, List.length_take]; rfl)) ?_; (with_reducible refine (strings_Repeat.calls ((rd_T41 y253 x19_1).f1) (wrap64 ((wrap64 (((rd_T41 y253 x19_1).f0) - 1)) + (wrap64 (Int.tmod a0 3)))) t259 _ A13.out).mono ?_); rintro e w54 ⟨rfl, hb⟩; refine ⟨_, rfl, ?_⟩; have n0_ := Aside0.mk (Kd.R_below (by (with_reducible repeat (first | apply Kd.R_alloc | apply Kd.R_drewN | apply Kd.R_drew)); exact HO_17.out) hb); have n1_ := Aside0.mk (blk_below (g := gb258) (o := .cells #[.int .i64 ((rd_T41 y253 x19_1).f0), .string ((rd_T41 y253 x19_1).f1)] 41 (0, 0)) (by (with_reducible repeat (first | refine blk_drewN ?_ _ | refine blk_drew ?_ | refine blk_alloc ?_ _)); exact BK258.out) hb); have n2_ := Aside0.mk (below_step (by repeat (first | (with_reducible first | exact HB.out | apply below_alloc | apply pw_below_drewN | apply below_drew1 | refine below_set ?_ GE258.out) | exact HB.out)) hb); clear HO_17; clear BK258; clear HB; have HO_17 := n0_; have BK258 := n1_; have HB := n2_; clear n0_ n1_ n2_; (try clear hb); (try clear hb2); (try clear hk); (try clear hi)) | ((with_reducible refine gate_callee (f := 9) rfl ?_); refine goesL_ (some 42) rfl rfl Tryz.func9 (by kernel_rfl) rfl #[.string (x6_7 ++ t259)] rfl (by (try simp only [List.map_toArray, List.map_cons, List.map_nil]); first | done | rfl | (simp only [List.length_drop, List.length_take]; rfl)) ?_; (with_reducible refine (parse_Parse.calls (x6_7 ++ t259) t260 t261 t262 t263 t266 t269 t270 _ (LaidW.below (m' := 47) hL rfl (by repeat (first | (with_reducible first | exact HB.out | apply below_alloc | apply pw_below_drewN | apply below_drew1 | refine below_set ?_ GE258.out) | exact HB.out))) A15.out).mono ?_); rintro e w55 ⟨v264, v267, rfl, ho0, ho1, hb⟩; refine ⟨_, rfl, ?_⟩; have n0_ := Aside0.mk (Kd.R_below (by (with_reducible repeat (first | apply Kd.R_alloc | apply Kd.R_drewN | apply Kd.R_drew)); exact HO_17.out) hb); have n1_ := Aside0.mk (Kd.S_lower ho0 (below_size (by repeat (first | (with_reducible first | exact HB.out | apply below_alloc | apply pw_below_drewN | apply below_drew1 | refine below_set ?_ GE258.out) | exact HB.out)))); have n2_ := Aside0.mk (Kd.R_lower ho1 (below_size (by repeat (first | (with_reducible first | exact HB.out | apply below_alloc | apply pw_below_drewN | apply below_drew1 | refine below_set ?_ GE258.out) | exact HB.out)))); have n3_ := Aside0.mk (blk_below (g := gb258) (o := .cells #[.int .i64 ((rd_T41 y253 x19_1).f0), .string ((rd_T41 y253 x19_1).f1)] 41 (0, 0)) (by (with_reducible repeat (first | refine blk_drewN ?_ _ | refine blk_drew ?_ | refine blk_alloc ?_ _)); exact BK258.out) hb); have n4_ := Aside0.mk (below_step (by repeat (first | (with_reducible first | exact HB.out | apply below_alloc | apply pw_below_drewN | apply below_drew1 | refine below_set ?_ GE258.out) | exact HB.out)) hb); clear HO_17; clear BK258; clear HB; have HO_17 := n0_; have HO265 := n1_; have HO268 := n2_; have BK258 := n3_; have HB := n4_; clear n0_ n1_ n2_ n3_ n4_; (try clear hb); (try clear hb2); (try clear hk); (try clear hi); (try clear ho0); (try clear ho1)) | ((with_reducible refine gate_dst (N := 8) rfl ?_); (try (refine gate_guard (by rfl) ?_; dsimp only)); refine box_event ?hg (N := 8) ?hd (cs := #[.int .i64 0, .int .i64 0, .int .i64 0, .slice none 0 0]) (t := 25) ?hr ?_; (case hd => rfl); (case hg => rfl); (case hr => first | (go_simp; done) | (go_simp; rfl)); intro gb271 hg w56 hbox hb; have n0_ := Aside0.mk (Kd.R_below (by (with_reducible repeat (first | apply Kd.R_alloc | apply Kd.R_drewN | apply Kd.R_drew)); exact HO_17.out) hb); have n1_ := Aside0.mk (Kd.S_below (by (with_reducible repeat (first | apply Kd.S_alloc | apply Kd.S_drewN | apply Kd.S_drew)); exact HO265.out) hb); have n2_ := Aside0.mk (Kd.R_below (by (with_reducible repeat (first | apply Kd.R_alloc | apply Kd.R_drewN | apply Kd.R_drew)); exact HO268.out) hb); have n3_ := Aside0.mk (blk_below (g := gb258) (o := .cells #[.int .i64 ((rd_T41 y253 x19_1).f0), .string ((rd_T41 y253 x19_1).f1)] 41 (0, 0)) (by (with_reducible repeat (first | refine blk_drewN ?_ _ | refine blk_drew ?_ | refine blk_alloc ?_ _)); exact BK258.out) hb); have n4_ := Aside0.mk (below_step (by repeat (first | (with_reducible first | exact HB.out | apply below_alloc | apply pw_below_drewN | apply below_drew1 | refine below_set ?_ GE258.out) | exact HB.out)) hb); have n5_ := Aside0.mk (hbox); have n6_ := Aside0.mk ((by rw [hg]; exact (below_size (by repeat (first | (with_reducible first | exact HB.out | apply below_alloc | apply pw_below_drewN | apply below_drew1 | refine below_set ?_ GE258.out) | exact HB.out))) : w.heap.size ≤ gb271)); have n7_ := Aside0.mk ((by rw [hg]; exact (below_size (by repeat (first | (with_reducible first | exact HB.out | apply below_alloc | apply pw_below_drewN | apply below_drew1 | refine below_set ?_ GE258.out) | exact HB.out))) : w.heap.size ≤ gb271)); have n8_ := Aside0.mk ((by rw [hg]; exact Nat.ne_of_lt (blk_lt (g := gb258) (o := .cells #[.int .i64 ((rd_T41 y253 x19_1).f0), .string ((rd_T41 y253 x19_1).f1)] 41 (0, 0)) (by (with_reducible repeat (first | refine blk_drewN ?_ _ | refine blk_drew ?_ | refine blk_alloc ?_ _)); exact BK258.out)) : gb258 ≠ gb271)); have n9_ := Aside0.mk ((by rw [hg]; exact Nat.ne_of_gt (blk_lt (g := gb258) (o := .cells #[.int .i64 ((rd_T41 y253 x19_1).f0), .string ((rd_T41 y253 x19_1).f1)] 41 (0, 0)) (by (with_reducible repeat (first | refine blk_drewN ?_ _ | refine blk_drew ?_ | refine blk_alloc ?_ _)); exact BK258.out)) : gb271 ≠ gb258)); clear HO_17; clear HO265; clear HO268; clear BK258; clear HB; have HO_17 := n0_; have HO265 := n1_; have HO268 := n2_; have BK258 := n3_; have HB := n4_; have BK271 := n5_; have GW271 := n6_; have GE271 := n7_; have NB258_271 := n8_; have NB271_258 := n9_; clear n0_ n1_ n2_ n3_ n4_ n5_ n6_ n7_ n8_ n9_; clear hb hbox hg; have hnb57 := NB271_258.out; have hnc57 := NB258_271.out; have hcz58_0 : w56.cell? ⟨gb271, 0, none⟩ = some (.int .i64 0) := (blk_cell BK271.out 0).trans rfl; have hcz58_1 : w56.cell? ⟨gb271, 1, none⟩ = some (.int .i64 0) := (blk_cell BK271.out 1).trans rfl; have hcz58_2 : w56.cell? ⟨gb271, 2, none⟩ = some (.int .i64 0) := (blk_cell BK271.out 2).trans rfl; have hcz58_3 : w56.cell? ⟨gb271, 3, none⟩ = some (.slice none 0 0) := (blk_cell BK271.out 3).trans rfl; have hfz58_0 := blk_frozen BK271.out 0; have hfz58_1 := blk_frozen BK271.out 1; have hfz58_2 := blk_frozen BK271.out 2; have hfz58_3 := blk_frozen BK271.out 3; obtain ⟨Ao59, co59, eo59⟩ := Kd.S_slice HO265.out; subst eo59; have hcz60_0 : w56.cell? ⟨gb258, 0, none⟩ = some (.int .i64 ((rd_T41 y253 x19_1).f0)) := (blk_cell BK258.out 0).trans rfl; have hcz60_1 : w56.cell? ⟨gb258, 1, none⟩ = some (.string ((rd_T41 y253 x19_1).f1)) := (blk_cell BK258.out 1).trans rfl; have hfz60_0 := blk_frozen BK258.out 0; have hfz60_1 := blk_frozen BK258.out 1))
          (try simp only [Act.put, List.setIfInBounds_toArray, List.set_cons_zero, List.set_cons_succ])
          go_cut [79] (fun v79 wc => ∃ (kq : Nat) (x79_51 : Bool), v79 = .bool x79_51 ∧ Aside0 (law10_ParseCapacities.j2 kq a0 x19_1 (wrap64 ((wrap64 (((rd_T41 y253 x19_1).f0) - 1)) + (wrap64 (Int.tmod a0 3)))) y253 (y253.length : Int) x19_1 x79_51 t260 t261 t262 t263 = some r) ∧ Aside0 (kq ≤ kj7) ∧ Aside0 (Kd.R k41 41 wc w.heap.size (fun k_ => k_ ≠ gb258) (.slice (some ad257) y253.length co4) y253) ∧ Aside0 (Kd.S k47 47 wc w.heap.size (fun _ => True) (.slice Ao59 t263.length co59) t263) ∧ Aside0 (wc.heap[gb258]? = some (.cells #[.int .i64 ((rd_T41 y253 x19_1).f0), .string ((rd_T41 y253 x19_1).f1)] 41 (0, 0))) ∧ Aside0 (wc.heap[gb271]? = some (.cells #[.int .i64 t260, .int .i64 t261, .int .i64 t262, (.slice Ao59 t263.length co59)] 25 (0, 0))) ∧ Aside0 (Below w.heap.size w wc))
          case first =>
           have H := HC52.out
           clear HC52
           by_cases c61 : t270 = 0
           ·rw [if_pos c61] at H
            have c61b0 : (t270 == 0) = true := beq_iff_eq.mpr c61
            have c61b1 : (t270 != 0) = false := bne_eq_false_iff_eq.mpr c61
            clear c61
            (first | rw [c61b0] | (simp only [i64_w, i32_w]; rw [c61b0]) | rw [c61b3] | rw [c61b2] | skip)
            by_cases c62 : t269 = 0
            ·rw [if_pos c62] at H
             have c62b0 : (t269 == 0) = true := beq_iff_eq.mpr c62
             have c62b1 : (t269 != 0) = false := bne_eq_false_iff_eq.mpr c62
             clear c62
             have H' := Aside0.mk H
             clear H
             have hnb63 := NB271_258.out
             have hnc63 := NB258_271.out
             have hcz64_0 : w56.cell? ⟨gb271, 0, none⟩ = some (.int .i64 0) := (blk_cell BK271.out 0).trans rfl
             have hcz64_1 : w56.cell? ⟨gb271, 1, none⟩ = some (.int .i64 0) := (blk_cell BK271.out 1).trans rfl
             have hcz64_2 : w56.cell? ⟨gb271, 2, none⟩ = some (.int .i64 0) := (blk_cell BK271.out 2).trans rfl
             have hcz64_3 : w56.cell? ⟨gb271, 3, none⟩ = some (.slice none 0 0) := (blk_cell BK271.out 3).trans rfl
             have hfz64_0 := blk_frozen BK271.out 0
             have hfz64_1 := blk_frozen BK271.out 1
             have hfz64_2 := blk_frozen BK271.out 2
             have hfz64_3 := blk_frozen BK271.out 3
             go_wp2
             go_meet
             case rel => exact ⟨_, (((t263.length : Int) == 0)), (by first | rfl | (simp; done) | (simp [*]; done)), H', ⟨by have := HK1.out; have := HJ7.out; first | omega | exact Nat.le_refl _⟩, ⟨by (with_reducible repeat (first | apply Kd.R_alloc | apply Kd.R_drewN | apply Kd.R_drew)); exact Kd.R_mono (Kd.R_far (p := ⟨gb271, 3, none⟩) (Kd.R_far (p := ⟨gb271, 2, none⟩) (Kd.R_far (p := ⟨gb271, 1, none⟩) (Kd.R_far (p := ⟨gb271, 0, none⟩) (Kd.R_types HO_17.out BK271.out (by decide)) (fun _ hk => hk.2) (.int .i64 t260)) (fun _ hk => hk.2) (.int .i64 t261)) (fun _ hk => hk.2) (.int .i64 t262)) (fun _ hk => hk.2) (.slice Ao59 t263.length co59)) (fun _ hk => hk.1)⟩, ⟨by (with_reducible repeat (first | apply Kd.S_alloc | apply Kd.S_drewN | apply Kd.S_drew)); exact Kd.S_mono (Kd.S_far (p := ⟨gb271, 3, none⟩) (Kd.S_far (p := ⟨gb271, 2, none⟩) (Kd.S_far (p := ⟨gb271, 1, none⟩) (Kd.S_far (p := ⟨gb271, 0, none⟩) (Kd.S_types HO265.out BK271.out (by decide)) (fun _ hk => hk.2) (.int .i64 t260)) (fun _ hk => hk.2) (.int .i64 t261)) (fun _ hk => hk.2) (.int .i64 t262)) (fun _ hk => hk.2) (.slice Ao59 t263.length co59)) (fun _ hk => trivial)⟩, ⟨by (with_reducible repeat (first | refine blk_drewN ?_ _ | refine blk_drew ?_ | refine blk_alloc ?_ _)); refine blk_far ?_ NB258_271.out _; (with_reducible repeat (first | refine blk_drewN ?_ _ | refine blk_drew ?_ | refine blk_alloc ?_ _)); refine blk_far ?_ NB258_271.out _; (with_reducible repeat (first | refine blk_drewN ?_ _ | refine blk_drew ?_ | refine blk_alloc ?_ _)); refine blk_far ?_ NB258_271.out _; (with_reducible repeat (first | refine blk_drewN ?_ _ | refine blk_drew ?_ | refine blk_alloc ?_ _)); refine blk_far ?_ NB258_271.out _; (with_reducible repeat (first | refine blk_drewN ?_ _ | refine blk_drew ?_ | refine blk_alloc ?_ _)); exact BK258.out⟩, ⟨by (with_reducible repeat (first | refine blk_drewN ?_ _ | refine blk_drew ?_ | refine blk_alloc ?_ _)); refine blk_put (cs := #[.int .i64 t260, .int .i64 t261, .int .i64 t262, .slice none 0 0]) ?_ 3 _ rfl; (with_reducible repeat (first | refine blk_drewN ?_ _ | refine blk_drew ?_ | refine blk_alloc ?_ _)); refine blk_put (cs := #[.int .i64 t260, .int .i64 t261, .int .i64 0, .slice none 0 0]) ?_ 2 _ rfl; (with_reducible repeat (first | refine blk_drewN ?_ _ | refine blk_drew ?_ | refine blk_alloc ?_ _)); refine blk_put (cs := #[.int .i64 t260, .int .i64 0, .int .i64 0, .slice none 0 0]) ?_ 1 _ rfl; (with_reducible repeat (first | refine blk_drewN ?_ _ | refine blk_drew ?_ | refine blk_alloc ?_ _)); refine blk_put (cs := #[.int .i64 0, .int .i64 0, .int .i64 0, .slice none 0 0]) ?_ 0 _ rfl; (with_reducible repeat (first | refine blk_drewN ?_ _ | refine blk_drew ?_ | refine blk_alloc ?_ _)); exact BK271.out⟩, ⟨by repeat (first | (with_reducible first | exact HB.out | apply below_alloc | apply pw_below_drewN | apply below_drew1 | refine below_set ?_ GE258.out | refine below_set ?_ GE271.out) | exact HB.out)⟩⟩
            ·rw [if_neg c62] at H
             have c62b0 : (t269 == 0) = false := beq_eq_false_iff_ne.mpr c62
             have c62b1 : (t269 != 0) = true := bne_iff_ne.mpr c62
             have H' := Aside0.mk H
             clear H
             go_wp2
             go_meet
             case rel => exact ⟨_, (true), (by first | rfl | (simp; done) | (simp [*]; done)), H', ⟨by have := HK1.out; have := HJ7.out; first | omega | exact Nat.le_refl _⟩, ⟨by (with_reducible repeat (first | apply Kd.R_alloc | apply Kd.R_drewN | apply Kd.R_drew)); exact Kd.R_mono (Kd.R_far (p := ⟨gb271, 3, none⟩) (Kd.R_far (p := ⟨gb271, 2, none⟩) (Kd.R_far (p := ⟨gb271, 1, none⟩) (Kd.R_far (p := ⟨gb271, 0, none⟩) (Kd.R_types HO_17.out BK271.out (by decide)) (fun _ hk => hk.2) (.int .i64 t260)) (fun _ hk => hk.2) (.int .i64 t261)) (fun _ hk => hk.2) (.int .i64 t262)) (fun _ hk => hk.2) (.slice Ao59 t263.length co59)) (fun _ hk => hk.1)⟩, ⟨by (with_reducible repeat (first | apply Kd.S_alloc | apply Kd.S_drewN | apply Kd.S_drew)); exact Kd.S_mono (Kd.S_far (p := ⟨gb271, 3, none⟩) (Kd.S_far (p := ⟨gb271, 2, none⟩) (Kd.S_far (p := ⟨gb271, 1, none⟩) (Kd.S_far (p := ⟨gb271, 0, none⟩) (Kd.S_types HO265.out BK271.out (by decide)) (fun _ hk => hk.2) (.int .i64 t260)) (fun _ hk => hk.2) (.int .i64 t261)) (fun _ hk => hk.2) (.int .i64 t262)) (fun _ hk => hk.2) (.slice Ao59 t263.length co59)) (fun _ hk => trivial)⟩, ⟨by (with_reducible repeat (first | refine blk_drewN ?_ _ | refine blk_drew ?_ | refine blk_alloc ?_ _)); refine blk_far ?_ NB258_271.out _; (with_reducible repeat (first | refine blk_drewN ?_ _ | refine blk_drew ?_ | refine blk_alloc ?_ _)); refine blk_far ?_ NB258_271.out _; (with_reducible repeat (first | refine blk_drewN ?_ _ | refine blk_drew ?_ | refine blk_alloc ?_ _)); refine blk_far ?_ NB258_271.out _; (with_reducible repeat (first | refine blk_drewN ?_ _ | refine blk_drew ?_ | refine blk_alloc ?_ _)); refine blk_far ?_ NB258_271.out _; (with_reducible repeat (first | refine blk_drewN ?_ _ | refine blk_drew ?_ | refine blk_alloc ?_ _)); exact BK258.out⟩, ⟨by (with_reducible repeat (first | refine blk_drewN ?_ _ | refine blk_drew ?_ | refine blk_alloc ?_ _)); refine blk_put (cs := #[.int .i64 t260, .int .i64 t261, .int .i64 t262, .slice none 0 0]) ?_ 3 _ rfl; (with_reducible repeat (first | refine blk_drewN ?_ _ | refine blk_drew ?_ | refine blk_alloc ?_ _)); refine blk_put (cs := #[.int .i64 t260, .int .i64 t261, .int .i64 0, .slice none 0 0]) ?_ 2 _ rfl; (with_reducible repeat (first | refine blk_drewN ?_ _ | refine blk_drew ?_ | refine blk_alloc ?_ _)); refine blk_put (cs := #[.int .i64 t260, .int .i64 0, .int .i64 0, .slice none 0 0]) ?_ 1 _ rfl; (with_reducible repeat (first | refine blk_drewN ?_ _ | refine blk_drew ?_ | refine blk_alloc ?_ _)); refine blk_put (cs := #[.int .i64 0, .int .i64 0, .int .i64 0, .slice none 0 0]) ?_ 0 _ rfl; (with_reducible repeat (first | refine blk_drewN ?_ _ | refine blk_drew ?_ | refine blk_alloc ?_ _)); exact BK271.out⟩, ⟨by repeat (first | (with_reducible first | exact HB.out | apply below_alloc | apply pw_below_drewN | apply below_drew1 | refine below_set ?_ GE258.out | refine below_set ?_ GE271.out) | exact HB.out)⟩⟩
           ·rw [if_neg c61] at H
            have c61b0 : (t270 == 0) = false := beq_eq_false_iff_ne.mpr c61
            have c61b1 : (t270 != 0) = true := bne_iff_ne.mpr c61
            (first | rw [c61b0] | (simp only [i64_w, i32_w]; rw [c61b0]) | rw [c61b3] | rw [c61b2] | skip)
            have H' := Aside0.mk H
            clear H
            go_wp2
            go_meet
            case rel => exact ⟨_, (true), (by first | rfl | (simp; done) | (simp [*]; done)), H', ⟨by have := HK1.out; have := HJ7.out; first | omega | exact Nat.le_refl _⟩, ⟨by (with_reducible repeat (first | apply Kd.R_alloc | apply Kd.R_drewN | apply Kd.R_drew)); exact Kd.R_mono (Kd.R_far (p := ⟨gb271, 3, none⟩) (Kd.R_far (p := ⟨gb271, 2, none⟩) (Kd.R_far (p := ⟨gb271, 1, none⟩) (Kd.R_far (p := ⟨gb271, 0, none⟩) (Kd.R_types HO_17.out BK271.out (by decide)) (fun _ hk => hk.2) (.int .i64 t260)) (fun _ hk => hk.2) (.int .i64 t261)) (fun _ hk => hk.2) (.int .i64 t262)) (fun _ hk => hk.2) (.slice Ao59 t263.length co59)) (fun _ hk => hk.1)⟩, ⟨by (with_reducible repeat (first | apply Kd.S_alloc | apply Kd.S_drewN | apply Kd.S_drew)); exact Kd.S_mono (Kd.S_far (p := ⟨gb271, 3, none⟩) (Kd.S_far (p := ⟨gb271, 2, none⟩) (Kd.S_far (p := ⟨gb271, 1, none⟩) (Kd.S_far (p := ⟨gb271, 0, none⟩) (Kd.S_types HO265.out BK271.out (by decide)) (fun _ hk => hk.2) (.int .i64 t260)) (fun _ hk => hk.2) (.int .i64 t261)) (fun _ hk => hk.2) (.int .i64 t262)) (fun _ hk => hk.2) (.slice Ao59 t263.length co59)) (fun _ hk => trivial)⟩, ⟨by (with_reducible repeat (first | refine blk_drewN ?_ _ | refine blk_drew ?_ | refine blk_alloc ?_ _)); refine blk_far ?_ NB258_271.out _; (with_reducible repeat (first | refine blk_drewN ?_ _ | refine blk_drew ?_ | refine blk_alloc ?_ _)); refine blk_far ?_ NB258_271.out _; (with_reducible repeat (first | refine blk_drewN ?_ _ | refine blk_drew ?_ | refine blk_alloc ?_ _)); refine blk_far ?_ NB258_271.out _; (with_reducible repeat (first | refine blk_drewN ?_ _ | refine blk_drew ?_ | refine blk_alloc ?_ _)); refine blk_far ?_ NB258_271.out _; (with_reducible repeat (first | refine blk_drewN ?_ _ | refine blk_drew ?_ | refine blk_alloc ?_ _)); exact BK258.out⟩, ⟨by (with_reducible repeat (first | refine blk_drewN ?_ _ | refine blk_drew ?_ | refine blk_alloc ?_ _)); refine blk_put (cs := #[.int .i64 t260, .int .i64 t261, .int .i64 t262, .slice none 0 0]) ?_ 3 _ rfl; (with_reducible repeat (first | refine blk_drewN ?_ _ | refine blk_drew ?_ | refine blk_alloc ?_ _)); refine blk_put (cs := #[.int .i64 t260, .int .i64 t261, .int .i64 0, .slice none 0 0]) ?_ 2 _ rfl; (with_reducible repeat (first | refine blk_drewN ?_ _ | refine blk_drew ?_ | refine blk_alloc ?_ _)); refine blk_put (cs := #[.int .i64 t260, .int .i64 0, .int .i64 0, .slice none 0 0]) ?_ 1 _ rfl; (with_reducible repeat (first | refine blk_drewN ?_ _ | refine blk_drew ?_ | refine blk_alloc ?_ _)); refine blk_put (cs := #[.int .i64 0, .int .i64 0, .int .i64 0, .slice none 0 0]) ?_ 0 _ rfl; (with_reducible repeat (first | refine blk_drewN ?_ _ | refine blk_drew ?_ | refine blk_alloc ?_ _)); exact BK271.out⟩, ⟨by repeat (first | (with_reducible first | exact HB.out | apply below_alloc | apply pw_below_drewN | apply below_drew1 | refine below_set ?_ GE258.out | refine below_set ?_ GE271.out) | exact HB.out)⟩⟩
          case rest =>
           clear HC52
           try clear c1
           try clear c2
           try clear p2
           try clear q2
           try clear hx2
           try clear c3
           try clear c4
           try clear c5
           try clear c5b0
           try clear c6
           try clear c6b0
           try clear p6
           try clear c7
           try clear c7b0
           try clear c9
           try clear c11
           try clear c11b0
           try clear c11b2
           try clear c12
           try clear c12b0
           try clear c12b1
           try clear c12b2
           try clear c14
           try clear c14b0
           try clear c14b1
           try clear c14b2
           try clear c16
           try clear c16b0
           try clear c17
           try clear c17b0
           try clear c17b1
           try clear c18
           try clear c18b0
           try clear c18b1
           try clear c19
           try clear c19b0
           try clear c19b1
           try clear c19b2
           try clear c24
           try clear p25
           try clear q25
           try clear hx25
           try clear c32
           try clear c40
           try clear c48
           try clear c57
           try clear c61
           try clear c61b0
           try clear c61b1
           try clear c61b2
           try clear c62
           try clear c62b0
           try clear c62b1
           try clear c63
           try clear p64
           try clear hcz10_0
           try clear hcz10_1
           try clear hcz20_0
           try clear hcz20_1
           try clear hcz25_0
           try clear hcz25_1
           try clear hcz25_2
           try clear hcz25_3
           try clear hcz27_0
           try clear hcz27_1
           try clear hcz28_0
           try clear hcz28_1
           try clear hcz33_0
           try clear hcz33_1
           try clear hcz33_2
           try clear hcz33_3
           try clear hcz35_0
           try clear hcz35_1
           try clear hcz36_0
           try clear hcz36_1
           try clear hcz41_0
           try clear hcz41_1
           try clear hcz41_2
           try clear hcz41_3
           try clear hcz43_0
           try clear hcz43_1
           try clear hcz44_0
           try clear hcz44_1
           try clear hcz49_0
           try clear hcz49_1
           try clear hcz49_2
           try clear hcz49_3
           try clear hcz51_0
           try clear hcz51_1
           try clear hcz53_0
           try clear hcz53_1
           try clear hcz58_0
           try clear hcz58_1
           try clear hcz58_2
           try clear hcz58_3
           try clear hcz60_0
           try clear hcz60_1
           try clear hcz64_0
           try clear hcz64_1
           try clear hcz64_2
           try clear hcz64_3
           try clear hfz10_0
           try clear hfz10_1
           try clear hfz20_0
           try clear hfz20_1
           try clear hfz25_0
           try clear hfz25_1
           try clear hfz25_2
           try clear hfz25_3
           try clear hfz27_0
           try clear hfz27_1
           try clear hfz28_0
           try clear hfz28_1
           try clear hfz33_0
           try clear hfz33_1
           try clear hfz33_2
           try clear hfz33_3
           try clear hfz35_0
           try clear hfz35_1
           try clear hfz36_0
           try clear hfz36_1
           try clear hfz41_0
           try clear hfz41_1
           try clear hfz41_2
           try clear hfz41_3
           try clear hfz43_0
           try clear hfz43_1
           try clear hfz44_0
           try clear hfz44_1
           try clear hfz49_0
           try clear hfz49_1
           try clear hfz49_2
           try clear hfz49_3
           try clear hfz51_0
           try clear hfz51_1
           try clear hfz53_0
           try clear hfz53_1
           try clear hfz58_0
           try clear hfz58_1
           try clear hfz58_2
           try clear hfz58_3
           try clear hfz60_0
           try clear hfz60_1
           try clear hfz64_0
           try clear hfz64_1
           try clear hfz64_2
           try clear hfz64_3
           try clear hx257_0
           try clear hx257_1
           try clear p2
           try clear p257
           try clear p6
           try clear q2
           try clear q257
           obtain ⟨kq, x79_51, rfl, HA, HJ51, HO_17, HO_272003, BK258, BK271, HB⟩ := hcut
           cases kq with
           | zero => exact absurd HA.out (by simp [law10_ParseCapacities.j2])
           | succ kj51 =>
            have H := HA.out
            clear HA
            simp only [law10_ParseCapacities.j2] at H
            by_cases c65 : x79_51 = true
            ·subst c65
             have H1 : (some false) = some r := by rw [if_pos rfl] at H; exact H
             clear H
             have H := H1
             clear H1
             obtain rfl := Option.some.inj H
             go_wp2
             go_ret
             exact ⟨by first | rfl | (simp [errW_none, errW_some] <;> rfl) | (simp [*, errW_none, errW_some] <;> rfl), by repeat (first | (with_reducible first | exact HB.out | apply below_alloc | apply pw_below_drewN | apply below_drew1 | refine below_set ?_ GE258.out | refine below_set ?_ GE271.out) | exact HB.out)⟩
            ·replace c65 := Bool.eq_false_iff.mpr c65
             subst c65
             have H1 : (if 0 < (t263.length : Int) then ((some (([(t263.length : Int), (((rd_T47 t263 0).f1).length : Int), (((rd_T47 t263 0).f2).length : Int)] : List Int) : List Int)).bind fun y274 => (if 0 ≤ x19_1 then (if x19_1 < (y274.length : Int) then (if (rd y274 x19_1) = (wrap64 ((wrap64 (((rd_T41 y253 x19_1).f0) - 1)) + (wrap64 (Int.tmod a0 3)))) then (law10_ParseCapacities.l0 kj51 a0 y253 (y253.length : Int) (wrap64 (x19_1 + 1))) else (some false)) else (none)) else (none))) else (none)) = some r := by rw [if_neg (show ¬ (false = true) by decide)] at H; exact H
             clear H
             have H := H1
             clear H1
             by_cases c66 : 0 < (t263.length : Int)
             ·rw [if_pos c66] at H
              have c66b0 : decide (0 < (t263.length : Int)) = true := decide_eq_true c66
              have c66b1 : decide (0 < t263.length) = true := decide_eq_true (by omega)
              clear c66
              obtain ⟨y274, hy274⟩ : ∃ y_ : List Int, y_ = (([(t263.length : Int), (((rd_T47 t263 0).f1).length : Int), (((rd_T47 t263 0).f2).length : Int)] : List Int)) := ⟨_, rfl⟩
              replace H : (if 0 ≤ x19_1 then (if x19_1 < (y274.length : Int) then (if (rd y274 x19_1) = (wrap64 ((wrap64 (((rd_T41 y253 x19_1).f0) - 1)) + (wrap64 (Int.tmod a0 3)))) then (law10_ParseCapacities.l0 kj51 a0 y253 (y253.length : Int) (wrap64 (x19_1 + 1))) else (some false)) else (none)) else (none)) = some r := by first | (rw [hy274]; with_reducible exact H) | (have H2_ := (Option.bind_some _ _).symm.trans H; rw [hy274]; with_reducible exact H2_) | (have H2_ := (Option.bind_some _ _).symm.trans H; with_reducible exact H2_) | with_reducible exact H | (rw [hy274]; exact H) | exact H
              have Ny274 := Aside0.mk hy274
              clear hy274
              by_cases c67 : 0 ≤ x19_1
              ·rw [if_pos c67] at H
               have c67b0 : decide (0 ≤ x19_1) = true := decide_eq_true c67
               clear c67
               by_cases c68 : x19_1 < (y274.length : Int)
               ·rw [if_pos c68] at H
                have c68b0 : decide (x19_1 < (y274.length : Int)) = true := decide_eq_true c68
                clear c68
                by_cases c69 : (rd y274 x19_1) = (wrap64 ((wrap64 (((rd_T41 y253 x19_1).f0) - 1)) + (wrap64 (Int.tmod a0 3))))
                ·rw [if_pos c69] at H
                 have c69b0 : ((rd y274 x19_1) == (wrap64 ((wrap64 (((rd_T41 y253 x19_1).f0) - 1)) + (wrap64 (Int.tmod a0 3))))) = true := beq_iff_eq.mpr c69
                 have c69b1 : ((rd y274 x19_1) != (wrap64 ((wrap64 (((rd_T41 y253 x19_1).f0) - 1)) + (wrap64 (Int.tmod a0 3))))) = false := bne_eq_false_iff_eq.mpr c69
                 clear c69
                 have H' := Aside0.mk H
                 clear H
                 have hnb70 := NB271_258.out
                 have hnc70 := NB258_271.out
                 have hcz71_0 : wc.cell? ⟨gb271, 0, none⟩ = some (.int .i64 t260) := (blk_cell BK271.out 0).trans rfl
                 have hcz71_1 : wc.cell? ⟨gb271, 1, none⟩ = some (.int .i64 t261) := (blk_cell BK271.out 1).trans rfl
                 have hcz71_2 : wc.cell? ⟨gb271, 2, none⟩ = some (.int .i64 t262) := (blk_cell BK271.out 2).trans rfl
                 have hcz71_3 : wc.cell? ⟨gb271, 3, none⟩ = some (.slice Ao59 t263.length co59) := (blk_cell BK271.out 3).trans rfl
                 have hfz71_0 := blk_frozen BK271.out 0
                 have hfz71_1 := blk_frozen BK271.out 1
                 have hfz71_2 := blk_frozen BK271.out 2
                 have hfz71_3 := blk_frozen BK271.out 3
                 have p272 : 0 ≤ (0 : Int) := (by omega)
                 have q272 : 0 < (t263.length : Int) := of_decide_eq_true (by first | (with_reducible assumption) | assumption)
                 obtain ⟨ad272, A272_1, c272_1, A272_2, c272_2, e272, hx272_0, hx272_1, hx272_2, hx272_3, hl272_1, hi272_1, hl272_2, hi272_2⟩ := at_T47 (Kd.S_reads' HO_272003.out).2.2 0 p272 q272
                 cases e272
                 obtain ⟨ce272, hce272, hMe272, hcc272⟩ := Kd.S_get HO_272003.out z47 0 p272 (by first | exact q272 | exact of_decide_eq_true (by first | (with_reducible assumption) | assumption) | (have e_ := (Kd.S_reads' HO_272003.out).1; omega))
                 obtain ⟨ve272_1, ve272_2, rfl, ge272_1, ge272_2⟩ := k47_openM hMe272
                 have hv272_1 := hcc272 1 _ rfl
                 rw [add_field _ _ 1 (by omega)] at hv272_1
                 replace hv272_1 := Option.some.inj (hv272_1.symm.trans hx272_1)
                 rw [hv272_1] at ge272_1
                 have HL272_1 := Aside0.mk (show Kd.R k60 60 _ _ _ _ ((rd_T47 t263 0).f1) from ge272_1)
                 clear hv272_1 ge272_1
                 have hv272_2 := hcc272 2 _ rfl
                 rw [add_field _ _ 2 (by omega)] at hv272_2
                 replace hv272_2 := Option.some.inj (hv272_2.symm.trans hx272_2)
                 rw [hv272_2] at ge272_2
                 have HL272_2 := Aside0.mk (show Kd.R k87 87 _ _ _ _ ((rd_T47 t263 0).f2) from ge272_2)
                 clear hv272_2 ge272_2
                 clear hcc272 hce272
                 have qi272 : (0 < t263.length) = True := eq_true (by omega)
                 (try rw [show ((0 : Int)).toNat = 0 from rfl] at hx272_0)
                 (try rw [show 0 * 4 = 0 from rfl] at hx272_0)
                 (try rw [Addr.add_zero'] at hx272_0)
                 (try rw [show ((0 : Int)).toNat = 0 from rfl] at hx272_1)
                 (try rw [show 0 * 4 = 0 from rfl] at hx272_1)
                 (try rw [Addr.add_zero'] at hx272_1)
                 (try rw [show ((0 : Int)).toNat = 0 from rfl] at hx272_2)
                 (try rw [show 0 * 4 = 0 from rfl] at hx272_2)
                 (try rw [Addr.add_zero'] at hx272_2)
                 (try rw [show ((0 : Int)).toNat = 0 from rfl] at hx272_3)
                 (try rw [show 0 * 4 = 0 from rfl] at hx272_3)
                 (try rw [Addr.add_zero'] at hx272_3)
                 have HR272_1 := Aside0.mk hi272_1
                 have HC272_1 := Aside0.mk hl272_1
                 clear hi272_1 hl272_1
                 have HR272_2 := Aside0.mk hi272_2
                 have HC272_2 := Aside0.mk hl272_2
                 clear hi272_2 hl272_2
                 replace p272 := eq_true p272
                 replace q272 := eq_true q272
                 go_wp2_with (first | ((with_reducible refine gate_dst (N := 12) rfl ?_); (try (refine gate_guard (by rfl) ?_; dsimp only)); refine box_event ?hg (N := 12) ?hd (cs := #[.string (⟨#[]⟩ : ByteArray), .slice none 0 0, .slice none 0 0, .string (⟨#[]⟩ : ByteArray)]) (t := 47) ?hr ?_; (case hd => rfl); (case hg => rfl); (case hr => first | (go_simp; done) | (go_simp; rfl)); intro gb273 hg w72 hbox hb; have n0_ := Aside0.mk (Kd.R_below (by (with_reducible repeat (first | apply Kd.R_alloc | apply Kd.R_drewN | apply Kd.R_drew)); exact HO_17.out) hb); have n1_ := Aside0.mk (Kd.S_below (Kd.S_elderB (by (with_reducible repeat (first | apply Kd.S_alloc | apply Kd.S_drewN | apply Kd.S_drew)); exact HO_272003.out) gb273 (Nat.le_of_eq hg.symm)) hb); have n2_ := Aside0.mk (Kd.R_below (by (with_reducible repeat (first | apply Kd.R_alloc | apply Kd.R_drewN | apply Kd.R_drew)); exact HL272_1.out) hb); have n3_ := Aside0.mk (Kd.R_below (by (with_reducible repeat (first | apply Kd.R_alloc | apply Kd.R_drewN | apply Kd.R_drew)); exact HL272_2.out) hb); have n4_ := Aside0.mk (blk_below (g := gb258) (o := .cells #[.int .i64 ((rd_T41 y253 x19_1).f0), .string ((rd_T41 y253 x19_1).f1)] 41 (0, 0)) (by (with_reducible repeat (first | refine blk_drewN ?_ _ | refine blk_drew ?_ | refine blk_alloc ?_ _)); exact BK258.out) hb); have n5_ := Aside0.mk (blk_below (g := gb271) (o := .cells #[.int .i64 t260, .int .i64 t261, .int .i64 t262, .slice (some ad272) t263.length co59] 25 (0, 0)) (by (with_reducible repeat (first | refine blk_drewN ?_ _ | refine blk_drew ?_ | refine blk_alloc ?_ _)); exact BK271.out) hb); have n6_ := Aside0.mk (Kd.C_below (by repeat (first | (with_reducible exact HR272_1.out) | (with_reducible refine Kd.C_alloc ?_ _) | (with_reducible refine Kd.C_drewN ?_ _) | (with_reducible refine Kd.C_drew ?_) | exact HR272_1.out)) hb); have n7_ := Aside0.mk (Kd.C_below (by repeat (first | (with_reducible exact HR272_2.out) | (with_reducible refine Kd.C_alloc ?_ _) | (with_reducible refine Kd.C_drewN ?_ _) | (with_reducible refine Kd.C_drew ?_) | exact HR272_2.out)) hb); have n8_ := Aside0.mk (below_step (by repeat (first | (with_reducible first | exact HB.out | apply below_alloc | apply pw_below_drewN | apply below_drew1 | refine below_set ?_ GE258.out | refine below_set ?_ GE271.out) | exact HB.out)) hb); have n9_ := Aside0.mk (hbox); have n10_ := Aside0.mk ((by rw [hg]; exact (below_size (by repeat (first | (with_reducible first | exact HB.out | apply below_alloc | apply pw_below_drewN | apply below_drew1 | refine below_set ?_ GE258.out | refine below_set ?_ GE271.out) | exact HB.out))) : w.heap.size ≤ gb273)); have n11_ := Aside0.mk ((by rw [hg]; exact (below_size (by repeat (first | (with_reducible first | exact HB.out | apply below_alloc | apply pw_below_drewN | apply below_drew1 | refine below_set ?_ GE258.out | refine below_set ?_ GE271.out) | exact HB.out))) : w.heap.size ≤ gb273)); have n12_ := Aside0.mk ((by rw [hg]; exact Nat.ne_of_lt (blk_lt (g := gb258) (o := .cells #[.int .i64 ((rd_T41 y253 x19_1).f0), .string ((rd_T41 y253 x19_1).f1)] 41 (0, 0)) (by (with_reducible repeat (first | refine blk_drewN ?_ _ | refine blk_drew ?_ | refine blk_alloc ?_ _)); exact BK258.out)) : gb258 ≠ gb273)); have n13_ := Aside0.mk ((by rw [hg]; exact Nat.ne_of_gt (blk_lt (g := gb258) (o := .cells #[.int .i64 ((rd_T41 y253 x19_1).f0), .string ((rd_T41 y253 x19_1).f1)] 41 (0, 0)) (by (with_reducible repeat (first | refine blk_drewN ?_ _ | refine blk_drew ?_ | refine blk_alloc ?_ _)); exact BK258.out)) : gb273 ≠ gb258)); have n14_ := Aside0.mk ((by rw [hg]; exact Nat.ne_of_lt (blk_lt (g := gb271) (o := .cells #[.int .i64 t260, .int .i64 t261, .int .i64 t262, .slice (some ad272) t263.length co59] 25 (0, 0)) (by (with_reducible repeat (first | refine blk_drewN ?_ _ | refine blk_drew ?_ | refine blk_alloc ?_ _)); exact BK271.out)) : gb271 ≠ gb273)); have n15_ := Aside0.mk ((by rw [hg]; exact Nat.ne_of_gt (blk_lt (g := gb271) (o := .cells #[.int .i64 t260, .int .i64 t261, .int .i64 t262, .slice (some ad272) t263.length co59] 25 (0, 0)) (by (with_reducible repeat (first | refine blk_drewN ?_ _ | refine blk_drew ?_ | refine blk_alloc ?_ _)); exact BK271.out)) : gb273 ≠ gb271)); clear HO_17; clear HO_272003; clear HL272_1; clear HL272_2; clear BK258; clear BK271; clear HR272_1; clear HR272_2; clear HB; have HO_17 := n0_; have HO_272003 := n1_; have HL272_1 := n2_; have HL272_2 := n3_; have BK258 := n4_; have BK271 := n5_; have HR272_1 := n6_; have HR272_2 := n7_; have HB := n8_; have BK273 := n9_; have GW273 := n10_; have GE273 := n11_; have NB258_273 := n12_; have NB273_258 := n13_; have NB271_273 := n14_; have NB273_271 := n15_; clear n0_ n1_ n2_ n3_ n4_ n5_ n6_ n7_ n8_ n9_ n10_ n11_ n12_ n13_ n14_ n15_; clear hb hbox hg; have hnb73 := NB273_258.out; have hnc73 := NB258_273.out; have hnb74 := NB273_271.out; have hnc74 := NB271_273.out; have hcz75_0 : w72.cell? ⟨gb273, 0, none⟩ = some (.string (⟨#[]⟩ : ByteArray)) := (blk_cell BK273.out 0).trans rfl; have hcz75_1 : w72.cell? ⟨gb273, 1, none⟩ = some (.slice none 0 0) := (blk_cell BK273.out 1).trans rfl; have hcz75_2 : w72.cell? ⟨gb273, 2, none⟩ = some (.slice none 0 0) := (blk_cell BK273.out 2).trans rfl; have hcz75_3 : w72.cell? ⟨gb273, 3, none⟩ = some (.string (⟨#[]⟩ : ByteArray)) := (blk_cell BK273.out 3).trans rfl; have hfz75_0 := blk_frozen BK273.out 0; have hfz75_1 := blk_frozen BK273.out 1; have hfz75_2 := blk_frozen BK273.out 2; have hfz75_3 := blk_frozen BK273.out 3; have hcz76_0 : w72.cell? ⟨gb271, 0, none⟩ = some (.int .i64 t260) := (blk_cell BK271.out 0).trans rfl; have hcz76_1 : w72.cell? ⟨gb271, 1, none⟩ = some (.int .i64 t261) := (blk_cell BK271.out 1).trans rfl; have hcz76_2 : w72.cell? ⟨gb271, 2, none⟩ = some (.int .i64 t262) := (blk_cell BK271.out 2).trans rfl; have hcz76_3 : w72.cell? ⟨gb271, 3, none⟩ = some (.slice (some ad272) t263.length co59) := (blk_cell BK271.out 3).trans rfl; have hfz76_0 := blk_frozen BK271.out 0; have hfz76_1 := blk_frozen BK271.out 1; have hfz76_2 := blk_frozen BK271.out 2; have hfz76_3 := blk_frozen BK271.out 3) | ((with_reducible refine gate_dst (N := 93) rfl ?_); (try (refine gate_guard (by rfl) ?_; dsimp only)); refine Kd.R_lit (Kd.int .i64) _ 3 ?hg (N := 93) ?hd (xs := ([(t263.length : Int), (((rd_T47 t263 0).f1).length : Int), (((rd_T47 t263 0).f2).length : Int)] : List Int)) (inner := [.int .i64 (t263.length : Int), .int .i64 (((rd_T47 t263 0).f1).length : Int), .int .i64 (((rd_T47 t263 0).f2).length : Int)]) (ok := fun _ => True) (okp := fun _ => True) ?hr ?hp (fun _ hk => hk) trivial (Below.refl _ _) (Nat.le_refl _) (by simp) ?_; (case hd => rfl); (case hg => rfl); (case hr => first | (go_simp; done) | (go_simp; rfl)); (case hp => exact (Reps.one (show Kd.M (Kd.int .i64) _ _ _ (t263.length : Int) [.int .i64 (t263.length : Int)] from rfl) (Reps.one (show Kd.M (Kd.int .i64) _ _ _ (((rd_T47 t263 0).f1).length : Int) [.int .i64 (((rd_T47 t263 0).f1).length : Int)] from rfl) (Reps.one (show Kd.M (Kd.int .i64) _ _ _ (((rd_T47 t263 0).f2).length : Int) [.int .i64 (((rd_T47 t263 0).f2).length : Int)] from rfl) (Reps.none _ _))))); intro v275 w77 ho78 hb hg_ hnew_; clear hg_ hnew_; (first | rw [← Ny274.out] at ho78 | (simp only [Int.reduceToNat] at ho78; rw [← Ny274.out] at ho78)); have n0_ := Aside0.mk (Kd.R_below (by (with_reducible repeat (first | apply Kd.R_alloc | apply Kd.R_drewN | apply Kd.R_drew)); exact (Kd.R_mono (Kd.R_far (p := ⟨gb273, 3, none⟩) (Kd.R_far (p := ⟨gb273, 2, none⟩) (Kd.R_far (p := ⟨gb273, 1, none⟩) (Kd.R_far (p := ⟨gb273, 0, none⟩) (Kd.R_types HO_17.out BK273.out (by decide)) (fun _ hk => hk.2) (.string ((rd_T47 t263 0).f0))) (fun _ hk => hk.2) (.slice A272_1 ((rd_T47 t263 0).f1).length c272_1)) (fun _ hk => hk.2) (.slice A272_2 ((rd_T47 t263 0).f2).length c272_2)) (fun _ hk => hk.2) (.string ((rd_T47 t263 0).f3))) (fun _ h_ => h_.1))) hb); have n1_ := Aside0.mk (Kd.S_below (by (with_reducible repeat (first | apply Kd.S_alloc | apply Kd.S_drewN | apply Kd.S_drew)); exact (Kd.S_mono (Kd.S_far (p := ⟨gb273, 3, none⟩) (Kd.S_far (p := ⟨gb273, 2, none⟩) (Kd.S_far (p := ⟨gb273, 1, none⟩) (Kd.S_far (p := ⟨gb273, 0, none⟩) (Kd.S_mono HO_272003.out (fun k_ hk => (⟨hk, hk.2⟩ : _ ∧ k_ ≠ gb273))) (fun _ hk => hk.2) (.string ((rd_T47 t263 0).f0))) (fun _ hk => hk.2) (.slice A272_1 ((rd_T47 t263 0).f1).length c272_1)) (fun _ hk => hk.2) (.slice A272_2 ((rd_T47 t263 0).f2).length c272_2)) (fun _ hk => hk.2) (.string ((rd_T47 t263 0).f3))) (fun _ h_ => h_.1))) hb); have n2_ := Aside0.mk (Kd.R_below (by (with_reducible repeat (first | apply Kd.R_alloc | apply Kd.R_drewN | apply Kd.R_drew)); exact (Kd.R_mono (Kd.R_far (p := ⟨gb273, 3, none⟩) (Kd.R_far (p := ⟨gb273, 2, none⟩) (Kd.R_far (p := ⟨gb273, 1, none⟩) (Kd.R_far (p := ⟨gb273, 0, none⟩) (Kd.R_types HL272_1.out BK273.out (by decide)) (fun _ hk => hk.2) (.string ((rd_T47 t263 0).f0))) (fun _ hk => hk.2) (.slice A272_1 ((rd_T47 t263 0).f1).length c272_1)) (fun _ hk => hk.2) (.slice A272_2 ((rd_T47 t263 0).f2).length c272_2)) (fun _ hk => hk.2) (.string ((rd_T47 t263 0).f3))) (fun _ h_ => h_.1))) hb); have n3_ := Aside0.mk (Kd.R_below (by (with_reducible repeat (first | apply Kd.R_alloc | apply Kd.R_drewN | apply Kd.R_drew)); exact (Kd.R_mono (Kd.R_far (p := ⟨gb273, 3, none⟩) (Kd.R_far (p := ⟨gb273, 2, none⟩) (Kd.R_far (p := ⟨gb273, 1, none⟩) (Kd.R_far (p := ⟨gb273, 0, none⟩) (Kd.R_types HL272_2.out BK273.out (by decide)) (fun _ hk => hk.2) (.string ((rd_T47 t263 0).f0))) (fun _ hk => hk.2) (.slice A272_1 ((rd_T47 t263 0).f1).length c272_1)) (fun _ hk => hk.2) (.slice A272_2 ((rd_T47 t263 0).f2).length c272_2)) (fun _ hk => hk.2) (.string ((rd_T47 t263 0).f3))) (fun _ h_ => h_.1))) hb); have n4_ := Aside0.mk (Kd.R_lower ho78 (below_size (by repeat (first | (with_reducible first | exact HB.out | apply below_alloc | apply pw_below_drewN | apply below_drew1 | refine below_set ?_ GE258.out | refine below_set ?_ GE271.out | refine below_set ?_ GE273.out) | exact HB.out)))); have n5_ := Aside0.mk (blk_below (g := gb258) (o := .cells #[.int .i64 ((rd_T41 y253 x19_1).f0), .string ((rd_T41 y253 x19_1).f1)] 41 (0, 0)) (by (with_reducible repeat (first | refine blk_drewN ?_ _ | refine blk_drew ?_ | refine blk_alloc ?_ _)); refine blk_far ?_ NB258_273.out _; (with_reducible repeat (first | refine blk_drewN ?_ _ | refine blk_drew ?_ | refine blk_alloc ?_ _)); refine blk_far ?_ NB258_273.out _; (with_reducible repeat (first | refine blk_drewN ?_ _ | refine blk_drew ?_ | refine blk_alloc ?_ _)); refine blk_far ?_ NB258_273.out _; (with_reducible repeat (first | refine blk_drewN ?_ _ | refine blk_drew ?_ | refine blk_alloc ?_ _)); refine blk_far ?_ NB258_273.out _; (with_reducible repeat (first | refine blk_drewN ?_ _ | refine blk_drew ?_ | refine blk_alloc ?_ _)); exact BK258.out) hb); have n6_ := Aside0.mk (blk_below (g := gb271) (o := .cells #[.int .i64 t260, .int .i64 t261, .int .i64 t262, .slice (some ad272) t263.length co59] 25 (0, 0)) (by (with_reducible repeat (first | refine blk_drewN ?_ _ | refine blk_drew ?_ | refine blk_alloc ?_ _)); refine blk_far ?_ NB271_273.out _; (with_reducible repeat (first | refine blk_drewN ?_ _ | refine blk_drew ?_ | refine blk_alloc ?_ _)); refine blk_far ?_ NB271_273.out _; (with_reducible repeat (first | refine blk_drewN ?_ _ | refine blk_drew ?_ | refine blk_alloc ?_ _)); refine blk_far ?_ NB271_273.out _; (with_reducible repeat (first | refine blk_drewN ?_ _ | refine blk_drew ?_ | refine blk_alloc ?_ _)); refine blk_far ?_ NB271_273.out _; (with_reducible repeat (first | refine blk_drewN ?_ _ | refine blk_drew ?_ | refine blk_alloc ?_ _)); exact BK271.out) hb); have n7_ := Aside0.mk (Kd.C_below ((Kd.R_reads' (by (with_reducible repeat (first | apply Kd.R_alloc | apply Kd.R_drewN | apply Kd.R_drew)); exact (Kd.R_mono (Kd.R_far (p := ⟨gb273, 3, none⟩) (Kd.R_far (p := ⟨gb273, 2, none⟩) (Kd.R_far (p := ⟨gb273, 1, none⟩) (Kd.R_far (p := ⟨gb273, 0, none⟩) (Kd.R_types HL272_1.out BK273.out (by decide)) (fun _ hk => hk.2) (.string ((rd_T47 t263 0).f0))) (fun _ hk => hk.2) (.slice A272_1 ((rd_T47 t263 0).f1).length c272_1)) (fun _ hk => hk.2) (.slice A272_2 ((rd_T47 t263 0).f2).length c272_2)) (fun _ hk => hk.2) (.string ((rd_T47 t263 0).f3))) (fun _ h_ => h_.1)))).2.2) hb); have n8_ := Aside0.mk (Kd.C_below ((Kd.R_reads' (by (with_reducible repeat (first | apply Kd.R_alloc | apply Kd.R_drewN | apply Kd.R_drew)); exact (Kd.R_mono (Kd.R_far (p := ⟨gb273, 3, none⟩) (Kd.R_far (p := ⟨gb273, 2, none⟩) (Kd.R_far (p := ⟨gb273, 1, none⟩) (Kd.R_far (p := ⟨gb273, 0, none⟩) (Kd.R_types HL272_2.out BK273.out (by decide)) (fun _ hk => hk.2) (.string ((rd_T47 t263 0).f0))) (fun _ hk => hk.2) (.slice A272_1 ((rd_T47 t263 0).f1).length c272_1)) (fun _ hk => hk.2) (.slice A272_2 ((rd_T47 t263 0).f2).length c272_2)) (fun _ hk => hk.2) (.string ((rd_T47 t263 0).f3))) (fun _ h_ => h_.1)))).2.2) hb); have n9_ := Aside0.mk (blk_below (g := gb273) (o := .cells #[.string ((rd_T47 t263 0).f0), .slice A272_1 ((rd_T47 t263 0).f1).length c272_1, .slice A272_2 ((rd_T47 t263 0).f2).length c272_2, .string ((rd_T47 t263 0).f3)] 47 (0, 0)) (by (with_reducible repeat (first | refine blk_drewN ?_ _ | refine blk_drew ?_ | refine blk_alloc ?_ _)); refine blk_put (cs := #[.string ((rd_T47 t263 0).f0), .slice A272_1 ((rd_T47 t263 0).f1).length c272_1, .slice A272_2 ((rd_T47 t263 0).f2).length c272_2, .string (⟨#[]⟩ : ByteArray)]) ?_ 3 _ rfl; (with_reducible repeat (first | refine blk_drewN ?_ _ | refine blk_drew ?_ | refine blk_alloc ?_ _)); refine blk_put (cs := #[.string ((rd_T47 t263 0).f0), .slice A272_1 ((rd_T47 t263 0).f1).length c272_1, .slice none 0 0, .string (⟨#[]⟩ : ByteArray)]) ?_ 2 _ rfl; (with_reducible repeat (first | refine blk_drewN ?_ _ | refine blk_drew ?_ | refine blk_alloc ?_ _)); refine blk_put (cs := #[.string ((rd_T47 t263 0).f0), .slice none 0 0, .slice none 0 0, .string (⟨#[]⟩ : ByteArray)]) ?_ 1 _ rfl; (with_reducible repeat (first | refine blk_drewN ?_ _ | refine blk_drew ?_ | refine blk_alloc ?_ _)); refine blk_put (cs := #[.string (⟨#[]⟩ : ByteArray), .slice none 0 0, .slice none 0 0, .string (⟨#[]⟩ : ByteArray)]) ?_ 0 _ rfl; (with_reducible repeat (first | refine blk_drewN ?_ _ | refine blk_drew ?_ | refine blk_alloc ?_ _)); exact BK273.out) hb); have n10_ := Aside0.mk (below_step (by repeat (first | (with_reducible first | exact HB.out | apply below_alloc | apply pw_below_drewN | apply below_drew1 | refine below_set ?_ GE258.out | refine below_set ?_ GE271.out | refine below_set ?_ GE273.out) | exact HB.out)) hb); clear HO_17; clear HO_272003; clear HL272_1; clear HL272_2; clear BK258; clear BK271; clear HR272_1; clear HR272_2; clear BK273; clear HB; have HO_17 := n0_; have HO_272003 := n1_; have HL272_1 := n2_; have HL272_2 := n3_; have HO276 := n4_; have BK258 := n5_; have BK271 := n6_; have HR272_1 := n7_; have HR272_2 := n8_; have BK273 := n9_; have HB := n10_; clear n0_ n1_ n2_ n3_ n4_ n5_ n6_ n7_ n8_ n9_ n10_; clear hb ho78; obtain ⟨Ao79, co79, eo79⟩ := Kd.R_slice HO276.out; subst eo79; have p277 : 0 ≤ (x19_1 : Int) := of_decide_eq_true (by first | (with_reducible assumption) | assumption); have q277 : x19_1 < (y274.length : Int) := of_decide_eq_true (by first | (with_reducible assumption) | assumption); obtain ⟨ad277, e277, hx277_0⟩ := Kd.at_int (Kd.R_reads' HO276.out).2.2 x19_1 p277 q277; cases e277; replace p277 := eq_true p277; replace q277 := eq_true q277))
                 go_roundg kj51
                 case measure => have := HK1.out; have := HJ7.out; have := HJ51.out; omega
                 case rel => exact ⟨(wrap64 (x19_1 + 1)), (by first | rfl | (simp; done) | (simp [*]; done)), H', ⟨by have := HK1.out; have := HJ7.out; have := HJ51.out; omega⟩, ⟨by (with_reducible repeat (first | apply Kd.R_alloc | apply Kd.R_drewN | apply Kd.R_drew)); exact Kd.R_mono HO_17.out (fun _ hk => trivial)⟩, ⟨by repeat (first | (with_reducible first | exact HB.out | apply below_alloc | apply pw_below_drewN | apply below_drew1 | refine below_set ?_ GE258.out | refine below_set ?_ GE271.out | refine below_set ?_ GE273.out) | exact HB.out)⟩⟩
                ·rw [if_neg c69] at H
                 have c69b0 : ((rd y274 x19_1) == (wrap64 ((wrap64 (((rd_T41 y253 x19_1).f0) - 1)) + (wrap64 (Int.tmod a0 3))))) = false := beq_eq_false_iff_ne.mpr c69
                 have c69b1 : ((rd y274 x19_1) != (wrap64 ((wrap64 (((rd_T41 y253 x19_1).f0) - 1)) + (wrap64 (Int.tmod a0 3))))) = true := bne_iff_ne.mpr c69
                 obtain rfl := Option.some.inj H
                 have hnb80 := NB271_258.out
                 have hnc80 := NB258_271.out
                 have hcz81_0 : wc.cell? ⟨gb271, 0, none⟩ = some (.int .i64 t260) := (blk_cell BK271.out 0).trans rfl
                 have hcz81_1 : wc.cell? ⟨gb271, 1, none⟩ = some (.int .i64 t261) := (blk_cell BK271.out 1).trans rfl
                 have hcz81_2 : wc.cell? ⟨gb271, 2, none⟩ = some (.int .i64 t262) := (blk_cell BK271.out 2).trans rfl
                 have hcz81_3 : wc.cell? ⟨gb271, 3, none⟩ = some (.slice Ao59 t263.length co59) := (blk_cell BK271.out 3).trans rfl
                 have hfz81_0 := blk_frozen BK271.out 0
                 have hfz81_1 := blk_frozen BK271.out 1
                 have hfz81_2 := blk_frozen BK271.out 2
                 have hfz81_3 := blk_frozen BK271.out 3
                 have p272 : 0 ≤ (0 : Int) := (by omega)
                 have q272 : 0 < (t263.length : Int) := of_decide_eq_true (by first | (with_reducible assumption) | assumption)
                 obtain ⟨ad272, A272_1, c272_1, A272_2, c272_2, e272, hx272_0, hx272_1, hx272_2, hx272_3, hl272_1, hi272_1, hl272_2, hi272_2⟩ := at_T47 (Kd.S_reads' HO_272003.out).2.2 0 p272 q272
                 cases e272
                 obtain ⟨ce272, hce272, hMe272, hcc272⟩ := Kd.S_get HO_272003.out z47 0 p272 (by first | exact q272 | exact of_decide_eq_true (by first | (with_reducible assumption) | assumption) | (have e_ := (Kd.S_reads' HO_272003.out).1; omega))
                 obtain ⟨ve272_1, ve272_2, rfl, ge272_1, ge272_2⟩ := k47_openM hMe272
                 have hv272_1 := hcc272 1 _ rfl
                 rw [add_field _ _ 1 (by omega)] at hv272_1
                 replace hv272_1 := Option.some.inj (hv272_1.symm.trans hx272_1)
                 rw [hv272_1] at ge272_1
                 have HL272_1 := Aside0.mk (show Kd.R k60 60 _ _ _ _ ((rd_T47 t263 0).f1) from ge272_1)
                 clear hv272_1 ge272_1
                 have hv272_2 := hcc272 2 _ rfl
                 rw [add_field _ _ 2 (by omega)] at hv272_2
                 replace hv272_2 := Option.some.inj (hv272_2.symm.trans hx272_2)
                 rw [hv272_2] at ge272_2
                 have HL272_2 := Aside0.mk (show Kd.R k87 87 _ _ _ _ ((rd_T47 t263 0).f2) from ge272_2)
                 clear hv272_2 ge272_2
                 clear hcc272 hce272
                 have qi272 : (0 < t263.length) = True := eq_true (by omega)
                 (try rw [show ((0 : Int)).toNat = 0 from rfl] at hx272_0)
                 (try rw [show 0 * 4 = 0 from rfl] at hx272_0)
                 (try rw [Addr.add_zero'] at hx272_0)
                 (try rw [show ((0 : Int)).toNat = 0 from rfl] at hx272_1)
                 (try rw [show 0 * 4 = 0 from rfl] at hx272_1)
                 (try rw [Addr.add_zero'] at hx272_1)
                 (try rw [show ((0 : Int)).toNat = 0 from rfl] at hx272_2)
                 (try rw [show 0 * 4 = 0 from rfl] at hx272_2)
                 (try rw [Addr.add_zero'] at hx272_2)
                 (try rw [show ((0 : Int)).toNat = 0 from rfl] at hx272_3)
                 (try rw [show 0 * 4 = 0 from rfl] at hx272_3)
                 (try rw [Addr.add_zero'] at hx272_3)
                 have HR272_1 := Aside0.mk hi272_1
                 have HC272_1 := Aside0.mk hl272_1
                 clear hi272_1 hl272_1
                 have HR272_2 := Aside0.mk hi272_2
                 have HC272_2 := Aside0.mk hl272_2
                 clear hi272_2 hl272_2
                 replace p272 := eq_true p272
                 replace q272 := eq_true q272
                 go_wp2_with (first | ((with_reducible refine gate_dst (N := 12) rfl ?_); (try (refine gate_guard (by rfl) ?_; dsimp only)); refine box_event ?hg (N := 12) ?hd (cs := #[.string (⟨#[]⟩ : ByteArray), .slice none 0 0, .slice none 0 0, .string (⟨#[]⟩ : ByteArray)]) (t := 47) ?hr ?_; (case hd => rfl); (case hg => rfl); (case hr => first | (go_simp; done) | (go_simp; rfl)); intro gb273 hg w82 hbox hb; have n0_ := Aside0.mk (Kd.R_below (by (with_reducible repeat (first | apply Kd.R_alloc | apply Kd.R_drewN | apply Kd.R_drew)); exact HO_17.out) hb); have n1_ := Aside0.mk (Kd.S_below (Kd.S_elderB (by (with_reducible repeat (first | apply Kd.S_alloc | apply Kd.S_drewN | apply Kd.S_drew)); exact HO_272003.out) gb273 (Nat.le_of_eq hg.symm)) hb); have n2_ := Aside0.mk (Kd.R_below (by (with_reducible repeat (first | apply Kd.R_alloc | apply Kd.R_drewN | apply Kd.R_drew)); exact HL272_1.out) hb); have n3_ := Aside0.mk (Kd.R_below (by (with_reducible repeat (first | apply Kd.R_alloc | apply Kd.R_drewN | apply Kd.R_drew)); exact HL272_2.out) hb); have n4_ := Aside0.mk (blk_below (g := gb258) (o := .cells #[.int .i64 ((rd_T41 y253 x19_1).f0), .string ((rd_T41 y253 x19_1).f1)] 41 (0, 0)) (by (with_reducible repeat (first | refine blk_drewN ?_ _ | refine blk_drew ?_ | refine blk_alloc ?_ _)); exact BK258.out) hb); have n5_ := Aside0.mk (blk_below (g := gb271) (o := .cells #[.int .i64 t260, .int .i64 t261, .int .i64 t262, .slice (some ad272) t263.length co59] 25 (0, 0)) (by (with_reducible repeat (first | refine blk_drewN ?_ _ | refine blk_drew ?_ | refine blk_alloc ?_ _)); exact BK271.out) hb); have n6_ := Aside0.mk (Kd.C_below (by repeat (first | (with_reducible exact HR272_1.out) | (with_reducible refine Kd.C_alloc ?_ _) | (with_reducible refine Kd.C_drewN ?_ _) | (with_reducible refine Kd.C_drew ?_) | exact HR272_1.out)) hb); have n7_ := Aside0.mk (Kd.C_below (by repeat (first | (with_reducible exact HR272_2.out) | (with_reducible refine Kd.C_alloc ?_ _) | (with_reducible refine Kd.C_drewN ?_ _) | (with_reducible refine Kd.C_drew ?_) | exact HR272_2.out)) hb); have n8_ := Aside0.mk (below_step (by repeat (first | (with_reducible first | exact HB.out | apply below_alloc | apply pw_below_drewN | apply below_drew1 | refine below_set ?_ GE258.out | refine below_set ?_ GE271.out) | exact HB.out)) hb); have n9_ := Aside0.mk (hbox); have n10_ := Aside0.mk ((by rw [hg]; exact (below_size (by repeat (first | (with_reducible first | exact HB.out | apply below_alloc | apply pw_below_drewN | apply below_drew1 | refine below_set ?_ GE258.out | refine below_set ?_ GE271.out) | exact HB.out))) : w.heap.size ≤ gb273)); have n11_ := Aside0.mk ((by rw [hg]; exact (below_size (by repeat (first | (with_reducible first | exact HB.out | apply below_alloc | apply pw_below_drewN | apply below_drew1 | refine below_set ?_ GE258.out | refine below_set ?_ GE271.out) | exact HB.out))) : w.heap.size ≤ gb273)); have n12_ := Aside0.mk ((by rw [hg]; exact Nat.ne_of_lt (blk_lt (g := gb258) (o := .cells #[.int .i64 ((rd_T41 y253 x19_1).f0), .string ((rd_T41 y253 x19_1).f1)] 41 (0, 0)) (by (with_reducible repeat (first | refine blk_drewN ?_ _ | refine blk_drew ?_ | refine blk_alloc ?_ _)); exact BK258.out)) : gb258 ≠ gb273)); have n13_ := Aside0.mk ((by rw [hg]; exact Nat.ne_of_gt (blk_lt (g := gb258) (o := .cells #[.int .i64 ((rd_T41 y253 x19_1).f0), .string ((rd_T41 y253 x19_1).f1)] 41 (0, 0)) (by (with_reducible repeat (first | refine blk_drewN ?_ _ | refine blk_drew ?_ | refine blk_alloc ?_ _)); exact BK258.out)) : gb273 ≠ gb258)); have n14_ := Aside0.mk ((by rw [hg]; exact Nat.ne_of_lt (blk_lt (g := gb271) (o := .cells #[.int .i64 t260, .int .i64 t261, .int .i64 t262, .slice (some ad272) t263.length co59] 25 (0, 0)) (by (with_reducible repeat (first | refine blk_drewN ?_ _ | refine blk_drew ?_ | refine blk_alloc ?_ _)); exact BK271.out)) : gb271 ≠ gb273)); have n15_ := Aside0.mk ((by rw [hg]; exact Nat.ne_of_gt (blk_lt (g := gb271) (o := .cells #[.int .i64 t260, .int .i64 t261, .int .i64 t262, .slice (some ad272) t263.length co59] 25 (0, 0)) (by (with_reducible repeat (first | refine blk_drewN ?_ _ | refine blk_drew ?_ | refine blk_alloc ?_ _)); exact BK271.out)) : gb273 ≠ gb271)); clear HO_17; clear HO_272003; clear HL272_1; clear HL272_2; clear BK258; clear BK271; clear HR272_1; clear HR272_2; clear HB; have HO_17 := n0_; have HO_272003 := n1_; have HL272_1 := n2_; have HL272_2 := n3_; have BK258 := n4_; have BK271 := n5_; have HR272_1 := n6_; have HR272_2 := n7_; have HB := n8_; have BK273 := n9_; have GW273 := n10_; have GE273 := n11_; have NB258_273 := n12_; have NB273_258 := n13_; have NB271_273 := n14_; have NB273_271 := n15_; clear n0_ n1_ n2_ n3_ n4_ n5_ n6_ n7_ n8_ n9_ n10_ n11_ n12_ n13_ n14_ n15_; clear hb hbox hg; have hnb83 := NB273_258.out; have hnc83 := NB258_273.out; have hnb84 := NB273_271.out; have hnc84 := NB271_273.out; have hcz85_0 : w82.cell? ⟨gb273, 0, none⟩ = some (.string (⟨#[]⟩ : ByteArray)) := (blk_cell BK273.out 0).trans rfl; have hcz85_1 : w82.cell? ⟨gb273, 1, none⟩ = some (.slice none 0 0) := (blk_cell BK273.out 1).trans rfl; have hcz85_2 : w82.cell? ⟨gb273, 2, none⟩ = some (.slice none 0 0) := (blk_cell BK273.out 2).trans rfl; have hcz85_3 : w82.cell? ⟨gb273, 3, none⟩ = some (.string (⟨#[]⟩ : ByteArray)) := (blk_cell BK273.out 3).trans rfl; have hfz85_0 := blk_frozen BK273.out 0; have hfz85_1 := blk_frozen BK273.out 1; have hfz85_2 := blk_frozen BK273.out 2; have hfz85_3 := blk_frozen BK273.out 3; have hcz86_0 : w82.cell? ⟨gb271, 0, none⟩ = some (.int .i64 t260) := (blk_cell BK271.out 0).trans rfl; have hcz86_1 : w82.cell? ⟨gb271, 1, none⟩ = some (.int .i64 t261) := (blk_cell BK271.out 1).trans rfl; have hcz86_2 : w82.cell? ⟨gb271, 2, none⟩ = some (.int .i64 t262) := (blk_cell BK271.out 2).trans rfl; have hcz86_3 : w82.cell? ⟨gb271, 3, none⟩ = some (.slice (some ad272) t263.length co59) := (blk_cell BK271.out 3).trans rfl; have hfz86_0 := blk_frozen BK271.out 0; have hfz86_1 := blk_frozen BK271.out 1; have hfz86_2 := blk_frozen BK271.out 2; have hfz86_3 := blk_frozen BK271.out 3) | ((with_reducible refine gate_dst (N := 93) rfl ?_); (try (refine gate_guard (by rfl) ?_; dsimp only)); refine Kd.R_lit (Kd.int .i64) _ 3 ?hg (N := 93) ?hd (xs := ([(t263.length : Int), (((rd_T47 t263 0).f1).length : Int), (((rd_T47 t263 0).f2).length : Int)] : List Int)) (inner := [.int .i64 (t263.length : Int), .int .i64 (((rd_T47 t263 0).f1).length : Int), .int .i64 (((rd_T47 t263 0).f2).length : Int)]) (ok := fun _ => True) (okp := fun _ => True) ?hr ?hp (fun _ hk => hk) trivial (Below.refl _ _) (Nat.le_refl _) (by simp) ?_; (case hd => rfl); (case hg => rfl); (case hr => first | (go_simp; done) | (go_simp; rfl)); (case hp => exact (Reps.one (show Kd.M (Kd.int .i64) _ _ _ (t263.length : Int) [.int .i64 (t263.length : Int)] from rfl) (Reps.one (show Kd.M (Kd.int .i64) _ _ _ (((rd_T47 t263 0).f1).length : Int) [.int .i64 (((rd_T47 t263 0).f1).length : Int)] from rfl) (Reps.one (show Kd.M (Kd.int .i64) _ _ _ (((rd_T47 t263 0).f2).length : Int) [.int .i64 (((rd_T47 t263 0).f2).length : Int)] from rfl) (Reps.none _ _))))); intro v275 w87 ho88 hb hg_ hnew_; clear hg_ hnew_; (first | rw [← Ny274.out] at ho88 | (simp only [Int.reduceToNat] at ho88; rw [← Ny274.out] at ho88)); have n0_ := Aside0.mk (Kd.R_below (by (with_reducible repeat (first | apply Kd.R_alloc | apply Kd.R_drewN | apply Kd.R_drew)); exact (Kd.R_mono (Kd.R_far (p := ⟨gb273, 3, none⟩) (Kd.R_far (p := ⟨gb273, 2, none⟩) (Kd.R_far (p := ⟨gb273, 1, none⟩) (Kd.R_far (p := ⟨gb273, 0, none⟩) (Kd.R_types HO_17.out BK273.out (by decide)) (fun _ hk => hk.2) (.string ((rd_T47 t263 0).f0))) (fun _ hk => hk.2) (.slice A272_1 ((rd_T47 t263 0).f1).length c272_1)) (fun _ hk => hk.2) (.slice A272_2 ((rd_T47 t263 0).f2).length c272_2)) (fun _ hk => hk.2) (.string ((rd_T47 t263 0).f3))) (fun _ h_ => h_.1))) hb); have n1_ := Aside0.mk (Kd.S_below (by (with_reducible repeat (first | apply Kd.S_alloc | apply Kd.S_drewN | apply Kd.S_drew)); exact (Kd.S_mono (Kd.S_far (p := ⟨gb273, 3, none⟩) (Kd.S_far (p := ⟨gb273, 2, none⟩) (Kd.S_far (p := ⟨gb273, 1, none⟩) (Kd.S_far (p := ⟨gb273, 0, none⟩) (Kd.S_mono HO_272003.out (fun k_ hk => (⟨hk, hk.2⟩ : _ ∧ k_ ≠ gb273))) (fun _ hk => hk.2) (.string ((rd_T47 t263 0).f0))) (fun _ hk => hk.2) (.slice A272_1 ((rd_T47 t263 0).f1).length c272_1)) (fun _ hk => hk.2) (.slice A272_2 ((rd_T47 t263 0).f2).length c272_2)) (fun _ hk => hk.2) (.string ((rd_T47 t263 0).f3))) (fun _ h_ => h_.1))) hb); have n2_ := Aside0.mk (Kd.R_below (by (with_reducible repeat (first | apply Kd.R_alloc | apply Kd.R_drewN | apply Kd.R_drew)); exact (Kd.R_mono (Kd.R_far (p := ⟨gb273, 3, none⟩) (Kd.R_far (p := ⟨gb273, 2, none⟩) (Kd.R_far (p := ⟨gb273, 1, none⟩) (Kd.R_far (p := ⟨gb273, 0, none⟩) (Kd.R_types HL272_1.out BK273.out (by decide)) (fun _ hk => hk.2) (.string ((rd_T47 t263 0).f0))) (fun _ hk => hk.2) (.slice A272_1 ((rd_T47 t263 0).f1).length c272_1)) (fun _ hk => hk.2) (.slice A272_2 ((rd_T47 t263 0).f2).length c272_2)) (fun _ hk => hk.2) (.string ((rd_T47 t263 0).f3))) (fun _ h_ => h_.1))) hb); have n3_ := Aside0.mk (Kd.R_below (by (with_reducible repeat (first | apply Kd.R_alloc | apply Kd.R_drewN | apply Kd.R_drew)); exact (Kd.R_mono (Kd.R_far (p := ⟨gb273, 3, none⟩) (Kd.R_far (p := ⟨gb273, 2, none⟩) (Kd.R_far (p := ⟨gb273, 1, none⟩) (Kd.R_far (p := ⟨gb273, 0, none⟩) (Kd.R_types HL272_2.out BK273.out (by decide)) (fun _ hk => hk.2) (.string ((rd_T47 t263 0).f0))) (fun _ hk => hk.2) (.slice A272_1 ((rd_T47 t263 0).f1).length c272_1)) (fun _ hk => hk.2) (.slice A272_2 ((rd_T47 t263 0).f2).length c272_2)) (fun _ hk => hk.2) (.string ((rd_T47 t263 0).f3))) (fun _ h_ => h_.1))) hb); have n4_ := Aside0.mk (Kd.R_lower ho88 (below_size (by repeat (first | (with_reducible first | exact HB.out | apply below_alloc | apply pw_below_drewN | apply below_drew1 | refine below_set ?_ GE258.out | refine below_set ?_ GE271.out | refine below_set ?_ GE273.out) | exact HB.out)))); have n5_ := Aside0.mk (blk_below (g := gb258) (o := .cells #[.int .i64 ((rd_T41 y253 x19_1).f0), .string ((rd_T41 y253 x19_1).f1)] 41 (0, 0)) (by (with_reducible repeat (first | refine blk_drewN ?_ _ | refine blk_drew ?_ | refine blk_alloc ?_ _)); refine blk_far ?_ NB258_273.out _; (with_reducible repeat (first | refine blk_drewN ?_ _ | refine blk_drew ?_ | refine blk_alloc ?_ _)); refine blk_far ?_ NB258_273.out _; (with_reducible repeat (first | refine blk_drewN ?_ _ | refine blk_drew ?_ | refine blk_alloc ?_ _)); refine blk_far ?_ NB258_273.out _; (with_reducible repeat (first | refine blk_drewN ?_ _ | refine blk_drew ?_ | refine blk_alloc ?_ _)); refine blk_far ?_ NB258_273.out _; (with_reducible repeat (first | refine blk_drewN ?_ _ | refine blk_drew ?_ | refine blk_alloc ?_ _)); exact BK258.out) hb); have n6_ := Aside0.mk (blk_below (g := gb271) (o := .cells #[.int .i64 t260, .int .i64 t261, .int .i64 t262, .slice (some ad272) t263.length co59] 25 (0, 0)) (by (with_reducible repeat (first | refine blk_drewN ?_ _ | refine blk_drew ?_ | refine blk_alloc ?_ _)); refine blk_far ?_ NB271_273.out _; (with_reducible repeat (first | refine blk_drewN ?_ _ | refine blk_drew ?_ | refine blk_alloc ?_ _)); refine blk_far ?_ NB271_273.out _; (with_reducible repeat (first | refine blk_drewN ?_ _ | refine blk_drew ?_ | refine blk_alloc ?_ _)); refine blk_far ?_ NB271_273.out _; (with_reducible repeat (first | refine blk_drewN ?_ _ | refine blk_drew ?_ | refine blk_alloc ?_ _)); refine blk_far ?_ NB271_273.out _; (with_reducible repeat (first | refine blk_drewN ?_ _ | refine blk_drew ?_ | refine blk_alloc ?_ _)); exact BK271.out) hb); have n7_ := Aside0.mk (Kd.C_below ((Kd.R_reads' (by (with_reducible repeat (first | apply Kd.R_alloc | apply Kd.R_drewN | apply Kd.R_drew)); exact (Kd.R_mono (Kd.R_far (p := ⟨gb273, 3, none⟩) (Kd.R_far (p := ⟨gb273, 2, none⟩) (Kd.R_far (p := ⟨gb273, 1, none⟩) (Kd.R_far (p := ⟨gb273, 0, none⟩) (Kd.R_types HL272_1.out BK273.out (by decide)) (fun _ hk => hk.2) (.string ((rd_T47 t263 0).f0))) (fun _ hk => hk.2) (.slice A272_1 ((rd_T47 t263 0).f1).length c272_1)) (fun _ hk => hk.2) (.slice A272_2 ((rd_T47 t263 0).f2).length c272_2)) (fun _ hk => hk.2) (.string ((rd_T47 t263 0).f3))) (fun _ h_ => h_.1)))).2.2) hb); have n8_ := Aside0.mk (Kd.C_below ((Kd.R_reads' (by (with_reducible repeat (first | apply Kd.R_alloc | apply Kd.R_drewN | apply Kd.R_drew)); exact (Kd.R_mono (Kd.R_far (p := ⟨gb273, 3, none⟩) (Kd.R_far (p := ⟨gb273, 2, none⟩) (Kd.R_far (p := ⟨gb273, 1, none⟩) (Kd.R_far (p := ⟨gb273, 0, none⟩) (Kd.R_types HL272_2.out BK273.out (by decide)) (fun _ hk => hk.2) (.string ((rd_T47 t263 0).f0))) (fun _ hk => hk.2) (.slice A272_1 ((rd_T47 t263 0).f1).length c272_1)) (fun _ hk => hk.2) (.slice A272_2 ((rd_T47 t263 0).f2).length c272_2)) (fun _ hk => hk.2) (.string ((rd_T47 t263 0).f3))) (fun _ h_ => h_.1)))).2.2) hb); have n9_ := Aside0.mk (blk_below (g := gb273) (o := .cells #[.string ((rd_T47 t263 0).f0), .slice A272_1 ((rd_T47 t263 0).f1).length c272_1, .slice A272_2 ((rd_T47 t263 0).f2).length c272_2, .string ((rd_T47 t263 0).f3)] 47 (0, 0)) (by (with_reducible repeat (first | refine blk_drewN ?_ _ | refine blk_drew ?_ | refine blk_alloc ?_ _)); refine blk_put (cs := #[.string ((rd_T47 t263 0).f0), .slice A272_1 ((rd_T47 t263 0).f1).length c272_1, .slice A272_2 ((rd_T47 t263 0).f2).length c272_2, .string (⟨#[]⟩ : ByteArray)]) ?_ 3 _ rfl; (with_reducible repeat (first | refine blk_drewN ?_ _ | refine blk_drew ?_ | refine blk_alloc ?_ _)); refine blk_put (cs := #[.string ((rd_T47 t263 0).f0), .slice A272_1 ((rd_T47 t263 0).f1).length c272_1, .slice none 0 0, .string (⟨#[]⟩ : ByteArray)]) ?_ 2 _ rfl; (with_reducible repeat (first | refine blk_drewN ?_ _ | refine blk_drew ?_ | refine blk_alloc ?_ _)); refine blk_put (cs := #[.string ((rd_T47 t263 0).f0), .slice none 0 0, .slice none 0 0, .string (⟨#[]⟩ : ByteArray)]) ?_ 1 _ rfl; (with_reducible repeat (first | refine blk_drewN ?_ _ | refine blk_drew ?_ | refine blk_alloc ?_ _)); refine blk_put (cs := #[.string (⟨#[]⟩ : ByteArray), .slice none 0 0, .slice none 0 0, .string (⟨#[]⟩ : ByteArray)]) ?_ 0 _ rfl; (with_reducible repeat (first | refine blk_drewN ?_ _ | refine blk_drew ?_ | refine blk_alloc ?_ _)); exact BK273.out) hb); have n10_ := Aside0.mk (below_step (by repeat (first | (with_reducible first | exact HB.out | apply below_alloc | apply pw_below_drewN | apply below_drew1 | refine below_set ?_ GE258.out | refine below_set ?_ GE271.out | refine below_set ?_ GE273.out) | exact HB.out)) hb); clear HO_17; clear HO_272003; clear HL272_1; clear HL272_2; clear BK258; clear BK271; clear HR272_1; clear HR272_2; clear BK273; clear HB; have HO_17 := n0_; have HO_272003 := n1_; have HL272_1 := n2_; have HL272_2 := n3_; have HO276 := n4_; have BK258 := n5_; have BK271 := n6_; have HR272_1 := n7_; have HR272_2 := n8_; have BK273 := n9_; have HB := n10_; clear n0_ n1_ n2_ n3_ n4_ n5_ n6_ n7_ n8_ n9_ n10_; clear hb ho88; obtain ⟨Ao89, co89, eo89⟩ := Kd.R_slice HO276.out; subst eo89; have p277 : 0 ≤ (x19_1 : Int) := of_decide_eq_true (by first | (with_reducible assumption) | assumption); have q277 : x19_1 < (y274.length : Int) := of_decide_eq_true (by first | (with_reducible assumption) | assumption); obtain ⟨ad277, e277, hx277_0⟩ := Kd.at_int (Kd.R_reads' HO276.out).2.2 x19_1 p277 q277; cases e277; replace p277 := eq_true p277; replace q277 := eq_true q277))
                 go_ret
                 exact ⟨by first | rfl | (simp [errW_none, errW_some] <;> rfl) | (simp [*, errW_none, errW_some] <;> rfl), by repeat (first | (with_reducible first | exact HB.out | apply below_alloc | apply pw_below_drewN | apply below_drew1 | refine below_set ?_ GE258.out | refine below_set ?_ GE271.out | refine below_set ?_ GE273.out) | exact HB.out)⟩
               ·rw [if_neg c68] at H
                exact absurd H (by simp)
              ·rw [if_neg c67] at H
               exact absurd H (by simp)
             ·rw [if_neg c66] at H
              exact absurd H (by simp)
        ·rw [if_neg c14] at H
         exact absurd H (by simp)
     ·rw [if_neg c7] at H
      exact absurd H (by simp)
    ·rw [if_neg c6] at H
     exact absurd H (by simp)
   ·rw [if_neg c5] at H
    have c5b0 : decide (x19_1 < (y253.length : Int)) = false := decide_eq_false c5
    clear c5
    replace H := Option.bind_eq_some_iff.mp H
    obtain ⟨t256, A900, H⟩ := H
    replace H : (some t256) = some r := H
    have A90 := Aside0.mk A900
    clear A900
    obtain rfl := Option.some.inj H
    go_wp2_with (first | ((with_reducible refine gate_callee (f := 8) rfl ?_); refine goesL_ (some 101) rfl rfl Tryz.func8 (by kernel_rfl) rfl #[] rfl (by (try simp only [List.map_toArray, List.map_cons, List.map_nil]); first | done | rfl | (simp only [List.length_drop, List.length_take]; rfl)) ?_; (with_reducible refine (law10_alive.calls  t256 _ (LaidW.below (m' := 47) hL rfl (by repeat (first | (with_reducible first | exact HB.out | apply below_alloc | apply pw_below_drewN | apply below_drew1) | exact HB.out))) A90.out).mono ?_); rintro e w91 ⟨rfl, hb⟩; refine ⟨_, rfl, ?_⟩; have n0_ := Aside0.mk (Kd.R_below (by (with_reducible repeat (first | apply Kd.R_alloc | apply Kd.R_drewN | apply Kd.R_drew)); exact HO_17.out) hb); have n1_ := Aside0.mk (below_step (by repeat (first | (with_reducible first | exact HB.out | apply below_alloc | apply pw_below_drewN | apply below_drew1) | exact HB.out)) hb); clear HO_17; clear HB; have HO_17 := n0_; have HB := n1_; clear n0_ n1_; (try clear hb); (try clear hb2); (try clear hk); (try clear hi)))
    go_ret
    exact ⟨by first | rfl | (simp [errW_none, errW_some] <;> rfl) | (simp [*, errW_none, errW_some] <;> rfl), by repeat (first | (with_reducible first | exact HB.out | apply below_alloc | apply pw_below_drewN | apply below_drew1) | exact HB.out)⟩

/-- THE ONE PURE STATEMENT of law10_ParseCapacities: yours. -/
def law10_ParseCapacities.Pure : Prop := ∀ (a0 : Int), (Lit.int .u16 a0).wf = true → ∃ k, law10_ParseCapacities.f k a0 = some true
theorem law10_ParseCapacities.walk (P : law10_ParseCapacities.Pure) (a0 : Int) (w : World) (w0 : (Lit.int .u16 a0).wf = true) (hL : Aside0 (LaidW 47 w)) :
  Calls Tryz.prog 5 #[.int .u16 a0] w fun e w' => e = .returned (.bool true) ∧ Below w.heap.size w w' := by
 obtain ⟨k, h⟩ := P a0 w0
 refine (law10_ParseCapacities.calls k a0 true w hL h).mono ?_
 rintro e w' ⟨rfl, hd⟩
 exact ⟨rfl, hd⟩

end Go.Proofs.YtmcmpjkfdkogiaaGreatDoor.P

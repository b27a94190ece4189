-- Out of the translation's print, by a program. Lean checks it.
import Derived.Test.YtdbjjbooalkkbaaGreatDoorPQ0
import Derived.Test.YtdbjjbooalkkbaaGreatDoorPQ1
import Derived.Test.YtdbjjbooalkkbaaGreatDoorPQ2
namespace Go.Proofs.YtdbjjbooalkkbaaGreatDoor.P
open Go.RowKit Go.Proofs.YtdbjjbooalkkbaaGreatDoorW.PrintWords Go.Proofs.YtdbjjbooalkkbaaGreatDoorW.PrintLast Go.Proofs.YtdbjjbooalkkbaaGreatDoorW.PrintMore
attribute [local go_sem] max2_int min2_int max_two min_two max_three min_three max_four min_four   -- for this text's walks alone
set_option linter.unusedVariables false
set_option linter.unusedSimpArgs false

attribute [local go_sem high] eqA51 eqA75
/-! ### ref10_Same: function 8 -/
mutual
def ref10_Same.j0 : Nat → Bool → Int → Int → Int → List (S47) → Int → Int → Int → List (S47) → Option (Bool)
 | 0, _, _, _, _, _, _, _, _, _ => none
 | k + 1, x37, x102000, x102001, x102002, x102003, x103000, x103001, x103002, x103003 => if x37 = true then (some false) else (ref10_Same.l0 k 0 x102000 x102001 x102002 x102003 x103000 x103001 x103002 x103003)
def ref10_Same.l0 : Nat → Int → Int → Int → Int → List (S47) → Int → Int → Int → List (S47) → Option (Bool)
 | 0, _, _, _, _, _, _, _, _, _ => none
 | k + 1, x5, x102000, x102001, x102002, x102003, x103000, x103001, x103002, x103003 => if x5 < (x102003.length : Int) then (if 0 ≤ x5 then (if x5 < (x103003.length : Int) then (if ((rd_T47 x102003 x5).f0).toList = ((rd_T47 x103003 x5).f0).toList then (if ((rd_T47 x102003 x5).f3).toList = ((rd_T47 x103003 x5).f3).toList then (if (((rd_T47 x102003 x5).f1).length : Int) = (((rd_T47 x103003 x5).f1).length : Int) then (ref10_Same.j2 k x5 ((((rd_T47 x102003 x5).f2).length : Int) != (((rd_T47 x103003 x5).f2).length : Int)) x102000 x102001 x102002 x102003 x103000 x103001 x103002 x103003 ((rd_T47 x102003 x5).f0) ((rd_T47 x102003 x5).f1) ((rd_T47 x102003 x5).f2) ((rd_T47 x102003 x5).f3) ((rd_T47 x103003 x5).f0) ((rd_T47 x103003 x5).f1) ((rd_T47 x103003 x5).f2) ((rd_T47 x103003 x5).f3)) else (ref10_Same.j2 k x5 true x102000 x102001 x102002 x102003 x103000 x103001 x103002 x103003 ((rd_T47 x102003 x5).f0) ((rd_T47 x102003 x5).f1) ((rd_T47 x102003 x5).f2) ((rd_T47 x102003 x5).f3) ((rd_T47 x103003 x5).f0) ((rd_T47 x103003 x5).f1) ((rd_T47 x103003 x5).f2) ((rd_T47 x103003 x5).f3))) else (ref10_Same.j2 k x5 true x102000 x102001 x102002 x102003 x103000 x103001 x103002 x103003 ((rd_T47 x102003 x5).f0) ((rd_T47 x102003 x5).f1) ((rd_T47 x102003 x5).f2) ((rd_T47 x102003 x5).f3) ((rd_T47 x103003 x5).f0) ((rd_T47 x103003 x5).f1) ((rd_T47 x103003 x5).f2) ((rd_T47 x103003 x5).f3))) else (ref10_Same.j2 k x5 true x102000 x102001 x102002 x102003 x103000 x103001 x103002 x103003 ((rd_T47 x102003 x5).f0) ((rd_T47 x102003 x5).f1) ((rd_T47 x102003 x5).f2) ((rd_T47 x102003 x5).f3) ((rd_T47 x103003 x5).f0) ((rd_T47 x103003 x5).f1) ((rd_T47 x103003 x5).f2) ((rd_T47 x103003 x5).f3))) else (none)) else (none)) else (some true)
def ref10_Same.j2 : Nat → Int → Bool → Int → Int → Int → List (S47) → Int → Int → Int → List (S47) → ByteArray → List (S51) → List (S75) → ByteArray → ByteArray → List (S51) → List (S75) → ByteArray → Option (Bool)
 | 0, _, _, _, _, _, _, _, _, _, _, _, _, _, _, _, _, _, _ => none
 | k + 1, x5, x84, x102000, x102001, x102002, x102003, x103000, x103001, x103002, x103003, x105000, x105001, x105002, x105003, x107000, x107001, x107002, x107003 => if x84 = true then (some false) else (ref10_Same.l1 k x5 0 x102000 x102001 x102002 x102003 x103000 x103001 x103002 x103003 x105000 x105001 x105002 x105003 x107000 x107001 x107002 x107003)
def ref10_Same.l1 : Nat → Int → Int → Int → Int → Int → List (S47) → Int → Int → Int → List (S47) → ByteArray → List (S51) → List (S75) → ByteArray → ByteArray → List (S51) → List (S75) → ByteArray → Option (Bool)
 | 0, _, _, _, _, _, _, _, _, _, _, _, _, _, _, _, _, _, _ => none
 | k + 1, x5, x8, x102000, x102001, x102002, x102003, x103000, x103001, x103002, x103003, x105000, x105001, x105002, x105003, x107000, x107001, x107002, x107003 => if x8 < (x105001.length : Int) then (if 0 ≤ x8 then (if x8 < (x107001.length : Int) then (if (!(((rd_T51 x105001 x8).f0) == ((rd_T51 x107001 x8).f0)) || ((!(((rd_T51 x105001 x8).f1.f0) == ((rd_T51 x107001 x8).f1.f0)) || (!(((rd_T51 x105001 x8).f1.f1) == ((rd_T51 x107001 x8).f1.f1)))) || (!((((rd_T51 x105001 x8).f2).toList) == (((rd_T51 x107001 x8).f2).toList)) || (!((((rd_T51 x105001 x8).f3).toList) == (((rd_T51 x107001 x8).f3).toList)))))) = true then (some false) else (ref10_Same.l1 k x5 (wrap64 (x8 + 1)) x102000 x102001 x102002 x102003 x103000 x103001 x103002 x103003 x105000 x105001 x105002 x105003 x107000 x107001 x107002 x107003)) else (none)) else (none)) else (ref10_Same.l2 k x5 0 x102000 x102001 x102002 x102003 x103000 x103001 x103002 x103003 x105000 x105001 x105002 x105003 x107000 x107001 x107002 x107003)
def ref10_Same.l2 : Nat → Int → Int → Int → Int → Int → List (S47) → Int → Int → Int → List (S47) → ByteArray → List (S51) → List (S75) → ByteArray → ByteArray → List (S51) → List (S75) → ByteArray → Option (Bool)
 | 0, _, _, _, _, _, _, _, _, _, _, _, _, _, _, _, _, _, _ => none
 | k + 1, x5, x9, x102000, x102001, x102002, x102003, x103000, x103001, x103002, x103003, x105000, x105001, x105002, x105003, x107000, x107001, x107002, x107003 => if x9 < (x105002.length : Int) then (if 0 ≤ x9 then (if x9 < (x107002.length : Int) then (if (!(((rd_T75 x105002 x9).f0) == ((rd_T75 x107002 x9).f0)) || ((!(((rd_T75 x105002 x9).f1.f0) == ((rd_T75 x107002 x9).f1.f0)) || (!(((rd_T75 x105002 x9).f1.f1) == ((rd_T75 x107002 x9).f1.f1)))))) = true then (some false) else (ref10_Same.l2 k x5 (wrap64 (x9 + 1)) x102000 x102001 x102002 x102003 x103000 x103001 x103002 x103003 x105000 x105001 x105002 x105003 x107000 x107001 x107002 x107003)) else (none)) else (none)) else (ref10_Same.l0 k (wrap64 (x5 + 1)) x102000 x102001 x102002 x102003 x103000 x103001 x103002 x103003)
end
def ref10_Same.f (k : Nat) (a0_0 : Int) (a0_1 : Int) (a0_2 : Int) (l0_3 : List (S47)) (a1_0 : Int) (a1_1 : Int) (a1_2 : Int) (l1_3 : List (S47)) : Option (Bool) := if a0_0 = a1_0 then (if a0_1 = a1_1 then (if a0_2 = a1_2 then (ref10_Same.j0 k ((l0_3.length : Int) != (l1_3.length : Int)) a0_0 a0_1 a0_2 l0_3 a1_0 a1_1 a1_2 l1_3) else (ref10_Same.j0 k true a0_0 a0_1 a0_2 l0_3 a1_0 a1_1 a1_2 l1_3)) else (ref10_Same.j0 k true a0_0 a0_1 a0_2 l0_3 a1_0 a1_1 a1_2 l1_3)) else (ref10_Same.j0 k true a0_0 a0_1 a0_2 l0_3 a1_0 a1_1 a1_2 l1_3)
theorem ref10_Same.mono_l : ∀ k, (∀ y0 y1 y2 y3 y4 y5 y6 y7 y8, LeO (ref10_Same.j0 k y0 y1 y2 y3 y4 y5 y6 y7 y8) (ref10_Same.j0 (k + 1) y0 y1 y2 y3 y4 y5 y6 y7 y8)) ∧ (∀ y0 y1 y2 y3 y4 y5 y6 y7 y8, LeO (ref10_Same.l0 k y0 y1 y2 y3 y4 y5 y6 y7 y8) (ref10_Same.l0 (k + 1) y0 y1 y2 y3 y4 y5 y6 y7 y8)) ∧ (∀ y0 y1 y2 y3 y4 y5 y6 y7 y8 y9 y10 y11 y12 y13 y14 y15 y16 y17, LeO (ref10_Same.j2 k y0 y1 y2 y3 y4 y5 y6 y7 y8 y9 y10 y11 y12 y13 y14 y15 y16 y17) (ref10_Same.j2 (k + 1) y0 y1 y2 y3 y4 y5 y6 y7 y8 y9 y10 y11 y12 y13 y14 y15 y16 y17)) ∧ (∀ y0 y1 y2 y3 y4 y5 y6 y7 y8 y9 y10 y11 y12 y13 y14 y15 y16 y17, LeO (ref10_Same.l1 k y0 y1 y2 y3 y4 y5 y6 y7 y8 y9 y10 y11 y12 y13 y14 y15 y16 y17) (ref10_Same.l1 (k + 1) y0 y1 y2 y3 y4 y5 y6 y7 y8 y9 y10 y11 y12 y13 y14 y15 y16 y17)) ∧ (∀ y0 y1 y2 y3 y4 y5 y6 y7 y8 y9 y10 y11 y12 y13 y14 y15 y16 y17, LeO (ref10_Same.l2 k y0 y1 y2 y3 y4 y5 y6 y7 y8 y9 y10 y11 y12 y13 y14 y15 y16 y17) (ref10_Same.l2 (k + 1) y0 y1 y2 y3 y4 y5 y6 y7 y8 y9 y10 y11 y12 y13 y14 y15 y16 y17))
 | 0 => ⟨fun _ _ _ _ _ _ _ _ _ r h => by simp [ref10_Same.j0] at h, fun _ _ _ _ _ _ _ _ _ r h => by simp [ref10_Same.l0] at h, fun _ _ _ _ _ _ _ _ _ _ _ _ _ _ _ _ _ _ r h => by simp [ref10_Same.j2] at h, fun _ _ _ _ _ _ _ _ _ _ _ _ _ _ _ _ _ _ r h => by simp [ref10_Same.l1] at h, fun _ _ _ _ _ _ _ _ _ _ _ _ _ _ _ _ _ _ r h => by simp [ref10_Same.l2] at h⟩
 | k + 1 => by
  obtain ⟨ih0, ih1, ih2, ih3, ih4⟩ := ref10_Same.mono_l k
  refine ⟨?_, ?_, ?_, ?_, ?_⟩
  ·intro y0 y1 y2 y3 y4 y5 y6 y7 y8
   unfold ref10_Same.j0
   repeat' first
   | (with_reducible exact ih0 _ _ _ _ _ _ _ _ _)
   | (with_reducible exact ih1 _ _ _ _ _ _ _ _ _)
   | (with_reducible exact ih2 _ _ _ _ _ _ _ _ _ _ _ _ _ _ _ _ _ _)
   | (with_reducible exact ih3 _ _ _ _ _ _ _ _ _ _ _ _ _ _ _ _ _ _)
   | (with_reducible exact ih4 _ _ _ _ _ _ _ _ _ _ _ _ _ _ _ _ _ _)
   | (with_reducible exact LeO.refl _)
   | (with_reducible exact LeO.none _)
   | (with_reducible refine LeO.ite ?_ ?_)
   | (with_reducible refine LeO.bind ?_ (fun _ => ?_))
   | exact ih0 _ _ _ _ _ _ _ _ _
   | exact ih1 _ _ _ _ _ _ _ _ _
   | exact ih2 _ _ _ _ _ _ _ _ _ _ _ _ _ _ _ _ _ _
   | exact ih3 _ _ _ _ _ _ _ _ _ _ _ _ _ _ _ _ _ _
   | exact ih4 _ _ _ _ _ _ _ _ _ _ _ _ _ _ _ _ _ _
   | exact LeO.none _
   | refine LeO.ite ?_ ?_
   | refine LeO.bind ?_ (fun _ => ?_)
  ·intro y0 y1 y2 y3 y4 y5 y6 y7 y8
   unfold ref10_Same.l0
   repeat' first
   | (with_reducible exact ih0 _ _ _ _ _ _ _ _ _)
   | (with_reducible exact ih1 _ _ _ _ _ _ _ _ _)
   | (with_reducible exact ih2 _ _ _ _ _ _ _ _ _ _ _ _ _ _ _ _ _ _)
   | (with_reducible exact ih3 _ _ _ _ _ _ _ _ _ _ _ _ _ _ _ _ _ _)
   | (with_reducible exact ih4 _ _ _ _ _ _ _ _ _ _ _ _ _ _ _ _ _ _)
   | (with_reducible exact LeO.refl _)
   | (with_reducible exact LeO.none _)
   | (with_reducible refine LeO.ite ?_ ?_)
   | (with_reducible refine LeO.bind ?_ (fun _ => ?_))
   | exact ih0 _ _ _ _ _ _ _ _ _
   | exact ih1 _ _ _ _ _ _ _ _ _
   | exact ih2 _ _ _ _ _ _ _ _ _ _ _ _ _ _ _ _ _ _
   | exact ih3 _ _ _ _ _ _ _ _ _ _ _ _ _ _ _ _ _ _
   | exact ih4 _ _ _ _ _ _ _ _ _ _ _ _ _ _ _ _ _ _
   | exact LeO.none _
   | refine LeO.ite ?_ ?_
   | refine LeO.bind ?_ (fun _ => ?_)
  ·intro y0 y1 y2 y3 y4 y5 y6 y7 y8 y9 y10 y11 y12 y13 y14 y15 y16 y17
   unfold ref10_Same.j2
   repeat' first
   | (with_reducible exact ih0 _ _ _ _ _ _ _ _ _)
   | (with_reducible exact ih1 _ _ _ _ _ _ _ _ _)
   | (with_reducible exact ih2 _ _ _ _ _ _ _ _ _ _ _ _ _ _ _ _ _ _)
   | (with_reducible exact ih3 _ _ _ _ _ _ _ _ _ _ _ _ _ _ _ _ _ _)
   | (with_reducible exact ih4 _ _ _ _ _ _ _ _ _ _ _ _ _ _ _ _ _ _)
   | (with_reducible exact LeO.refl _)
   | (with_reducible exact LeO.none _)
   | (with_reducible refine LeO.ite ?_ ?_)
   | (with_reducible refine LeO.bind ?_ (fun _ => ?_))
   | exact ih0 _ _ _ _ _ _ _ _ _
   | exact ih1 _ _ _ _ _ _ _ _ _
   | exact ih2 _ _ _ _ _ _ _ _ _ _ _ _ _ _ _ _ _ _
   | exact ih3 _ _ _ _ _ _ _ _ _ _ _ _ _ _ _ _ _ _
   | exact ih4 _ _ _ _ _ _ _ _ _ _ _ _ _ _ _ _ _ _
   | exact LeO.none _
   | refine LeO.ite ?_ ?_
   | refine LeO.bind ?_ (fun _ => ?_)
  ·intro y0 y1 y2 y3 y4 y5 y6 y7 y8 y9 y10 y11 y12 y13 y14 y15 y16 y17
   unfold ref10_Same.l1
   repeat' first
   | (with_reducible exact ih0 _ _ _ _ _ _ _ _ _)
   | (with_reducible exact ih1 _ _ _ _ _ _ _ _ _)
   | (with_reducible exact ih2 _ _ _ _ _ _ _ _ _ _ _ _ _ _ _ _ _ _)
   | (with_reducible exact ih3 _ _ _ _ _ _ _ _ _ _ _ _ _ _ _ _ _ _)
   | (with_reducible exact ih4 _ _ _ _ _ _ _ _ _ _ _ _ _ _ _ _ _ _)
   | (with_reducible exact LeO.refl _)
   | (with_reducible exact LeO.none _)
   | (with_reducible refine LeO.ite ?_ ?_)
   | (with_reducible refine LeO.bind ?_ (fun _ => ?_))
   | exact ih0 _ _ _ _ _ _ _ _ _
   | exact ih1 _ _ _ _ _ _ _ _ _
   | exact ih2 _ _ _ _ _ _ _ _ _ _ _ _ _ _ _ _ _ _
   | exact ih3 _ _ _ _ _ _ _ _ _ _ _ _ _ _ _ _ _ _
   | exact ih4 _ _ _ _ _ _ _ _ _ _ _ _ _ _ _ _ _ _
   | exact LeO.none _
   | refine LeO.ite ?_ ?_
   | refine LeO.bind ?_ (fun _ => ?_)
  ·intro y0 y1 y2 y3 y4 y5 y6 y7 y8 y9 y10 y11 y12 y13 y14 y15 y16 y17
   unfold ref10_Same.l2
   repeat' first
   | (with_reducible exact ih0 _ _ _ _ _ _ _ _ _)
   | (with_reducible exact ih1 _ _ _ _ _ _ _ _ _)
   | (with_reducible exact ih2 _ _ _ _ _ _ _ _ _ _ _ _ _ _ _ _ _ _)
   | (with_reducible exact ih3 _ _ _ _ _ _ _ _ _ _ _ _ _ _ _ _ _ _)
   | (with_reducible exact ih4 _ _ _ _ _ _ _ _ _ _ _ _ _ _ _ _ _ _)
   | (with_reducible exact LeO.refl _)
   | (with_reducible exact LeO.none _)
   | (with_reducible refine LeO.ite ?_ ?_)
   | (with_reducible refine LeO.bind ?_ (fun _ => ?_))
   | exact ih0 _ _ _ _ _ _ _ _ _
   | exact ih1 _ _ _ _ _ _ _ _ _
   | exact ih2 _ _ _ _ _ _ _ _ _ _ _ _ _ _ _ _ _ _
   | exact ih3 _ _ _ _ _ _ _ _ _ _ _ _ _ _ _ _ _ _
   | exact ih4 _ _ _ _ _ _ _ _ _ _ _ _ _ _ _ _ _ _
   | exact LeO.none _
   | refine LeO.ite ?_ ?_
   | refine LeO.bind ?_ (fun _ => ?_)
theorem ref10_Same.mono : ∀ a0 a1 a2 a3 a4 a5 a6 a7 k, LeO (ref10_Same.f k a0 a1 a2 a3 a4 a5 a6 a7) (ref10_Same.f (k + 1) a0 a1 a2 a3 a4 a5 a6 a7) := by
 intro a0 a1 a2 a3 a4 a5 a6 a7 k
 obtain ⟨ih0, ih1, ih2, ih3, ih4⟩ := ref10_Same.mono_l k
 unfold ref10_Same.f
 repeat' first
   | (with_reducible exact ih0 _ _ _ _ _ _ _ _ _)
   | (with_reducible exact ih1 _ _ _ _ _ _ _ _ _)
   | (with_reducible exact ih2 _ _ _ _ _ _ _ _ _ _ _ _ _ _ _ _ _ _)
   | (with_reducible exact ih3 _ _ _ _ _ _ _ _ _ _ _ _ _ _ _ _ _ _)
   | (with_reducible exact ih4 _ _ _ _ _ _ _ _ _ _ _ _ _ _ _ _ _ _)
   | (with_reducible exact LeO.refl _)
   | (with_reducible exact LeO.none _)
   | (with_reducible refine LeO.ite ?_ ?_)
   | (with_reducible refine LeO.bind ?_ (fun _ => ?_))
   | exact ih0 _ _ _ _ _ _ _ _ _
   | exact ih1 _ _ _ _ _ _ _ _ _
   | exact ih2 _ _ _ _ _ _ _ _ _ _ _ _ _ _ _ _ _ _
   | exact ih3 _ _ _ _ _ _ _ _ _ _ _ _ _ _ _ _ _ _
   | exact ih4 _ _ _ _ _ _ _ _ _ _ _ _ _ _ _ _ _ _
   | exact LeO.none _
   | refine LeO.ite ?_ ?_
   | refine LeO.bind ?_ (fun _ => ?_)
set_option maxHeartbeats 8000000 in
set_option maxRecDepth 100000 in
theorem ref10_Same.calls (k : Nat) (a0_0 : Int) (a0_1 : Int) (a0_2 : Int) (A0_3 : Option Addr) (c0_3 : Nat) (l0_3 : List (S47)) (a1_0 : Int) (a1_1 : Int) (a1_2 : Int) (A1_3 : Option Addr) (c1_3 : Nat) (l1_3 : List (S47)) (r : Bool) (w : World) (hr0_3 : Kd.C k47 w A0_3 l0_3.length l0_3) (hc0_3 : l0_3.length ≤ c0_3) (hr1_3 : Kd.C k47 w A1_3 l1_3.length l1_3) (hc1_3 : l1_3.length ≤ c1_3) (h : ref10_Same.f k a0_0 a0_1 a0_2 l0_3 a1_0 a1_1 a1_2 l1_3 = some r) :
  Calls Tryz.prog 8 #[.agg #[.int .i64 a0_0, .int .i64 a0_1, .int .i64 a0_2, .slice A0_3 l0_3.length c0_3], .agg #[.int .i64 a1_0, .int .i64 a1_1, .int .i64 a1_2, .slice A1_3 l1_3.length c1_3]] w fun e w' => e = .returned (.bool r) ∧ Below w.heap.size w w' := by
 have hu25 := Tryz.underlying25
 have hu47 := Tryz.underlying47
 have hu51 := Tryz.underlying51
 have hu75 := Tryz.underlying75
 have HR0_3 := Aside0.mk hr0_3
 have HC0_3 := Aside0.mk hc0_3
 clear hr0_3 hc0_3
 have HR1_3 := Aside0.mk hr1_3
 have HC1_3 := Aside0.mk hc1_3
 clear hr1_3 hc1_3
 have HB := Aside0.mk (Below.refl w.heap.size w)
 have H : (if a0_0 = a1_0 then (if a0_1 = a1_1 then (if a0_2 = a1_2 then (ref10_Same.j0 k ((l0_3.length : Int) != (l1_3.length : Int)) a0_0 a0_1 a0_2 l0_3 a1_0 a1_1 a1_2 l1_3) else (ref10_Same.j0 k true a0_0 a0_1 a0_2 l0_3 a1_0 a1_1 a1_2 l1_3)) else (ref10_Same.j0 k true a0_0 a0_1 a0_2 l0_3 a1_0 a1_1 a1_2 l1_3)) else (ref10_Same.j0 k true a0_0 a0_1 a0_2 l0_3 a1_0 a1_1 a1_2 l1_3)) = some r := h
 clear h
 have HC3 := Aside0.mk H
 clear H
 go_enter Tryz.func8, Tryz.ntmps8
 go_upto_region 1 with (first | ((with_reducible refine gate_dst (N := 2) rfl ?_); (try (refine gate_guard (by rfl) ?_; dsimp only)); refine box_event ?hg (N := 2) ?hd (cs := #[.int .i64 a0_0, .int .i64 a0_1, .int .i64 a0_2, .slice A0_3 l0_3.length c0_3]) (t := 25) ?hr ?_; (case hd => rfl); (case hg => rfl); (case hr => first | (go_simp; done) | (go_simp; rfl)); intro gb101 hg w4 hbox hb; have n0_ := Aside0.mk (below_step (by repeat (first | (with_reducible first | exact HB.out | apply below_alloc | apply pw_below_drewN | apply below_drew1) | exact HB.out)) hb); have n1_ := Aside0.mk (hbox); have n2_ := Aside0.mk ((by rw [hg]; exact (below_size (by repeat (first | (with_reducible first | exact HB.out | apply below_alloc | apply pw_below_drewN | apply below_drew1) | exact HB.out))) : w.heap.size ≤ gb101)); have n3_ := Aside0.mk ((by rw [hg]; exact (below_size (by repeat (first | (with_reducible first | exact HB.out | apply below_alloc | apply pw_below_drewN | apply below_drew1) | exact HB.out))) : w.heap.size ≤ gb101)); clear HB; have HB := n0_; have BK101 := n1_; have GW101 := n2_; have GE101 := n3_; clear n0_ n1_ n2_ n3_; clear hb hbox hg) | ((with_reducible refine gate_dst (N := 3) rfl ?_); (try (refine gate_guard (by rfl) ?_; dsimp only)); refine box_event ?hg (N := 3) ?hd (cs := #[.int .i64 a1_0, .int .i64 a1_1, .int .i64 a1_2, .slice A1_3 l1_3.length c1_3]) (t := 25) ?hr ?_; (case hd => rfl); (case hg => rfl); (case hr => first | (go_simp; done) | (go_simp; rfl)); intro gb102 hg w5 hbox hb; have n0_ := Aside0.mk (blk_below (g := gb101) (o := .cells #[.int .i64 a0_0, .int .i64 a0_1, .int .i64 a0_2, .slice A0_3 l0_3.length c0_3] 25 (0, 0)) (by (with_reducible repeat (first | refine blk_drewN ?_ _ | refine blk_drew ?_ | refine blk_alloc ?_ _)); exact BK101.out) hb); have n1_ := Aside0.mk (below_step (by repeat (first | (with_reducible first | exact HB.out | apply below_alloc | apply pw_below_drewN | apply below_drew1 | refine below_set ?_ GE101.out) | exact HB.out)) hb); have n2_ := Aside0.mk (hbox); have n3_ := Aside0.mk ((by rw [hg]; exact (below_size (by repeat (first | (with_reducible first | exact HB.out | apply below_alloc | apply pw_below_drewN | apply below_drew1 | refine below_set ?_ GE101.out) | exact HB.out))) : w.heap.size ≤ gb102)); have n4_ := Aside0.mk ((by rw [hg]; exact (below_size (by repeat (first | (with_reducible first | exact HB.out | apply below_alloc | apply pw_below_drewN | apply below_drew1 | refine below_set ?_ GE101.out) | exact HB.out))) : w.heap.size ≤ gb102)); have n5_ := Aside0.mk ((by rw [hg]; exact Nat.ne_of_lt (blk_lt (g := gb101) (o := .cells #[.int .i64 a0_0, .int .i64 a0_1, .int .i64 a0_2, .slice A0_3 l0_3.length c0_3] 25 (0, 0)) (by (with_reducible repeat (first | refine blk_drewN ?_ _ | refine blk_drew ?_ | refine blk_alloc ?_ _)); exact BK101.out)) : gb101 ≠ gb102)); have n6_ := Aside0.mk ((by rw [hg]; exact Nat.ne_of_gt (blk_lt (g := gb101) (o := .cells #[.int .i64 a0_0, .int .i64 a0_1, .int .i64 a0_2, .slice A0_3 l0_3.length c0_3] 25 (0, 0)) (by (with_reducible repeat (first | refine blk_drewN ?_ _ | refine blk_drew ?_ | refine blk_alloc ?_ _)); exact BK101.out)) : gb102 ≠ gb101)); clear BK101; clear HB; have BK101 := n0_; have HB := n1_; have BK102 := n2_; have GW102 := n3_; have GE102 := n4_; have NB101_102 := n5_; have NB102_101 := n6_; clear n0_ n1_ n2_ n3_ n4_ n5_ n6_; clear hb hbox hg))
 repeat (go_quiet (first | ((with_reducible refine gate_dst (N := 2) rfl ?_); (try (refine gate_guard (by rfl) ?_; dsimp only)); refine box_event ?hg (N := 2) ?hd (cs := #[.int .i64 a0_0, .int .i64 a0_1, .int .i64 a0_2, .slice A0_3 l0_3.length c0_3]) (t := 25) ?hr ?_; (case hd => rfl); (case hg => rfl); (case hr => first | (go_simp; done) | (go_simp; rfl)); intro gb101 hg w4 hbox hb; have n0_ := Aside0.mk (below_step (by repeat (first | (with_reducible first | exact HB.out | apply below_alloc | apply pw_below_drewN | apply below_drew1) | exact HB.out)) hb); have n1_ := Aside0.mk (hbox); have n2_ := Aside0.mk ((by rw [hg]; exact (below_size (by repeat (first | (with_reducible first | exact HB.out | apply below_alloc | apply pw_below_drewN | apply below_drew1) | exact HB.out))) : w.heap.size ≤ gb101)); have n3_ := Aside0.mk ((by rw [hg]; exact (below_size (by repeat (first | (with_reducible first | exact HB.out | apply below_alloc | apply pw_below_drewN | apply below_drew1) | exact HB.out))) : w.heap.size ≤ gb101)); clear HB; have HB := n0_; have BK101 := n1_; have GW101 := n2_; have GE101 := n3_; clear n0_ n1_ n2_ n3_; clear hb hbox hg) | ((with_reducible refine gate_dst (N := 3) rfl ?_); (try (refine gate_guard (by rfl) ?_; dsimp only)); refine box_event ?hg (N := 3) ?hd (cs := #[.int .i64 a1_0, .int .i64 a1_1, .int .i64 a1_2, .slice A1_3 l1_3.length c1_3]) (t := 25) ?hr ?_; (case hd => rfl); (case hg => rfl); (case hr => first | (go_simp; done) | (go_simp; rfl)); intro gb102 hg w5 hbox hb; have n0_ := Aside0.mk (blk_below (g := gb101) (o := .cells #[.int .i64 a0_0, .int .i64 a0_1, .int .i64 a0_2, .slice A0_3 l0_3.length c0_3] 25 (0, 0)) (by (with_reducible repeat (first | refine blk_drewN ?_ _ | refine blk_drew ?_ | refine blk_alloc ?_ _)); exact BK101.out) hb); have n1_ := Aside0.mk (below_step (by repeat (first | (with_reducible first | exact HB.out | apply below_alloc | apply pw_below_drewN | apply below_drew1 | refine below_set ?_ GE101.out) | exact HB.out)) hb); have n2_ := Aside0.mk (hbox); have n3_ := Aside0.mk ((by rw [hg]; exact (below_size (by repeat (first | (with_reducible first | exact HB.out | apply below_alloc | apply pw_below_drewN | apply below_drew1 | refine below_set ?_ GE101.out) | exact HB.out))) : w.heap.size ≤ gb102)); have n4_ := Aside0.mk ((by rw [hg]; exact (below_size (by repeat (first | (with_reducible first | exact HB.out | apply below_alloc | apply pw_below_drewN | apply below_drew1 | refine below_set ?_ GE101.out) | exact HB.out))) : w.heap.size ≤ gb102)); have n5_ := Aside0.mk ((by rw [hg]; exact Nat.ne_of_lt (blk_lt (g := gb101) (o := .cells #[.int .i64 a0_0, .int .i64 a0_1, .int .i64 a0_2, .slice A0_3 l0_3.length c0_3] 25 (0, 0)) (by (with_reducible repeat (first | refine blk_drewN ?_ _ | refine blk_drew ?_ | refine blk_alloc ?_ _)); exact BK101.out)) : gb101 ≠ gb102)); have n6_ := Aside0.mk ((by rw [hg]; exact Nat.ne_of_gt (blk_lt (g := gb101) (o := .cells #[.int .i64 a0_0, .int .i64 a0_1, .int .i64 a0_2, .slice A0_3 l0_3.length c0_3] 25 (0, 0)) (by (with_reducible repeat (first | refine blk_drewN ?_ _ | refine blk_drew ?_ | refine blk_alloc ?_ _)); exact BK101.out)) : gb102 ≠ gb101)); clear BK101; clear HB; have BK101 := n0_; have HB := n1_; have BK102 := n2_; have GW102 := n3_; have GE102 := n4_; have NB101_102 := n5_; have NB102_101 := n6_; clear n0_ n1_ n2_ n3_ n4_ n5_ n6_; clear hb hbox hg)); go_upto_region 1 with (first | ((with_reducible refine gate_dst (N := 2) rfl ?_); (try (refine gate_guard (by rfl) ?_; dsimp only)); refine box_event ?hg (N := 2) ?hd (cs := #[.int .i64 a0_0, .int .i64 a0_1, .int .i64 a0_2, .slice A0_3 l0_3.length c0_3]) (t := 25) ?hr ?_; (case hd => rfl); (case hg => rfl); (case hr => first | (go_simp; done) | (go_simp; rfl)); intro gb101 hg w4 hbox hb; have n0_ := Aside0.mk (below_step (by repeat (first | (with_reducible first | exact HB.out | apply below_alloc | apply pw_below_drewN | apply below_drew1) | exact HB.out)) hb); have n1_ := Aside0.mk (hbox); have n2_ := Aside0.mk ((by rw [hg]; exact (below_size (by repeat (first | (with_reducible first | exact HB.out | apply below_alloc | apply pw_below_drewN | apply below_drew1) | exact HB.out))) : w.heap.size ≤ gb101)); have n3_ := Aside0.mk ((by rw [hg]; exact (below_size (by repeat (first | (with_reducible first | exact HB.out | apply below_alloc | apply pw_below_drewN | apply below_drew1) | exact HB.out))) : w.heap.size ≤ gb101)); clear HB; have HB := n0_; have BK101 := n1_; have GW101 := n2_; have GE101 := n3_; clear n0_ n1_ n2_ n3_; clear hb hbox hg) | ((with_reducible refine gate_dst (N := 3) rfl ?_); (try (refine gate_guard (by rfl) ?_; dsimp only)); refine box_event ?hg (N := 3) ?hd (cs := #[.int .i64 a1_0, .int .i64 a1_1, .int .i64 a1_2, .slice A1_3 l1_3.length c1_3]) (t := 25) ?hr ?_; (case hd => rfl); (case hg => rfl); (case hr => first | (go_simp; done) | (go_simp; rfl)); intro gb102 hg w5 hbox hb; have n0_ := Aside0.mk (blk_below (g := gb101) (o := .cells #[.int .i64 a0_0, .int .i64 a0_1, .int .i64 a0_2, .slice A0_3 l0_3.length c0_3] 25 (0, 0)) (by (with_reducible repeat (first | refine blk_drewN ?_ _ | refine blk_drew ?_ | refine blk_alloc ?_ _)); exact BK101.out) hb); have n1_ := Aside0.mk (below_step (by repeat (first | (with_reducible first | exact HB.out | apply below_alloc | apply pw_below_drewN | apply below_drew1 | refine below_set ?_ GE101.out) | exact HB.out)) hb); have n2_ := Aside0.mk (hbox); have n3_ := Aside0.mk ((by rw [hg]; exact (below_size (by repeat (first | (with_reducible first | exact HB.out | apply below_alloc | apply pw_below_drewN | apply below_drew1 | refine below_set ?_ GE101.out) | exact HB.out))) : w.heap.size ≤ gb102)); have n4_ := Aside0.mk ((by rw [hg]; exact (below_size (by repeat (first | (with_reducible first | exact HB.out | apply below_alloc | apply pw_below_drewN | apply below_drew1 | refine below_set ?_ GE101.out) | exact HB.out))) : w.heap.size ≤ gb102)); have n5_ := Aside0.mk ((by rw [hg]; exact Nat.ne_of_lt (blk_lt (g := gb101) (o := .cells #[.int .i64 a0_0, .int .i64 a0_1, .int .i64 a0_2, .slice A0_3 l0_3.length c0_3] 25 (0, 0)) (by (with_reducible repeat (first | refine blk_drewN ?_ _ | refine blk_drew ?_ | refine blk_alloc ?_ _)); exact BK101.out)) : gb101 ≠ gb102)); have n6_ := Aside0.mk ((by rw [hg]; exact Nat.ne_of_gt (blk_lt (g := gb101) (o := .cells #[.int .i64 a0_0, .int .i64 a0_1, .int .i64 a0_2, .slice A0_3 l0_3.length c0_3] 25 (0, 0)) (by (with_reducible repeat (first | refine blk_drewN ?_ _ | refine blk_drew ?_ | refine blk_alloc ?_ _)); exact BK101.out)) : gb102 ≠ gb101)); clear BK101; clear HB; have BK101 := n0_; have HB := n1_; have BK102 := n2_; have GW102 := n3_; have GE102 := n4_; have NB101_102 := n5_; have NB102_101 := n6_; clear n0_ n1_ n2_ n3_ n4_ n5_ n6_; clear hb hbox hg)))
 (try simp only [Act.put, List.setIfInBounds_toArray, List.set_cons_zero, List.set_cons_succ])
 go_cut [37] (fun v37 wc => ∃ (kq : Nat) (x37_2 : Bool), v37 = .bool x37_2 ∧ Aside0 (ref10_Same.j0 kq x37_2 a0_0 a0_1 a0_2 l0_3 a1_0 a1_1 a1_2 l1_3 = some r) ∧ Aside0 (kq ≤ k) ∧ Aside0 (wc.heap[gb101]? = some (.cells #[.int .i64 a0_0, .int .i64 a0_1, .int .i64 a0_2, (.slice A0_3 l0_3.length c0_3)] 25 (0, 0))) ∧ Aside0 (wc.heap[gb102]? = some (.cells #[.int .i64 a1_0, .int .i64 a1_1, .int .i64 a1_2, (.slice A1_3 l1_3.length c1_3)] 25 (0, 0))) ∧ Aside0 (Below w.heap.size w wc))
 case first =>
  have H := HC3.out
  clear HC3
  by_cases c6 : a0_0 = a1_0
  ·rw [if_pos c6] at H
   have c6b0 : (a0_0 == a1_0) = true := beq_iff_eq.mpr c6
   have c6b1 : (a0_0 != a1_0) = false := bne_eq_false_iff_eq.mpr c6
   clear c6
   (first | rw [c6b0] | (simp only [i64_w, i32_w]; rw [c6b0]) | rw [c6b3] | rw [c6b2] | skip)
   by_cases c7 : a0_1 = a1_1
   ·rw [if_pos c7] at H
    have c7b0 : (a0_1 == a1_1) = true := beq_iff_eq.mpr c7
    have c7b1 : (a0_1 != a1_1) = false := bne_eq_false_iff_eq.mpr c7
    clear c7
    by_cases c8 : a0_2 = a1_2
    ·rw [if_pos c8] at H
     have c8b0 : (a0_2 == a1_2) = true := beq_iff_eq.mpr c8
     have c8b1 : (a0_2 != a1_2) = false := bne_eq_false_iff_eq.mpr c8
     clear c8
     have H' := Aside0.mk H
     clear H
     have hnb9 := NB101_102.out
     have hnc9 := NB102_101.out
     have hcz10_0 : w5.cell? ⟨gb101, 0, none⟩ = some (.int .i64 a0_0) := (blk_cell BK101.out 0).trans rfl
     have hcz10_1 : w5.cell? ⟨gb101, 1, none⟩ = some (.int .i64 a0_1) := (blk_cell BK101.out 1).trans rfl
     have hcz10_2 : w5.cell? ⟨gb101, 2, none⟩ = some (.int .i64 a0_2) := (blk_cell BK101.out 2).trans rfl
     have hcz10_3 : w5.cell? ⟨gb101, 3, none⟩ = some (.slice A0_3 l0_3.length c0_3) := (blk_cell BK101.out 3).trans rfl
     have hfz10_0 := blk_frozen BK101.out 0
     have hfz10_1 := blk_frozen BK101.out 1
     have hfz10_2 := blk_frozen BK101.out 2
     have hfz10_3 := blk_frozen BK101.out 3
     have hcz11_0 : w5.cell? ⟨gb102, 0, none⟩ = some (.int .i64 a1_0) := (blk_cell BK102.out 0).trans rfl
     have hcz11_1 : w5.cell? ⟨gb102, 1, none⟩ = some (.int .i64 a1_1) := (blk_cell BK102.out 1).trans rfl
     have hcz11_2 : w5.cell? ⟨gb102, 2, none⟩ = some (.int .i64 a1_2) := (blk_cell BK102.out 2).trans rfl
     have hcz11_3 : w5.cell? ⟨gb102, 3, none⟩ = some (.slice A1_3 l1_3.length c1_3) := (blk_cell BK102.out 3).trans rfl
     have hfz11_0 := blk_frozen BK102.out 0
     have hfz11_1 := blk_frozen BK102.out 1
     have hfz11_2 := blk_frozen BK102.out 2
     have hfz11_3 := blk_frozen BK102.out 3
     go_wp2
     repeat (go_quiet (fail); try go_wp2)
     go_meet
     case rel => exact ⟨_, (((l0_3.length : Int) != (l1_3.length : Int))), (by first | rfl | (simp; done) | (simp [*]; done)), H', ⟨by first | omega | exact Nat.le_refl _⟩, ⟨by (with_reducible repeat (first | refine blk_drewN ?_ _ | refine blk_drew ?_ | refine blk_alloc ?_ _)); exact BK101.out⟩, ⟨by (with_reducible repeat (first | refine blk_drewN ?_ _ | refine blk_drew ?_ | refine blk_alloc ?_ _)); exact BK102.out⟩, ⟨by repeat (first | (with_reducible first | exact HB.out | apply below_alloc | apply pw_below_drewN | apply below_drew1 | refine below_set ?_ GE101.out | refine below_set ?_ GE102.out) | exact HB.out)⟩⟩
    ·rw [if_neg c8] at H
     have c8b0 : (a0_2 == a1_2) = false := beq_eq_false_iff_ne.mpr c8
     have c8b1 : (a0_2 != a1_2) = true := bne_iff_ne.mpr c8
     have H' := Aside0.mk H
     clear H
     have hnb12 := NB101_102.out
     have hnc12 := NB102_101.out
     have hcz13_0 : w5.cell? ⟨gb101, 0, none⟩ = some (.int .i64 a0_0) := (blk_cell BK101.out 0).trans rfl
     have hcz13_1 : w5.cell? ⟨gb101, 1, none⟩ = some (.int .i64 a0_1) := (blk_cell BK101.out 1).trans rfl
     have hcz13_2 : w5.cell? ⟨gb101, 2, none⟩ = some (.int .i64 a0_2) := (blk_cell BK101.out 2).trans rfl
     have hcz13_3 : w5.cell? ⟨gb101, 3, none⟩ = some (.slice A0_3 l0_3.length c0_3) := (blk_cell BK101.out 3).trans rfl
     have hfz13_0 := blk_frozen BK101.out 0
     have hfz13_1 := blk_frozen BK101.out 1
     have hfz13_2 := blk_frozen BK101.out 2
     have hfz13_3 := blk_frozen BK101.out 3
     have hcz14_0 : w5.cell? ⟨gb102, 0, none⟩ = some (.int .i64 a1_0) := (blk_cell BK102.out 0).trans rfl
     have hcz14_1 : w5.cell? ⟨gb102, 1, none⟩ = some (.int .i64 a1_1) := (blk_cell BK102.out 1).trans rfl
     have hcz14_2 : w5.cell? ⟨gb102, 2, none⟩ = some (.int .i64 a1_2) := (blk_cell BK102.out 2).trans rfl
     have hcz14_3 : w5.cell? ⟨gb102, 3, none⟩ = some (.slice A1_3 l1_3.length c1_3) := (blk_cell BK102.out 3).trans rfl
     have hfz14_0 := blk_frozen BK102.out 0
     have hfz14_1 := blk_frozen BK102.out 1
     have hfz14_2 := blk_frozen BK102.out 2
     have hfz14_3 := blk_frozen BK102.out 3
     go_wp2
     repeat (go_quiet (fail); try go_wp2)
     go_meet
     case rel => exact ⟨_, (true), (by first | rfl | (simp; done) | (simp [*]; done)), H', ⟨by first | omega | exact Nat.le_refl _⟩, ⟨by (with_reducible repeat (first | refine blk_drewN ?_ _ | refine blk_drew ?_ | refine blk_alloc ?_ _)); exact BK101.out⟩, ⟨by (with_reducible repeat (first | refine blk_drewN ?_ _ | refine blk_drew ?_ | refine blk_alloc ?_ _)); exact BK102.out⟩, ⟨by repeat (first | (with_reducible first | exact HB.out | apply below_alloc | apply pw_below_drewN | apply below_drew1 | refine below_set ?_ GE101.out | refine below_set ?_ GE102.out) | exact HB.out)⟩⟩
   ·rw [if_neg c7] at H
    have c7b0 : (a0_1 == a1_1) = false := beq_eq_false_iff_ne.mpr c7
    have c7b1 : (a0_1 != a1_1) = true := bne_iff_ne.mpr c7
    have H' := Aside0.mk H
    clear H
    have hnb15 := NB101_102.out
    have hnc15 := NB102_101.out
    have hcz16_0 : w5.cell? ⟨gb101, 0, none⟩ = some (.int .i64 a0_0) := (blk_cell BK101.out 0).trans rfl
    have hcz16_1 : w5.cell? ⟨gb101, 1, none⟩ = some (.int .i64 a0_1) := (blk_cell BK101.out 1).trans rfl
    have hcz16_2 : w5.cell? ⟨gb101, 2, none⟩ = some (.int .i64 a0_2) := (blk_cell BK101.out 2).trans rfl
    have hcz16_3 : w5.cell? ⟨gb101, 3, none⟩ = some (.slice A0_3 l0_3.length c0_3) := (blk_cell BK101.out 3).trans rfl
    have hfz16_0 := blk_frozen BK101.out 0
    have hfz16_1 := blk_frozen BK101.out 1
    have hfz16_2 := blk_frozen BK101.out 2
    have hfz16_3 := blk_frozen BK101.out 3
    have hcz17_0 : w5.cell? ⟨gb102, 0, none⟩ = some (.int .i64 a1_0) := (blk_cell BK102.out 0).trans rfl
    have hcz17_1 : w5.cell? ⟨gb102, 1, none⟩ = some (.int .i64 a1_1) := (blk_cell BK102.out 1).trans rfl
    have hcz17_2 : w5.cell? ⟨gb102, 2, none⟩ = some (.int .i64 a1_2) := (blk_cell BK102.out 2).trans rfl
    have hcz17_3 : w5.cell? ⟨gb102, 3, none⟩ = some (.slice A1_3 l1_3.length c1_3) := (blk_cell BK102.out 3).trans rfl
    have hfz17_0 := blk_frozen BK102.out 0
    have hfz17_1 := blk_frozen BK102.out 1
    have hfz17_2 := blk_frozen BK102.out 2
    have hfz17_3 := blk_frozen BK102.out 3
    go_wp2
    repeat (go_quiet (fail); try go_wp2)
    go_meet
    case rel => exact ⟨_, (true), (by first | rfl | (simp; done) | (simp [*]; done)), H', ⟨by first | omega | exact Nat.le_refl _⟩, ⟨by (with_reducible repeat (first | refine blk_drewN ?_ _ | refine blk_drew ?_ | refine blk_alloc ?_ _)); exact BK101.out⟩, ⟨by (with_reducible repeat (first | refine blk_drewN ?_ _ | refine blk_drew ?_ | refine blk_alloc ?_ _)); exact BK102.out⟩, ⟨by repeat (first | (with_reducible first | exact HB.out | apply below_alloc | apply pw_below_drewN | apply below_drew1 | refine below_set ?_ GE101.out | refine below_set ?_ GE102.out) | exact HB.out)⟩⟩
  ·rw [if_neg c6] at H
   have c6b0 : (a0_0 == a1_0) = false := beq_eq_false_iff_ne.mpr c6
   have c6b1 : (a0_0 != a1_0) = true := bne_iff_ne.mpr c6
   (first | rw [c6b0] | (simp only [i64_w, i32_w]; rw [c6b0]) | rw [c6b3] | rw [c6b2] | skip)
   have H' := Aside0.mk H
   clear H
   have hnb18 := NB101_102.out
   have hnc18 := NB102_101.out
   have hcz19_0 : w5.cell? ⟨gb101, 0, none⟩ = some (.int .i64 a0_0) := (blk_cell BK101.out 0).trans rfl
   have hcz19_1 : w5.cell? ⟨gb101, 1, none⟩ = some (.int .i64 a0_1) := (blk_cell BK101.out 1).trans rfl
   have hcz19_2 : w5.cell? ⟨gb101, 2, none⟩ = some (.int .i64 a0_2) := (blk_cell BK101.out 2).trans rfl
   have hcz19_3 : w5.cell? ⟨gb101, 3, none⟩ = some (.slice A0_3 l0_3.length c0_3) := (blk_cell BK101.out 3).trans rfl
   have hfz19_0 := blk_frozen BK101.out 0
   have hfz19_1 := blk_frozen BK101.out 1
   have hfz19_2 := blk_frozen BK101.out 2
   have hfz19_3 := blk_frozen BK101.out 3
   have hcz20_0 : w5.cell? ⟨gb102, 0, none⟩ = some (.int .i64 a1_0) := (blk_cell BK102.out 0).trans rfl
   have hcz20_1 : w5.cell? ⟨gb102, 1, none⟩ = some (.int .i64 a1_1) := (blk_cell BK102.out 1).trans rfl
   have hcz20_2 : w5.cell? ⟨gb102, 2, none⟩ = some (.int .i64 a1_2) := (blk_cell BK102.out 2).trans rfl
   have hcz20_3 : w5.cell? ⟨gb102, 3, none⟩ = some (.slice A1_3 l1_3.length c1_3) := (blk_cell BK102.out 3).trans rfl
   have hfz20_0 := blk_frozen BK102.out 0
   have hfz20_1 := blk_frozen BK102.out 1
   have hfz20_2 := blk_frozen BK102.out 2
   have hfz20_3 := blk_frozen BK102.out 3
   go_wp2
   repeat (go_quiet (fail); try go_wp2)
   go_meet
   case rel => exact ⟨_, (true), (by first | rfl | (simp; done) | (simp [*]; done)), H', ⟨by first | omega | exact Nat.le_refl _⟩, ⟨by (with_reducible repeat (first | refine blk_drewN ?_ _ | refine blk_drew ?_ | refine blk_alloc ?_ _)); exact BK101.out⟩, ⟨by (with_reducible repeat (first | refine blk_drewN ?_ _ | refine blk_drew ?_ | refine blk_alloc ?_ _)); exact BK102.out⟩, ⟨by repeat (first | (with_reducible first | exact HB.out | apply below_alloc | apply pw_below_drewN | apply below_drew1 | refine below_set ?_ GE101.out | refine below_set ?_ GE102.out) | exact HB.out)⟩⟩
 case rest =>
  clear HC3
  try clear c1
  try clear p2
  try clear c6
  try clear c6b0
  try clear c6b1
  try clear c6b2
  try clear c7
  try clear c7b0
  try clear c7b1
  try clear c8
  try clear c8b0
  try clear c8b1
  try clear c9
  try clear c12
  try clear c15
  try clear c18
  try clear hcz10_0
  try clear hcz10_1
  try clear hcz10_2
  try clear hcz10_3
  try clear hcz11_0
  try clear hcz11_1
  try clear hcz11_2
  try clear hcz11_3
  try clear hcz13_0
  try clear hcz13_1
  try clear hcz13_2
  try clear hcz13_3
  try clear hcz14_0
  try clear hcz14_1
  try clear hcz14_2
  try clear hcz14_3
  try clear hcz16_0
  try clear hcz16_1
  try clear hcz16_2
  try clear hcz16_3
  try clear hcz17_0
  try clear hcz17_1
  try clear hcz17_2
  try clear hcz17_3
  try clear hcz19_0
  try clear hcz19_1
  try clear hcz19_2
  try clear hcz19_3
  try clear hcz20_0
  try clear hcz20_1
  try clear hcz20_2
  try clear hcz20_3
  try clear hfz10_0
  try clear hfz10_1
  try clear hfz10_2
  try clear hfz10_3
  try clear hfz11_0
  try clear hfz11_1
  try clear hfz11_2
  try clear hfz11_3
  try clear hfz13_0
  try clear hfz13_1
  try clear hfz13_2
  try clear hfz13_3
  try clear hfz14_0
  try clear hfz14_1
  try clear hfz14_2
  try clear hfz14_3
  try clear hfz16_0
  try clear hfz16_1
  try clear hfz16_2
  try clear hfz16_3
  try clear hfz17_0
  try clear hfz17_1
  try clear hfz17_2
  try clear hfz17_3
  try clear hfz19_0
  try clear hfz19_1
  try clear hfz19_2
  try clear hfz19_3
  try clear hfz20_0
  try clear hfz20_1
  try clear hfz20_2
  try clear hfz20_3
  obtain ⟨kq, x37_2, rfl, HA, HJ2, BK101, BK102, HB⟩ := hcut
  cases kq with
  | zero => exact absurd HA.out (by simp [ref10_Same.j0])
  | succ kj2 =>
   have H := HA.out
   clear HA
   simp only [ref10_Same.j0] at H
   by_cases c21 : x37_2 = true
   ·subst c21
    have H1 : (some false) = some r := by rw [if_pos rfl] at H; exact H
    clear H
    have H := H1
    clear H1
    obtain rfl := Option.some.inj H
    go_wp2
    repeat (go_quiet (fail); try go_wp2)
    go_ret
    exact ⟨by first | rfl | (simp [errW_none, errW_some] <;> rfl) | (simp [*, errW_none, errW_some] <;> rfl), by repeat (first | (with_reducible first | exact HB.out | apply below_alloc | apply pw_below_drewN | apply below_drew1 | refine below_set ?_ GE101.out | refine below_set ?_ GE102.out) | exact HB.out)⟩
   ·replace c21 := Bool.eq_false_iff.mpr c21
    subst c21
    have H1 : (ref10_Same.l0 kj2 0 a0_0 a0_1 a0_2 l0_3 a1_0 a1_1 a1_2 l1_3) = some r := by rw [if_neg (show ¬ (false = true) by decide)] at H; exact H
    clear H
    have H := H1
    clear H1
    have H' := Aside0.mk H
    clear H
    go_wp2
    repeat (go_quiet (fail); try go_wp2)
    go_loopg [5] kj2 (fun kq v5 w' => ∃ (x5_2 : Int), v5 = .int .i64 x5_2 ∧ Aside0 (ref10_Same.l0 kq x5_2 a0_0 a0_1 a0_2 l0_3 a1_0 a1_1 a1_2 l1_3 = some r) ∧ Aside0 (kq ≤ kj2) ∧ Aside0 (w'.heap[gb101]? = some (.cells #[.int .i64 a0_0, .int .i64 a0_1, .int .i64 a0_2, (.slice A0_3 l0_3.length c0_3)] 25 (0, 0))) ∧ Aside0 (w'.heap[gb102]? = some (.cells #[.int .i64 a1_0, .int .i64 a1_1, .int .i64 a1_2, (.slice A1_3 l1_3.length c1_3)] 25 (0, 0))) ∧ Aside0 (Below w.heap.size w w'))
    case atStart => exact ⟨(0), (by first | rfl | (simp; done) | (simp [*]; done)), H', ⟨Nat.le_refl _⟩, ⟨by (with_reducible repeat (first | refine blk_drewN ?_ _ | refine blk_drew ?_ | refine blk_alloc ?_ _)); exact BK101.out⟩, ⟨by (with_reducible repeat (first | refine blk_drewN ?_ _ | refine blk_drew ?_ | refine blk_alloc ?_ _)); exact BK102.out⟩, ⟨by repeat (first | (with_reducible first | exact HB.out | apply below_alloc | apply pw_below_drewN | apply below_drew1 | refine below_set ?_ GE101.out | refine below_set ?_ GE102.out) | exact HB.out)⟩⟩
    case round =>
     clear H'
     try clear c1
     try clear c2
     try clear p2
     try clear c6
     try clear c6b0
     try clear c6b1
     try clear c6b2
     try clear c7
     try clear c7b0
     try clear c7b1
     try clear c8
     try clear c8b0
     try clear c8b1
     try clear c9
     try clear c12
     try clear c15
     try clear c18
     try clear c21
     try clear hcz10_0
     try clear hcz10_1
     try clear hcz10_2
     try clear hcz10_3
     try clear hcz11_0
     try clear hcz11_1
     try clear hcz11_2
     try clear hcz11_3
     try clear hcz13_0
     try clear hcz13_1
     try clear hcz13_2
     try clear hcz13_3
     try clear hcz14_0
     try clear hcz14_1
     try clear hcz14_2
     try clear hcz14_3
     try clear hcz16_0
     try clear hcz16_1
     try clear hcz16_2
     try clear hcz16_3
     try clear hcz17_0
     try clear hcz17_1
     try clear hcz17_2
     try clear hcz17_3
     try clear hcz19_0
     try clear hcz19_1
     try clear hcz19_2
     try clear hcz19_3
     try clear hcz20_0
     try clear hcz20_1
     try clear hcz20_2
     try clear hcz20_3
     try clear hfz10_0
     try clear hfz10_1
     try clear hfz10_2
     try clear hfz10_3
     try clear hfz11_0
     try clear hfz11_1
     try clear hfz11_2
     try clear hfz11_3
     try clear hfz13_0
     try clear hfz13_1
     try clear hfz13_2
     try clear hfz13_3
     try clear hfz14_0
     try clear hfz14_1
     try clear hfz14_2
     try clear hfz14_3
     try clear hfz16_0
     try clear hfz16_1
     try clear hfz16_2
     try clear hfz16_3
     try clear hfz17_0
     try clear hfz17_1
     try clear hfz17_2
     try clear hfz17_3
     try clear hfz19_0
     try clear hfz19_1
     try clear hfz19_2
     try clear hfz19_3
     try clear hfz20_0
     try clear hfz20_1
     try clear hfz20_2
     try clear hfz20_3
     try clear p2
     obtain ⟨x5_2, rfl, HA, HK2, BK101, BK102, HB⟩ := hrel
     cases gk with
     | zero => exact absurd HA.out (by simp [ref10_Same.l0])
     | succ k2 =>
      have H := HA.out
      clear HA
      simp only [ref10_Same.l0] at H
      by_cases c22 : x5_2 < (l0_3.length : Int)
      ·rw [if_pos c22] at H
       have c22b0 : decide (x5_2 < (l0_3.length : Int)) = true := decide_eq_true c22
       clear c22
       by_cases c23 : 0 ≤ x5_2
       ·rw [if_pos c23] at H
        have c23b0 : decide (0 ≤ x5_2) = true := decide_eq_true c23
        clear c23
        by_cases c24 : x5_2 < (l1_3.length : Int)
        ·rw [if_pos c24] at H
         have c24b0 : decide (x5_2 < (l1_3.length : Int)) = true := decide_eq_true c24
         clear c24
         have HC25 := Aside0.mk H
         clear H
         have hnb26 := NB101_102.out
         have hnc26 := NB102_101.out
         have hcz27_0 : wr.cell? ⟨gb101, 0, none⟩ = some (.int .i64 a0_0) := (blk_cell BK101.out 0).trans rfl
         have hcz27_1 : wr.cell? ⟨gb101, 1, none⟩ = some (.int .i64 a0_1) := (blk_cell BK101.out 1).trans rfl
         have hcz27_2 : wr.cell? ⟨gb101, 2, none⟩ = some (.int .i64 a0_2) := (blk_cell BK101.out 2).trans rfl
         have hcz27_3 : wr.cell? ⟨gb101, 3, none⟩ = some (.slice A0_3 l0_3.length c0_3) := (blk_cell BK101.out 3).trans rfl
         have hfz27_0 := blk_frozen BK101.out 0
         have hfz27_1 := blk_frozen BK101.out 1
         have hfz27_2 := blk_frozen BK101.out 2
         have hfz27_3 := blk_frozen BK101.out 3
         have p103 : 0 ≤ (x5_2 : Int) := of_decide_eq_true (by first | (with_reducible assumption) | assumption)
         have q103 : x5_2 < (l0_3.length : Int) := of_decide_eq_true (by first | (with_reducible assumption) | assumption)
         obtain ⟨ad103, A103_1, c103_1, A103_2, c103_2, e103, hx103_0, hx103_1, hx103_2, hx103_3, hl103_1, hi103_1, hl103_2, hi103_2⟩ := at_T47 HR0_3.out x5_2 p103 q103
         cases e103
         replace hx103_0 := (HB.out.cell (World.block_lt_of_cell? w _ hx103_0)).trans hx103_0
         replace hx103_1 := (HB.out.cell (World.block_lt_of_cell? w _ hx103_1)).trans hx103_1
         replace hx103_2 := (HB.out.cell (World.block_lt_of_cell? w _ hx103_2)).trans hx103_2
         replace hx103_3 := (HB.out.cell (World.block_lt_of_cell? w _ hx103_3)).trans hx103_3
         have HR103_1 := Aside0.mk hi103_1
         have HC103_1 := Aside0.mk hl103_1
         clear hi103_1 hl103_1
         have HR103_2 := Aside0.mk hi103_2
         have HC103_2 := Aside0.mk hl103_2
         clear hi103_2 hl103_2
         replace p103 := eq_true p103
         replace q103 := eq_true q103
         go_upto_region 8 with (first | ((with_reducible refine gate_dst (N := 6) rfl ?_); (try (refine gate_guard (by rfl) ?_; dsimp only)); refine box_event ?hg (N := 6) ?hd (cs := #[.string (⟨#[]⟩ : ByteArray), .slice none 0 0, .slice none 0 0, .string (⟨#[]⟩ : ByteArray)]) (t := 47) ?hr ?_; (case hd => rfl); (case hg => rfl); (case hr => first | (go_simp; done) | (go_simp; rfl)); intro gb104 hg w28 hbox hb; have n0_ := Aside0.mk (blk_below (g := gb101) (o := .cells #[.int .i64 a0_0, .int .i64 a0_1, .int .i64 a0_2, .slice (some ad103) l0_3.length c0_3] 25 (0, 0)) (by (with_reducible repeat (first | refine blk_drewN ?_ _ | refine blk_drew ?_ | refine blk_alloc ?_ _)); exact BK101.out) hb); have n1_ := Aside0.mk (blk_below (g := gb102) (o := .cells #[.int .i64 a1_0, .int .i64 a1_1, .int .i64 a1_2, .slice A1_3 l1_3.length c1_3] 25 (0, 0)) (by (with_reducible repeat (first | refine blk_drewN ?_ _ | refine blk_drew ?_ | refine blk_alloc ?_ _)); exact BK102.out) hb); have n2_ := Aside0.mk (below_step (by repeat (first | (with_reducible first | exact HB.out | apply below_alloc | apply pw_below_drewN | apply below_drew1 | refine below_set ?_ GE101.out | refine below_set ?_ GE102.out) | exact HB.out)) hb); have n3_ := Aside0.mk (hbox); have n4_ := Aside0.mk ((by rw [hg]; exact (below_size (by repeat (first | (with_reducible first | exact HB.out | apply below_alloc | apply pw_below_drewN | apply below_drew1 | refine below_set ?_ GE101.out | refine below_set ?_ GE102.out) | exact HB.out))) : w.heap.size ≤ gb104)); have n5_ := Aside0.mk ((by rw [hg]; exact (below_size (by repeat (first | (with_reducible first | exact HB.out | apply below_alloc | apply pw_below_drewN | apply below_drew1 | refine below_set ?_ GE101.out | refine below_set ?_ GE102.out) | exact HB.out))) : w.heap.size ≤ gb104)); have n6_ := Aside0.mk ((by rw [hg]; exact Nat.ne_of_lt (blk_lt (g := gb101) (o := .cells #[.int .i64 a0_0, .int .i64 a0_1, .int .i64 a0_2, .slice (some ad103) l0_3.length c0_3] 25 (0, 0)) (by (with_reducible repeat (first | refine blk_drewN ?_ _ | refine blk_drew ?_ | refine blk_alloc ?_ _)); exact BK101.out)) : gb101 ≠ gb104)); have n7_ := Aside0.mk ((by rw [hg]; exact Nat.ne_of_gt (blk_lt (g := gb101) (o := .cells #[.int .i64 a0_0, .int .i64 a0_1, .int .i64 a0_2, .slice (some ad103) l0_3.length c0_3] 25 (0, 0)) (by (with_reducible repeat (first | refine blk_drewN ?_ _ | refine blk_drew ?_ | refine blk_alloc ?_ _)); exact BK101.out)) : gb104 ≠ gb101)); have n8_ := Aside0.mk ((by rw [hg]; exact Nat.ne_of_lt (blk_lt (g := gb102) (o := .cells #[.int .i64 a1_0, .int .i64 a1_1, .int .i64 a1_2, .slice A1_3 l1_3.length c1_3] 25 (0, 0)) (by (with_reducible repeat (first | refine blk_drewN ?_ _ | refine blk_drew ?_ | refine blk_alloc ?_ _)); exact BK102.out)) : gb102 ≠ gb104)); have n9_ := Aside0.mk ((by rw [hg]; exact Nat.ne_of_gt (blk_lt (g := gb102) (o := .cells #[.int .i64 a1_0, .int .i64 a1_1, .int .i64 a1_2, .slice A1_3 l1_3.length c1_3] 25 (0, 0)) (by (with_reducible repeat (first | refine blk_drewN ?_ _ | refine blk_drew ?_ | refine blk_alloc ?_ _)); exact BK102.out)) : gb104 ≠ gb102)); clear BK101; clear BK102; clear HB; have BK101 := n0_; have BK102 := n1_; have HB := n2_; have BK104 := n3_; have GW104 := n4_; have GE104 := n5_; have NB101_104 := n6_; have NB104_101 := n7_; have NB102_104 := n8_; have NB104_102 := n9_; clear n0_ n1_ n2_ n3_ n4_ n5_ n6_ n7_ n8_ n9_; clear hb hbox hg; have hnb29 := NB104_101.out; have hnc29 := NB101_104.out; have hnb30 := NB104_102.out; have hnc30 := NB102_104.out; have hcz31_0 : w28.cell? ⟨gb104, 0, none⟩ = some (.string (⟨#[]⟩ : ByteArray)) := (blk_cell BK104.out 0).trans rfl; have hcz31_1 : w28.cell? ⟨gb104, 1, none⟩ = some (.slice none 0 0) := (blk_cell BK104.out 1).trans rfl; have hcz31_2 : w28.cell? ⟨gb104, 2, none⟩ = some (.slice none 0 0) := (blk_cell BK104.out 2).trans rfl; have hcz31_3 : w28.cell? ⟨gb104, 3, none⟩ = some (.string (⟨#[]⟩ : ByteArray)) := (blk_cell BK104.out 3).trans rfl; have hfz31_0 := blk_frozen BK104.out 0; have hfz31_1 := blk_frozen BK104.out 1; have hfz31_2 := blk_frozen BK104.out 2; have hfz31_3 := blk_frozen BK104.out 3; have hcz32_0 : w28.cell? ⟨gb102, 0, none⟩ = some (.int .i64 a1_0) := (blk_cell BK102.out 0).trans rfl; have hcz32_1 : w28.cell? ⟨gb102, 1, none⟩ = some (.int .i64 a1_1) := (blk_cell BK102.out 1).trans rfl; have hcz32_2 : w28.cell? ⟨gb102, 2, none⟩ = some (.int .i64 a1_2) := (blk_cell BK102.out 2).trans rfl; have hcz32_3 : w28.cell? ⟨gb102, 3, none⟩ = some (.slice A1_3 l1_3.length c1_3) := (blk_cell BK102.out 3).trans rfl; have hfz32_0 := blk_frozen BK102.out 0; have hfz32_1 := blk_frozen BK102.out 1; have hfz32_2 := blk_frozen BK102.out 2; have hfz32_3 := blk_frozen BK102.out 3; have p105 : 0 ≤ (x5_2 : Int) := of_decide_eq_true (by first | (with_reducible assumption) | assumption); have q105 : x5_2 < (l1_3.length : Int) := of_decide_eq_true (by first | (with_reducible assumption) | assumption); obtain ⟨ad105, A105_1, c105_1, A105_2, c105_2, e105, hx105_0, hx105_1, hx105_2, hx105_3, hl105_1, hi105_1, hl105_2, hi105_2⟩ := at_T47 HR1_3.out x5_2 p105 q105; cases e105; have hn105_0 : ad105.block ≠ gb104 := Nat.ne_of_lt (Nat.lt_of_lt_of_le (by have := World.block_lt_of_cell? _ _ hx105_0; first | rwa [add_block] at this | exact this) GW104.out); have hn105_1 : ad105.block ≠ gb104 := Nat.ne_of_lt (Nat.lt_of_lt_of_le (by have := World.block_lt_of_cell? _ _ hx105_0; first | rwa [add_block] at this | exact this) GW104.out); have hn105_2 : ad105.block ≠ gb104 := Nat.ne_of_lt (Nat.lt_of_lt_of_le (by have := World.block_lt_of_cell? _ _ hx105_0; first | rwa [add_block] at this | exact this) GW104.out); have hn105_3 : ad105.block ≠ gb104 := Nat.ne_of_lt (Nat.lt_of_lt_of_le (by have := World.block_lt_of_cell? _ _ hx105_0; first | rwa [add_block] at this | exact this) GW104.out); replace hx105_0 := (HB.out.cell (World.block_lt_of_cell? w _ hx105_0)).trans hx105_0; replace hx105_1 := (HB.out.cell (World.block_lt_of_cell? w _ hx105_1)).trans hx105_1; replace hx105_2 := (HB.out.cell (World.block_lt_of_cell? w _ hx105_2)).trans hx105_2; replace hx105_3 := (HB.out.cell (World.block_lt_of_cell? w _ hx105_3)).trans hx105_3; have HR105_1 := Aside0.mk hi105_1; have HC105_1 := Aside0.mk hl105_1; clear hi105_1 hl105_1; have HR105_2 := Aside0.mk hi105_2; have HC105_2 := Aside0.mk hl105_2; clear hi105_2 hl105_2; replace hx105_0 := (cell_far (p := ⟨gb104, 0, none⟩) (by first | (rw [add_block]; exact hn105_0) | (show (Addr.add _ _).block ≠ _; rw [add_block]; exact hn105_0) | exact hn105_0) (.string ((rd_T47 l0_3 x5_2).f0))).trans hx105_0; replace hx105_1 := (cell_far (p := ⟨gb104, 0, none⟩) (by first | (rw [add_block]; exact hn105_0) | (show (Addr.add _ _).block ≠ _; rw [add_block]; exact hn105_0) | exact hn105_0) (.string ((rd_T47 l0_3 x5_2).f0))).trans hx105_1; replace hx105_2 := (cell_far (p := ⟨gb104, 0, none⟩) (by first | (rw [add_block]; exact hn105_0) | (show (Addr.add _ _).block ≠ _; rw [add_block]; exact hn105_0) | exact hn105_0) (.string ((rd_T47 l0_3 x5_2).f0))).trans hx105_2; replace hx105_3 := (cell_far (p := ⟨gb104, 0, none⟩) (by first | (rw [add_block]; exact hn105_0) | (show (Addr.add _ _).block ≠ _; rw [add_block]; exact hn105_0) | exact hn105_0) (.string ((rd_T47 l0_3 x5_2).f0))).trans hx105_3; replace hx105_0 := (cell_far (p := ⟨gb104, 1, none⟩) (by first | (rw [add_block]; exact hn105_1) | (show (Addr.add _ _).block ≠ _; rw [add_block]; exact hn105_1) | exact hn105_1) (.slice A103_1 ((rd_T47 l0_3 x5_2).f1).length c103_1)).trans hx105_0; replace hx105_1 := (cell_far (p := ⟨gb104, 1, none⟩) (by first | (rw [add_block]; exact hn105_1) | (show (Addr.add _ _).block ≠ _; rw [add_block]; exact hn105_1) | exact hn105_1) (.slice A103_1 ((rd_T47 l0_3 x5_2).f1).length c103_1)).trans hx105_1; replace hx105_2 := (cell_far (p := ⟨gb104, 1, none⟩) (by first | (rw [add_block]; exact hn105_1) | (show (Addr.add _ _).block ≠ _; rw [add_block]; exact hn105_1) | exact hn105_1) (.slice A103_1 ((rd_T47 l0_3 x5_2).f1).length c103_1)).trans hx105_2; replace hx105_3 := (cell_far (p := ⟨gb104, 1, none⟩) (by first | (rw [add_block]; exact hn105_1) | (show (Addr.add _ _).block ≠ _; rw [add_block]; exact hn105_1) | exact hn105_1) (.slice A103_1 ((rd_T47 l0_3 x5_2).f1).length c103_1)).trans hx105_3; replace hx105_0 := (cell_far (p := ⟨gb104, 2, none⟩) (by first | (rw [add_block]; exact hn105_2) | (show (Addr.add _ _).block ≠ _; rw [add_block]; exact hn105_2) | exact hn105_2) (.slice A103_2 ((rd_T47 l0_3 x5_2).f2).length c103_2)).trans hx105_0; replace hx105_1 := (cell_far (p := ⟨gb104, 2, none⟩) (by first | (rw [add_block]; exact hn105_2) | (show (Addr.add _ _).block ≠ _; rw [add_block]; exact hn105_2) | exact hn105_2) (.slice A103_2 ((rd_T47 l0_3 x5_2).f2).length c103_2)).trans hx105_1; replace hx105_2 := (cell_far (p := ⟨gb104, 2, none⟩) (by first | (rw [add_block]; exact hn105_2) | (show (Addr.add _ _).block ≠ _; rw [add_block]; exact hn105_2) | exact hn105_2) (.slice A103_2 ((rd_T47 l0_3 x5_2).f2).length c103_2)).trans hx105_2; replace hx105_3 := (cell_far (p := ⟨gb104, 2, none⟩) (by first | (rw [add_block]; exact hn105_2) | (show (Addr.add _ _).block ≠ _; rw [add_block]; exact hn105_2) | exact hn105_2) (.slice A103_2 ((rd_T47 l0_3 x5_2).f2).length c103_2)).trans hx105_3; replace hx105_0 := (cell_far (p := ⟨gb104, 3, none⟩) (by first | (rw [add_block]; exact hn105_3) | (show (Addr.add _ _).block ≠ _; rw [add_block]; exact hn105_3) | exact hn105_3) (.string ((rd_T47 l0_3 x5_2).f3))).trans hx105_0; replace hx105_1 := (cell_far (p := ⟨gb104, 3, none⟩) (by first | (rw [add_block]; exact hn105_3) | (show (Addr.add _ _).block ≠ _; rw [add_block]; exact hn105_3) | exact hn105_3) (.string ((rd_T47 l0_3 x5_2).f3))).trans hx105_1; replace hx105_2 := (cell_far (p := ⟨gb104, 3, none⟩) (by first | (rw [add_block]; exact hn105_3) | (show (Addr.add _ _).block ≠ _; rw [add_block]; exact hn105_3) | exact hn105_3) (.string ((rd_T47 l0_3 x5_2).f3))).trans hx105_2; replace hx105_3 := (cell_far (p := ⟨gb104, 3, none⟩) (by first | (rw [add_block]; exact hn105_3) | (show (Addr.add _ _).block ≠ _; rw [add_block]; exact hn105_3) | exact hn105_3) (.string ((rd_T47 l0_3 x5_2).f3))).trans hx105_3; (try have hy105_0 := fun (n_ : Nat) => (show ((((((w28.drewN n_).setCell ⟨gb104, 0, none⟩ (.string ((rd_T47 l0_3 x5_2).f0))).setCell ⟨gb104, 1, none⟩ (.slice A103_1 ((rd_T47 l0_3 x5_2).f1).length c103_1)).setCell ⟨gb104, 2, none⟩ (.slice A103_2 ((rd_T47 l0_3 x5_2).f2).length c103_2)).setCell ⟨gb104, 3, none⟩ (.string ((rd_T47 l0_3 x5_2).f3)))).cell? _ = some _ from hx105_0)); (try have hy105_1 := fun (n_ : Nat) => (show ((((((w28.drewN n_).setCell ⟨gb104, 0, none⟩ (.string ((rd_T47 l0_3 x5_2).f0))).setCell ⟨gb104, 1, none⟩ (.slice A103_1 ((rd_T47 l0_3 x5_2).f1).length c103_1)).setCell ⟨gb104, 2, none⟩ (.slice A103_2 ((rd_T47 l0_3 x5_2).f2).length c103_2)).setCell ⟨gb104, 3, none⟩ (.string ((rd_T47 l0_3 x5_2).f3)))).cell? _ = some _ from hx105_1)); (try have hy105_2 := fun (n_ : Nat) => (show ((((((w28.drewN n_).setCell ⟨gb104, 0, none⟩ (.string ((rd_T47 l0_3 x5_2).f0))).setCell ⟨gb104, 1, none⟩ (.slice A103_1 ((rd_T47 l0_3 x5_2).f1).length c103_1)).setCell ⟨gb104, 2, none⟩ (.slice A103_2 ((rd_T47 l0_3 x5_2).f2).length c103_2)).setCell ⟨gb104, 3, none⟩ (.string ((rd_T47 l0_3 x5_2).f3)))).cell? _ = some _ from hx105_2)); (try have hy105_3 := fun (n_ : Nat) => (show ((((((w28.drewN n_).setCell ⟨gb104, 0, none⟩ (.string ((rd_T47 l0_3 x5_2).f0))).setCell ⟨gb104, 1, none⟩ (.slice A103_1 ((rd_T47 l0_3 x5_2).f1).length c103_1)).setCell ⟨gb104, 2, none⟩ (.slice A103_2 ((rd_T47 l0_3 x5_2).f2).length c103_2)).setCell ⟨gb104, 3, none⟩ (.string ((rd_T47 l0_3 x5_2).f3)))).cell? _ = some _ from hx105_3)); clear hn105_0; clear hn105_1; clear hn105_2; clear hn105_3; replace p105 := eq_true p105; replace q105 := eq_true q105) | ((with_reducible refine gate_dst (N := 7) rfl ?_); (try (refine gate_guard (by rfl) ?_; dsimp only)); refine box_event ?hg (N := 7) ?hd (cs := #[.string (⟨#[]⟩ : ByteArray), .slice none 0 0, .slice none 0 0, .string (⟨#[]⟩ : ByteArray)]) (t := 47) ?hr ?_; (case hd => rfl); (case hg => rfl); (case hr => first | (go_simp; done) | (go_simp; rfl)); intro gb106 hg w33 hbox hb; have n0_ := Aside0.mk (blk_below (g := gb101) (o := .cells #[.int .i64 a0_0, .int .i64 a0_1, .int .i64 a0_2, .slice (some ad103) l0_3.length c0_3] 25 (0, 0)) (by (with_reducible repeat (first | refine blk_drewN ?_ _ | refine blk_drew ?_ | refine blk_alloc ?_ _)); refine blk_far ?_ NB101_104.out _; (with_reducible repeat (first | refine blk_drewN ?_ _ | refine blk_drew ?_ | refine blk_alloc ?_ _)); refine blk_far ?_ NB101_104.out _; (with_reducible repeat (first | refine blk_drewN ?_ _ | refine blk_drew ?_ | refine blk_alloc ?_ _)); refine blk_far ?_ NB101_104.out _; (with_reducible repeat (first | refine blk_drewN ?_ _ | refine blk_drew ?_ | refine blk_alloc ?_ _)); refine blk_far ?_ NB101_104.out _; (with_reducible repeat (first | refine blk_drewN ?_ _ | refine blk_drew ?_ | refine blk_alloc ?_ _)); exact BK101.out) hb); have n1_ := Aside0.mk (blk_below (g := gb102) (o := .cells #[.int .i64 a1_0, .int .i64 a1_1, .int .i64 a1_2, .slice (some ad105) l1_3.length c1_3] 25 (0, 0)) (by (with_reducible repeat (first | refine blk_drewN ?_ _ | refine blk_drew ?_ | refine blk_alloc ?_ _)); refine blk_far ?_ NB102_104.out _; (with_reducible repeat (first | refine blk_drewN ?_ _ | refine blk_drew ?_ | refine blk_alloc ?_ _)); refine blk_far ?_ NB102_104.out _; (with_reducible repeat (first | refine blk_drewN ?_ _ | refine blk_drew ?_ | refine blk_alloc ?_ _)); refine blk_far ?_ NB102_104.out _; (with_reducible repeat (first | refine blk_drewN ?_ _ | refine blk_drew ?_ | refine blk_alloc ?_ _)); refine blk_far ?_ NB102_104.out _; (with_reducible repeat (first | refine blk_drewN ?_ _ | refine blk_drew ?_ | refine blk_alloc ?_ _)); exact BK102.out) hb); have n2_ := Aside0.mk (blk_below (g := gb104) (o := .cells #[.string ((rd_T47 l0_3 x5_2).f0), .slice A103_1 ((rd_T47 l0_3 x5_2).f1).length c103_1, .slice A103_2 ((rd_T47 l0_3 x5_2).f2).length c103_2, .string ((rd_T47 l0_3 x5_2).f3)] 47 (0, 0)) (by (with_reducible repeat (first | refine blk_drewN ?_ _ | refine blk_drew ?_ | refine blk_alloc ?_ _)); refine blk_put (cs := #[.string ((rd_T47 l0_3 x5_2).f0), .slice A103_1 ((rd_T47 l0_3 x5_2).f1).length c103_1, .slice A103_2 ((rd_T47 l0_3 x5_2).f2).length c103_2, .string (⟨#[]⟩ : ByteArray)]) ?_ 3 _ rfl; (with_reducible repeat (first | refine blk_drewN ?_ _ | refine blk_drew ?_ | refine blk_alloc ?_ _)); refine blk_put (cs := #[.string ((rd_T47 l0_3 x5_2).f0), .slice A103_1 ((rd_T47 l0_3 x5_2).f1).length c103_1, .slice none 0 0, .string (⟨#[]⟩ : ByteArray)]) ?_ 2 _ rfl; (with_reducible repeat (first | refine blk_drewN ?_ _ | refine blk_drew ?_ | refine blk_alloc ?_ _)); refine blk_put (cs := #[.string ((rd_T47 l0_3 x5_2).f0), .slice none 0 0, .slice none 0 0, .string (⟨#[]⟩ : ByteArray)]) ?_ 1 _ rfl; (with_reducible repeat (first | refine blk_drewN ?_ _ | refine blk_drew ?_ | refine blk_alloc ?_ _)); refine blk_put (cs := #[.string (⟨#[]⟩ : ByteArray), .slice none 0 0, .slice none 0 0, .string (⟨#[]⟩ : ByteArray)]) ?_ 0 _ rfl; (with_reducible repeat (first | refine blk_drewN ?_ _ | refine blk_drew ?_ | refine blk_alloc ?_ _)); exact BK104.out) hb); have n3_ := Aside0.mk (below_step (by repeat (first | (with_reducible first | exact HB.out | apply below_alloc | apply pw_below_drewN | apply below_drew1 | refine below_set ?_ GE101.out | refine below_set ?_ GE102.out | refine below_set ?_ GE104.out) | exact HB.out)) hb); have n4_ := Aside0.mk (hbox); have n5_ := Aside0.mk ((by rw [hg]; exact (below_size (by repeat (first | (with_reducible first | exact HB.out | apply below_alloc | apply pw_below_drewN | apply below_drew1 | refine below_set ?_ GE101.out | refine below_set ?_ GE102.out | refine below_set ?_ GE104.out) | exact HB.out))) : w.heap.size ≤ gb106)); have n6_ := Aside0.mk ((by rw [hg]; exact (below_size (by repeat (first | (with_reducible first | exact HB.out | apply below_alloc | apply pw_below_drewN | apply below_drew1 | refine below_set ?_ GE101.out | refine below_set ?_ GE102.out | refine below_set ?_ GE104.out) | exact HB.out))) : w.heap.size ≤ gb106)); have n7_ := Aside0.mk ((by rw [hg]; exact Nat.ne_of_lt (blk_lt (g := gb101) (o := .cells #[.int .i64 a0_0, .int .i64 a0_1, .int .i64 a0_2, .slice (some ad103) l0_3.length c0_3] 25 (0, 0)) (by (with_reducible repeat (first | refine blk_drewN ?_ _ | refine blk_drew ?_ | refine blk_alloc ?_ _)); refine blk_far ?_ NB101_104.out _; (with_reducible repeat (first | refine blk_drewN ?_ _ | refine blk_drew ?_ | refine blk_alloc ?_ _)); refine blk_far ?_ NB101_104.out _; (with_reducible repeat (first | refine blk_drewN ?_ _ | refine blk_drew ?_ | refine blk_alloc ?_ _)); refine blk_far ?_ NB101_104.out _; (with_reducible repeat (first | refine blk_drewN ?_ _ | refine blk_drew ?_ | refine blk_alloc ?_ _)); refine blk_far ?_ NB101_104.out _; (with_reducible repeat (first | refine blk_drewN ?_ _ | refine blk_drew ?_ | refine blk_alloc ?_ _)); exact BK101.out)) : gb101 ≠ gb106)); have n8_ := Aside0.mk ((by rw [hg]; exact Nat.ne_of_gt (blk_lt (g := gb101) (o := .cells #[.int .i64 a0_0, .int .i64 a0_1, .int .i64 a0_2, .slice (some ad103) l0_3.length c0_3] 25 (0, 0)) (by (with_reducible repeat (first | refine blk_drewN ?_ _ | refine blk_drew ?_ | refine blk_alloc ?_ _)); refine blk_far ?_ NB101_104.out _; (with_reducible repeat (first | refine blk_drewN ?_ _ | refine blk_drew ?_ | refine blk_alloc ?_ _)); refine blk_far ?_ NB101_104.out _; (with_reducible repeat (first | refine blk_drewN ?_ _ | refine blk_drew ?_ | refine blk_alloc ?_ _)); refine blk_far ?_ NB101_104.out _; (with_reducible repeat (first | refine blk_drewN ?_ _ | refine blk_drew ?_ | refine blk_alloc ?_ _)); refine blk_far ?_ NB101_104.out _; (with_reducible repeat (first | refine blk_drewN ?_ _ | refine blk_drew ?_ | refine blk_alloc ?_ _)); exact BK101.out)) : gb106 ≠ gb101)); have n9_ := Aside0.mk ((by rw [hg]; exact Nat.ne_of_lt (blk_lt (g := gb102) (o := .cells #[.int .i64 a1_0, .int .i64 a1_1, .int .i64 a1_2, .slice (some ad105) l1_3.length c1_3] 25 (0, 0)) (by (with_reducible repeat (first | refine blk_drewN ?_ _ | refine blk_drew ?_ | refine blk_alloc ?_ _)); refine blk_far ?_ NB102_104.out _; (with_reducible repeat (first | refine blk_drewN ?_ _ | refine blk_drew ?_ | refine blk_alloc ?_ _)); refine blk_far ?_ NB102_104.out _; (with_reducible repeat (first | refine blk_drewN ?_ _ | refine blk_drew ?_ | refine blk_alloc ?_ _)); refine blk_far ?_ NB102_104.out _; (with_reducible repeat (first | refine blk_drewN ?_ _ | refine blk_drew ?_ | refine blk_alloc ?_ _)); refine blk_far ?_ NB102_104.out _; (with_reducible repeat (first | refine blk_drewN ?_ _ | refine blk_drew ?_ | refine blk_alloc ?_ _)); exact BK102.out)) : gb102 ≠ gb106)); have n10_ := Aside0.mk ((by rw [hg]; exact Nat.ne_of_gt (blk_lt (g := gb102) (o := .cells #[.int .i64 a1_0, .int .i64 a1_1, .int .i64 a1_2, .slice (some ad105) l1_3.length c1_3] 25 (0, 0)) (by (with_reducible repeat (first | refine blk_drewN ?_ _ | refine blk_drew ?_ | refine blk_alloc ?_ _)); refine blk_far ?_ NB102_104.out _; (with_reducible repeat (first | refine blk_drewN ?_ _ | refine blk_drew ?_ | refine blk_alloc ?_ _)); refine blk_far ?_ NB102_104.out _; (with_reducible repeat (first | refine blk_drewN ?_ _ | refine blk_drew ?_ | refine blk_alloc ?_ _)); refine blk_far ?_ NB102_104.out _; (with_reducible repeat (first | refine blk_drewN ?_ _ | refine blk_drew ?_ | refine blk_alloc ?_ _)); refine blk_far ?_ NB102_104.out _; (with_reducible repeat (first | refine blk_drewN ?_ _ | refine blk_drew ?_ | refine blk_alloc ?_ _)); exact BK102.out)) : gb106 ≠ gb102)); have n11_ := Aside0.mk ((by rw [hg]; exact Nat.ne_of_lt (blk_lt (g := gb104) (o := .cells #[.string ((rd_T47 l0_3 x5_2).f0), .slice A103_1 ((rd_T47 l0_3 x5_2).f1).length c103_1, .slice A103_2 ((rd_T47 l0_3 x5_2).f2).length c103_2, .string ((rd_T47 l0_3 x5_2).f3)] 47 (0, 0)) (by (with_reducible repeat (first | refine blk_drewN ?_ _ | refine blk_drew ?_ | refine blk_alloc ?_ _)); refine blk_put (cs := #[.string ((rd_T47 l0_3 x5_2).f0), .slice A103_1 ((rd_T47 l0_3 x5_2).f1).length c103_1, .slice A103_2 ((rd_T47 l0_3 x5_2).f2).length c103_2, .string (⟨#[]⟩ : ByteArray)]) ?_ 3 _ rfl; (with_reducible repeat (first | refine blk_drewN ?_ _ | refine blk_drew ?_ | refine blk_alloc ?_ _)); refine blk_put (cs := #[.string ((rd_T47 l0_3 x5_2).f0), .slice A103_1 ((rd_T47 l0_3 x5_2).f1).length c103_1, .slice none 0 0, .string (⟨#[]⟩ : ByteArray)]) ?_ 2 _ rfl; (with_reducible repeat (first | refine blk_drewN ?_ _ | refine blk_drew ?_ | refine blk_alloc ?_ _)); refine blk_put (cs := #[.string ((rd_T47 l0_3 x5_2).f0), .slice none 0 0, .slice none 0 0, .string (⟨#[]⟩ : ByteArray)]) ?_ 1 _ rfl; (with_reducible repeat (first | refine blk_drewN ?_ _ | refine blk_drew ?_ | refine blk_alloc ?_ _)); refine blk_put (cs := #[.string (⟨#[]⟩ : ByteArray), .slice none 0 0, .slice none 0 0, .string (⟨#[]⟩ : ByteArray)]) ?_ 0 _ rfl; (with_reducible repeat (first | refine blk_drewN ?_ _ | refine blk_drew ?_ | refine blk_alloc ?_ _)); exact BK104.out)) : gb104 ≠ gb106)); have n12_ := Aside0.mk ((by rw [hg]; exact Nat.ne_of_gt (blk_lt (g := gb104) (o := .cells #[.string ((rd_T47 l0_3 x5_2).f0), .slice A103_1 ((rd_T47 l0_3 x5_2).f1).length c103_1, .slice A103_2 ((rd_T47 l0_3 x5_2).f2).length c103_2, .string ((rd_T47 l0_3 x5_2).f3)] 47 (0, 0)) (by (with_reducible repeat (first | refine blk_drewN ?_ _ | refine blk_drew ?_ | refine blk_alloc ?_ _)); refine blk_put (cs := #[.string ((rd_T47 l0_3 x5_2).f0), .slice A103_1 ((rd_T47 l0_3 x5_2).f1).length c103_1, .slice A103_2 ((rd_T47 l0_3 x5_2).f2).length c103_2, .string (⟨#[]⟩ : ByteArray)]) ?_ 3 _ rfl; (with_reducible repeat (first | refine blk_drewN ?_ _ | refine blk_drew ?_ | refine blk_alloc ?_ _)); refine blk_put (cs := #[.string ((rd_T47 l0_3 x5_2).f0), .slice A103_1 ((rd_T47 l0_3 x5_2).f1).length c103_1, .slice none 0 0, .string (⟨#[]⟩ : ByteArray)]) ?_ 2 _ rfl; (with_reducible repeat (first | refine blk_drewN ?_ _ | refine blk_drew ?_ | refine blk_alloc ?_ _)); refine blk_put (cs := #[.string ((rd_T47 l0_3 x5_2).f0), .slice none 0 0, .slice none 0 0, .string (⟨#[]⟩ : ByteArray)]) ?_ 1 _ rfl; (with_reducible repeat (first | refine blk_drewN ?_ _ | refine blk_drew ?_ | refine blk_alloc ?_ _)); refine blk_put (cs := #[.string (⟨#[]⟩ : ByteArray), .slice none 0 0, .slice none 0 0, .string (⟨#[]⟩ : ByteArray)]) ?_ 0 _ rfl; (with_reducible repeat (first | refine blk_drewN ?_ _ | refine blk_drew ?_ | refine blk_alloc ?_ _)); exact BK104.out)) : gb106 ≠ gb104)); clear BK101; clear BK102; clear BK104; clear HB; have BK101 := n0_; have BK102 := n1_; have BK104 := n2_; have HB := n3_; have BK106 := n4_; have GW106 := n5_; have GE106 := n6_; have NB101_106 := n7_; have NB106_101 := n8_; have NB102_106 := n9_; have NB106_102 := n10_; have NB104_106 := n11_; have NB106_104 := n12_; clear n0_ n1_ n2_ n3_ n4_ n5_ n6_ n7_ n8_ n9_ n10_ n11_ n12_; clear hb hbox hg; have hnb34 := NB106_101.out; have hnc34 := NB101_106.out; have hnb35 := NB106_102.out; have hnc35 := NB102_106.out; have hnb36 := NB106_104.out; have hnc36 := NB104_106.out; have hcz37_0 : w33.cell? ⟨gb106, 0, none⟩ = some (.string (⟨#[]⟩ : ByteArray)) := (blk_cell BK106.out 0).trans rfl; have hcz37_1 : w33.cell? ⟨gb106, 1, none⟩ = some (.slice none 0 0) := (blk_cell BK106.out 1).trans rfl; have hcz37_2 : w33.cell? ⟨gb106, 2, none⟩ = some (.slice none 0 0) := (blk_cell BK106.out 2).trans rfl; have hcz37_3 : w33.cell? ⟨gb106, 3, none⟩ = some (.string (⟨#[]⟩ : ByteArray)) := (blk_cell BK106.out 3).trans rfl; have hfz37_0 := blk_frozen BK106.out 0; have hfz37_1 := blk_frozen BK106.out 1; have hfz37_2 := blk_frozen BK106.out 2; have hfz37_3 := blk_frozen BK106.out 3))
         repeat (go_quiet (first | ((with_reducible refine gate_dst (N := 6) rfl ?_); (try (refine gate_guard (by rfl) ?_; dsimp only)); refine box_event ?hg (N := 6) ?hd (cs := #[.string (⟨#[]⟩ : ByteArray), .slice none 0 0, .slice none 0 0, .string (⟨#[]⟩ : ByteArray)]) (t := 47) ?hr ?_; (case hd => rfl); (case hg => rfl); (case hr => first | (go_simp; done) | (go_simp; rfl)); intro gb104 hg w28 hbox hb; have n0_ := Aside0.mk (blk_below (g := gb101) (o := .cells #[.int .i64 a0_0, .int .i64 a0_1, .int .i64 a0_2, .slice (some ad103) l0_3.length c0_3] 25 (0, 0)) (by (with_reducible repeat (first | refine blk_drewN ?_ _ | refine blk_drew ?_ | refine blk_alloc ?_ _)); exact BK101.out) hb); have n1_ := Aside0.mk (blk_below (g := gb102) (o := .cells #[.int .i64 a1_0, .int .i64 a1_1, .int .i64 a1_2, .slice A1_3 l1_3.length c1_3] 25 (0, 0)) (by (with_reducible repeat (first | refine blk_drewN ?_ _ | refine blk_drew ?_ | refine blk_alloc ?_ _)); exact BK102.out) hb); have n2_ := Aside0.mk (below_step (by repeat (first | (with_reducible first | exact HB.out | apply below_alloc | apply pw_below_drewN | apply below_drew1 | refine below_set ?_ GE101.out | refine below_set ?_ GE102.out) | exact HB.out)) hb); have n3_ := Aside0.mk (hbox); have n4_ := Aside0.mk ((by rw [hg]; exact (below_size (by repeat (first | (with_reducible first | exact HB.out | apply below_alloc | apply pw_below_drewN | apply below_drew1 | refine below_set ?_ GE101.out | refine below_set ?_ GE102.out) | exact HB.out))) : w.heap.size ≤ gb104)); have n5_ := Aside0.mk ((by rw [hg]; exact (below_size (by repeat (first | (with_reducible first | exact HB.out | apply below_alloc | apply pw_below_drewN | apply below_drew1 | refine below_set ?_ GE101.out | refine below_set ?_ GE102.out) | exact HB.out))) : w.heap.size ≤ gb104)); have n6_ := Aside0.mk ((by rw [hg]; exact Nat.ne_of_lt (blk_lt (g := gb101) (o := .cells #[.int .i64 a0_0, .int .i64 a0_1, .int .i64 a0_2, .slice (some ad103) l0_3.length c0_3] 25 (0, 0)) (by (with_reducible repeat (first | refine blk_drewN ?_ _ | refine blk_drew ?_ | refine blk_alloc ?_ _)); exact BK101.out)) : gb101 ≠ gb104)); have n7_ := Aside0.mk ((by rw [hg]; exact Nat.ne_of_gt (blk_lt (g := gb101) (o := .cells #[.int .i64 a0_0, .int .i64 a0_1, .int .i64 a0_2, .slice (some ad103) l0_3.length c0_3] 25 (0, 0)) (by (with_reducible repeat (first | refine blk_drewN ?_ _ | refine blk_drew ?_ | refine blk_alloc ?_ _)); exact BK101.out)) : gb104 ≠ gb101)); have n8_ := Aside0.mk ((by rw [hg]; exact Nat.ne_of_lt (blk_lt (g := gb102) (o := .cells #[.int .i64 a1_0, .int .i64 a1_1, .int .i64 a1_2, .slice A1_3 l1_3.length c1_3] 25 (0, 0)) (by (with_reducible repeat (first | refine blk_drewN ?_ _ | refine blk_drew ?_ | refine blk_alloc ?_ _)); exact BK102.out)) : gb102 ≠ gb104)); have n9_ := Aside0.mk ((by rw [hg]; exact Nat.ne_of_gt (blk_lt (g := gb102) (o := .cells #[.int .i64 a1_0, .int .i64 a1_1, .int .i64 a1_2, .slice A1_3 l1_3.length c1_3] 25 (0, 0)) (by (with_reducible repeat (first | refine blk_drewN ?_ _ | refine blk_drew ?_ | refine blk_alloc ?_ _)); exact BK102.out)) : gb104 ≠ gb102)); clear BK101; clear BK102; clear HB; have BK101 := n0_; have BK102 := n1_; have HB := n2_; have BK104 := n3_; have GW104 := n4_; have GE104 := n5_; have NB101_104 := n6_; have NB104_101 := n7_; have NB102_104 := n8_; have NB104_102 := n9_; clear n0_ n1_ n2_ n3_ n4_ n5_ n6_ n7_ n8_ n9_; clear hb hbox hg; have hnb29 := NB104_101.out; have hnc29 := NB101_104.out; have hnb30 := NB104_102.out; have hnc30 := NB102_104.out; have hcz31_0 : w28.cell? ⟨gb104, 0, none⟩ = some (.string (⟨#[]⟩ : ByteArray)) := (blk_cell BK104.out 0).trans rfl; have hcz31_1 : w28.cell? ⟨gb104, 1, none⟩ = some (.slice none 0 0) := (blk_cell BK104.out 1).trans rfl; have hcz31_2 : w28.cell? ⟨gb104, 2, none⟩ = some (.slice none 0 0) := (blk_cell BK104.out 2).trans rfl; have hcz31_3 : w28.cell? ⟨gb104, 3, none⟩ = some (.string (⟨#[]⟩ : ByteArray)) := (blk_cell BK104.out 3).trans rfl; have hfz31_0 := blk_frozen BK104.out 0; have hfz31_1 := blk_frozen BK104.out 1; have hfz31_2 := blk_frozen BK104.out 2; have hfz31_3 := blk_frozen BK104.out 3; have hcz32_0 : w28.cell? ⟨gb102, 0, none⟩ = some (.int .i64 a1_0) := (blk_cell BK102.out 0).trans rfl; have hcz32_1 : w28.cell? ⟨gb102, 1, none⟩ = some (.int .i64 a1_1) := (blk_cell BK102.out 1).trans rfl; have hcz32_2 : w28.cell? ⟨gb102, 2, none⟩ = some (.int .i64 a1_2) := (blk_cell BK102.out 2).trans rfl; have hcz32_3 : w28.cell? ⟨gb102, 3, none⟩ = some (.slice A1_3 l1_3.length c1_3) := (blk_cell BK102.out 3).trans rfl; have hfz32_0 := blk_frozen BK102.out 0; have hfz32_1 := blk_frozen BK102.out 1; have hfz32_2 := blk_frozen BK102.out 2; have hfz32_3 := blk_frozen BK102.out 3; have p105 : 0 ≤ (x5_2 : Int) := of_decide_eq_true (by first | (with_reducible assumption) | assumption); have q105 : x5_2 < (l1_3.length : Int) := of_decide_eq_true (by first | (with_reducible assumption) | assumption); obtain ⟨ad105, A105_1, c105_1, A105_2, c105_2, e105, hx105_0, hx105_1, hx105_2, hx105_3, hl105_1, hi105_1, hl105_2, hi105_2⟩ := at_T47 HR1_3.out x5_2 p105 q105; cases e105; have hn105_0 : ad105.block ≠ gb104 := Nat.ne_of_lt (Nat.lt_of_lt_of_le (by have := World.block_lt_of_cell? _ _ hx105_0; first | rwa [add_block] at this | exact this) GW104.out); have hn105_1 : ad105.block ≠ gb104 := Nat.ne_of_lt (Nat.lt_of_lt_of_le (by have := World.block_lt_of_cell? _ _ hx105_0; first | rwa [add_block] at this | exact this) GW104.out); have hn105_2 : ad105.block ≠ gb104 := Nat.ne_of_lt (Nat.lt_of_lt_of_le (by have := World.block_lt_of_cell? _ _ hx105_0; first | rwa [add_block] at this | exact this) GW104.out); have hn105_3 : ad105.block ≠ gb104 := Nat.ne_of_lt (Nat.lt_of_lt_of_le (by have := World.block_lt_of_cell? _ _ hx105_0; first | rwa [add_block] at this | exact this) GW104.out); replace hx105_0 := (HB.out.cell (World.block_lt_of_cell? w _ hx105_0)).trans hx105_0; replace hx105_1 := (HB.out.cell (World.block_lt_of_cell? w _ hx105_1)).trans hx105_1; replace hx105_2 := (HB.out.cell (World.block_lt_of_cell? w _ hx105_2)).trans hx105_2; replace hx105_3 := (HB.out.cell (World.block_lt_of_cell? w _ hx105_3)).trans hx105_3; have HR105_1 := Aside0.mk hi105_1; have HC105_1 := Aside0.mk hl105_1; clear hi105_1 hl105_1; have HR105_2 := Aside0.mk hi105_2; have HC105_2 := Aside0.mk hl105_2; clear hi105_2 hl105_2; replace hx105_0 := (cell_far (p := ⟨gb104, 0, none⟩) (by first | (rw [add_block]; exact hn105_0) | (show (Addr.add _ _).block ≠ _; rw [add_block]; exact hn105_0) | exact hn105_0) (.string ((rd_T47 l0_3 x5_2).f0))).trans hx105_0; replace hx105_1 := (cell_far (p := ⟨gb104, 0, none⟩) (by first | (rw [add_block]; exact hn105_0) | (show (Addr.add _ _).block ≠ _; rw [add_block]; exact hn105_0) | exact hn105_0) (.string ((rd_T47 l0_3 x5_2).f0))).trans hx105_1; replace hx105_2 := (cell_far (p := ⟨gb104, 0, none⟩) (by first | (rw [add_block]; exact hn105_0) | (show (Addr.add _ _).block ≠ _; rw [add_block]; exact hn105_0) | exact hn105_0) (.string ((rd_T47 l0_3 x5_2).f0))).trans hx105_2; replace hx105_3 := (cell_far (p := ⟨gb104, 0, none⟩) (by first | (rw [add_block]; exact hn105_0) | (show (Addr.add _ _).block ≠ _; rw [add_block]; exact hn105_0) | exact hn105_0) (.string ((rd_T47 l0_3 x5_2).f0))).trans hx105_3; replace hx105_0 := (cell_far (p := ⟨gb104, 1, none⟩) (by first | (rw [add_block]; exact hn105_1) | (show (Addr.add _ _).block ≠ _; rw [add_block]; exact hn105_1) | exact hn105_1) (.slice A103_1 ((rd_T47 l0_3 x5_2).f1).length c103_1)).trans hx105_0; replace hx105_1 := (cell_far (p := ⟨gb104, 1, none⟩) (by first | (rw [add_block]; exact hn105_1) | (show (Addr.add _ _).block ≠ _; rw [add_block]; exact hn105_1) | exact hn105_1) (.slice A103_1 ((rd_T47 l0_3 x5_2).f1).length c103_1)).trans hx105_1; replace hx105_2 := (cell_far (p := ⟨gb104, 1, none⟩) (by first | (rw [add_block]; exact hn105_1) | (show (Addr.add _ _).block ≠ _; rw [add_block]; exact hn105_1) | exact hn105_1) (.slice A103_1 ((rd_T47 l0_3 x5_2).f1).length c103_1)).trans hx105_2; replace hx105_3 := (cell_far (p := ⟨gb104, 1, none⟩) (by first | (rw [add_block]; exact hn105_1) | (show (Addr.add _ _).block ≠ _; rw [add_block]; exact hn105_1) | exact hn105_1) (.slice A103_1 ((rd_T47 l0_3 x5_2).f1).length c103_1)).trans hx105_3; replace hx105_0 := (cell_far (p := ⟨gb104, 2, none⟩) (by first | (rw [add_block]; exact hn105_2) | (show (Addr.add _ _).block ≠ _; rw [add_block]; exact hn105_2) | exact hn105_2) (.slice A103_2 ((rd_T47 l0_3 x5_2).f2).length c103_2)).trans hx105_0; replace hx105_1 := (cell_far (p := ⟨gb104, 2, none⟩) (by first | (rw [add_block]; exact hn105_2) | (show (Addr.add _ _).block ≠ _; rw [add_block]; exact hn105_2) | exact hn105_2) (.slice A103_2 ((rd_T47 l0_3 x5_2).f2).length c103_2)).trans hx105_1; replace hx105_2 := (cell_far (p := ⟨gb104, 2, none⟩) (by first | (rw [add_block]; exact hn105_2) | (show (Addr.add _ _).block ≠ _; rw [add_block]; exact hn105_2) | exact hn105_2) (.slice A103_2 ((rd_T47 l0_3 x5_2).f2).length c103_2)).trans hx105_2; replace hx105_3 := (cell_far (p := ⟨gb104, 2, none⟩) (by first | (rw [add_block]; exact hn105_2) | (show (Addr.add _ _).block ≠ _; rw [add_block]; exact hn105_2) | exact hn105_2) (.slice A103_2 ((rd_T47 l0_3 x5_2).f2).length c103_2)).trans hx105_3; replace hx105_0 := (cell_far (p := ⟨gb104, 3, none⟩) (by first | (rw [add_block]; exact hn105_3) | (show (Addr.add _ _).block ≠ _; rw [add_block]; exact hn105_3) | exact hn105_3) (.string ((rd_T47 l0_3 x5_2).f3))).trans hx105_0; replace hx105_1 := (cell_far (p := ⟨gb104, 3, none⟩) (by first | (rw [add_block]; exact hn105_3) | (show (Addr.add _ _).block ≠ _; rw [add_block]; exact hn105_3) | exact hn105_3) (.string ((rd_T47 l0_3 x5_2).f3))).trans hx105_1; replace hx105_2 := (cell_far (p := ⟨gb104, 3, none⟩) (by first | (rw [add_block]; exact hn105_3) | (show (Addr.add _ _).block ≠ _; rw [add_block]; exact hn105_3) | exact hn105_3) (.string ((rd_T47 l0_3 x5_2).f3))).trans hx105_2; replace hx105_3 := (cell_far (p := ⟨gb104, 3, none⟩) (by first | (rw [add_block]; exact hn105_3) | (show (Addr.add _ _).block ≠ _; rw [add_block]; exact hn105_3) | exact hn105_3) (.string ((rd_T47 l0_3 x5_2).f3))).trans hx105_3; (try have hy105_0 := fun (n_ : Nat) => (show ((((((w28.drewN n_).setCell ⟨gb104, 0, none⟩ (.string ((rd_T47 l0_3 x5_2).f0))).setCell ⟨gb104, 1, none⟩ (.slice A103_1 ((rd_T47 l0_3 x5_2).f1).length c103_1)).setCell ⟨gb104, 2, none⟩ (.slice A103_2 ((rd_T47 l0_3 x5_2).f2).length c103_2)).setCell ⟨gb104, 3, none⟩ (.string ((rd_T47 l0_3 x5_2).f3)))).cell? _ = some _ from hx105_0)); (try have hy105_1 := fun (n_ : Nat) => (show ((((((w28.drewN n_).setCell ⟨gb104, 0, none⟩ (.string ((rd_T47 l0_3 x5_2).f0))).setCell ⟨gb104, 1, none⟩ (.slice A103_1 ((rd_T47 l0_3 x5_2).f1).length c103_1)).setCell ⟨gb104, 2, none⟩ (.slice A103_2 ((rd_T47 l0_3 x5_2).f2).length c103_2)).setCell ⟨gb104, 3, none⟩ (.string ((rd_T47 l0_3 x5_2).f3)))).cell? _ = some _ from hx105_1)); (try have hy105_2 := fun (n_ : Nat) => (show ((((((w28.drewN n_).setCell ⟨gb104, 0, none⟩ (.string ((rd_T47 l0_3 x5_2).f0))).setCell ⟨gb104, 1, none⟩ (.slice A103_1 ((rd_T47 l0_3 x5_2).f1).length c103_1)).setCell ⟨gb104, 2, none⟩ (.slice A103_2 ((rd_T47 l0_3 x5_2).f2).length c103_2)).setCell ⟨gb104, 3, none⟩ (.string ((rd_T47 l0_3 x5_2).f3)))).cell? _ = some _ from hx105_2)); (try have hy105_3 := fun (n_ : Nat) => (show ((((((w28.drewN n_).setCell ⟨gb104, 0, none⟩ (.string ((rd_T47 l0_3 x5_2).f0))).setCell ⟨gb104, 1, none⟩ (.slice A103_1 ((rd_T47 l0_3 x5_2).f1).length c103_1)).setCell ⟨gb104, 2, none⟩ (.slice A103_2 ((rd_T47 l0_3 x5_2).f2).length c103_2)).setCell ⟨gb104, 3, none⟩ (.string ((rd_T47 l0_3 x5_2).f3)))).cell? _ = some _ from hx105_3)); clear hn105_0; clear hn105_1; clear hn105_2; clear hn105_3; replace p105 := eq_true p105; replace q105 := eq_true q105) | ((with_reducible refine gate_dst (N := 7) rfl ?_); (try (refine gate_guard (by rfl) ?_; dsimp only)); refine box_event ?hg (N := 7) ?hd (cs := #[.string (⟨#[]⟩ : ByteArray), .slice none 0 0, .slice none 0 0, .string (⟨#[]⟩ : ByteArray)]) (t := 47) ?hr ?_; (case hd => rfl); (case hg => rfl); (case hr => first | (go_simp; done) | (go_simp; rfl)); intro gb106 hg w33 hbox hb; have n0_ := Aside0.mk (blk_below (g := gb101) (o := .cells #[.int .i64 a0_0, .int .i64 a0_1, .int .i64 a0_2, .slice (some ad103) l0_3.length c0_3] 25 (0, 0)) (by (with_reducible repeat (first | refine blk_drewN ?_ _ | refine blk_drew ?_ | refine blk_alloc ?_ _)); refine blk_far ?_ NB101_104.out _; (with_reducible repeat (first | refine blk_drewN ?_ _ | refine blk_drew ?_ | refine blk_alloc ?_ _)); refine blk_far ?_ NB101_104.out _; (with_reducible repeat (first | refine blk_drewN ?_ _ | refine blk_drew ?_ | refine blk_alloc ?_ _)); refine blk_far ?_ NB101_104.out _; (with_reducible repeat (first | refine blk_drewN ?_ _ | refine blk_drew ?_ | refine blk_alloc ?_ _)); refine blk_far ?_ NB101_104.out _; (with_reducible repeat (first | refine blk_drewN ?_ _ | refine blk_drew ?_ | refine blk_alloc ?_ _)); exact BK101.out) hb); have n1_ := Aside0.mk (blk_below (g := gb102) (o := .cells #[.int .i64 a1_0, .int .i64 a1_1, .int .i64 a1_2, .slice (some ad105) l1_3.length c1_3] 25 (0, 0)) (by (with_reducible repeat (first | refine blk_drewN ?_ _ | refine blk_drew ?_ | refine blk_alloc ?_ _)); refine blk_far ?_ NB102_104.out _; (with_reducible repeat (first | refine blk_drewN ?_ _ | refine blk_drew ?_ | refine blk_alloc ?_ _)); refine blk_far ?_ NB102_104.out _; (with_reducible repeat (first | refine blk_drewN ?_ _ | refine blk_drew ?_ | refine blk_alloc ?_ _)); refine blk_far ?_ NB102_104.out _; (with_reducible repeat (first | refine blk_drewN ?_ _ | refine blk_drew ?_ | refine blk_alloc ?_ _)); refine blk_far ?_ NB102_104.out _; (with_reducible repeat (first | refine blk_drewN ?_ _ | refine blk_drew ?_ | refine blk_alloc ?_ _)); exact BK102.out) hb); have n2_ := Aside0.mk (blk_below (g := gb104) (o := .cells #[.string ((rd_T47 l0_3 x5_2).f0), .slice A103_1 ((rd_T47 l0_3 x5_2).f1).length c103_1, .slice A103_2 ((rd_T47 l0_3 x5_2).f2).length c103_2, .string ((rd_T47 l0_3 x5_2).f3)] 47 (0, 0)) (by (with_reducible repeat (first | refine blk_drewN ?_ _ | refine blk_drew ?_ | refine blk_alloc ?_ _)); refine blk_put (cs := #[.string ((rd_T47 l0_3 x5_2).f0), .slice A103_1 ((rd_T47 l0_3 x5_2).f1).length c103_1, .slice A103_2 ((rd_T47 l0_3 x5_2).f2).length c103_2, .string (⟨#[]⟩ : ByteArray)]) ?_ 3 _ rfl; (with_reducible repeat (first | refine blk_drewN ?_ _ | refine blk_drew ?_ | refine blk_alloc ?_ _)); refine blk_put (cs := #[.string ((rd_T47 l0_3 x5_2).f0), .slice A103_1 ((rd_T47 l0_3 x5_2).f1).length c103_1, .slice none 0 0, .string (⟨#[]⟩ : ByteArray)]) ?_ 2 _ rfl; (with_reducible repeat (first | refine blk_drewN ?_ _ | refine blk_drew ?_ | refine blk_alloc ?_ _)); refine blk_put (cs := #[.string ((rd_T47 l0_3 x5_2).f0), .slice none 0 0, .slice none 0 0, .string (⟨#[]⟩ : ByteArray)]) ?_ 1 _ rfl; (with_reducible repeat (first | refine blk_drewN ?_ _ | refine blk_drew ?_ | refine blk_alloc ?_ _)); refine blk_put (cs := #[.string (⟨#[]⟩ : ByteArray), .slice none 0 0, .slice none 0 0, .string (⟨#[]⟩ : ByteArray)]) ?_ 0 _ rfl; (with_reducible repeat (first | refine blk_drewN ?_ _ | refine blk_drew ?_ | refine blk_alloc ?_ _)); exact BK104.out) hb); have n3_ := Aside0.mk (below_step (by repeat (first | (with_reducible first | exact HB.out | apply below_alloc | apply pw_below_drewN | apply below_drew1 | refine below_set ?_ GE101.out | refine below_set ?_ GE102.out | refine below_set ?_ GE104.out) | exact HB.out)) hb); have n4_ := Aside0.mk (hbox); have n5_ := Aside0.mk ((by rw [hg]; exact (below_size (by repeat (first | (with_reducible first | exact HB.out | apply below_alloc | apply pw_below_drewN | apply below_drew1 | refine below_set ?_ GE101.out | refine below_set ?_ GE102.out | refine below_set ?_ GE104.out) | exact HB.out))) : w.heap.size ≤ gb106)); have n6_ := Aside0.mk ((by rw [hg]; exact (below_size (by repeat (first | (with_reducible first | exact HB.out | apply below_alloc | apply pw_below_drewN | apply below_drew1 | refine below_set ?_ GE101.out | refine below_set ?_ GE102.out | refine below_set ?_ GE104.out) | exact HB.out))) : w.heap.size ≤ gb106)); have n7_ := Aside0.mk ((by rw [hg]; exact Nat.ne_of_lt (blk_lt (g := gb101) (o := .cells #[.int .i64 a0_0, .int .i64 a0_1, .int .i64 a0_2, .slice (some ad103) l0_3.length c0_3] 25 (0, 0)) (by (with_reducible repeat (first | refine blk_drewN ?_ _ | refine blk_drew ?_ | refine blk_alloc ?_ _)); refine blk_far ?_ NB101_104.out _; (with_reducible repeat (first | refine blk_drewN ?_ _ | refine blk_drew ?_ | refine blk_alloc ?_ _)); refine blk_far ?_ NB101_104.out _; (with_reducible repeat (first | refine blk_drewN ?_ _ | refine blk_drew ?_ | refine blk_alloc ?_ _)); refine blk_far ?_ NB101_104.out _; (with_reducible repeat (first | refine blk_drewN ?_ _ | refine blk_drew ?_ | refine blk_alloc ?_ _)); refine blk_far ?_ NB101_104.out _; (with_reducible repeat (first | refine blk_drewN ?_ _ | refine blk_drew ?_ | refine blk_alloc ?_ _)); exact BK101.out)) : gb101 ≠ gb106)); have n8_ := Aside0.mk ((by rw [hg]; exact Nat.ne_of_gt (blk_lt (g := gb101) (o := .cells #[.int .i64 a0_0, .int .i64 a0_1, .int .i64 a0_2, .slice (some ad103) l0_3.length c0_3] 25 (0, 0)) (by (with_reducible repeat (first | refine blk_drewN ?_ _ | refine blk_drew ?_ | refine blk_alloc ?_ _)); refine blk_far ?_ NB101_104.out _; (with_reducible repeat (first | refine blk_drewN ?_ _ | refine blk_drew ?_ | refine blk_alloc ?_ _)); refine blk_far ?_ NB101_104.out _; (with_reducible repeat (first | refine blk_drewN ?_ _ | refine blk_drew ?_ | refine blk_alloc ?_ _)); refine blk_far ?_ NB101_104.out _; (with_reducible repeat (first | refine blk_drewN ?_ _ | refine blk_drew ?_ | refine blk_alloc ?_ _)); refine blk_far ?_ NB101_104.out _; (with_reducible repeat (first | refine blk_drewN ?_ _ | refine blk_drew ?_ | refine blk_alloc ?_ _)); exact BK101.out)) : gb106 ≠ gb101)); have n9_ := Aside0.mk ((by rw [hg]; exact Nat.ne_of_lt (blk_lt (g := gb102) (o := .cells #[.int .i64 a1_0, .int .i64 a1_1, .int .i64 a1_2, .slice (some ad105) l1_3.length c1_3] 25 (0, 0)) (by (with_reducible repeat (first | refine blk_drewN ?_ _ | refine blk_drew ?_ | refine blk_alloc ?_ _)); refine blk_far ?_ NB102_104.out _; (with_reducible repeat (first | refine blk_drewN ?_ _ | refine blk_drew ?_ | refine blk_alloc ?_ _)); refine blk_far ?_ NB102_104.out _; (with_reducible repeat (first | refine blk_drewN ?_ _ | refine blk_drew ?_ | refine blk_alloc ?_ _)); refine blk_far ?_ NB102_104.out _; (with_reducible repeat (first | refine blk_drewN ?_ _ | refine blk_drew ?_ | refine blk_alloc ?_ _)); refine blk_far ?_ NB102_104.out _; (with_reducible repeat (first | refine blk_drewN ?_ _ | refine blk_drew ?_ | refine blk_alloc ?_ _)); exact BK102.out)) : gb102 ≠ gb106)); have n10_ := Aside0.mk ((by rw [hg]; exact Nat.ne_of_gt (blk_lt (g := gb102) (o := .cells #[.int .i64 a1_0, .int .i64 a1_1, .int .i64 a1_2, .slice (some ad105) l1_3.length c1_3] 25 (0, 0)) (by (with_reducible repeat (first | refine blk_drewN ?_ _ | refine blk_drew ?_ | refine blk_alloc ?_ _)); refine blk_far ?_ NB102_104.out _; (with_reducible repeat (first | refine blk_drewN ?_ _ | refine blk_drew ?_ | refine blk_alloc ?_ _)); refine blk_far ?_ NB102_104.out _; (with_reducible repeat (first | refine blk_drewN ?_ _ | refine blk_drew ?_ | refine blk_alloc ?_ _)); refine blk_far ?_ NB102_104.out _; (with_reducible repeat (first | refine blk_drewN ?_ _ | refine blk_drew ?_ | refine blk_alloc ?_ _)); refine blk_far ?_ NB102_104.out _; (with_reducible repeat (first | refine blk_drewN ?_ _ | refine blk_drew ?_ | refine blk_alloc ?_ _)); exact BK102.out)) : gb106 ≠ gb102)); have n11_ := Aside0.mk ((by rw [hg]; exact Nat.ne_of_lt (blk_lt (g := gb104) (o := .cells #[.string ((rd_T47 l0_3 x5_2).f0), .slice A103_1 ((rd_T47 l0_3 x5_2).f1).length c103_1, .slice A103_2 ((rd_T47 l0_3 x5_2).f2).length c103_2, .string ((rd_T47 l0_3 x5_2).f3)] 47 (0, 0)) (by (with_reducible repeat (first | refine blk_drewN ?_ _ | refine blk_drew ?_ | refine blk_alloc ?_ _)); refine blk_put (cs := #[.string ((rd_T47 l0_3 x5_2).f0), .slice A103_1 ((rd_T47 l0_3 x5_2).f1).length c103_1, .slice A103_2 ((rd_T47 l0_3 x5_2).f2).length c103_2, .string (⟨#[]⟩ : ByteArray)]) ?_ 3 _ rfl; (with_reducible repeat (first | refine blk_drewN ?_ _ | refine blk_drew ?_ | refine blk_alloc ?_ _)); refine blk_put (cs := #[.string ((rd_T47 l0_3 x5_2).f0), .slice A103_1 ((rd_T47 l0_3 x5_2).f1).length c103_1, .slice none 0 0, .string (⟨#[]⟩ : ByteArray)]) ?_ 2 _ rfl; (with_reducible repeat (first | refine blk_drewN ?_ _ | refine blk_drew ?_ | refine blk_alloc ?_ _)); refine blk_put (cs := #[.string ((rd_T47 l0_3 x5_2).f0), .slice none 0 0, .slice none 0 0, .string (⟨#[]⟩ : ByteArray)]) ?_ 1 _ rfl; (with_reducible repeat (first | refine blk_drewN ?_ _ | refine blk_drew ?_ | refine blk_alloc ?_ _)); refine blk_put (cs := #[.string (⟨#[]⟩ : ByteArray), .slice none 0 0, .slice none 0 0, .string (⟨#[]⟩ : ByteArray)]) ?_ 0 _ rfl; (with_reducible repeat (first | refine blk_drewN ?_ _ | refine blk_drew ?_ | refine blk_alloc ?_ _)); exact BK104.out)) : gb104 ≠ gb106)); have n12_ := Aside0.mk ((by rw [hg]; exact Nat.ne_of_gt (blk_lt (g := gb104) (o := .cells #[.string ((rd_T47 l0_3 x5_2).f0), .slice A103_1 ((rd_T47 l0_3 x5_2).f1).length c103_1, .slice A103_2 ((rd_T47 l0_3 x5_2).f2).length c103_2, .string ((rd_T47 l0_3 x5_2).f3)] 47 (0, 0)) (by (with_reducible repeat (first | refine blk_drewN ?_ _ | refine blk_drew ?_ | refine blk_alloc ?_ _)); refine blk_put (cs := #[.string ((rd_T47 l0_3 x5_2).f0), .slice A103_1 ((rd_T47 l0_3 x5_2).f1).length c103_1, .slice A103_2 ((rd_T47 l0_3 x5_2).f2).length c103_2, .string (⟨#[]⟩ : ByteArray)]) ?_ 3 _ rfl; (with_reducible repeat (first | refine blk_drewN ?_ _ | refine blk_drew ?_ | refine blk_alloc ?_ _)); refine blk_put (cs := #[.string ((rd_T47 l0_3 x5_2).f0), .slice A103_1 ((rd_T47 l0_3 x5_2).f1).length c103_1, .slice none 0 0, .string (⟨#[]⟩ : ByteArray)]) ?_ 2 _ rfl; (with_reducible repeat (first | refine blk_drewN ?_ _ | refine blk_drew ?_ | refine blk_alloc ?_ _)); refine blk_put (cs := #[.string ((rd_T47 l0_3 x5_2).f0), .slice none 0 0, .slice none 0 0, .string (⟨#[]⟩ : ByteArray)]) ?_ 1 _ rfl; (with_reducible repeat (first | refine blk_drewN ?_ _ | refine blk_drew ?_ | refine blk_alloc ?_ _)); refine blk_put (cs := #[.string (⟨#[]⟩ : ByteArray), .slice none 0 0, .slice none 0 0, .string (⟨#[]⟩ : ByteArray)]) ?_ 0 _ rfl; (with_reducible repeat (first | refine blk_drewN ?_ _ | refine blk_drew ?_ | refine blk_alloc ?_ _)); exact BK104.out)) : gb106 ≠ gb104)); clear BK101; clear BK102; clear BK104; clear HB; have BK101 := n0_; have BK102 := n1_; have BK104 := n2_; have HB := n3_; have BK106 := n4_; have GW106 := n5_; have GE106 := n6_; have NB101_106 := n7_; have NB106_101 := n8_; have NB102_106 := n9_; have NB106_102 := n10_; have NB104_106 := n11_; have NB106_104 := n12_; clear n0_ n1_ n2_ n3_ n4_ n5_ n6_ n7_ n8_ n9_ n10_ n11_ n12_; clear hb hbox hg; have hnb34 := NB106_101.out; have hnc34 := NB101_106.out; have hnb35 := NB106_102.out; have hnc35 := NB102_106.out; have hnb36 := NB106_104.out; have hnc36 := NB104_106.out; have hcz37_0 : w33.cell? ⟨gb106, 0, none⟩ = some (.string (⟨#[]⟩ : ByteArray)) := (blk_cell BK106.out 0).trans rfl; have hcz37_1 : w33.cell? ⟨gb106, 1, none⟩ = some (.slice none 0 0) := (blk_cell BK106.out 1).trans rfl; have hcz37_2 : w33.cell? ⟨gb106, 2, none⟩ = some (.slice none 0 0) := (blk_cell BK106.out 2).trans rfl; have hcz37_3 : w33.cell? ⟨gb106, 3, none⟩ = some (.string (⟨#[]⟩ : ByteArray)) := (blk_cell BK106.out 3).trans rfl; have hfz37_0 := blk_frozen BK106.out 0; have hfz37_1 := blk_frozen BK106.out 1; have hfz37_2 := blk_frozen BK106.out 2; have hfz37_3 := blk_frozen BK106.out 3)); go_upto_region 8 with (first | ((with_reducible refine gate_dst (N := 6) rfl ?_); (try (refine gate_guard (by rfl) ?_; dsimp only)); refine box_event ?hg (N := 6) ?hd (cs := #[.string (⟨#[]⟩ : ByteArray), .slice none 0 0, .slice none 0 0, .string (⟨#[]⟩ : ByteArray)]) (t := 47) ?hr ?_; (case hd => rfl); (case hg => rfl); (case hr => first | (go_simp; done) | (go_simp; rfl)); intro gb104 hg w28 hbox hb; have n0_ := Aside0.mk (blk_below (g := gb101) (o := .cells #[.int .i64 a0_0, .int .i64 a0_1, .int .i64 a0_2, .slice (some ad103) l0_3.length c0_3] 25 (0, 0)) (by (with_reducible repeat (first | refine blk_drewN ?_ _ | refine blk_drew ?_ | refine blk_alloc ?_ _)); exact BK101.out) hb); have n1_ := Aside0.mk (blk_below (g := gb102) (o := .cells #[.int .i64 a1_0, .int .i64 a1_1, .int .i64 a1_2, .slice A1_3 l1_3.length c1_3] 25 (0, 0)) (by (with_reducible repeat (first | refine blk_drewN ?_ _ | refine blk_drew ?_ | refine blk_alloc ?_ _)); exact BK102.out) hb); have n2_ := Aside0.mk (below_step (by repeat (first | (with_reducible first | exact HB.out | apply below_alloc | apply pw_below_drewN | apply below_drew1 | refine below_set ?_ GE101.out | refine below_set ?_ GE102.out) | exact HB.out)) hb); have n3_ := Aside0.mk (hbox); have n4_ := Aside0.mk ((by rw [hg]; exact (below_size (by repeat (first | (with_reducible first | exact HB.out | apply below_alloc | apply pw_below_drewN | apply below_drew1 | refine below_set ?_ GE101.out | refine below_set ?_ GE102.out) | exact HB.out))) : w.heap.size ≤ gb104)); have n5_ := Aside0.mk ((by rw [hg]; exact (below_size (by repeat (first | (with_reducible first | exact HB.out | apply below_alloc | apply pw_below_drewN | apply below_drew1 | refine below_set ?_ GE101.out | refine below_set ?_ GE102.out) | exact HB.out))) : w.heap.size ≤ gb104)); have n6_ := Aside0.mk ((by rw [hg]; exact Nat.ne_of_lt (blk_lt (g := gb101) (o := .cells #[.int .i64 a0_0, .int .i64 a0_1, .int .i64 a0_2, .slice (some ad103) l0_3.length c0_3] 25 (0, 0)) (by (with_reducible repeat (first | refine blk_drewN ?_ _ | refine blk_drew ?_ | refine blk_alloc ?_ _)); exact BK101.out)) : gb101 ≠ gb104)); have n7_ := Aside0.mk ((by rw [hg]; exact Nat.ne_of_gt (blk_lt (g := gb101) (o := .cells #[.int .i64 a0_0, .int .i64 a0_1, .int .i64 a0_2, .slice (some ad103) l0_3.length c0_3] 25 (0, 0)) (by (with_reducible repeat (first | refine blk_drewN ?_ _ | refine blk_drew ?_ | refine blk_alloc ?_ _)); exact BK101.out)) : gb104 ≠ gb101)); have n8_ := Aside0.mk ((by rw [hg]; exact Nat.ne_of_lt (blk_lt (g := gb102) (o := .cells #[.int .i64 a1_0, .int .i64 a1_1, .int .i64 a1_2, .slice A1_3 l1_3.length c1_3] 25 (0, 0)) (by (with_reducible repeat (first | refine blk_drewN ?_ _ | refine blk_drew ?_ | refine blk_alloc ?_ _)); exact BK102.out)) : gb102 ≠ gb104)); have n9_ := Aside0.mk ((by rw [hg]; exact Nat.ne_of_gt (blk_lt (g := gb102) (o := .cells #[.int .i64 a1_0, .int .i64 a1_1, .int .i64 a1_2, .slice A1_3 l1_3.length c1_3] 25 (0, 0)) (by (with_reducible repeat (first | refine blk_drewN ?_ _ | refine blk_drew ?_ | refine blk_alloc ?_ _)); exact BK102.out)) : gb104 ≠ gb102)); clear BK101; clear BK102; clear HB; have BK101 := n0_; have BK102 := n1_; have HB := n2_; have BK104 := n3_; have GW104 := n4_; have GE104 := n5_; have NB101_104 := n6_; have NB104_101 := n7_; have NB102_104 := n8_; have NB104_102 := n9_; clear n0_ n1_ n2_ n3_ n4_ n5_ n6_ n7_ n8_ n9_; clear hb hbox hg; have hnb29 := NB104_101.out; have hnc29 := NB101_104.out; have hnb30 := NB104_102.out; have hnc30 := NB102_104.out; have hcz31_0 : w28.cell? ⟨gb104, 0, none⟩ = some (.string (⟨#[]⟩ : ByteArray)) := (blk_cell BK104.out 0).trans rfl; have hcz31_1 : w28.cell? ⟨gb104, 1, none⟩ = some (.slice none 0 0) := (blk_cell BK104.out 1).trans rfl; have hcz31_2 : w28.cell? ⟨gb104, 2, none⟩ = some (.slice none 0 0) := (blk_cell BK104.out 2).trans rfl; have hcz31_3 : w28.cell? ⟨gb104, 3, none⟩ = some (.string (⟨#[]⟩ : ByteArray)) := (blk_cell BK104.out 3).trans rfl; have hfz31_0 := blk_frozen BK104.out 0; have hfz31_1 := blk_frozen BK104.out 1; have hfz31_2 := blk_frozen BK104.out 2; have hfz31_3 := blk_frozen BK104.out 3; have hcz32_0 : w28.cell? ⟨gb102, 0, none⟩ = some (.int .i64 a1_0) := (blk_cell BK102.out 0).trans rfl; have hcz32_1 : w28.cell? ⟨gb102, 1, none⟩ = some (.int .i64 a1_1) := (blk_cell BK102.out 1).trans rfl; have hcz32_2 : w28.cell? ⟨gb102, 2, none⟩ = some (.int .i64 a1_2) := (blk_cell BK102.out 2).trans rfl; have hcz32_3 : w28.cell? ⟨gb102, 3, none⟩ = some (.slice A1_3 l1_3.length c1_3) := (blk_cell BK102.out 3).trans rfl; have hfz32_0 := blk_frozen BK102.out 0; have hfz32_1 := blk_frozen BK102.out 1; have hfz32_2 := blk_frozen BK102.out 2; have hfz32_3 := blk_frozen BK102.out 3; have p105 : 0 ≤ (x5_2 : Int) := of_decide_eq_true (by first | (with_reducible assumption) | assumption); have q105 : x5_2 < (l1_3.length : Int) := of_decide_eq_true (by first | (with_reducible assumption) | assumption); obtain ⟨ad105, A105_1, c105_1, A105_2, c105_2, e105, hx105_0, hx105_1, hx105_2, hx105_3, hl105_1, hi105_1, hl105_2, hi105_2⟩ := at_T47 HR1_3.out x5_2 p105 q105; cases e105; have hn105_0 : ad105.block ≠ gb104 := Nat.ne_of_lt (Nat.lt_of_lt_of_le (by have := World.block_lt_of_cell? _ _ hx105_0; first | rwa [add_block] at this | exact this) GW104.out); have hn105_1 : ad105.block ≠ gb104 := Nat.ne_of_lt (Nat.lt_of_lt_of_le (by have := World.block_lt_of_cell? _ _ hx105_0; first | rwa [add_block] at this | exact this) GW104.out); have hn105_2 : ad105.block ≠ gb104 := Nat.ne_of_lt (Nat.lt_of_lt_of_le (by have := World.block_lt_of_cell? _ _ hx105_0; first | rwa [add_block] at this | exact this) GW104.out); have hn105_3 : ad105.block ≠ gb104 := Nat.ne_of_lt (Nat.lt_of_lt_of_le (by have := World.block_lt_of_cell? _ _ hx105_0; first | rwa [add_block] at this | exact this) GW104.out); replace hx105_0 := (HB.out.cell (World.block_lt_of_cell? w _ hx105_0)).trans hx105_0; replace hx105_1 := (HB.out.cell (World.block_lt_of_cell? w _ hx105_1)).trans hx105_1; replace hx105_2 := (HB.out.cell (World.block_lt_of_cell? w _ hx105_2)).trans hx105_2; replace hx105_3 := (HB.out.cell (World.block_lt_of_cell? w _ hx105_3)).trans hx105_3; have HR105_1 := Aside0.mk hi105_1; have HC105_1 := Aside0.mk hl105_1; clear hi105_1 hl105_1; have HR105_2 := Aside0.mk hi105_2; have HC105_2 := Aside0.mk hl105_2; clear hi105_2 hl105_2; replace hx105_0 := (cell_far (p := ⟨gb104, 0, none⟩) (by first | (rw [add_block]; exact hn105_0) | (show (Addr.add _ _).block ≠ _; rw [add_block]; exact hn105_0) | exact hn105_0) (.string ((rd_T47 l0_3 x5_2).f0))).trans hx105_0; replace hx105_1 := (cell_far (p := ⟨gb104, 0, none⟩) (by first | (rw [add_block]; exact hn105_0) | (show (Addr.add _ _).block ≠ _; rw [add_block]; exact hn105_0) | exact hn105_0) (.string ((rd_T47 l0_3 x5_2).f0))).trans hx105_1; replace hx105_2 := (cell_far (p := ⟨gb104, 0, none⟩) (by first | (rw [add_block]; exact hn105_0) | (show (Addr.add _ _).block ≠ _; rw [add_block]; exact hn105_0) | exact hn105_0) (.string ((rd_T47 l0_3 x5_2).f0))).trans hx105_2; replace hx105_3 := (cell_far (p := ⟨gb104, 0, none⟩) (by first | (rw [add_block]; exact hn105_0) | (show (Addr.add _ _).block ≠ _; rw [add_block]; exact hn105_0) | exact hn105_0) (.string ((rd_T47 l0_3 x5_2).f0))).trans hx105_3; replace hx105_0 := (cell_far (p := ⟨gb104, 1, none⟩) (by first | (rw [add_block]; exact hn105_1) | (show (Addr.add _ _).block ≠ _; rw [add_block]; exact hn105_1) | exact hn105_1) (.slice A103_1 ((rd_T47 l0_3 x5_2).f1).length c103_1)).trans hx105_0; replace hx105_1 := (cell_far (p := ⟨gb104, 1, none⟩) (by first | (rw [add_block]; exact hn105_1) | (show (Addr.add _ _).block ≠ _; rw [add_block]; exact hn105_1) | exact hn105_1) (.slice A103_1 ((rd_T47 l0_3 x5_2).f1).length c103_1)).trans hx105_1; replace hx105_2 := (cell_far (p := ⟨gb104, 1, none⟩) (by first | (rw [add_block]; exact hn105_1) | (show (Addr.add _ _).block ≠ _; rw [add_block]; exact hn105_1) | exact hn105_1) (.slice A103_1 ((rd_T47 l0_3 x5_2).f1).length c103_1)).trans hx105_2; replace hx105_3 := (cell_far (p := ⟨gb104, 1, none⟩) (by first | (rw [add_block]; exact hn105_1) | (show (Addr.add _ _).block ≠ _; rw [add_block]; exact hn105_1) | exact hn105_1) (.slice A103_1 ((rd_T47 l0_3 x5_2).f1).length c103_1)).trans hx105_3; replace hx105_0 := (cell_far (p := ⟨gb104, 2, none⟩) (by first | (rw [add_block]; exact hn105_2) | (show (Addr.add _ _).block ≠ _; rw [add_block]; exact hn105_2) | exact hn105_2) (.slice A103_2 ((rd_T47 l0_3 x5_2).f2).length c103_2)).trans hx105_0; replace hx105_1 := (cell_far (p := ⟨gb104, 2, none⟩) (by first | (rw [add_block]; exact hn105_2) | (show (Addr.add _ _).block ≠ _; rw [add_block]; exact hn105_2) | exact hn105_2) (.slice A103_2 ((rd_T47 l0_3 x5_2).f2).length c103_2)).trans hx105_1; replace hx105_2 := (cell_far (p := ⟨gb104, 2, none⟩) (by first | (rw [add_block]; exact hn105_2) | (show (Addr.add _ _).block ≠ _; rw [add_block]; exact hn105_2) | exact hn105_2) (.slice A103_2 ((rd_T47 l0_3 x5_2).f2).length c103_2)).trans hx105_2; replace hx105_3 := (cell_far (p := ⟨gb104, 2, none⟩) (by first | (rw [add_block]; exact hn105_2) | (show (Addr.add _ _).block ≠ _; rw [add_block]; exact hn105_2) | exact hn105_2) (.slice A103_2 ((rd_T47 l0_3 x5_2).f2).length c103_2)).trans hx105_3; replace hx105_0 := (cell_far (p := ⟨gb104, 3, none⟩) (by first | (rw [add_block]; exact hn105_3) | (show (Addr.add _ _).block ≠ _; rw [add_block]; exact hn105_3) | exact hn105_3) (.string ((rd_T47 l0_3 x5_2).f3))).trans hx105_0; replace hx105_1 := (cell_far (p := ⟨gb104, 3, none⟩) (by first | (rw [add_block]; exact hn105_3) | (show (Addr.add _ _).block ≠ _; rw [add_block]; exact hn105_3) | exact hn105_3) (.string ((rd_T47 l0_3 x5_2).f3))).trans hx105_1; replace hx105_2 := (cell_far (p := ⟨gb104, 3, none⟩) (by first | (rw [add_block]; exact hn105_3) | (show (Addr.add _ _).block ≠ _; rw [add_block]; exact hn105_3) | exact hn105_3) (.string ((rd_T47 l0_3 x5_2).f3))).trans hx105_2; replace hx105_3 := (cell_far (p := ⟨gb104, 3, none⟩) (by first | (rw [add_block]; exact hn105_3) | (show (Addr.add _ _).block ≠ _; rw [add_block]; exact hn105_3) | exact hn105_3) (.string ((rd_T47 l0_3 x5_2).f3))).trans hx105_3; (try have hy105_0 := fun (n_ : Nat) => (show ((((((w28.drewN n_).setCell ⟨gb104, 0, none⟩ (.string ((rd_T47 l0_3 x5_2).f0))).setCell ⟨gb104, 1, none⟩ (.slice A103_1 ((rd_T47 l0_3 x5_2).f1).length c103_1)).setCell ⟨gb104, 2, none⟩ (.slice A103_2 ((rd_T47 l0_3 x5_2).f2).length c103_2)).setCell ⟨gb104, 3, none⟩ (.string ((rd_T47 l0_3 x5_2).f3)))).cell? _ = some _ from hx105_0)); (try have hy105_1 := fun (n_ : Nat) => (show ((((((w28.drewN n_).setCell ⟨gb104, 0, none⟩ (.string ((rd_T47 l0_3 x5_2).f0))).setCell ⟨gb104, 1, none⟩ (.slice A103_1 ((rd_T47 l0_3 x5_2).f1).length c103_1)).setCell ⟨gb104, 2, none⟩ (.slice A103_2 ((rd_T47 l0_3 x5_2).f2).length c103_2)).setCell ⟨gb104, 3, none⟩ (.string ((rd_T47 l0_3 x5_2).f3)))).cell? _ = some _ from hx105_1)); (try have hy105_2 := fun (n_ : Nat) => (show ((((((w28.drewN n_).setCell ⟨gb104, 0, none⟩ (.string ((rd_T47 l0_3 x5_2).f0))).setCell ⟨gb104, 1, none⟩ (.slice A103_1 ((rd_T47 l0_3 x5_2).f1).length c103_1)).setCell ⟨gb104, 2, none⟩ (.slice A103_2 ((rd_T47 l0_3 x5_2).f2).length c103_2)).setCell ⟨gb104, 3, none⟩ (.string ((rd_T47 l0_3 x5_2).f3)))).cell? _ = some _ from hx105_2)); (try have hy105_3 := fun (n_ : Nat) => (show ((((((w28.drewN n_).setCell ⟨gb104, 0, none⟩ (.string ((rd_T47 l0_3 x5_2).f0))).setCell ⟨gb104, 1, none⟩ (.slice A103_1 ((rd_T47 l0_3 x5_2).f1).length c103_1)).setCell ⟨gb104, 2, none⟩ (.slice A103_2 ((rd_T47 l0_3 x5_2).f2).length c103_2)).setCell ⟨gb104, 3, none⟩ (.string ((rd_T47 l0_3 x5_2).f3)))).cell? _ = some _ from hx105_3)); clear hn105_0; clear hn105_1; clear hn105_2; clear hn105_3; replace p105 := eq_true p105; replace q105 := eq_true q105) | ((with_reducible refine gate_dst (N := 7) rfl ?_); (try (refine gate_guard (by rfl) ?_; dsimp only)); refine box_event ?hg (N := 7) ?hd (cs := #[.string (⟨#[]⟩ : ByteArray), .slice none 0 0, .slice none 0 0, .string (⟨#[]⟩ : ByteArray)]) (t := 47) ?hr ?_; (case hd => rfl); (case hg => rfl); (case hr => first | (go_simp; done) | (go_simp; rfl)); intro gb106 hg w33 hbox hb; have n0_ := Aside0.mk (blk_below (g := gb101) (o := .cells #[.int .i64 a0_0, .int .i64 a0_1, .int .i64 a0_2, .slice (some ad103) l0_3.length c0_3] 25 (0, 0)) (by (with_reducible repeat (first | refine blk_drewN ?_ _ | refine blk_drew ?_ | refine blk_alloc ?_ _)); refine blk_far ?_ NB101_104.out _; (with_reducible repeat (first | refine blk_drewN ?_ _ | refine blk_drew ?_ | refine blk_alloc ?_ _)); refine blk_far ?_ NB101_104.out _; (with_reducible repeat (first | refine blk_drewN ?_ _ | refine blk_drew ?_ | refine blk_alloc ?_ _)); refine blk_far ?_ NB101_104.out _; (with_reducible repeat (first | refine blk_drewN ?_ _ | refine blk_drew ?_ | refine blk_alloc ?_ _)); refine blk_far ?_ NB101_104.out _; (with_reducible repeat (first | refine blk_drewN ?_ _ | refine blk_drew ?_ | refine blk_alloc ?_ _)); exact BK101.out) hb); have n1_ := Aside0.mk (blk_below (g := gb102) (o := .cells #[.int .i64 a1_0, .int .i64 a1_1, .int .i64 a1_2, .slice (some ad105) l1_3.length c1_3] 25 (0, 0)) (by (with_reducible repeat (first | refine blk_drewN ?_ _ | refine blk_drew ?_ | refine blk_alloc ?_ _)); refine blk_far ?_ NB102_104.out _; (with_reducible repeat (first | refine blk_drewN ?_ _ | refine blk_drew ?_ | refine blk_alloc ?_ _)); refine blk_far ?_ NB102_104.out _; (with_reducible repeat (first | refine blk_drewN ?_ _ | refine blk_drew ?_ | refine blk_alloc ?_ _)); refine blk_far ?_ NB102_104.out _; (with_reducible repeat (first | refine blk_drewN ?_ _ | refine blk_drew ?_ | refine blk_alloc ?_ _)); refine blk_far ?_ NB102_104.out _; (with_reducible repeat (first | refine blk_drewN ?_ _ | refine blk_drew ?_ | refine blk_alloc ?_ _)); exact BK102.out) hb); have n2_ := Aside0.mk (blk_below (g := gb104) (o := .cells #[.string ((rd_T47 l0_3 x5_2).f0), .slice A103_1 ((rd_T47 l0_3 x5_2).f1).length c103_1, .slice A103_2 ((rd_T47 l0_3 x5_2).f2).length c103_2, .string ((rd_T47 l0_3 x5_2).f3)] 47 (0, 0)) (by (with_reducible repeat (first | refine blk_drewN ?_ _ | refine blk_drew ?_ | refine blk_alloc ?_ _)); refine blk_put (cs := #[.string ((rd_T47 l0_3 x5_2).f0), .slice A103_1 ((rd_T47 l0_3 x5_2).f1).length c103_1, .slice A103_2 ((rd_T47 l0_3 x5_2).f2).length c103_2, .string (⟨#[]⟩ : ByteArray)]) ?_ 3 _ rfl; (with_reducible repeat (first | refine blk_drewN ?_ _ | refine blk_drew ?_ | refine blk_alloc ?_ _)); refine blk_put (cs := #[.string ((rd_T47 l0_3 x5_2).f0), .slice A103_1 ((rd_T47 l0_3 x5_2).f1).length c103_1, .slice none 0 0, .string (⟨#[]⟩ : ByteArray)]) ?_ 2 _ rfl; (with_reducible repeat (first | refine blk_drewN ?_ _ | refine blk_drew ?_ | refine blk_alloc ?_ _)); refine blk_put (cs := #[.string ((rd_T47 l0_3 x5_2).f0), .slice none 0 0, .slice none 0 0, .string (⟨#[]⟩ : ByteArray)]) ?_ 1 _ rfl; (with_reducible repeat (first | refine blk_drewN ?_ _ | refine blk_drew ?_ | refine blk_alloc ?_ _)); refine blk_put (cs := #[.string (⟨#[]⟩ : ByteArray), .slice none 0 0, .slice none 0 0, .string (⟨#[]⟩ : ByteArray)]) ?_ 0 _ rfl; (with_reducible repeat (first | refine blk_drewN ?_ _ | refine blk_drew ?_ | refine blk_alloc ?_ _)); exact BK104.out) hb); have n3_ := Aside0.mk (below_step (by repeat (first | (with_reducible first | exact HB.out | apply below_alloc | apply pw_below_drewN | apply below_drew1 | refine below_set ?_ GE101.out | refine below_set ?_ GE102.out | refine below_set ?_ GE104.out) | exact HB.out)) hb); have n4_ := Aside0.mk (hbox); have n5_ := Aside0.mk ((by rw [hg]; exact (below_size (by repeat (first | (with_reducible first | exact HB.out | apply below_alloc | apply pw_below_drewN | apply below_drew1 | refine below_set ?_ GE101.out | refine below_set ?_ GE102.out | refine below_set ?_ GE104.out) | exact HB.out))) : w.heap.size ≤ gb106)); have n6_ := Aside0.mk ((by rw [hg]; exact (below_size (by repeat (first | (with_reducible first | exact HB.out | apply below_alloc | apply pw_below_drewN | apply below_drew1 | refine below_set ?_ GE101.out | refine below_set ?_ GE102.out | refine below_set ?_ GE104.out) | exact HB.out))) : w.heap.size ≤ gb106)); have n7_ := Aside0.mk ((by rw [hg]; exact Nat.ne_of_lt (blk_lt (g := gb101) (o := .cells #[.int .i64 a0_0, .int .i64 a0_1, .int .i64 a0_2, .slice (some ad103) l0_3.length c0_3] 25 (0, 0)) (by (with_reducible repeat (first | refine blk_drewN ?_ _ | refine blk_drew ?_ | refine blk_alloc ?_ _)); refine blk_far ?_ NB101_104.out _; (with_reducible repeat (first | refine blk_drewN ?_ _ | refine blk_drew ?_ | refine blk_alloc ?_ _)); refine blk_far ?_ NB101_104.out _; (with_reducible repeat (first | refine blk_drewN ?_ _ | refine blk_drew ?_ | refine blk_alloc ?_ _)); refine blk_far ?_ NB101_104.out _; (with_reducible repeat (first | refine blk_drewN ?_ _ | refine blk_drew ?_ | refine blk_alloc ?_ _)); refine blk_far ?_ NB101_104.out _; (with_reducible repeat (first | refine blk_drewN ?_ _ | refine blk_drew ?_ | refine blk_alloc ?_ _)); exact BK101.out)) : gb101 ≠ gb106)); have n8_ := Aside0.mk ((by rw [hg]; exact Nat.ne_of_gt (blk_lt (g := gb101) (o := .cells #[.int .i64 a0_0, .int .i64 a0_1, .int .i64 a0_2, .slice (some ad103) l0_3.length c0_3] 25 (0, 0)) (by (with_reducible repeat (first | refine blk_drewN ?_ _ | refine blk_drew ?_ | refine blk_alloc ?_ _)); refine blk_far ?_ NB101_104.out _; (with_reducible repeat (first | refine blk_drewN ?_ _ | refine blk_drew ?_ | refine blk_alloc ?_ _)); refine blk_far ?_ NB101_104.out _; (with_reducible repeat (first | refine blk_drewN ?_ _ | refine blk_drew ?_ | refine blk_alloc ?_ _)); refine blk_far ?_ NB101_104.out _; (with_reducible repeat (first | refine blk_drewN ?_ _ | refine blk_drew ?_ | refine blk_alloc ?_ _)); refine blk_far ?_ NB101_104.out _; (with_reducible repeat (first | refine blk_drewN ?_ _ | refine blk_drew ?_ | refine blk_alloc ?_ _)); exact BK101.out)) : gb106 ≠ gb101)); have n9_ := Aside0.mk ((by rw [hg]; exact Nat.ne_of_lt (blk_lt (g := gb102) (o := .cells #[.int .i64 a1_0, .int .i64 a1_1, .int .i64 a1_2, .slice (some ad105) l1_3.length c1_3] 25 (0, 0)) (by (with_reducible repeat (first | refine blk_drewN ?_ _ | refine blk_drew ?_ | refine blk_alloc ?_ _)); refine blk_far ?_ NB102_104.out _; (with_reducible repeat (first | refine blk_drewN ?_ _ | refine blk_drew ?_ | refine blk_alloc ?_ _)); refine blk_far ?_ NB102_104.out _; (with_reducible repeat (first | refine blk_drewN ?_ _ | refine blk_drew ?_ | refine blk_alloc ?_ _)); refine blk_far ?_ NB102_104.out _; (with_reducible repeat (first | refine blk_drewN ?_ _ | refine blk_drew ?_ | refine blk_alloc ?_ _)); refine blk_far ?_ NB102_104.out _; (with_reducible repeat (first | refine blk_drewN ?_ _ | refine blk_drew ?_ | refine blk_alloc ?_ _)); exact BK102.out)) : gb102 ≠ gb106)); have n10_ := Aside0.mk ((by rw [hg]; exact Nat.ne_of_gt (blk_lt (g := gb102) (o := .cells #[.int .i64 a1_0, .int .i64 a1_1, .int .i64 a1_2, .slice (some ad105) l1_3.length c1_3] 25 (0, 0)) (by (with_reducible repeat (first | refine blk_drewN ?_ _ | refine blk_drew ?_ | refine blk_alloc ?_ _)); refine blk_far ?_ NB102_104.out _; (with_reducible repeat (first | refine blk_drewN ?_ _ | refine blk_drew ?_ | refine blk_alloc ?_ _)); refine blk_far ?_ NB102_104.out _; (with_reducible repeat (first | refine blk_drewN ?_ _ | refine blk_drew ?_ | refine blk_alloc ?_ _)); refine blk_far ?_ NB102_104.out _; (with_reducible repeat (first | refine blk_drewN ?_ _ | refine blk_drew ?_ | refine blk_alloc ?_ _)); refine blk_far ?_ NB102_104.out _; (with_reducible repeat (first | refine blk_drewN ?_ _ | refine blk_drew ?_ | refine blk_alloc ?_ _)); exact BK102.out)) : gb106 ≠ gb102)); have n11_ := Aside0.mk ((by rw [hg]; exact Nat.ne_of_lt (blk_lt (g := gb104) (o := .cells #[.string ((rd_T47 l0_3 x5_2).f0), .slice A103_1 ((rd_T47 l0_3 x5_2).f1).length c103_1, .slice A103_2 ((rd_T47 l0_3 x5_2).f2).length c103_2, .string ((rd_T47 l0_3 x5_2).f3)] 47 (0, 0)) (by (with_reducible repeat (first | refine blk_drewN ?_ _ | refine blk_drew ?_ | refine blk_alloc ?_ _)); refine blk_put (cs := #[.string ((rd_T47 l0_3 x5_2).f0), .slice A103_1 ((rd_T47 l0_3 x5_2).f1).length c103_1, .slice A103_2 ((rd_T47 l0_3 x5_2).f2).length c103_2, .string (⟨#[]⟩ : ByteArray)]) ?_ 3 _ rfl; (with_reducible repeat (first | refine blk_drewN ?_ _ | refine blk_drew ?_ | refine blk_alloc ?_ _)); refine blk_put (cs := #[.string ((rd_T47 l0_3 x5_2).f0), .slice A103_1 ((rd_T47 l0_3 x5_2).f1).length c103_1, .slice none 0 0, .string (⟨#[]⟩ : ByteArray)]) ?_ 2 _ rfl; (with_reducible repeat (first | refine blk_drewN ?_ _ | refine blk_drew ?_ | refine blk_alloc ?_ _)); refine blk_put (cs := #[.string ((rd_T47 l0_3 x5_2).f0), .slice none 0 0, .slice none 0 0, .string (⟨#[]⟩ : ByteArray)]) ?_ 1 _ rfl; (with_reducible repeat (first | refine blk_drewN ?_ _ | refine blk_drew ?_ | refine blk_alloc ?_ _)); refine blk_put (cs := #[.string (⟨#[]⟩ : ByteArray), .slice none 0 0, .slice none 0 0, .string (⟨#[]⟩ : ByteArray)]) ?_ 0 _ rfl; (with_reducible repeat (first | refine blk_drewN ?_ _ | refine blk_drew ?_ | refine blk_alloc ?_ _)); exact BK104.out)) : gb104 ≠ gb106)); have n12_ := Aside0.mk ((by rw [hg]; exact Nat.ne_of_gt (blk_lt (g := gb104) (o := .cells #[.string ((rd_T47 l0_3 x5_2).f0), .slice A103_1 ((rd_T47 l0_3 x5_2).f1).length c103_1, .slice A103_2 ((rd_T47 l0_3 x5_2).f2).length c103_2, .string ((rd_T47 l0_3 x5_2).f3)] 47 (0, 0)) (by (with_reducible repeat (first | refine blk_drewN ?_ _ | refine blk_drew ?_ | refine blk_alloc ?_ _)); refine blk_put (cs := #[.string ((rd_T47 l0_3 x5_2).f0), .slice A103_1 ((rd_T47 l0_3 x5_2).f1).length c103_1, .slice A103_2 ((rd_T47 l0_3 x5_2).f2).length c103_2, .string (⟨#[]⟩ : ByteArray)]) ?_ 3 _ rfl; (with_reducible repeat (first | refine blk_drewN ?_ _ | refine blk_drew ?_ | refine blk_alloc ?_ _)); refine blk_put (cs := #[.string ((rd_T47 l0_3 x5_2).f0), .slice A103_1 ((rd_T47 l0_3 x5_2).f1).length c103_1, .slice none 0 0, .string (⟨#[]⟩ : ByteArray)]) ?_ 2 _ rfl; (with_reducible repeat (first | refine blk_drewN ?_ _ | refine blk_drew ?_ | refine blk_alloc ?_ _)); refine blk_put (cs := #[.string ((rd_T47 l0_3 x5_2).f0), .slice none 0 0, .slice none 0 0, .string (⟨#[]⟩ : ByteArray)]) ?_ 1 _ rfl; (with_reducible repeat (first | refine blk_drewN ?_ _ | refine blk_drew ?_ | refine blk_alloc ?_ _)); refine blk_put (cs := #[.string (⟨#[]⟩ : ByteArray), .slice none 0 0, .slice none 0 0, .string (⟨#[]⟩ : ByteArray)]) ?_ 0 _ rfl; (with_reducible repeat (first | refine blk_drewN ?_ _ | refine blk_drew ?_ | refine blk_alloc ?_ _)); exact BK104.out)) : gb106 ≠ gb104)); clear BK101; clear BK102; clear BK104; clear HB; have BK101 := n0_; have BK102 := n1_; have BK104 := n2_; have HB := n3_; have BK106 := n4_; have GW106 := n5_; have GE106 := n6_; have NB101_106 := n7_; have NB106_101 := n8_; have NB102_106 := n9_; have NB106_102 := n10_; have NB104_106 := n11_; have NB106_104 := n12_; clear n0_ n1_ n2_ n3_ n4_ n5_ n6_ n7_ n8_ n9_ n10_ n11_ n12_; clear hb hbox hg; have hnb34 := NB106_101.out; have hnc34 := NB101_106.out; have hnb35 := NB106_102.out; have hnc35 := NB102_106.out; have hnb36 := NB106_104.out; have hnc36 := NB104_106.out; have hcz37_0 : w33.cell? ⟨gb106, 0, none⟩ = some (.string (⟨#[]⟩ : ByteArray)) := (blk_cell BK106.out 0).trans rfl; have hcz37_1 : w33.cell? ⟨gb106, 1, none⟩ = some (.slice none 0 0) := (blk_cell BK106.out 1).trans rfl; have hcz37_2 : w33.cell? ⟨gb106, 2, none⟩ = some (.slice none 0 0) := (blk_cell BK106.out 2).trans rfl; have hcz37_3 : w33.cell? ⟨gb106, 3, none⟩ = some (.string (⟨#[]⟩ : ByteArray)) := (blk_cell BK106.out 3).trans rfl; have hfz37_0 := blk_frozen BK106.out 0; have hfz37_1 := blk_frozen BK106.out 1; have hfz37_2 := blk_frozen BK106.out 2; have hfz37_3 := blk_frozen BK106.out 3)))
         (try simp only [Act.put, List.setIfInBounds_toArray, List.set_cons_zero, List.set_cons_succ])
         go_cut [84] (fun v84 wc => ∃ (kq : Nat) (x84_24 : Bool), v84 = .bool x84_24 ∧ Aside0 (ref10_Same.j2 kq x5_2 x84_24 a0_0 a0_1 a0_2 l0_3 a1_0 a1_1 a1_2 l1_3 ((rd_T47 l0_3 x5_2).f0) ((rd_T47 l0_3 x5_2).f1) ((rd_T47 l0_3 x5_2).f2) ((rd_T47 l0_3 x5_2).f3) ((rd_T47 l1_3 x5_2).f0) ((rd_T47 l1_3 x5_2).f1) ((rd_T47 l1_3 x5_2).f2) ((rd_T47 l1_3 x5_2).f3) = some r) ∧ Aside0 (kq ≤ k2) ∧ Aside0 (wc.heap[gb101]? = some (.cells #[.int .i64 a0_0, .int .i64 a0_1, .int .i64 a0_2, (.slice (some ad103) l0_3.length c0_3)] 25 (0, 0))) ∧ Aside0 (wc.heap[gb102]? = some (.cells #[.int .i64 a1_0, .int .i64 a1_1, .int .i64 a1_2, (.slice (some ad105) l1_3.length c1_3)] 25 (0, 0))) ∧ Aside0 (wc.heap[gb104]? = some (.cells #[.string ((rd_T47 l0_3 x5_2).f0), (.slice A103_1 ((rd_T47 l0_3 x5_2).f1).length c103_1), (.slice A103_2 ((rd_T47 l0_3 x5_2).f2).length c103_2), .string ((rd_T47 l0_3 x5_2).f3)] 47 (0, 0))) ∧ Aside0 (wc.heap[gb106]? = some (.cells #[.string ((rd_T47 l1_3 x5_2).f0), (.slice A105_1 ((rd_T47 l1_3 x5_2).f1).length c105_1), (.slice A105_2 ((rd_T47 l1_3 x5_2).f2).length c105_2), .string ((rd_T47 l1_3 x5_2).f3)] 47 (0, 0))) ∧ Aside0 (Below w.heap.size w wc))
         case first =>
          have H := HC25.out
          clear HC25
          by_cases c38 : ((rd_T47 l0_3 x5_2).f0).toList = ((rd_T47 l1_3 x5_2).f0).toList
          ·rw [if_pos c38] at H
           have c38b0 : (((rd_T47 l0_3 x5_2).f0).toList == ((rd_T47 l1_3 x5_2).f0).toList) = true := beq_iff_eq.mpr c38
           have c38b1 : (((rd_T47 l0_3 x5_2).f0).toList != ((rd_T47 l1_3 x5_2).f0).toList) = false := bne_eq_false_iff_eq.mpr c38
           clear c38
           (first | rw [c38b0] | (simp only [i64_w, i32_w]; rw [c38b0]) | rw [c38b3] | rw [c38b2] | skip)
           by_cases c39 : ((rd_T47 l0_3 x5_2).f3).toList = ((rd_T47 l1_3 x5_2).f3).toList
           ·rw [if_pos c39] at H
            have c39b0 : (((rd_T47 l0_3 x5_2).f3).toList == ((rd_T47 l1_3 x5_2).f3).toList) = true := beq_iff_eq.mpr c39
            have c39b1 : (((rd_T47 l0_3 x5_2).f3).toList != ((rd_T47 l1_3 x5_2).f3).toList) = false := bne_eq_false_iff_eq.mpr c39
            clear c39
            by_cases c40 : (((rd_T47 l0_3 x5_2).f1).length : Int) = (((rd_T47 l1_3 x5_2).f1).length : Int)
            ·rw [if_pos c40] at H
             have c40b0 : ((((rd_T47 l0_3 x5_2).f1).length : Int) == (((rd_T47 l1_3 x5_2).f1).length : Int)) = true := beq_iff_eq.mpr c40
             have c40b1 : ((((rd_T47 l0_3 x5_2).f1).length : Int) != (((rd_T47 l1_3 x5_2).f1).length : Int)) = false := bne_eq_false_iff_eq.mpr c40
             have c40b2 : (((rd_T47 l0_3 x5_2).f1).length == ((rd_T47 l1_3 x5_2).f1).length) = true := by first | simpa using c40 | (simp at c40 ⊢; omega)
             clear c40
             have H' := Aside0.mk H
             clear H
             have hnb41 := NB104_101.out
             have hnc41 := NB101_104.out
             have hnb42 := NB104_102.out
             have hnc42 := NB102_104.out
             have hnb43 := NB104_106.out
             have hnc43 := NB106_104.out
             have hcz44_0 : w33.cell? ⟨gb104, 0, none⟩ = some (.string ((rd_T47 l0_3 x5_2).f0)) := (blk_cell BK104.out 0).trans rfl
             have hcz44_1 : w33.cell? ⟨gb104, 1, none⟩ = some (.slice A103_1 ((rd_T47 l0_3 x5_2).f1).length c103_1) := (blk_cell BK104.out 1).trans rfl
             have hcz44_2 : w33.cell? ⟨gb104, 2, none⟩ = some (.slice A103_2 ((rd_T47 l0_3 x5_2).f2).length c103_2) := (blk_cell BK104.out 2).trans rfl
             have hcz44_3 : w33.cell? ⟨gb104, 3, none⟩ = some (.string ((rd_T47 l0_3 x5_2).f3)) := (blk_cell BK104.out 3).trans rfl
             have hfz44_0 := blk_frozen BK104.out 0
             have hfz44_1 := blk_frozen BK104.out 1
             have hfz44_2 := blk_frozen BK104.out 2
             have hfz44_3 := blk_frozen BK104.out 3
             have hnb45 := NB106_101.out
             have hnc45 := NB101_106.out
             have hnb46 := NB106_102.out
             have hnc46 := NB102_106.out
             have hcz47_0 : w33.cell? ⟨gb106, 0, none⟩ = some (.string (⟨#[]⟩ : ByteArray)) := (blk_cell BK106.out 0).trans rfl
             have hcz47_1 : w33.cell? ⟨gb106, 1, none⟩ = some (.slice none 0 0) := (blk_cell BK106.out 1).trans rfl
             have hcz47_2 : w33.cell? ⟨gb106, 2, none⟩ = some (.slice none 0 0) := (blk_cell BK106.out 2).trans rfl
             have hcz47_3 : w33.cell? ⟨gb106, 3, none⟩ = some (.string (⟨#[]⟩ : ByteArray)) := (blk_cell BK106.out 3).trans rfl
             have hfz47_0 := blk_frozen BK106.out 0
             have hfz47_1 := blk_frozen BK106.out 1
             have hfz47_2 := blk_frozen BK106.out 2
             have hfz47_3 := blk_frozen BK106.out 3
             go_wp2
             repeat (go_quiet (fail); try go_wp2)
             go_meet
             case rel => exact ⟨_, (((((rd_T47 l0_3 x5_2).f2).length : Int) != (((rd_T47 l1_3 x5_2).f2).length : Int))), (by first | rfl | (simp; done) | (simp [*]; done)), H', ⟨by have := HJ2.out; have := HK2.out; first | omega | exact Nat.le_refl _⟩, ⟨by (with_reducible repeat (first | refine blk_drewN ?_ _ | refine blk_drew ?_ | refine blk_alloc ?_ _)); refine blk_far ?_ NB101_106.out _; (with_reducible repeat (first | refine blk_drewN ?_ _ | refine blk_drew ?_ | refine blk_alloc ?_ _)); refine blk_far ?_ NB101_106.out _; (with_reducible repeat (first | refine blk_drewN ?_ _ | refine blk_drew ?_ | refine blk_alloc ?_ _)); refine blk_far ?_ NB101_106.out _; (with_reducible repeat (first | refine blk_drewN ?_ _ | refine blk_drew ?_ | refine blk_alloc ?_ _)); refine blk_far ?_ NB101_106.out _; (with_reducible repeat (first | refine blk_drewN ?_ _ | refine blk_drew ?_ | refine blk_alloc ?_ _)); exact BK101.out⟩, ⟨by (with_reducible repeat (first | refine blk_drewN ?_ _ | refine blk_drew ?_ | refine blk_alloc ?_ _)); refine blk_far ?_ NB102_106.out _; (with_reducible repeat (first | refine blk_drewN ?_ _ | refine blk_drew ?_ | refine blk_alloc ?_ _)); refine blk_far ?_ NB102_106.out _; (with_reducible repeat (first | refine blk_drewN ?_ _ | refine blk_drew ?_ | refine blk_alloc ?_ _)); refine blk_far ?_ NB102_106.out _; (with_reducible repeat (first | refine blk_drewN ?_ _ | refine blk_drew ?_ | refine blk_alloc ?_ _)); refine blk_far ?_ NB102_106.out _; (with_reducible repeat (first | refine blk_drewN ?_ _ | refine blk_drew ?_ | refine blk_alloc ?_ _)); exact BK102.out⟩, ⟨by (with_reducible repeat (first | refine blk_drewN ?_ _ | refine blk_drew ?_ | refine blk_alloc ?_ _)); refine blk_far ?_ NB104_106.out _; (with_reducible repeat (first | refine blk_drewN ?_ _ | refine blk_drew ?_ | refine blk_alloc ?_ _)); refine blk_far ?_ NB104_106.out _; (with_reducible repeat (first | refine blk_drewN ?_ _ | refine blk_drew ?_ | refine blk_alloc ?_ _)); refine blk_far ?_ NB104_106.out _; (with_reducible repeat (first | refine blk_drewN ?_ _ | refine blk_drew ?_ | refine blk_alloc ?_ _)); refine blk_far ?_ NB104_106.out _; (with_reducible repeat (first | refine blk_drewN ?_ _ | refine blk_drew ?_ | refine blk_alloc ?_ _)); exact BK104.out⟩, ⟨by (with_reducible repeat (first | refine blk_drewN ?_ _ | refine blk_drew ?_ | refine blk_alloc ?_ _)); refine blk_put (cs := #[.string ((rd_T47 l1_3 x5_2).f0), .slice A105_1 ((rd_T47 l1_3 x5_2).f1).length c105_1, .slice A105_2 ((rd_T47 l1_3 x5_2).f2).length c105_2, .string (⟨#[]⟩ : ByteArray)]) ?_ 3 _ rfl; (with_reducible repeat (first | refine blk_drewN ?_ _ | refine blk_drew ?_ | refine blk_alloc ?_ _)); refine blk_put (cs := #[.string ((rd_T47 l1_3 x5_2).f0), .slice A105_1 ((rd_T47 l1_3 x5_2).f1).length c105_1, .slice none 0 0, .string (⟨#[]⟩ : ByteArray)]) ?_ 2 _ rfl; (with_reducible repeat (first | refine blk_drewN ?_ _ | refine blk_drew ?_ | refine blk_alloc ?_ _)); refine blk_put (cs := #[.string ((rd_T47 l1_3 x5_2).f0), .slice none 0 0, .slice none 0 0, .string (⟨#[]⟩ : ByteArray)]) ?_ 1 _ rfl; (with_reducible repeat (first | refine blk_drewN ?_ _ | refine blk_drew ?_ | refine blk_alloc ?_ _)); refine blk_put (cs := #[.string (⟨#[]⟩ : ByteArray), .slice none 0 0, .slice none 0 0, .string (⟨#[]⟩ : ByteArray)]) ?_ 0 _ rfl; (with_reducible repeat (first | refine blk_drewN ?_ _ | refine blk_drew ?_ | refine blk_alloc ?_ _)); exact BK106.out⟩, ⟨by repeat (first | (with_reducible first | exact HB.out | apply below_alloc | apply pw_below_drewN | apply below_drew1 | refine below_set ?_ GE101.out | refine below_set ?_ GE102.out | refine below_set ?_ GE104.out | refine below_set ?_ GE106.out) | exact HB.out)⟩⟩
            ·rw [if_neg c40] at H
             have c40b0 : ((((rd_T47 l0_3 x5_2).f1).length : Int) == (((rd_T47 l1_3 x5_2).f1).length : Int)) = false := beq_eq_false_iff_ne.mpr c40
             have c40b1 : ((((rd_T47 l0_3 x5_2).f1).length : Int) != (((rd_T47 l1_3 x5_2).f1).length : Int)) = true := bne_iff_ne.mpr c40
             have c40b2 : (((rd_T47 l0_3 x5_2).f1).length == ((rd_T47 l1_3 x5_2).f1).length) = false := by first | simpa using c40 | (simp at c40 ⊢; omega)
             have H' := Aside0.mk H
             clear H
             have hnb48 := NB104_101.out
             have hnc48 := NB101_104.out
             have hnb49 := NB104_102.out
             have hnc49 := NB102_104.out
             have hnb50 := NB104_106.out
             have hnc50 := NB106_104.out
             have hcz51_0 : w33.cell? ⟨gb104, 0, none⟩ = some (.string ((rd_T47 l0_3 x5_2).f0)) := (blk_cell BK104.out 0).trans rfl
             have hcz51_1 : w33.cell? ⟨gb104, 1, none⟩ = some (.slice A103_1 ((rd_T47 l0_3 x5_2).f1).length c103_1) := (blk_cell BK104.out 1).trans rfl
             have hcz51_2 : w33.cell? ⟨gb104, 2, none⟩ = some (.slice A103_2 ((rd_T47 l0_3 x5_2).f2).length c103_2) := (blk_cell BK104.out 2).trans rfl
             have hcz51_3 : w33.cell? ⟨gb104, 3, none⟩ = some (.string ((rd_T47 l0_3 x5_2).f3)) := (blk_cell BK104.out 3).trans rfl
             have hfz51_0 := blk_frozen BK104.out 0
             have hfz51_1 := blk_frozen BK104.out 1
             have hfz51_2 := blk_frozen BK104.out 2
             have hfz51_3 := blk_frozen BK104.out 3
             have hnb52 := NB106_101.out
             have hnc52 := NB101_106.out
             have hnb53 := NB106_102.out
             have hnc53 := NB102_106.out
             have hcz54_0 : w33.cell? ⟨gb106, 0, none⟩ = some (.string (⟨#[]⟩ : ByteArray)) := (blk_cell BK106.out 0).trans rfl
             have hcz54_1 : w33.cell? ⟨gb106, 1, none⟩ = some (.slice none 0 0) := (blk_cell BK106.out 1).trans rfl
             have hcz54_2 : w33.cell? ⟨gb106, 2, none⟩ = some (.slice none 0 0) := (blk_cell BK106.out 2).trans rfl
             have hcz54_3 : w33.cell? ⟨gb106, 3, none⟩ = some (.string (⟨#[]⟩ : ByteArray)) := (blk_cell BK106.out 3).trans rfl
             have hfz54_0 := blk_frozen BK106.out 0
             have hfz54_1 := blk_frozen BK106.out 1
             have hfz54_2 := blk_frozen BK106.out 2
             have hfz54_3 := blk_frozen BK106.out 3
             go_wp2
             repeat (go_quiet (fail); try go_wp2)
             go_meet
             case rel => exact ⟨_, (true), (by first | rfl | (simp; done) | (simp [*]; done)), H', ⟨by have := HJ2.out; have := HK2.out; first | omega | exact Nat.le_refl _⟩, ⟨by (with_reducible repeat (first | refine blk_drewN ?_ _ | refine blk_drew ?_ | refine blk_alloc ?_ _)); refine blk_far ?_ NB101_106.out _; (with_reducible repeat (first | refine blk_drewN ?_ _ | refine blk_drew ?_ | refine blk_alloc ?_ _)); refine blk_far ?_ NB101_106.out _; (with_reducible repeat (first | refine blk_drewN ?_ _ | refine blk_drew ?_ | refine blk_alloc ?_ _)); refine blk_far ?_ NB101_106.out _; (with_reducible repeat (first | refine blk_drewN ?_ _ | refine blk_drew ?_ | refine blk_alloc ?_ _)); refine blk_far ?_ NB101_106.out _; (with_reducible repeat (first | refine blk_drewN ?_ _ | refine blk_drew ?_ | refine blk_alloc ?_ _)); exact BK101.out⟩, ⟨by (with_reducible repeat (first | refine blk_drewN ?_ _ | refine blk_drew ?_ | refine blk_alloc ?_ _)); refine blk_far ?_ NB102_106.out _; (with_reducible repeat (first | refine blk_drewN ?_ _ | refine blk_drew ?_ | refine blk_alloc ?_ _)); refine blk_far ?_ NB102_106.out _; (with_reducible repeat (first | refine blk_drewN ?_ _ | refine blk_drew ?_ | refine blk_alloc ?_ _)); refine blk_far ?_ NB102_106.out _; (with_reducible repeat (first | refine blk_drewN ?_ _ | refine blk_drew ?_ | refine blk_alloc ?_ _)); refine blk_far ?_ NB102_106.out _; (with_reducible repeat (first | refine blk_drewN ?_ _ | refine blk_drew ?_ | refine blk_alloc ?_ _)); exact BK102.out⟩, ⟨by (with_reducible repeat (first | refine blk_drewN ?_ _ | refine blk_drew ?_ | refine blk_alloc ?_ _)); refine blk_far ?_ NB104_106.out _; (with_reducible repeat (first | refine blk_drewN ?_ _ | refine blk_drew ?_ | refine blk_alloc ?_ _)); refine blk_far ?_ NB104_106.out _; (with_reducible repeat (first | refine blk_drewN ?_ _ | refine blk_drew ?_ | refine blk_alloc ?_ _)); refine blk_far ?_ NB104_106.out _; (with_reducible repeat (first | refine blk_drewN ?_ _ | refine blk_drew ?_ | refine blk_alloc ?_ _)); refine blk_far ?_ NB104_106.out _; (with_reducible repeat (first | refine blk_drewN ?_ _ | refine blk_drew ?_ | refine blk_alloc ?_ _)); exact BK104.out⟩, ⟨by (with_reducible repeat (first | refine blk_drewN ?_ _ | refine blk_drew ?_ | refine blk_alloc ?_ _)); refine blk_put (cs := #[.string ((rd_T47 l1_3 x5_2).f0), .slice A105_1 ((rd_T47 l1_3 x5_2).f1).length c105_1, .slice A105_2 ((rd_T47 l1_3 x5_2).f2).length c105_2, .string (⟨#[]⟩ : ByteArray)]) ?_ 3 _ rfl; (with_reducible repeat (first | refine blk_drewN ?_ _ | refine blk_drew ?_ | refine blk_alloc ?_ _)); refine blk_put (cs := #[.string ((rd_T47 l1_3 x5_2).f0), .slice A105_1 ((rd_T47 l1_3 x5_2).f1).length c105_1, .slice none 0 0, .string (⟨#[]⟩ : ByteArray)]) ?_ 2 _ rfl; (with_reducible repeat (first | refine blk_drewN ?_ _ | refine blk_drew ?_ | refine blk_alloc ?_ _)); refine blk_put (cs := #[.string ((rd_T47 l1_3 x5_2).f0), .slice none 0 0, .slice none 0 0, .string (⟨#[]⟩ : ByteArray)]) ?_ 1 _ rfl; (with_reducible repeat (first | refine blk_drewN ?_ _ | refine blk_drew ?_ | refine blk_alloc ?_ _)); refine blk_put (cs := #[.string (⟨#[]⟩ : ByteArray), .slice none 0 0, .slice none 0 0, .string (⟨#[]⟩ : ByteArray)]) ?_ 0 _ rfl; (with_reducible repeat (first | refine blk_drewN ?_ _ | refine blk_drew ?_ | refine blk_alloc ?_ _)); exact BK106.out⟩, ⟨by repeat (first | (with_reducible first | exact HB.out | apply below_alloc | apply pw_below_drewN | apply below_drew1 | refine below_set ?_ GE101.out | refine below_set ?_ GE102.out | refine below_set ?_ GE104.out | refine below_set ?_ GE106.out) | exact HB.out)⟩⟩
           ·rw [if_neg c39] at H
            have c39b0 : (((rd_T47 l0_3 x5_2).f3).toList == ((rd_T47 l1_3 x5_2).f3).toList) = false := beq_eq_false_iff_ne.mpr c39
            have c39b1 : (((rd_T47 l0_3 x5_2).f3).toList != ((rd_T47 l1_3 x5_2).f3).toList) = true := bne_iff_ne.mpr c39
            have H' := Aside0.mk H
            clear H
            have hnb55 := NB104_101.out
            have hnc55 := NB101_104.out
            have hnb56 := NB104_102.out
            have hnc56 := NB102_104.out
            have hnb57 := NB104_106.out
            have hnc57 := NB106_104.out
            have hcz58_0 : w33.cell? ⟨gb104, 0, none⟩ = some (.string ((rd_T47 l0_3 x5_2).f0)) := (blk_cell BK104.out 0).trans rfl
            have hcz58_1 : w33.cell? ⟨gb104, 1, none⟩ = some (.slice A103_1 ((rd_T47 l0_3 x5_2).f1).length c103_1) := (blk_cell BK104.out 1).trans rfl
            have hcz58_2 : w33.cell? ⟨gb104, 2, none⟩ = some (.slice A103_2 ((rd_T47 l0_3 x5_2).f2).length c103_2) := (blk_cell BK104.out 2).trans rfl
            have hcz58_3 : w33.cell? ⟨gb104, 3, none⟩ = some (.string ((rd_T47 l0_3 x5_2).f3)) := (blk_cell BK104.out 3).trans rfl
            have hfz58_0 := blk_frozen BK104.out 0
            have hfz58_1 := blk_frozen BK104.out 1
            have hfz58_2 := blk_frozen BK104.out 2
            have hfz58_3 := blk_frozen BK104.out 3
            have hnb59 := NB106_101.out
            have hnc59 := NB101_106.out
            have hnb60 := NB106_102.out
            have hnc60 := NB102_106.out
            have hcz61_0 : w33.cell? ⟨gb106, 0, none⟩ = some (.string (⟨#[]⟩ : ByteArray)) := (blk_cell BK106.out 0).trans rfl
            have hcz61_1 : w33.cell? ⟨gb106, 1, none⟩ = some (.slice none 0 0) := (blk_cell BK106.out 1).trans rfl
            have hcz61_2 : w33.cell? ⟨gb106, 2, none⟩ = some (.slice none 0 0) := (blk_cell BK106.out 2).trans rfl
            have hcz61_3 : w33.cell? ⟨gb106, 3, none⟩ = some (.string (⟨#[]⟩ : ByteArray)) := (blk_cell BK106.out 3).trans rfl
            have hfz61_0 := blk_frozen BK106.out 0
            have hfz61_1 := blk_frozen BK106.out 1
            have hfz61_2 := blk_frozen BK106.out 2
            have hfz61_3 := blk_frozen BK106.out 3
            go_wp2
            repeat (go_quiet (fail); try go_wp2)
            go_meet
            case rel => exact ⟨_, (true), (by first | rfl | (simp; done) | (simp [*]; done)), H', ⟨by have := HJ2.out; have := HK2.out; first | omega | exact Nat.le_refl _⟩, ⟨by (with_reducible repeat (first | refine blk_drewN ?_ _ | refine blk_drew ?_ | refine blk_alloc ?_ _)); refine blk_far ?_ NB101_106.out _; (with_reducible repeat (first | refine blk_drewN ?_ _ | refine blk_drew ?_ | refine blk_alloc ?_ _)); refine blk_far ?_ NB101_106.out _; (with_reducible repeat (first | refine blk_drewN ?_ _ | refine blk_drew ?_ | refine blk_alloc ?_ _)); refine blk_far ?_ NB101_106.out _; (with_reducible repeat (first | refine blk_drewN ?_ _ | refine blk_drew ?_ | refine blk_alloc ?_ _)); refine blk_far ?_ NB101_106.out _; (with_reducible repeat (first | refine blk_drewN ?_ _ | refine blk_drew ?_ | refine blk_alloc ?_ _)); exact BK101.out⟩, ⟨by (with_reducible repeat (first | refine blk_drewN ?_ _ | refine blk_drew ?_ | refine blk_alloc ?_ _)); refine blk_far ?_ NB102_106.out _; (with_reducible repeat (first | refine blk_drewN ?_ _ | refine blk_drew ?_ | refine blk_alloc ?_ _)); refine blk_far ?_ NB102_106.out _; (with_reducible repeat (first | refine blk_drewN ?_ _ | refine blk_drew ?_ | refine blk_alloc ?_ _)); refine blk_far ?_ NB102_106.out _; (with_reducible repeat (first | refine blk_drewN ?_ _ | refine blk_drew ?_ | refine blk_alloc ?_ _)); refine blk_far ?_ NB102_106.out _; (with_reducible repeat (first | refine blk_drewN ?_ _ | refine blk_drew ?_ | refine blk_alloc ?_ _)); exact BK102.out⟩, ⟨by (with_reducible repeat (first | refine blk_drewN ?_ _ | refine blk_drew ?_ | refine blk_alloc ?_ _)); refine blk_far ?_ NB104_106.out _; (with_reducible repeat (first | refine blk_drewN ?_ _ | refine blk_drew ?_ | refine blk_alloc ?_ _)); refine blk_far ?_ NB104_106.out _; (with_reducible repeat (first | refine blk_drewN ?_ _ | refine blk_drew ?_ | refine blk_alloc ?_ _)); refine blk_far ?_ NB104_106.out _; (with_reducible repeat (first | refine blk_drewN ?_ _ | refine blk_drew ?_ | refine blk_alloc ?_ _)); refine blk_far ?_ NB104_106.out _; (with_reducible repeat (first | refine blk_drewN ?_ _ | refine blk_drew ?_ | refine blk_alloc ?_ _)); exact BK104.out⟩, ⟨by (with_reducible repeat (first | refine blk_drewN ?_ _ | refine blk_drew ?_ | refine blk_alloc ?_ _)); refine blk_put (cs := #[.string ((rd_T47 l1_3 x5_2).f0), .slice A105_1 ((rd_T47 l1_3 x5_2).f1).length c105_1, .slice A105_2 ((rd_T47 l1_3 x5_2).f2).length c105_2, .string (⟨#[]⟩ : ByteArray)]) ?_ 3 _ rfl; (with_reducible repeat (first | refine blk_drewN ?_ _ | refine blk_drew ?_ | refine blk_alloc ?_ _)); refine blk_put (cs := #[.string ((rd_T47 l1_3 x5_2).f0), .slice A105_1 ((rd_T47 l1_3 x5_2).f1).length c105_1, .slice none 0 0, .string (⟨#[]⟩ : ByteArray)]) ?_ 2 _ rfl; (with_reducible repeat (first | refine blk_drewN ?_ _ | refine blk_drew ?_ | refine blk_alloc ?_ _)); refine blk_put (cs := #[.string ((rd_T47 l1_3 x5_2).f0), .slice none 0 0, .slice none 0 0, .string (⟨#[]⟩ : ByteArray)]) ?_ 1 _ rfl; (with_reducible repeat (first | refine blk_drewN ?_ _ | refine blk_drew ?_ | refine blk_alloc ?_ _)); refine blk_put (cs := #[.string (⟨#[]⟩ : ByteArray), .slice none 0 0, .slice none 0 0, .string (⟨#[]⟩ : ByteArray)]) ?_ 0 _ rfl; (with_reducible repeat (first | refine blk_drewN ?_ _ | refine blk_drew ?_ | refine blk_alloc ?_ _)); exact BK106.out⟩, ⟨by repeat (first | (with_reducible first | exact HB.out | apply below_alloc | apply pw_below_drewN | apply below_drew1 | refine below_set ?_ GE101.out | refine below_set ?_ GE102.out | refine below_set ?_ GE104.out | refine below_set ?_ GE106.out) | exact HB.out)⟩⟩
          ·rw [if_neg c38] at H
           have c38b0 : (((rd_T47 l0_3 x5_2).f0).toList == ((rd_T47 l1_3 x5_2).f0).toList) = false := beq_eq_false_iff_ne.mpr c38
           have c38b1 : (((rd_T47 l0_3 x5_2).f0).toList != ((rd_T47 l1_3 x5_2).f0).toList) = true := bne_iff_ne.mpr c38
           (first | rw [c38b0] | (simp only [i64_w, i32_w]; rw [c38b0]) | rw [c38b3] | rw [c38b2] | skip)
           have H' := Aside0.mk H
           clear H
           have hnb62 := NB104_101.out
           have hnc62 := NB101_104.out
           have hnb63 := NB104_102.out
           have hnc63 := NB102_104.out
           have hnb64 := NB104_106.out
           have hnc64 := NB106_104.out
           have hcz65_0 : w33.cell? ⟨gb104, 0, none⟩ = some (.string ((rd_T47 l0_3 x5_2).f0)) := (blk_cell BK104.out 0).trans rfl
           have hcz65_1 : w33.cell? ⟨gb104, 1, none⟩ = some (.slice A103_1 ((rd_T47 l0_3 x5_2).f1).length c103_1) := (blk_cell BK104.out 1).trans rfl
           have hcz65_2 : w33.cell? ⟨gb104, 2, none⟩ = some (.slice A103_2 ((rd_T47 l0_3 x5_2).f2).length c103_2) := (blk_cell BK104.out 2).trans rfl
           have hcz65_3 : w33.cell? ⟨gb104, 3, none⟩ = some (.string ((rd_T47 l0_3 x5_2).f3)) := (blk_cell BK104.out 3).trans rfl
           have hfz65_0 := blk_frozen BK104.out 0
           have hfz65_1 := blk_frozen BK104.out 1
           have hfz65_2 := blk_frozen BK104.out 2
           have hfz65_3 := blk_frozen BK104.out 3
           have hnb66 := NB106_101.out
           have hnc66 := NB101_106.out
           have hnb67 := NB106_102.out
           have hnc67 := NB102_106.out
           have hcz68_0 : w33.cell? ⟨gb106, 0, none⟩ = some (.string (⟨#[]⟩ : ByteArray)) := (blk_cell BK106.out 0).trans rfl
           have hcz68_1 : w33.cell? ⟨gb106, 1, none⟩ = some (.slice none 0 0) := (blk_cell BK106.out 1).trans rfl
           have hcz68_2 : w33.cell? ⟨gb106, 2, none⟩ = some (.slice none 0 0) := (blk_cell BK106.out 2).trans rfl
           have hcz68_3 : w33.cell? ⟨gb106, 3, none⟩ = some (.string (⟨#[]⟩ : ByteArray)) := (blk_cell BK106.out 3).trans rfl
           have hfz68_0 := blk_frozen BK106.out 0
           have hfz68_1 := blk_frozen BK106.out 1
           have hfz68_2 := blk_frozen BK106.out 2
           have hfz68_3 := blk_frozen BK106.out 3
           go_wp2
           repeat (go_quiet (fail); try go_wp2)
           go_meet
           case rel => exact ⟨_, (true), (by first | rfl | (simp; done) | (simp [*]; done)), H', ⟨by have := HJ2.out; have := HK2.out; first | omega | exact Nat.le_refl _⟩, ⟨by (with_reducible repeat (first | refine blk_drewN ?_ _ | refine blk_drew ?_ | refine blk_alloc ?_ _)); refine blk_far ?_ NB101_106.out _; (with_reducible repeat (first | refine blk_drewN ?_ _ | refine blk_drew ?_ | refine blk_alloc ?_ _)); refine blk_far ?_ NB101_106.out _; (with_reducible repeat (first | refine blk_drewN ?_ _ | refine blk_drew ?_ | refine blk_alloc ?_ _)); refine blk_far ?_ NB101_106.out _; (with_reducible repeat (first | refine blk_drewN ?_ _ | refine blk_drew ?_ | refine blk_alloc ?_ _)); refine blk_far ?_ NB101_106.out _; (with_reducible repeat (first | refine blk_drewN ?_ _ | refine blk_drew ?_ | refine blk_alloc ?_ _)); exact BK101.out⟩, ⟨by (with_reducible repeat (first | refine blk_drewN ?_ _ | refine blk_drew ?_ | refine blk_alloc ?_ _)); refine blk_far ?_ NB102_106.out _; (with_reducible repeat (first | refine blk_drewN ?_ _ | refine blk_drew ?_ | refine blk_alloc ?_ _)); refine blk_far ?_ NB102_106.out _; (with_reducible repeat (first | refine blk_drewN ?_ _ | refine blk_drew ?_ | refine blk_alloc ?_ _)); refine blk_far ?_ NB102_106.out _; (with_reducible repeat (first | refine blk_drewN ?_ _ | refine blk_drew ?_ | refine blk_alloc ?_ _)); refine blk_far ?_ NB102_106.out _; (with_reducible repeat (first | refine blk_drewN ?_ _ | refine blk_drew ?_ | refine blk_alloc ?_ _)); exact BK102.out⟩, ⟨by (with_reducible repeat (first | refine blk_drewN ?_ _ | refine blk_drew ?_ | refine blk_alloc ?_ _)); refine blk_far ?_ NB104_106.out _; (with_reducible repeat (first | refine blk_drewN ?_ _ | refine blk_drew ?_ | refine blk_alloc ?_ _)); refine blk_far ?_ NB104_106.out _; (with_reducible repeat (first | refine blk_drewN ?_ _ | refine blk_drew ?_ | refine blk_alloc ?_ _)); refine blk_far ?_ NB104_106.out _; (with_reducible repeat (first | refine blk_drewN ?_ _ | refine blk_drew ?_ | refine blk_alloc ?_ _)); refine blk_far ?_ NB104_106.out _; (with_reducible repeat (first | refine blk_drewN ?_ _ | refine blk_drew ?_ | refine blk_alloc ?_ _)); exact BK104.out⟩, ⟨by (with_reducible repeat (first | refine blk_drewN ?_ _ | refine blk_drew ?_ | refine blk_alloc ?_ _)); refine blk_put (cs := #[.string ((rd_T47 l1_3 x5_2).f0), .slice A105_1 ((rd_T47 l1_3 x5_2).f1).length c105_1, .slice A105_2 ((rd_T47 l1_3 x5_2).f2).length c105_2, .string (⟨#[]⟩ : ByteArray)]) ?_ 3 _ rfl; (with_reducible repeat (first | refine blk_drewN ?_ _ | refine blk_drew ?_ | refine blk_alloc ?_ _)); refine blk_put (cs := #[.string ((rd_T47 l1_3 x5_2).f0), .slice A105_1 ((rd_T47 l1_3 x5_2).f1).length c105_1, .slice none 0 0, .string (⟨#[]⟩ : ByteArray)]) ?_ 2 _ rfl; (with_reducible repeat (first | refine blk_drewN ?_ _ | refine blk_drew ?_ | refine blk_alloc ?_ _)); refine blk_put (cs := #[.string ((rd_T47 l1_3 x5_2).f0), .slice none 0 0, .slice none 0 0, .string (⟨#[]⟩ : ByteArray)]) ?_ 1 _ rfl; (with_reducible repeat (first | refine blk_drewN ?_ _ | refine blk_drew ?_ | refine blk_alloc ?_ _)); refine blk_put (cs := #[.string (⟨#[]⟩ : ByteArray), .slice none 0 0, .slice none 0 0, .string (⟨#[]⟩ : ByteArray)]) ?_ 0 _ rfl; (with_reducible repeat (first | refine blk_drewN ?_ _ | refine blk_drew ?_ | refine blk_alloc ?_ _)); exact BK106.out⟩, ⟨by repeat (first | (with_reducible first | exact HB.out | apply below_alloc | apply pw_below_drewN | apply below_drew1 | refine below_set ?_ GE101.out | refine below_set ?_ GE102.out | refine below_set ?_ GE104.out | refine below_set ?_ GE106.out) | exact HB.out)⟩⟩
         case rest =>
          clear HC25
          try clear c1
          try clear p1
          try clear q1
          try clear hx1
          try clear c2
          try clear p2
          try clear c3
          try clear c4
          try clear c5
          try clear c6
          try clear c6b0
          try clear c6b1
          try clear c6b2
          try clear c7
          try clear c7b0
          try clear c7b1
          try clear c8
          try clear c8b0
          try clear c8b1
          try clear c9
          try clear c10
          try clear p10
          try clear q10
          try clear hx10
          try clear c12
          try clear c15
          try clear c18
          try clear c21
          try clear c22
          try clear c22b0
          try clear c23
          try clear c23b0
          try clear c24
          try clear c24b0
          try clear c26
          try clear c29
          try clear c30
          try clear c34
          try clear c35
          try clear c36
          try clear c38
          try clear c38b0
          try clear c38b1
          try clear c38b2
          try clear c39
          try clear c39b0
          try clear c39b1
          try clear c40
          try clear c40b0
          try clear c40b1
          try clear c40b2
          try clear c41
          try clear c42
          try clear c43
          try clear c45
          try clear c46
          try clear c48
          try clear c49
          try clear c50
          try clear c52
          try clear c53
          try clear c55
          try clear c56
          try clear c57
          try clear c59
          try clear c60
          try clear c62
          try clear c63
          try clear c64
          try clear c66
          try clear c67
          try clear hcz10_0
          try clear hcz10_1
          try clear hcz10_2
          try clear hcz10_3
          try clear hcz11_0
          try clear hcz11_1
          try clear hcz11_2
          try clear hcz11_3
          try clear hcz13_0
          try clear hcz13_1
          try clear hcz13_2
          try clear hcz13_3
          try clear hcz14_0
          try clear hcz14_1
          try clear hcz14_2
          try clear hcz14_3
          try clear hcz16_0
          try clear hcz16_1
          try clear hcz16_2
          try clear hcz16_3
          try clear hcz17_0
          try clear hcz17_1
          try clear hcz17_2
          try clear hcz17_3
          try clear hcz19_0
          try clear hcz19_1
          try clear hcz19_2
          try clear hcz19_3
          try clear hcz20_0
          try clear hcz20_1
          try clear hcz20_2
          try clear hcz20_3
          try clear hcz27_0
          try clear hcz27_1
          try clear hcz27_2
          try clear hcz27_3
          try clear hcz31_0
          try clear hcz31_1
          try clear hcz31_2
          try clear hcz31_3
          try clear hcz32_0
          try clear hcz32_1
          try clear hcz32_2
          try clear hcz32_3
          try clear hcz37_0
          try clear hcz37_1
          try clear hcz37_2
          try clear hcz37_3
          try clear hcz44_0
          try clear hcz44_1
          try clear hcz44_2
          try clear hcz44_3
          try clear hcz47_0
          try clear hcz47_1
          try clear hcz47_2
          try clear hcz47_3
          try clear hcz51_0
          try clear hcz51_1
          try clear hcz51_2
          try clear hcz51_3
          try clear hcz54_0
          try clear hcz54_1
          try clear hcz54_2
          try clear hcz54_3
          try clear hcz58_0
          try clear hcz58_1
          try clear hcz58_2
          try clear hcz58_3
          try clear hcz61_0
          try clear hcz61_1
          try clear hcz61_2
          try clear hcz61_3
          try clear hcz65_0
          try clear hcz65_1
          try clear hcz65_2
          try clear hcz65_3
          try clear hcz68_0
          try clear hcz68_1
          try clear hcz68_2
          try clear hcz68_3
          try clear hfz10_0
          try clear hfz10_1
          try clear hfz10_2
          try clear hfz10_3
          try clear hfz11_0
          try clear hfz11_1
          try clear hfz11_2
          try clear hfz11_3
          try clear hfz13_0
          try clear hfz13_1
          try clear hfz13_2
          try clear hfz13_3
          try clear hfz14_0
          try clear hfz14_1
          try clear hfz14_2
          try clear hfz14_3
          try clear hfz16_0
          try clear hfz16_1
          try clear hfz16_2
          try clear hfz16_3
          try clear hfz17_0
          try clear hfz17_1
          try clear hfz17_2
          try clear hfz17_3
          try clear hfz19_0
          try clear hfz19_1
          try clear hfz19_2
          try clear hfz19_3
          try clear hfz20_0
          try clear hfz20_1
          try clear hfz20_2
          try clear hfz20_3
          try clear hfz27_0
          try clear hfz27_1
          try clear hfz27_2
          try clear hfz27_3
          try clear hfz31_0
          try clear hfz31_1
          try clear hfz31_2
          try clear hfz31_3
          try clear hfz32_0
          try clear hfz32_1
          try clear hfz32_2
          try clear hfz32_3
          try clear hfz37_0
          try clear hfz37_1
          try clear hfz37_2
          try clear hfz37_3
          try clear hfz44_0
          try clear hfz44_1
          try clear hfz44_2
          try clear hfz44_3
          try clear hfz47_0
          try clear hfz47_1
          try clear hfz47_2
          try clear hfz47_3
          try clear hfz51_0
          try clear hfz51_1
          try clear hfz51_2
          try clear hfz51_3
          try clear hfz54_0
          try clear hfz54_1
          try clear hfz54_2
          try clear hfz54_3
          try clear hfz58_0
          try clear hfz58_1
          try clear hfz58_2
          try clear hfz58_3
          try clear hfz61_0
          try clear hfz61_1
          try clear hfz61_2
          try clear hfz61_3
          try clear hfz65_0
          try clear hfz65_1
          try clear hfz65_2
          try clear hfz65_3
          try clear hfz68_0
          try clear hfz68_1
          try clear hfz68_2
          try clear hfz68_3
          try clear hx103_0
          try clear hx103_1
          try clear hx103_2
          try clear hx103_3
          try clear hx105_0
          try clear hx105_1
          try clear hx105_2
          try clear hx105_3
          try clear p103
          try clear p105
          try clear p2
          try clear q103
          try clear q105
          obtain ⟨kq, x84_24, rfl, HA, HJ24, BK101, BK102, BK104, BK106, HB⟩ := hcut
          cases kq with
          | zero => exact absurd HA.out (by simp [ref10_Same.j2])
          | succ kj24 =>
           have H := HA.out
           clear HA
           simp only [ref10_Same.j2] at H
           by_cases c69 : x84_24 = true
           ·subst c69
            have H1 : (some false) = some r := by rw [if_pos rfl] at H; exact H
            clear H
            have H := H1
            clear H1
            obtain rfl := Option.some.inj H
            go_wp2
            repeat (go_quiet (fail); try go_wp2)
            go_ret
            exact ⟨by first | rfl | (simp [errW_none, errW_some] <;> rfl) | (simp [*, errW_none, errW_some] <;> rfl), by repeat (first | (with_reducible first | exact HB.out | apply below_alloc | apply pw_below_drewN | apply below_drew1 | refine below_set ?_ GE101.out | refine below_set ?_ GE102.out | refine below_set ?_ GE104.out | refine below_set ?_ GE106.out) | exact HB.out)⟩
           ·replace c69 := Bool.eq_false_iff.mpr c69
            subst c69
            have H1 : (ref10_Same.l1 kj24 x5_2 0 a0_0 a0_1 a0_2 l0_3 a1_0 a1_1 a1_2 l1_3 ((rd_T47 l0_3 x5_2).f0) ((rd_T47 l0_3 x5_2).f1) ((rd_T47 l0_3 x5_2).f2) ((rd_T47 l0_3 x5_2).f3) ((rd_T47 l1_3 x5_2).f0) ((rd_T47 l1_3 x5_2).f1) ((rd_T47 l1_3 x5_2).f2) ((rd_T47 l1_3 x5_2).f3)) = some r := by rw [if_neg (show ¬ (false = true) by decide)] at H; exact H
            clear H
            have H := H1
            clear H1
            have H' := Aside0.mk H
            clear H
            go_wp2
            repeat (go_quiet (fail); try go_wp2)
            go_loopg [8] kj24 (fun kq v8 w' => ∃ (x8_4 : Int), v8 = .int .i64 x8_4 ∧ Aside0 (ref10_Same.l1 kq x5_2 x8_4 a0_0 a0_1 a0_2 l0_3 a1_0 a1_1 a1_2 l1_3 ((rd_T47 l0_3 x5_2).f0) ((rd_T47 l0_3 x5_2).f1) ((rd_T47 l0_3 x5_2).f2) ((rd_T47 l0_3 x5_2).f3) ((rd_T47 l1_3 x5_2).f0) ((rd_T47 l1_3 x5_2).f1) ((rd_T47 l1_3 x5_2).f2) ((rd_T47 l1_3 x5_2).f3) = some r) ∧ Aside0 (kq ≤ kj24) ∧ Aside0 (w'.heap[gb101]? = some (.cells #[.int .i64 a0_0, .int .i64 a0_1, .int .i64 a0_2, (.slice (some ad103) l0_3.length c0_3)] 25 (0, 0))) ∧ Aside0 (w'.heap[gb102]? = some (.cells #[.int .i64 a1_0, .int .i64 a1_1, .int .i64 a1_2, (.slice (some ad105) l1_3.length c1_3)] 25 (0, 0))) ∧ Aside0 (w'.heap[gb104]? = some (.cells #[.string ((rd_T47 l0_3 x5_2).f0), (.slice A103_1 ((rd_T47 l0_3 x5_2).f1).length c103_1), (.slice A103_2 ((rd_T47 l0_3 x5_2).f2).length c103_2), .string ((rd_T47 l0_3 x5_2).f3)] 47 (0, 0))) ∧ Aside0 (w'.heap[gb106]? = some (.cells #[.string ((rd_T47 l1_3 x5_2).f0), (.slice A105_1 ((rd_T47 l1_3 x5_2).f1).length c105_1), (.slice A105_2 ((rd_T47 l1_3 x5_2).f2).length c105_2), .string ((rd_T47 l1_3 x5_2).f3)] 47 (0, 0))) ∧ Aside0 (Below w.heap.size w w'))
            case atStart => exact ⟨(0), (by first | rfl | (simp; done) | (simp [*]; done)), H', ⟨Nat.le_refl _⟩, ⟨by (with_reducible repeat (first | refine blk_drewN ?_ _ | refine blk_drew ?_ | refine blk_alloc ?_ _)); exact BK101.out⟩, ⟨by (with_reducible repeat (first | refine blk_drewN ?_ _ | refine blk_drew ?_ | refine blk_alloc ?_ _)); exact BK102.out⟩, ⟨by (with_reducible repeat (first | refine blk_drewN ?_ _ | refine blk_drew ?_ | refine blk_alloc ?_ _)); exact BK104.out⟩, ⟨by (with_reducible repeat (first | refine blk_drewN ?_ _ | refine blk_drew ?_ | refine blk_alloc ?_ _)); exact BK106.out⟩, ⟨by repeat (first | (with_reducible first | exact HB.out | apply below_alloc | apply pw_below_drewN | apply below_drew1 | refine below_set ?_ GE101.out | refine below_set ?_ GE102.out | refine below_set ?_ GE104.out | refine below_set ?_ GE106.out) | exact HB.out)⟩⟩
            case round =>
             clear H'
             try clear c1
             try clear p1
             try clear q1
             try clear hx1
             try clear c2
             try clear p2
             try clear c3
             try clear c4
             try clear c5
             try clear c6
             try clear c6b0
             try clear c6b1
             try clear c6b2
             try clear c7
             try clear c7b0
             try clear c7b1
             try clear c8
             try clear c8b0
             try clear c8b1
             try clear c9
             try clear c10
             try clear p10
             try clear q10
             try clear hx10
             try clear c12
             try clear c15
             try clear c18
             try clear c21
             try clear c22
             try clear c22b0
             try clear c23
             try clear c23b0
             try clear c24
             try clear c24b0
             try clear c26
             try clear c29
             try clear c30
             try clear c34
             try clear c35
             try clear c36
             try clear c38
             try clear c38b0
             try clear c38b1
             try clear c38b2
             try clear c39
             try clear c39b0
             try clear c39b1
             try clear c40
             try clear c40b0
             try clear c40b1
             try clear c40b2
             try clear c41
             try clear c42
             try clear c43
             try clear c45
             try clear c46
             try clear c48
             try clear c49
             try clear c50
             try clear c52
             try clear c53
             try clear c55
             try clear c56
             try clear c57
             try clear c59
             try clear c60
             try clear c62
             try clear c63
             try clear c64
             try clear c66
             try clear c67
             try clear c69
             try clear hcz10_0
             try clear hcz10_1
             try clear hcz10_2
             try clear hcz10_3
             try clear hcz11_0
             try clear hcz11_1
             try clear hcz11_2
             try clear hcz11_3
             try clear hcz13_0
             try clear hcz13_1
             try clear hcz13_2
             try clear hcz13_3
             try clear hcz14_0
             try clear hcz14_1
             try clear hcz14_2
             try clear hcz14_3
             try clear hcz16_0
             try clear hcz16_1
             try clear hcz16_2
             try clear hcz16_3
             try clear hcz17_0
             try clear hcz17_1
             try clear hcz17_2
             try clear hcz17_3
             try clear hcz19_0
             try clear hcz19_1
             try clear hcz19_2
             try clear hcz19_3
             try clear hcz20_0
             try clear hcz20_1
             try clear hcz20_2
             try clear hcz20_3
             try clear hcz27_0
             try clear hcz27_1
             try clear hcz27_2
             try clear hcz27_3
             try clear hcz31_0
             try clear hcz31_1
             try clear hcz31_2
             try clear hcz31_3
             try clear hcz32_0
             try clear hcz32_1
             try clear hcz32_2
             try clear hcz32_3
             try clear hcz37_0
             try clear hcz37_1
             try clear hcz37_2
             try clear hcz37_3
             try clear hcz44_0
             try clear hcz44_1
             try clear hcz44_2
             try clear hcz44_3
             try clear hcz47_0
             try clear hcz47_1
             try clear hcz47_2
             try clear hcz47_3
             try clear hcz51_0
             try clear hcz51_1
             try clear hcz51_2
             try clear hcz51_3
             try clear hcz54_0
             try clear hcz54_1
             try clear hcz54_2
             try clear hcz54_3
             try clear hcz58_0
             try clear hcz58_1
             try clear hcz58_2
             try clear hcz58_3
             try clear hcz61_0
             try clear hcz61_1
             try clear hcz61_2
             try clear hcz61_3
             try clear hcz65_0
             try clear hcz65_1
             try clear hcz65_2
             try clear hcz65_3
             try clear hcz68_0
             try clear hcz68_1
             try clear hcz68_2
             try clear hcz68_3
             try clear hfz10_0
             try clear hfz10_1
             try clear hfz10_2
             try clear hfz10_3
             try clear hfz11_0
             try clear hfz11_1
             try clear hfz11_2
             try clear hfz11_3
             try clear hfz13_0
             try clear hfz13_1
             try clear hfz13_2
             try clear hfz13_3
             try clear hfz14_0
             try clear hfz14_1
             try clear hfz14_2
             try clear hfz14_3
             try clear hfz16_0
             try clear hfz16_1
             try clear hfz16_2
             try clear hfz16_3
             try clear hfz17_0
             try clear hfz17_1
             try clear hfz17_2
             try clear hfz17_3
             try clear hfz19_0
             try clear hfz19_1
             try clear hfz19_2
             try clear hfz19_3
             try clear hfz20_0
             try clear hfz20_1
             try clear hfz20_2
             try clear hfz20_3
             try clear hfz27_0
             try clear hfz27_1
             try clear hfz27_2
             try clear hfz27_3
             try clear hfz31_0
             try clear hfz31_1
             try clear hfz31_2
             try clear hfz31_3
             try clear hfz32_0
             try clear hfz32_1
             try clear hfz32_2
             try clear hfz32_3
             try clear hfz37_0
             try clear hfz37_1
             try clear hfz37_2
             try clear hfz37_3
             try clear hfz44_0
             try clear hfz44_1
             try clear hfz44_2
             try clear hfz44_3
             try clear hfz47_0
             try clear hfz47_1
             try clear hfz47_2
             try clear hfz47_3
             try clear hfz51_0
             try clear hfz51_1
             try clear hfz51_2
             try clear hfz51_3
             try clear hfz54_0
             try clear hfz54_1
             try clear hfz54_2
             try clear hfz54_3
             try clear hfz58_0
             try clear hfz58_1
             try clear hfz58_2
             try clear hfz58_3
             try clear hfz61_0
             try clear hfz61_1
             try clear hfz61_2
             try clear hfz61_3
             try clear hfz65_0
             try clear hfz65_1
             try clear hfz65_2
             try clear hfz65_3
             try clear hfz68_0
             try clear hfz68_1
             try clear hfz68_2
             try clear hfz68_3
             try clear hx103_0
             try clear hx103_1
             try clear hx103_2
             try clear hx103_3
             try clear hx105_0
             try clear hx105_1
             try clear hx105_2
             try clear hx105_3
             try clear p1
             try clear p10
             try clear p103
             try clear p105
             try clear p2
             try clear q1
             try clear q10
             try clear q103
             try clear q105
             obtain ⟨x8_4, rfl, HA, HK4, BK101, BK102, BK104, BK106, HB⟩ := hrel
             cases gk with
             | zero => exact absurd HA.out (by simp [ref10_Same.l1])
             | succ k4 =>
              have H := HA.out
              clear HA
              simp only [ref10_Same.l1] at H
              by_cases c70 : x8_4 < (((rd_T47 l0_3 x5_2).f1).length : Int)
              ·rw [if_pos c70] at H
               have c70b0 : decide (x8_4 < (((rd_T47 l0_3 x5_2).f1).length : Int)) = true := decide_eq_true c70
               clear c70
               by_cases c71 : 0 ≤ x8_4
               ·rw [if_pos c71] at H
                have c71b0 : decide (0 ≤ x8_4) = true := decide_eq_true c71
                clear c71
                by_cases c72 : x8_4 < (((rd_T47 l1_3 x5_2).f1).length : Int)
                ·rw [if_pos c72] at H
                 have c72b0 : decide (x8_4 < (((rd_T47 l1_3 x5_2).f1).length : Int)) = true := decide_eq_true c72
                 clear c72
                 by_cases c73 : (!(((rd_T51 ((rd_T47 l0_3 x5_2).f1) x8_4).f0) == ((rd_T51 ((rd_T47 l1_3 x5_2).f1) x8_4).f0)) || ((!(((rd_T51 ((rd_T47 l0_3 x5_2).f1) x8_4).f1.f0) == ((rd_T51 ((rd_T47 l1_3 x5_2).f1) x8_4).f1.f0)) || (!(((rd_T51 ((rd_T47 l0_3 x5_2).f1) x8_4).f1.f1) == ((rd_T51 ((rd_T47 l1_3 x5_2).f1) x8_4).f1.f1)))) || (!((((rd_T51 ((rd_T47 l0_3 x5_2).f1) x8_4).f2).toList) == (((rd_T51 ((rd_T47 l1_3 x5_2).f1) x8_4).f2).toList)) || (!((((rd_T51 ((rd_T47 l0_3 x5_2).f1) x8_4).f3).toList) == (((rd_T51 ((rd_T47 l1_3 x5_2).f1) x8_4).f3).toList)))))) = true
                 ·rw [if_pos c73] at H
                  have c73b0 : (!(((rd_T51 ((rd_T47 l0_3 x5_2).f1) x8_4).f0) == ((rd_T51 ((rd_T47 l1_3 x5_2).f1) x8_4).f0)) || ((!(((rd_T51 ((rd_T47 l0_3 x5_2).f1) x8_4).f1.f0) == ((rd_T51 ((rd_T47 l1_3 x5_2).f1) x8_4).f1.f0)) || (!(((rd_T51 ((rd_T47 l0_3 x5_2).f1) x8_4).f1.f1) == ((rd_T51 ((rd_T47 l1_3 x5_2).f1) x8_4).f1.f1)))) || (!((((rd_T51 ((rd_T47 l0_3 x5_2).f1) x8_4).f2).toList) == (((rd_T51 ((rd_T47 l1_3 x5_2).f1) x8_4).f2).toList)) || (!((((rd_T51 ((rd_T47 l0_3 x5_2).f1) x8_4).f3).toList) == (((rd_T51 ((rd_T47 l1_3 x5_2).f1) x8_4).f3).toList)))))) = true := c73
                  clear c73
                  obtain rfl := Option.some.inj H
                  have hnb74 := NB104_101.out
                  have hnc74 := NB101_104.out
                  have hnb75 := NB104_102.out
                  have hnc75 := NB102_104.out
                  have hnb76 := NB104_106.out
                  have hnc76 := NB106_104.out
                  have hcz77_0 : wr.cell? ⟨gb104, 0, none⟩ = some (.string ((rd_T47 l0_3 x5_2).f0)) := (blk_cell BK104.out 0).trans rfl
                  have hcz77_1 : wr.cell? ⟨gb104, 1, none⟩ = some (.slice A103_1 ((rd_T47 l0_3 x5_2).f1).length c103_1) := (blk_cell BK104.out 1).trans rfl
                  have hcz77_2 : wr.cell? ⟨gb104, 2, none⟩ = some (.slice A103_2 ((rd_T47 l0_3 x5_2).f2).length c103_2) := (blk_cell BK104.out 2).trans rfl
                  have hcz77_3 : wr.cell? ⟨gb104, 3, none⟩ = some (.string ((rd_T47 l0_3 x5_2).f3)) := (blk_cell BK104.out 3).trans rfl
                  have hfz77_0 := blk_frozen BK104.out 0
                  have hfz77_1 := blk_frozen BK104.out 1
                  have hfz77_2 := blk_frozen BK104.out 2
                  have hfz77_3 := blk_frozen BK104.out 3
                  have p107 : 0 ≤ (x8_4 : Int) := of_decide_eq_true (by first | (with_reducible assumption) | assumption)
                  have q107 : x8_4 < (((rd_T47 l0_3 x5_2).f1).length : Int) := of_decide_eq_true (by first | (with_reducible assumption) | assumption)
                  obtain ⟨ad107, e107, hx107_0, hx107_1, hx107_2, hx107_3, hx107_4⟩ := at_T51 HR103_1.out x8_4 p107 q107
                  cases e107
                  replace hx107_0 := (HB.out.cell (World.block_lt_of_cell? w _ hx107_0)).trans hx107_0
                  replace hx107_1 := (HB.out.cell (World.block_lt_of_cell? w _ hx107_1)).trans hx107_1
                  replace hx107_2 := (HB.out.cell (World.block_lt_of_cell? w _ hx107_2)).trans hx107_2
                  replace hx107_3 := (HB.out.cell (World.block_lt_of_cell? w _ hx107_3)).trans hx107_3
                  replace hx107_4 := (HB.out.cell (World.block_lt_of_cell? w _ hx107_4)).trans hx107_4
                  replace p107 := eq_true p107
                  replace q107 := eq_true q107
                  have hnb78 := NB106_101.out
                  have hnc78 := NB101_106.out
                  have hnb79 := NB106_102.out
                  have hnc79 := NB102_106.out
                  have hcz80_0 : wr.cell? ⟨gb106, 0, none⟩ = some (.string ((rd_T47 l1_3 x5_2).f0)) := (blk_cell BK106.out 0).trans rfl
                  have hcz80_1 : wr.cell? ⟨gb106, 1, none⟩ = some (.slice A105_1 ((rd_T47 l1_3 x5_2).f1).length c105_1) := (blk_cell BK106.out 1).trans rfl
                  have hcz80_2 : wr.cell? ⟨gb106, 2, none⟩ = some (.slice A105_2 ((rd_T47 l1_3 x5_2).f2).length c105_2) := (blk_cell BK106.out 2).trans rfl
                  have hcz80_3 : wr.cell? ⟨gb106, 3, none⟩ = some (.string ((rd_T47 l1_3 x5_2).f3)) := (blk_cell BK106.out 3).trans rfl
                  have hfz80_0 := blk_frozen BK106.out 0
                  have hfz80_1 := blk_frozen BK106.out 1
                  have hfz80_2 := blk_frozen BK106.out 2
                  have hfz80_3 := blk_frozen BK106.out 3
                  have p108 : 0 ≤ (x8_4 : Int) := of_decide_eq_true (by first | (with_reducible assumption) | assumption)
                  have q108 : x8_4 < (((rd_T47 l1_3 x5_2).f1).length : Int) := of_decide_eq_true (by first | (with_reducible assumption) | assumption)
                  obtain ⟨ad108, e108, hx108_0, hx108_1, hx108_2, hx108_3, hx108_4⟩ := at_T51 HR105_1.out x8_4 p108 q108
                  cases e108
                  replace hx108_0 := (HB.out.cell (World.block_lt_of_cell? w _ hx108_0)).trans hx108_0
                  replace hx108_1 := (HB.out.cell (World.block_lt_of_cell? w _ hx108_1)).trans hx108_1
                  replace hx108_2 := (HB.out.cell (World.block_lt_of_cell? w _ hx108_2)).trans hx108_2
                  replace hx108_3 := (HB.out.cell (World.block_lt_of_cell? w _ hx108_3)).trans hx108_3
                  replace hx108_4 := (HB.out.cell (World.block_lt_of_cell? w _ hx108_4)).trans hx108_4
                  replace p108 := eq_true p108
                  replace q108 := eq_true q108
                  go_wp2
                  repeat (go_quiet (fail); try go_wp2)
                  go_ret
                  exact ⟨by first | rfl | (simp [errW_none, errW_some] <;> rfl) | (simp [*, errW_none, errW_some] <;> rfl), by repeat (first | (with_reducible first | exact HB.out | apply below_alloc | apply pw_below_drewN | apply below_drew1 | refine below_set ?_ GE101.out | refine below_set ?_ GE102.out | refine below_set ?_ GE104.out | refine below_set ?_ GE106.out) | exact HB.out)⟩
                 ·rw [if_neg c73] at H
                  have c73b0 : (!(((rd_T51 ((rd_T47 l0_3 x5_2).f1) x8_4).f0) == ((rd_T51 ((rd_T47 l1_3 x5_2).f1) x8_4).f0)) || ((!(((rd_T51 ((rd_T47 l0_3 x5_2).f1) x8_4).f1.f0) == ((rd_T51 ((rd_T47 l1_3 x5_2).f1) x8_4).f1.f0)) || (!(((rd_T51 ((rd_T47 l0_3 x5_2).f1) x8_4).f1.f1) == ((rd_T51 ((rd_T47 l1_3 x5_2).f1) x8_4).f1.f1)))) || (!((((rd_T51 ((rd_T47 l0_3 x5_2).f1) x8_4).f2).toList) == (((rd_T51 ((rd_T47 l1_3 x5_2).f1) x8_4).f2).toList)) || (!((((rd_T51 ((rd_T47 l0_3 x5_2).f1) x8_4).f3).toList) == (((rd_T51 ((rd_T47 l1_3 x5_2).f1) x8_4).f3).toList)))))) = false := by simpa using c73
                  clear c73
                  have H' := Aside0.mk H
                  clear H
                  have hnb81 := NB104_101.out
                  have hnc81 := NB101_104.out
                  have hnb82 := NB104_102.out
                  have hnc82 := NB102_104.out
                  have hnb83 := NB104_106.out
                  have hnc83 := NB106_104.out
                  have hcz84_0 : wr.cell? ⟨gb104, 0, none⟩ = some (.string ((rd_T47 l0_3 x5_2).f0)) := (blk_cell BK104.out 0).trans rfl
                  have hcz84_1 : wr.cell? ⟨gb104, 1, none⟩ = some (.slice A103_1 ((rd_T47 l0_3 x5_2).f1).length c103_1) := (blk_cell BK104.out 1).trans rfl
                  have hcz84_2 : wr.cell? ⟨gb104, 2, none⟩ = some (.slice A103_2 ((rd_T47 l0_3 x5_2).f2).length c103_2) := (blk_cell BK104.out 2).trans rfl
                  have hcz84_3 : wr.cell? ⟨gb104, 3, none⟩ = some (.string ((rd_T47 l0_3 x5_2).f3)) := (blk_cell BK104.out 3).trans rfl
                  have hfz84_0 := blk_frozen BK104.out 0
                  have hfz84_1 := blk_frozen BK104.out 1
                  have hfz84_2 := blk_frozen BK104.out 2
                  have hfz84_3 := blk_frozen BK104.out 3
                  have p107 : 0 ≤ (x8_4 : Int) := of_decide_eq_true (by first | (with_reducible assumption) | assumption)
                  have q107 : x8_4 < (((rd_T47 l0_3 x5_2).f1).length : Int) := of_decide_eq_true (by first | (with_reducible assumption) | assumption)
                  obtain ⟨ad107, e107, hx107_0, hx107_1, hx107_2, hx107_3, hx107_4⟩ := at_T51 HR103_1.out x8_4 p107 q107
                  cases e107
                  replace hx107_0 := (HB.out.cell (World.block_lt_of_cell? w _ hx107_0)).trans hx107_0
                  replace hx107_1 := (HB.out.cell (World.block_lt_of_cell? w _ hx107_1)).trans hx107_1
                  replace hx107_2 := (HB.out.cell (World.block_lt_of_cell? w _ hx107_2)).trans hx107_2
                  replace hx107_3 := (HB.out.cell (World.block_lt_of_cell? w _ hx107_3)).trans hx107_3
                  replace hx107_4 := (HB.out.cell (World.block_lt_of_cell? w _ hx107_4)).trans hx107_4
                  replace p107 := eq_true p107
                  replace q107 := eq_true q107
                  have hnb85 := NB106_101.out
                  have hnc85 := NB101_106.out
                  have hnb86 := NB106_102.out
                  have hnc86 := NB102_106.out
                  have hcz87_0 : wr.cell? ⟨gb106, 0, none⟩ = some (.string ((rd_T47 l1_3 x5_2).f0)) := (blk_cell BK106.out 0).trans rfl
                  have hcz87_1 : wr.cell? ⟨gb106, 1, none⟩ = some (.slice A105_1 ((rd_T47 l1_3 x5_2).f1).length c105_1) := (blk_cell BK106.out 1).trans rfl
                  have hcz87_2 : wr.cell? ⟨gb106, 2, none⟩ = some (.slice A105_2 ((rd_T47 l1_3 x5_2).f2).length c105_2) := (blk_cell BK106.out 2).trans rfl
                  have hcz87_3 : wr.cell? ⟨gb106, 3, none⟩ = some (.string ((rd_T47 l1_3 x5_2).f3)) := (blk_cell BK106.out 3).trans rfl
                  have hfz87_0 := blk_frozen BK106.out 0
                  have hfz87_1 := blk_frozen BK106.out 1
                  have hfz87_2 := blk_frozen BK106.out 2
                  have hfz87_3 := blk_frozen BK106.out 3
                  have p108 : 0 ≤ (x8_4 : Int) := of_decide_eq_true (by first | (with_reducible assumption) | assumption)
                  have q108 : x8_4 < (((rd_T47 l1_3 x5_2).f1).length : Int) := of_decide_eq_true (by first | (with_reducible assumption) | assumption)
                  obtain ⟨ad108, e108, hx108_0, hx108_1, hx108_2, hx108_3, hx108_4⟩ := at_T51 HR105_1.out x8_4 p108 q108
                  cases e108
                  replace hx108_0 := (HB.out.cell (World.block_lt_of_cell? w _ hx108_0)).trans hx108_0
                  replace hx108_1 := (HB.out.cell (World.block_lt_of_cell? w _ hx108_1)).trans hx108_1
                  replace hx108_2 := (HB.out.cell (World.block_lt_of_cell? w _ hx108_2)).trans hx108_2
                  replace hx108_3 := (HB.out.cell (World.block_lt_of_cell? w _ hx108_3)).trans hx108_3
                  replace hx108_4 := (HB.out.cell (World.block_lt_of_cell? w _ hx108_4)).trans hx108_4
                  replace p108 := eq_true p108
                  replace q108 := eq_true q108
                  go_wp2
                  repeat (go_quiet (fail); try go_wp2)
                  go_roundg k4
                  case measure => have := HJ2.out; have := HK2.out; have := HJ24.out; have := HK4.out; omega
                  case rel => exact ⟨(wrap64 (x8_4 + 1)), (by first | rfl | (simp; done) | (simp [*]; done)), H', ⟨by have := HJ2.out; have := HK2.out; have := HJ24.out; have := HK4.out; omega⟩, ⟨by (with_reducible repeat (first | refine blk_drewN ?_ _ | refine blk_drew ?_ | refine blk_alloc ?_ _)); exact BK101.out⟩, ⟨by (with_reducible repeat (first | refine blk_drewN ?_ _ | refine blk_drew ?_ | refine blk_alloc ?_ _)); exact BK102.out⟩, ⟨by (with_reducible repeat (first | refine blk_drewN ?_ _ | refine blk_drew ?_ | refine blk_alloc ?_ _)); exact BK104.out⟩, ⟨by (with_reducible repeat (first | refine blk_drewN ?_ _ | refine blk_drew ?_ | refine blk_alloc ?_ _)); exact BK106.out⟩, ⟨by repeat (first | (with_reducible first | exact HB.out | apply below_alloc | apply pw_below_drewN | apply below_drew1 | refine below_set ?_ GE101.out | refine below_set ?_ GE102.out | refine below_set ?_ GE104.out | refine below_set ?_ GE106.out) | exact HB.out)⟩⟩
                ·rw [if_neg c72] at H
                 exact absurd H (by simp)
               ·rw [if_neg c71] at H
                exact absurd H (by simp)
              ·rw [if_neg c70] at H
               have c70b0 : decide (x8_4 < (((rd_T47 l0_3 x5_2).f1).length : Int)) = false := decide_eq_false c70
               clear c70
               have H' := Aside0.mk H
               clear H
               have hnb88 := NB104_101.out
               have hnc88 := NB101_104.out
               have hnb89 := NB104_102.out
               have hnc89 := NB102_104.out
               have hnb90 := NB104_106.out
               have hnc90 := NB106_104.out
               have hcz91_0 : wr.cell? ⟨gb104, 0, none⟩ = some (.string ((rd_T47 l0_3 x5_2).f0)) := (blk_cell BK104.out 0).trans rfl
               have hcz91_1 : wr.cell? ⟨gb104, 1, none⟩ = some (.slice A103_1 ((rd_T47 l0_3 x5_2).f1).length c103_1) := (blk_cell BK104.out 1).trans rfl
               have hcz91_2 : wr.cell? ⟨gb104, 2, none⟩ = some (.slice A103_2 ((rd_T47 l0_3 x5_2).f2).length c103_2) := (blk_cell BK104.out 2).trans rfl
               have hcz91_3 : wr.cell? ⟨gb104, 3, none⟩ = some (.string ((rd_T47 l0_3 x5_2).f3)) := (blk_cell BK104.out 3).trans rfl
               have hfz91_0 := blk_frozen BK104.out 0
               have hfz91_1 := blk_frozen BK104.out 1
               have hfz91_2 := blk_frozen BK104.out 2
               have hfz91_3 := blk_frozen BK104.out 3
               go_wp2
               repeat (go_quiet (fail); try go_wp2)
               go_loopg [9] k4 (fun kq v9 w' => ∃ (x9_5 : Int), v9 = .int .i64 x9_5 ∧ Aside0 (ref10_Same.l2 kq x5_2 x9_5 a0_0 a0_1 a0_2 l0_3 a1_0 a1_1 a1_2 l1_3 ((rd_T47 l0_3 x5_2).f0) ((rd_T47 l0_3 x5_2).f1) ((rd_T47 l0_3 x5_2).f2) ((rd_T47 l0_3 x5_2).f3) ((rd_T47 l1_3 x5_2).f0) ((rd_T47 l1_3 x5_2).f1) ((rd_T47 l1_3 x5_2).f2) ((rd_T47 l1_3 x5_2).f3) = some r) ∧ Aside0 (kq ≤ k4) ∧ Aside0 (w'.heap[gb101]? = some (.cells #[.int .i64 a0_0, .int .i64 a0_1, .int .i64 a0_2, (.slice (some ad103) l0_3.length c0_3)] 25 (0, 0))) ∧ Aside0 (w'.heap[gb102]? = some (.cells #[.int .i64 a1_0, .int .i64 a1_1, .int .i64 a1_2, (.slice (some ad105) l1_3.length c1_3)] 25 (0, 0))) ∧ Aside0 (w'.heap[gb104]? = some (.cells #[.string ((rd_T47 l0_3 x5_2).f0), (.slice A103_1 ((rd_T47 l0_3 x5_2).f1).length c103_1), (.slice A103_2 ((rd_T47 l0_3 x5_2).f2).length c103_2), .string ((rd_T47 l0_3 x5_2).f3)] 47 (0, 0))) ∧ Aside0 (w'.heap[gb106]? = some (.cells #[.string ((rd_T47 l1_3 x5_2).f0), (.slice A105_1 ((rd_T47 l1_3 x5_2).f1).length c105_1), (.slice A105_2 ((rd_T47 l1_3 x5_2).f2).length c105_2), .string ((rd_T47 l1_3 x5_2).f3)] 47 (0, 0))) ∧ Aside0 (Below w.heap.size w w'))
               case atStart => exact ⟨(0), (by first | rfl | (simp; done) | (simp [*]; done)), H', ⟨Nat.le_refl _⟩, ⟨by (with_reducible repeat (first | refine blk_drewN ?_ _ | refine blk_drew ?_ | refine blk_alloc ?_ _)); exact BK101.out⟩, ⟨by (with_reducible repeat (first | refine blk_drewN ?_ _ | refine blk_drew ?_ | refine blk_alloc ?_ _)); exact BK102.out⟩, ⟨by (with_reducible repeat (first | refine blk_drewN ?_ _ | refine blk_drew ?_ | refine blk_alloc ?_ _)); exact BK104.out⟩, ⟨by (with_reducible repeat (first | refine blk_drewN ?_ _ | refine blk_drew ?_ | refine blk_alloc ?_ _)); exact BK106.out⟩, ⟨by repeat (first | (with_reducible first | exact HB.out | apply below_alloc | apply pw_below_drewN | apply below_drew1 | refine below_set ?_ GE101.out | refine below_set ?_ GE102.out | refine below_set ?_ GE104.out | refine below_set ?_ GE106.out) | exact HB.out)⟩⟩
               case round =>
                clear H'
                try clear c1
                try clear p1
                try clear q1
                try clear hx1
                try clear c2
                try clear p2
                try clear c3
                try clear c4
                try clear c5
                try clear c6
                try clear c6b0
                try clear c6b1
                try clear c6b2
                try clear p6
                try clear c7
                try clear c7b0
                try clear c7b1
                try clear c8
                try clear c8b0
                try clear c8b1
                try clear c9
                try clear c10
                try clear p10
                try clear q10
                try clear hx10
                try clear c12
                try clear c15
                try clear c18
                try clear c21
                try clear c22
                try clear c22b0
                try clear c23
                try clear c23b0
                try clear c24
                try clear c24b0
                try clear c26
                try clear c29
                try clear c30
                try clear c34
                try clear c35
                try clear c36
                try clear c38
                try clear c38b0
                try clear c38b1
                try clear c38b2
                try clear c39
                try clear c39b0
                try clear c39b1
                try clear c40
                try clear c40b0
                try clear c40b1
                try clear c40b2
                try clear c41
                try clear c42
                try clear c43
                try clear c45
                try clear c46
                try clear c48
                try clear c49
                try clear c50
                try clear c52
                try clear c53
                try clear c55
                try clear c56
                try clear c57
                try clear c59
                try clear c60
                try clear c62
                try clear c63
                try clear c64
                try clear p64
                try clear c66
                try clear c67
                try clear c69
                try clear c70
                try clear c70b0
                try clear c71
                try clear c71b0
                try clear c72
                try clear c72b0
                try clear c73
                try clear c73b0
                try clear c74
                try clear c75
                try clear c76
                try clear c78
                try clear c79
                try clear c81
                try clear c82
                try clear c83
                try clear c85
                try clear c86
                try clear c88
                try clear c89
                try clear c90
                try clear hcz10_0
                try clear hcz10_1
                try clear hcz10_2
                try clear hcz10_3
                try clear hcz11_0
                try clear hcz11_1
                try clear hcz11_2
                try clear hcz11_3
                try clear hcz13_0
                try clear hcz13_1
                try clear hcz13_2
                try clear hcz13_3
                try clear hcz14_0
                try clear hcz14_1
                try clear hcz14_2
                try clear hcz14_3
                try clear hcz16_0
                try clear hcz16_1
                try clear hcz16_2
                try clear hcz16_3
                try clear hcz17_0
                try clear hcz17_1
                try clear hcz17_2
                try clear hcz17_3
                try clear hcz19_0
                try clear hcz19_1
                try clear hcz19_2
                try clear hcz19_3
                try clear hcz20_0
                try clear hcz20_1
                try clear hcz20_2
                try clear hcz20_3
                try clear hcz27_0
                try clear hcz27_1
                try clear hcz27_2
                try clear hcz27_3
                try clear hcz31_0
                try clear hcz31_1
                try clear hcz31_2
                try clear hcz31_3
                try clear hcz32_0
                try clear hcz32_1
                try clear hcz32_2
                try clear hcz32_3
                try clear hcz37_0
                try clear hcz37_1
                try clear hcz37_2
                try clear hcz37_3
                try clear hcz44_0
                try clear hcz44_1
                try clear hcz44_2
                try clear hcz44_3
                try clear hcz47_0
                try clear hcz47_1
                try clear hcz47_2
                try clear hcz47_3
                try clear hcz51_0
                try clear hcz51_1
                try clear hcz51_2
                try clear hcz51_3
                try clear hcz54_0
                try clear hcz54_1
                try clear hcz54_2
                try clear hcz54_3
                try clear hcz58_0
                try clear hcz58_1
                try clear hcz58_2
                try clear hcz58_3
                try clear hcz61_0
                try clear hcz61_1
                try clear hcz61_2
                try clear hcz61_3
                try clear hcz65_0
                try clear hcz65_1
                try clear hcz65_2
                try clear hcz65_3
                try clear hcz68_0
                try clear hcz68_1
                try clear hcz68_2
                try clear hcz68_3
                try clear hcz77_0
                try clear hcz77_1
                try clear hcz77_2
                try clear hcz77_3
                try clear hcz80_0
                try clear hcz80_1
                try clear hcz80_2
                try clear hcz80_3
                try clear hcz84_0
                try clear hcz84_1
                try clear hcz84_2
                try clear hcz84_3
                try clear hcz87_0
                try clear hcz87_1
                try clear hcz87_2
                try clear hcz87_3
                try clear hcz91_0
                try clear hcz91_1
                try clear hcz91_2
                try clear hcz91_3
                try clear hfz10_0
                try clear hfz10_1
                try clear hfz10_2
                try clear hfz10_3
                try clear hfz11_0
                try clear hfz11_1
                try clear hfz11_2
                try clear hfz11_3
                try clear hfz13_0
                try clear hfz13_1
                try clear hfz13_2
                try clear hfz13_3
                try clear hfz14_0
                try clear hfz14_1
                try clear hfz14_2
                try clear hfz14_3
                try clear hfz16_0
                try clear hfz16_1
                try clear hfz16_2
                try clear hfz16_3
                try clear hfz17_0
                try clear hfz17_1
                try clear hfz17_2
                try clear hfz17_3
                try clear hfz19_0
                try clear hfz19_1
                try clear hfz19_2
                try clear hfz19_3
                try clear hfz20_0
                try clear hfz20_1
                try clear hfz20_2
                try clear hfz20_3
                try clear hfz27_0
                try clear hfz27_1
                try clear hfz27_2
                try clear hfz27_3
                try clear hfz31_0
                try clear hfz31_1
                try clear hfz31_2
                try clear hfz31_3
                try clear hfz32_0
                try clear hfz32_1
                try clear hfz32_2
                try clear hfz32_3
                try clear hfz37_0
                try clear hfz37_1
                try clear hfz37_2
                try clear hfz37_3
                try clear hfz44_0
                try clear hfz44_1
                try clear hfz44_2
                try clear hfz44_3
                try clear hfz47_0
                try clear hfz47_1
                try clear hfz47_2
                try clear hfz47_3
                try clear hfz51_0
                try clear hfz51_1
                try clear hfz51_2
                try clear hfz51_3
                try clear hfz54_0
                try clear hfz54_1
                try clear hfz54_2
                try clear hfz54_3
                try clear hfz58_0
                try clear hfz58_1
                try clear hfz58_2
                try clear hfz58_3
                try clear hfz61_0
                try clear hfz61_1
                try clear hfz61_2
                try clear hfz61_3
                try clear hfz65_0
                try clear hfz65_1
                try clear hfz65_2
                try clear hfz65_3
                try clear hfz68_0
                try clear hfz68_1
                try clear hfz68_2
                try clear hfz68_3
                try clear hfz77_0
                try clear hfz77_1
                try clear hfz77_2
                try clear hfz77_3
                try clear hfz80_0
                try clear hfz80_1
                try clear hfz80_2
                try clear hfz80_3
                try clear hfz84_0
                try clear hfz84_1
                try clear hfz84_2
                try clear hfz84_3
                try clear hfz87_0
                try clear hfz87_1
                try clear hfz87_2
                try clear hfz87_3
                try clear hfz91_0
                try clear hfz91_1
                try clear hfz91_2
                try clear hfz91_3
                try clear hx103_0
                try clear hx103_1
                try clear hx103_2
                try clear hx103_3
                try clear hx105_0
                try clear hx105_1
                try clear hx105_2
                try clear hx105_3
                try clear hx107_0
                try clear hx107_1
                try clear hx107_2
                try clear hx107_3
                try clear hx107_4
                try clear hx108_0
                try clear hx108_1
                try clear hx108_2
                try clear hx108_3
                try clear hx108_4
                try clear p1
                try clear p10
                try clear p103
                try clear p105
                try clear p107
                try clear p108
                try clear p2
                try clear q1
                try clear q10
                try clear q103
                try clear q105
                try clear q107
                try clear q108
                obtain ⟨x9_5, rfl, HA, HK5, BK101, BK102, BK104, BK106, HB⟩ := hrel
                cases gk with
                | zero => exact absurd HA.out (by simp [ref10_Same.l2])
                | succ k5 =>
                 have H := HA.out
                 clear HA
                 simp only [ref10_Same.l2] at H
                 by_cases c92 : x9_5 < (((rd_T47 l0_3 x5_2).f2).length : Int)
                 ·rw [if_pos c92] at H
                  have c92b0 : decide (x9_5 < (((rd_T47 l0_3 x5_2).f2).length : Int)) = true := decide_eq_true c92
                  clear c92
                  by_cases c93 : 0 ≤ x9_5
                  ·rw [if_pos c93] at H
                   have c93b0 : decide (0 ≤ x9_5) = true := decide_eq_true c93
                   clear c93
                   by_cases c94 : x9_5 < (((rd_T47 l1_3 x5_2).f2).length : Int)
                   ·rw [if_pos c94] at H
                    have c94b0 : decide (x9_5 < (((rd_T47 l1_3 x5_2).f2).length : Int)) = true := decide_eq_true c94
                    clear c94
                    by_cases c95 : (!(((rd_T75 ((rd_T47 l0_3 x5_2).f2) x9_5).f0) == ((rd_T75 ((rd_T47 l1_3 x5_2).f2) x9_5).f0)) || ((!(((rd_T75 ((rd_T47 l0_3 x5_2).f2) x9_5).f1.f0) == ((rd_T75 ((rd_T47 l1_3 x5_2).f2) x9_5).f1.f0)) || (!(((rd_T75 ((rd_T47 l0_3 x5_2).f2) x9_5).f1.f1) == ((rd_T75 ((rd_T47 l1_3 x5_2).f2) x9_5).f1.f1)))))) = true
                    ·rw [if_pos c95] at H
                     have c95b0 : (!(((rd_T75 ((rd_T47 l0_3 x5_2).f2) x9_5).f0) == ((rd_T75 ((rd_T47 l1_3 x5_2).f2) x9_5).f0)) || ((!(((rd_T75 ((rd_T47 l0_3 x5_2).f2) x9_5).f1.f0) == ((rd_T75 ((rd_T47 l1_3 x5_2).f2) x9_5).f1.f0)) || (!(((rd_T75 ((rd_T47 l0_3 x5_2).f2) x9_5).f1.f1) == ((rd_T75 ((rd_T47 l1_3 x5_2).f2) x9_5).f1.f1)))))) = true := c95
                     clear c95
                     obtain rfl := Option.some.inj H
                     have hnb96 := NB104_101.out
                     have hnc96 := NB101_104.out
                     have hnb97 := NB104_102.out
                     have hnc97 := NB102_104.out
                     have hnb98 := NB104_106.out
                     have hnc98 := NB106_104.out
                     have hcz99_0 : wr.cell? ⟨gb104, 0, none⟩ = some (.string ((rd_T47 l0_3 x5_2).f0)) := (blk_cell BK104.out 0).trans rfl
                     have hcz99_1 : wr.cell? ⟨gb104, 1, none⟩ = some (.slice A103_1 ((rd_T47 l0_3 x5_2).f1).length c103_1) := (blk_cell BK104.out 1).trans rfl
                     have hcz99_2 : wr.cell? ⟨gb104, 2, none⟩ = some (.slice A103_2 ((rd_T47 l0_3 x5_2).f2).length c103_2) := (blk_cell BK104.out 2).trans rfl
                     have hcz99_3 : wr.cell? ⟨gb104, 3, none⟩ = some (.string ((rd_T47 l0_3 x5_2).f3)) := (blk_cell BK104.out 3).trans rfl
                     have hfz99_0 := blk_frozen BK104.out 0
                     have hfz99_1 := blk_frozen BK104.out 1
                     have hfz99_2 := blk_frozen BK104.out 2
                     have hfz99_3 := blk_frozen BK104.out 3
                     have p109 : 0 ≤ (x9_5 : Int) := of_decide_eq_true (by first | (with_reducible assumption) | assumption)
                     have q109 : x9_5 < (((rd_T47 l0_3 x5_2).f2).length : Int) := of_decide_eq_true (by first | (with_reducible assumption) | assumption)
                     obtain ⟨ad109, e109, hx109_0, hx109_1, hx109_2⟩ := at_T75 HR103_2.out x9_5 p109 q109
                     cases e109
                     replace hx109_0 := (HB.out.cell (World.block_lt_of_cell? w _ hx109_0)).trans hx109_0
                     replace hx109_1 := (HB.out.cell (World.block_lt_of_cell? w _ hx109_1)).trans hx109_1
                     replace hx109_2 := (HB.out.cell (World.block_lt_of_cell? w _ hx109_2)).trans hx109_2
                     replace p109 := eq_true p109
                     replace q109 := eq_true q109
                     have hnb100 := NB106_101.out
                     have hnc100 := NB101_106.out
                     have hnb101 := NB106_102.out
                     have hnc101 := NB102_106.out
                     have hcz102_0 : wr.cell? ⟨gb106, 0, none⟩ = some (.string ((rd_T47 l1_3 x5_2).f0)) := (blk_cell BK106.out 0).trans rfl
                     have hcz102_1 : wr.cell? ⟨gb106, 1, none⟩ = some (.slice A105_1 ((rd_T47 l1_3 x5_2).f1).length c105_1) := (blk_cell BK106.out 1).trans rfl
                     have hcz102_2 : wr.cell? ⟨gb106, 2, none⟩ = some (.slice A105_2 ((rd_T47 l1_3 x5_2).f2).length c105_2) := (blk_cell BK106.out 2).trans rfl
                     have hcz102_3 : wr.cell? ⟨gb106, 3, none⟩ = some (.string ((rd_T47 l1_3 x5_2).f3)) := (blk_cell BK106.out 3).trans rfl
                     have hfz102_0 := blk_frozen BK106.out 0
                     have hfz102_1 := blk_frozen BK106.out 1
                     have hfz102_2 := blk_frozen BK106.out 2
                     have hfz102_3 := blk_frozen BK106.out 3
                     have p110 : 0 ≤ (x9_5 : Int) := of_decide_eq_true (by first | (with_reducible assumption) | assumption)
                     have q110 : x9_5 < (((rd_T47 l1_3 x5_2).f2).length : Int) := of_decide_eq_true (by first | (with_reducible assumption) | assumption)
                     obtain ⟨ad110, e110, hx110_0, hx110_1, hx110_2⟩ := at_T75 HR105_2.out x9_5 p110 q110
                     cases e110
                     replace hx110_0 := (HB.out.cell (World.block_lt_of_cell? w _ hx110_0)).trans hx110_0
                     replace hx110_1 := (HB.out.cell (World.block_lt_of_cell? w _ hx110_1)).trans hx110_1
                     replace hx110_2 := (HB.out.cell (World.block_lt_of_cell? w _ hx110_2)).trans hx110_2
                     replace p110 := eq_true p110
                     replace q110 := eq_true q110
                     go_wp2
                     repeat (go_quiet (fail); try go_wp2)
                     go_ret
                     exact ⟨by first | rfl | (simp [errW_none, errW_some] <;> rfl) | (simp [*, errW_none, errW_some] <;> rfl), by repeat (first | (with_reducible first | exact HB.out | apply below_alloc | apply pw_below_drewN | apply below_drew1 | refine below_set ?_ GE101.out | refine below_set ?_ GE102.out | refine below_set ?_ GE104.out | refine below_set ?_ GE106.out) | exact HB.out)⟩
                    ·rw [if_neg c95] at H
                     have c95b0 : (!(((rd_T75 ((rd_T47 l0_3 x5_2).f2) x9_5).f0) == ((rd_T75 ((rd_T47 l1_3 x5_2).f2) x9_5).f0)) || ((!(((rd_T75 ((rd_T47 l0_3 x5_2).f2) x9_5).f1.f0) == ((rd_T75 ((rd_T47 l1_3 x5_2).f2) x9_5).f1.f0)) || (!(((rd_T75 ((rd_T47 l0_3 x5_2).f2) x9_5).f1.f1) == ((rd_T75 ((rd_T47 l1_3 x5_2).f2) x9_5).f1.f1)))))) = false := by simpa using c95
                     clear c95
                     have H' := Aside0.mk H
                     clear H
                     have hnb103 := NB104_101.out
                     have hnc103 := NB101_104.out
                     have hnb104 := NB104_102.out
                     have hnc104 := NB102_104.out
                     have hnb105 := NB104_106.out
                     have hnc105 := NB106_104.out
                     have hcz106_0 : wr.cell? ⟨gb104, 0, none⟩ = some (.string ((rd_T47 l0_3 x5_2).f0)) := (blk_cell BK104.out 0).trans rfl
                     have hcz106_1 : wr.cell? ⟨gb104, 1, none⟩ = some (.slice A103_1 ((rd_T47 l0_3 x5_2).f1).length c103_1) := (blk_cell BK104.out 1).trans rfl
                     have hcz106_2 : wr.cell? ⟨gb104, 2, none⟩ = some (.slice A103_2 ((rd_T47 l0_3 x5_2).f2).length c103_2) := (blk_cell BK104.out 2).trans rfl
                     have hcz106_3 : wr.cell? ⟨gb104, 3, none⟩ = some (.string ((rd_T47 l0_3 x5_2).f3)) := (blk_cell BK104.out 3).trans rfl
                     have hfz106_0 := blk_frozen BK104.out 0
                     have hfz106_1 := blk_frozen BK104.out 1
                     have hfz106_2 := blk_frozen BK104.out 2
                     have hfz106_3 := blk_frozen BK104.out 3
                     have p109 : 0 ≤ (x9_5 : Int) := of_decide_eq_true (by first | (with_reducible assumption) | assumption)
                     have q109 : x9_5 < (((rd_T47 l0_3 x5_2).f2).length : Int) := of_decide_eq_true (by first | (with_reducible assumption) | assumption)
                     obtain ⟨ad109, e109, hx109_0, hx109_1, hx109_2⟩ := at_T75 HR103_2.out x9_5 p109 q109
                     cases e109
                     replace hx109_0 := (HB.out.cell (World.block_lt_of_cell? w _ hx109_0)).trans hx109_0
                     replace hx109_1 := (HB.out.cell (World.block_lt_of_cell? w _ hx109_1)).trans hx109_1
                     replace hx109_2 := (HB.out.cell (World.block_lt_of_cell? w _ hx109_2)).trans hx109_2
                     replace p109 := eq_true p109
                     replace q109 := eq_true q109
                     have hnb107 := NB106_101.out
                     have hnc107 := NB101_106.out
                     have hnb108 := NB106_102.out
                     have hnc108 := NB102_106.out
                     have hcz109_0 : wr.cell? ⟨gb106, 0, none⟩ = some (.string ((rd_T47 l1_3 x5_2).f0)) := (blk_cell BK106.out 0).trans rfl
                     have hcz109_1 : wr.cell? ⟨gb106, 1, none⟩ = some (.slice A105_1 ((rd_T47 l1_3 x5_2).f1).length c105_1) := (blk_cell BK106.out 1).trans rfl
                     have hcz109_2 : wr.cell? ⟨gb106, 2, none⟩ = some (.slice A105_2 ((rd_T47 l1_3 x5_2).f2).length c105_2) := (blk_cell BK106.out 2).trans rfl
                     have hcz109_3 : wr.cell? ⟨gb106, 3, none⟩ = some (.string ((rd_T47 l1_3 x5_2).f3)) := (blk_cell BK106.out 3).trans rfl
                     have hfz109_0 := blk_frozen BK106.out 0
                     have hfz109_1 := blk_frozen BK106.out 1
                     have hfz109_2 := blk_frozen BK106.out 2
                     have hfz109_3 := blk_frozen BK106.out 3
                     have p110 : 0 ≤ (x9_5 : Int) := of_decide_eq_true (by first | (with_reducible assumption) | assumption)
                     have q110 : x9_5 < (((rd_T47 l1_3 x5_2).f2).length : Int) := of_decide_eq_true (by first | (with_reducible assumption) | assumption)
                     obtain ⟨ad110, e110, hx110_0, hx110_1, hx110_2⟩ := at_T75 HR105_2.out x9_5 p110 q110
                     cases e110
                     replace hx110_0 := (HB.out.cell (World.block_lt_of_cell? w _ hx110_0)).trans hx110_0
                     replace hx110_1 := (HB.out.cell (World.block_lt_of_cell? w _ hx110_1)).trans hx110_1
                     replace hx110_2 := (HB.out.cell (World.block_lt_of_cell? w _ hx110_2)).trans hx110_2
                     replace p110 := eq_true p110
                     replace q110 := eq_true q110
                     go_wp2
                     repeat (go_quiet (fail); try go_wp2)
                     go_roundg k5
                     case measure => have := HJ2.out; have := HK2.out; have := HJ24.out; have := HK4.out; have := HK5.out; omega
                     case rel => exact ⟨(wrap64 (x9_5 + 1)), (by first | rfl | (simp; done) | (simp [*]; done)), H', ⟨by have := HJ2.out; have := HK2.out; have := HJ24.out; have := HK4.out; have := HK5.out; omega⟩, ⟨by (with_reducible repeat (first | refine blk_drewN ?_ _ | refine blk_drew ?_ | refine blk_alloc ?_ _)); exact BK101.out⟩, ⟨by (with_reducible repeat (first | refine blk_drewN ?_ _ | refine blk_drew ?_ | refine blk_alloc ?_ _)); exact BK102.out⟩, ⟨by (with_reducible repeat (first | refine blk_drewN ?_ _ | refine blk_drew ?_ | refine blk_alloc ?_ _)); exact BK104.out⟩, ⟨by (with_reducible repeat (first | refine blk_drewN ?_ _ | refine blk_drew ?_ | refine blk_alloc ?_ _)); exact BK106.out⟩, ⟨by repeat (first | (with_reducible first | exact HB.out | apply below_alloc | apply pw_below_drewN | apply below_drew1 | refine below_set ?_ GE101.out | refine below_set ?_ GE102.out | refine below_set ?_ GE104.out | refine below_set ?_ GE106.out) | exact HB.out)⟩⟩
                   ·rw [if_neg c94] at H
                    exact absurd H (by simp)
                  ·rw [if_neg c93] at H
                   exact absurd H (by simp)
                 ·rw [if_neg c92] at H
                  have c92b0 : decide (x9_5 < (((rd_T47 l0_3 x5_2).f2).length : Int)) = false := decide_eq_false c92
                  clear c92
                  have H' := Aside0.mk H
                  clear H
                  have hnb110 := NB104_101.out
                  have hnc110 := NB101_104.out
                  have hnb111 := NB104_102.out
                  have hnc111 := NB102_104.out
                  have hnb112 := NB104_106.out
                  have hnc112 := NB106_104.out
                  have hcz113_0 : wr.cell? ⟨gb104, 0, none⟩ = some (.string ((rd_T47 l0_3 x5_2).f0)) := (blk_cell BK104.out 0).trans rfl
                  have hcz113_1 : wr.cell? ⟨gb104, 1, none⟩ = some (.slice A103_1 ((rd_T47 l0_3 x5_2).f1).length c103_1) := (blk_cell BK104.out 1).trans rfl
                  have hcz113_2 : wr.cell? ⟨gb104, 2, none⟩ = some (.slice A103_2 ((rd_T47 l0_3 x5_2).f2).length c103_2) := (blk_cell BK104.out 2).trans rfl
                  have hcz113_3 : wr.cell? ⟨gb104, 3, none⟩ = some (.string ((rd_T47 l0_3 x5_2).f3)) := (blk_cell BK104.out 3).trans rfl
                  have hfz113_0 := blk_frozen BK104.out 0
                  have hfz113_1 := blk_frozen BK104.out 1
                  have hfz113_2 := blk_frozen BK104.out 2
                  have hfz113_3 := blk_frozen BK104.out 3
                  go_wp2
                  repeat (go_quiet (fail); try go_wp2)
                  go_roundg k5
                  case measure => have := HJ2.out; have := HK2.out; have := HJ24.out; have := HK4.out; have := HK5.out; omega
                  case rel => exact ⟨(wrap64 (x5_2 + 1)), (by first | rfl | (simp; done) | (simp [*]; done)), H', ⟨by have := HJ2.out; have := HK2.out; have := HJ24.out; have := HK4.out; have := HK5.out; omega⟩, ⟨by (with_reducible repeat (first | refine blk_drewN ?_ _ | refine blk_drew ?_ | refine blk_alloc ?_ _)); exact BK101.out⟩, ⟨by (with_reducible repeat (first | refine blk_drewN ?_ _ | refine blk_drew ?_ | refine blk_alloc ?_ _)); exact BK102.out⟩, ⟨by repeat (first | (with_reducible first | exact HB.out | apply below_alloc | apply pw_below_drewN | apply below_drew1 | refine below_set ?_ GE101.out | refine below_set ?_ GE102.out | refine below_set ?_ GE104.out | refine below_set ?_ GE106.out) | exact HB.out)⟩⟩
        ·rw [if_neg c24] at H
         exact absurd H (by simp)
       ·rw [if_neg c23] at H
        exact absurd H (by simp)
      ·rw [if_neg c22] at H
       have c22b0 : decide (x5_2 < (l0_3.length : Int)) = false := decide_eq_false c22
       clear c22
       obtain rfl := Option.some.inj H
       have hnb114 := NB101_102.out
       have hnc114 := NB102_101.out
       have hcz115_0 : wr.cell? ⟨gb101, 0, none⟩ = some (.int .i64 a0_0) := (blk_cell BK101.out 0).trans rfl
       have hcz115_1 : wr.cell? ⟨gb101, 1, none⟩ = some (.int .i64 a0_1) := (blk_cell BK101.out 1).trans rfl
       have hcz115_2 : wr.cell? ⟨gb101, 2, none⟩ = some (.int .i64 a0_2) := (blk_cell BK101.out 2).trans rfl
       have hcz115_3 : wr.cell? ⟨gb101, 3, none⟩ = some (.slice A0_3 l0_3.length c0_3) := (blk_cell BK101.out 3).trans rfl
       have hfz115_0 := blk_frozen BK101.out 0
       have hfz115_1 := blk_frozen BK101.out 1
       have hfz115_2 := blk_frozen BK101.out 2
       have hfz115_3 := blk_frozen BK101.out 3
       go_wp2
       repeat (go_quiet (fail); try go_wp2)
       go_ret
       exact ⟨by first | rfl | (simp [errW_none, errW_some] <;> rfl) | (simp [*, errW_none, errW_some] <;> rfl), by repeat (first | (with_reducible first | exact HB.out | apply below_alloc | apply pw_below_drewN | apply below_drew1 | refine below_set ?_ GE101.out | refine below_set ?_ GE102.out) | exact HB.out)⟩

end Go.Proofs.YtdbjjbooalkkbaaGreatDoor.P

/- The parser's method coil. -/
import Derived.Test.YtdbjjbooalkkbaaGreatDoorXParC
set_option linter.unusedVariables false
set_option linter.unusedSimpArgs false
namespace Go.Proofs.YtdbjjbooalkkbaaGreatDoor.P
open Go.RowKit Go.Shelf Go.Proofs.YtdbjjbooalkkbaaGreatDoorW.PrintWords Go.Proofs.YtdbjjbooalkkbaaGreatDoorW.PrintLast Go.Proofs.YtdbjjbooalkkbaaGreatDoorW.PrintMore

/-- The one operation that may come up, one of the last ones (ds): S needs not hold behind it. -/
theorem oneD_ {P : Program} {ops : Array Oper} {Q : Exit → Act → World → Prop} {md : Region.Mode} {S : World → Prop} {ds : List Nat} {i : Nat} {N : Option Tmp} {oi : Oper} {fuel : Nat} {l : Array Bool} {a : Act} {w : World} (l' : Array Bool) (hi : ops[i]? = some oi) (hN : oi.dst = N) (hc : readyB md ops l l' i = true) (hd : i ∈ ds)
    (h : ∀ K : Act → World → Prop, Shut (∀ a' w', wpAnyLast P md ops Q S ds fuel l' a' w' → K a' w') → if Region.wanted oi (yielded ops a.tmps) = true then Oper.wp P oi a w K Q else K (a.put N undef) w) :
    wpAnyLast P md ops Q S ds (fuel + 1) l a w := by
  subst hN
  simp only [readyB, Bool.and_eq_true, beq_iff_eq] at hc
  obtain ⟨h1, h2⟩ := hc
  subst h2
  refine wpAnyLast_all h1 (by simp) (fun j hj => ?_)
  obtain rfl := List.mem_singleton.1 hj
  exact wpOp_step hi (fun K' hK => h K' (fun a w hW => hK a w ⟨fun hn => absurd hd hn, hW⟩))
theorem keepS5 {W W' : World} {p0 p1 p2 p3 p4 : Addr} {v0 v1 v2 v3 v4 : Value} (h : W.cell? p0 = some v0 ∧ W.cell? p1 = some v1 ∧ W.cell? p2 = some v2 ∧ W.cell? p3 = some v3 ∧ W.cell? p4 = some v4) (hb : Below W.heap.size W W') :
    W'.cell? p0 = some v0 ∧ W'.cell? p1 = some v1 ∧ W'.cell? p2 = some v2 ∧ W'.cell? p3 = some v3 ∧ W'.cell? p4 = some v4 :=
  ⟨pw_cell_below hb h.1, pw_cell_below hb h.2.1, pw_cell_below hb h.2.2.1, pw_cell_below hb h.2.2.2.1, pw_cell_below hb h.2.2.2.2⟩

set_option maxRecDepth 100000 in
set_option maxHeartbeats 8000000 in
theorem coil_walk {B b : Nat} (s : PSt) (l : LN) (A : Option Addr) (c : Nat) (vR vL vJ : Value) (w : World) (St : Stage B b 57 (pc s vR vL vJ) w vR s.rungs vL s.lines vJ s.jumps [] w) (hok : POk s) (hp : 0 < s.rungs.length)
    (hC : Kd.string.C w A l.f1.length l.f1) (hn : l.f1.length = 2) (hz : ∀ x ∈ l.f1, x.size ≤ 65536) (hL : Aside0 (LaidW 38 w)) :
    Calls Tryz.prog 52 #[.pointer (some ⟨b, 0, none⟩), .agg #[.int .i64 l.f0, .slice A l.f1.length c]] w (MPost B b w (coilP s l (Lib.idxOfS kwQ0 (wd l 0)))) := by
  obtain ⟨m, hm⟩ : ∃ m, s.rungs.length = m + 1 := ⟨s.rungs.length - 1, by omega⟩
  have hm1 : s.rungs.length - 1 = m := by omega
  obtain ⟨g, v1, v2, L0⟩ := St.last hp
  obtain ⟨A2, c2, e2⟩ := L0.l2
  obtain ⟨cap, eR⟩ := L0.val
  obtain ⟨wb, wo, rfl, hw⟩ := words_at hC (by omega)
  subst e2
  have hw : ∀ i, i < l.f1.length → w.cell? ⟨wb, wo + i, none⟩ = some (.string (wd l i)) := hw
  have k2 := L0.c2
  have k3 := L0.c3
  have kb3 : w.cell? ⟨b, 3, none⟩ = some (.slice (some ⟨g, 0, none⟩) (m + 1) cap) := by rw [St.bx.cell 3 vR rfl, eR, hm]
  rw [hm1] at k2 k3
  have HR := Lib.hid (fun W (hb : Below w.heap.size w W) => rung_walk g m cap b W (pw_cell_below hb kb3) (by have := hok.rungs; omega))
  have hz1 : (wd l 1).size ≤ 65536 := hz _ (by unfold wd; rw [List.getD_eq_getElem?_getD, List.getElem?_eq_getElem (by omega)]; exact List.getElem_mem _)
  have HA := Lib.hid (fun W (hb : Below w.heap.size w W) => address_walk s (wd l 1) hz1 b W (pw_cell_below hb (St.bx.cell 0 _ rfl)) (pw_cell_below hb (St.bx.cell 1 _ rfl)) (pw_cell_below hb (St.bx.cell 2 _ rfl)) hok.size (LaidW.below hL rfl hb))
  have HI := Lib.hid (fun W (hb : Below w.heap.size w W) => indexQ (wd l 0) W ((hL.out.key rfl).on hb))
  have HF := Lib.hid (fun W (hb : Below w.heap.size w W) => And.intro (pw_cell_below hb k3) (And.intro (pw_cell_below hb k2) (And.intro (pw_cell_below hb (show w.cell? ⟨wb, wo, none⟩ = some (.string (wd l 0)) from hw 0 (by omega))) (pw_cell_below hb (hw 1 (by omega))))))
  have HST := Lib.hid St
  have HL0 := Lib.hid L0
  have HB := Lib.hid St.base
  have hcl : (lastR s.rungs).f2.length ≤ 16 := hok.coil _ (lastR_mem hp)
  unfold coilP
  generalize hr : lastR s.rungs = r at *
  have B0 := Lib.hid (Below.refl w.heap.size w)
  rw [hn]
  clear hz hz1 hL hC kb3 hw k2 k3 L0 St hok
  by_cases t1 : 0 < r.f3.size
  · rw [if_pos t1]
    have q1 := size_pos (Nat.ne_of_gt t1)
    have q2 := list_pos (Nat.ne_of_gt t1)
    clear t1
    go_enter Tryz.func52, Tryz.ntmps52
    go_wp2_with (go_at_call 77; (with_reducible refine (HR.out _ (below_alloc B0.out _)).mono ?_); rintro e w1 ⟨rfl, hb⟩; have B1 := Lib.hid (below_step (below_alloc B0.out _) hb); obtain ⟨f3, f2, x0, x1⟩ := HF.out _ B1.out; clear hb)
    go_ret
    exact MPost.bad (by decide) HB.out B1.out
  · rw [if_neg t1]
    have q0 : r.f3.size = 0 := by omega
    have q1 := eq_true (size_nil q0)
    have q2 := list_nil q0
    by_cases t2 : r.f2.length = 16
    · rw [if_pos t2]
      clear t1
      go_enter Tryz.func52, Tryz.ntmps52
      go_wp2_with (go_at_call 77; (with_reducible refine (HR.out _ (below_alloc B0.out _)).mono ?_); rintro e w1 ⟨rfl, hb⟩; have B1 := Lib.hid (below_step (below_alloc B0.out _) hb); obtain ⟨f3, f2, x0, x1⟩ := HF.out _ B1.out; clear hb)
      go_ret
      exact MPost.bad (by decide) HB.out B1.out
    · rw [if_neg t2]
      have t2' : (((r.f2.length : Nat) : Int) == 16) = false := by rw [beq_eq_false_iff_ne]; omega
      clear t1
      unfold coilAdd
      rw [hr]
      obtain ⟨⟨sp, n, er⟩, ep⟩ : ∃ p, p = addressP s (wd l 1) := ⟨_, rfl⟩
      rw [← ep] at HA ⊢
      clear ep
      simp only at HA ⊢
      by_cases t3 : er = 0
      case neg =>
        rw [if_pos t3]
        have t3' : (er == 0) = false := by rw [beq_eq_false_iff_ne]; exact t3
        go_enter Tryz.func52, Tryz.ntmps52
        go_wp2_with (first
          | (go_at_call 77; (with_reducible refine (HR.out _ (below_alloc B0.out _)).mono ?_); rintro e w1 ⟨rfl, hb⟩; have B1 := Lib.hid (below_step (below_alloc B0.out _) hb); obtain ⟨f3, f2, x0, x1⟩ := HF.out _ B1.out; have LB := (Bx.new w 61 #[.int .i64 l.f0, .slice (some ⟨wb, wo, none⟩) 2 c]).on hb; have lb1 := LB.cell 1 (.slice (some ⟨wb, wo, none⟩) 2 c) rfl; clear hb)
          | (go_at_call 78; (with_reducible refine (HA.out _ B1.out).mono ?_); rintro e w2 ⟨rfl, hb⟩; have B2 := Lib.hid (below_step B1.out hb); replace LB := LB.on hb))

        go_ret
        exact MPost.bad t3 HB.out (below_alloc B2.out _)
      case pos =>
      subst t3
      rw [if_neg (by decide)]
      by_cases t4 : sp = 0
      case pos =>
        subst t4
        rw [if_pos rfl]
        go_enter Tryz.func52, Tryz.ntmps52
        go_wp2_with (first
          | (go_at_call 77; (with_reducible refine (HR.out _ (below_alloc B0.out _)).mono ?_); rintro e w1 ⟨rfl, hb⟩; have B1 := Lib.hid (below_step (below_alloc B0.out _) hb); obtain ⟨f3, f2, x0, x1⟩ := HF.out _ B1.out; have LB := (Bx.new w 61 #[.int .i64 l.f0, .slice (some ⟨wb, wo, none⟩) 2 c]).on hb; have lb1 := LB.cell 1 (.slice (some ⟨wb, wo, none⟩) 2 c) rfl; clear hb)
          | (go_at_call 78; (with_reducible refine (HA.out _ B1.out).mono ?_); rintro e w2 ⟨rfl, hb⟩; have B2 := Lib.hid (below_step B1.out hb); replace LB := LB.on hb))

        go_ret
        exact MPost.bad (by decide) HB.out (below_alloc B2.out _)
      case neg =>
        rw [if_neg t4]
        have t4' : (sp == 0) = false := by rw [beq_eq_false_iff_ne]; exact t4
        go_enter Tryz.func52, Tryz.ntmps52
        go_wp2_with (first
          | (go_at_call 77; (with_reducible refine (HR.out _ (below_alloc B0.out _)).mono ?_); rintro e w1 ⟨rfl, hb⟩; have B1 := Lib.hid (below_step (below_alloc B0.out _) hb); obtain ⟨f3, f2, x0, x1⟩ := HF.out _ B1.out; have LB := (Bx.new w 61 #[.int .i64 l.f0, .slice (some ⟨wb, wo, none⟩) 2 c]).on hb; have lb1 := LB.cell 1 (.slice (some ⟨wb, wo, none⟩) 2 c) rfl; clear hb)
          | (go_at_call 78; (with_reducible refine (HA.out _ B1.out).mono ?_); rintro e w2 ⟨rfl, hb⟩; have B2 := Lib.hid (below_step B1.out hb); replace LB := LB.on hb))

        have BE := Lib.hid (below_drew (below_alloc B2.out (Obj.cells #[.int .i64 sp, .int .i64 n] 49)))
        have YB := (Bx.new w2 49 #[.int .i64 sp, .int .i64 n]).drew
        have LB2 := (LB.alloc (Obj.cells #[.int .i64 sp, .int .i64 n] 49)).drew
        have SS : (fun w' => w'.cell? ⟨g, m * 4 + 2, none⟩ = some (.slice A2 r.f2.length c2) ∧ w'.cell? ⟨w.heap.size, 1, none⟩ = some (.slice (some ⟨wb, wo, none⟩) 2 c) ∧ w'.cell? ⟨wb, wo, none⟩ = some (.string (wd l 0)) ∧ w'.cell? ⟨w2.heap.size, 0, none⟩ = some (.int .i64 sp) ∧ w'.cell? ⟨w2.heap.size, 1, none⟩ = some (.int .i64 n)) (w2.alloc (Obj.cells #[.int .i64 sp, .int .i64 n] 49)).drew := ⟨(HF.out _ BE.out).2.1, LB2.cell 1 _ rfl, (HF.out _ BE.out).2.2.1, YB.cell 0 _ rfl, YB.cell 1 _ rfl⟩
        refine start_ (n := 18) (S := fun w' => w'.cell? ⟨g, m * 4 + 2, none⟩ = some (.slice A2 r.f2.length c2) ∧ w'.cell? ⟨w.heap.size, 1, none⟩ = some (.slice (some ⟨wb, wo, none⟩) 2 c) ∧ w'.cell? ⟨wb, wo, none⟩ = some (.string (wd l 0)) ∧ w'.cell? ⟨w2.heap.size, 0, none⟩ = some (.int .i64 sp) ∧ w'.cell? ⟨w2.heap.size, 1, none⟩ = some (.int .i64 n)) (ds := [14, 17]) #[false, false, false, false, false, false, false, false, false, false, false, false, false, false, false, false, false, false] (by kernel_rfl) rfl rfl SS (fun hHeld => ?_)
        clear SS YB LB2 LB lb1 f3 f2 x0 x1
        generalize (w2.alloc (Obj.cells #[.int .i64 sp, .int .i64 n] 49)).drew = Ws at hHeld BE ⊢
        refine pure_ (i := 0) (N := some 40) (v := ?_) (a' := ?_) #[true, false, false, false, false, false, false, false, false, false, false, false, false, false, false, false, false, false] rfl rfl (by kernel_rfl) (fun _ _ _ h => h) (Or.inl ⟨by rfl, ?_⟩) ?_ ?_
        rotate_left
        · intro w'; go_simp; try with_reducible rfl
        rotate_left
        · simp only [Act.put, List.setIfInBounds_toArray, List.set_cons_zero, List.set_cons_succ]; rfl
        refine pure_ (i := 1) (N := some 41) (v := ?_) (a' := ?_) #[true, true, false, false, false, false, false, false, false, false, false, false, false, false, false, false, false, false] rfl rfl (by kernel_rfl) (fun _ _ _ h => h) (Or.inl ⟨by rfl, ?_⟩) ?_ ?_
        rotate_left
        · intro w'; go_simp; try with_reducible rfl
        rotate_left
        · simp only [Act.put, List.setIfInBounds_toArray, List.set_cons_zero, List.set_cons_succ]; rfl
        refine pure_ (i := 2) (N := some 42) (v := ?_) (a' := ?_) #[true, true, true, false, false, false, false, false, false, false, false, false, false, false, false, false, false, false] rfl rfl (by kernel_rfl) (fun _ _ _ h => h) (Or.inl ⟨by rfl, ?_⟩) ?_ ?_
        rotate_left
        · intro w'; go_simp; try with_reducible rfl
        rotate_left
        · simp only [Act.put, List.setIfInBounds_toArray, List.set_cons_zero, List.set_cons_succ]; rfl
        refine pure_ (i := 3) (N := some 43) (v := ?_) (a' := ?_) #[true, true, true, true, false, false, false, false, false, false, false, false, false, false, false, false, false, false] rfl rfl (by kernel_rfl) (fun _ _ _ h => h) (Or.inl ⟨by rfl, ?_⟩) ?_ ?_
        rotate_left
        · intro w'; go_simp; try with_reducible rfl
        rotate_left
        · simp only [Act.put, List.setIfInBounds_toArray, List.set_cons_zero, List.set_cons_succ]; rfl
        refine take_ (i := 4) (N := some 44) (v := ?_) (a' := ?_) #[true, true, true, true, true, false, false, false, false, false, false, false, false, false, false, false, false, false] rfl rfl (by kernel_rfl) (fun _ _ _ h => h) (Or.inl ⟨by rfl, ?_⟩) hHeld ?_ ?_
        rotate_left
        · rintro w' ⟨s0, s1, s2, s3, s4⟩; go_simp; try with_reducible rfl
        rotate_left
        · simp only [Act.put, List.setIfInBounds_toArray, List.set_cons_zero, List.set_cons_succ]; rfl
        refine pure_ (i := 5) (N := some 45) (v := ?_) (a' := ?_) #[true, true, true, true, true, true, false, false, false, false, false, false, false, false, false, false, false, false] rfl rfl (by kernel_rfl) (fun _ _ _ h => h) (Or.inl ⟨by rfl, ?_⟩) ?_ ?_
        rotate_left
        · intro w'; go_simp; try with_reducible rfl
        rotate_left
        · simp only [Act.put, List.setIfInBounds_toArray, List.set_cons_zero, List.set_cons_succ]; rfl
        refine pure_ (i := 6) (N := some 46) (v := ?_) (a' := ?_) #[true, true, true, true, true, true, true, false, false, false, false, false, false, false, false, false, false, false] rfl rfl (by kernel_rfl) (fun _ _ _ h => h) (Or.inl ⟨by rfl, ?_⟩) ?_ ?_
        rotate_left
        · intro w'; go_simp; try with_reducible rfl
        rotate_left
        · simp only [Act.put, List.setIfInBounds_toArray, List.set_cons_zero, List.set_cons_succ]; rfl
        refine take_ (i := 7) (N := some 47) (v := ?_) (a' := ?_) #[true, true, true, true, true, true, true, true, false, false, false, false, false, false, false, false, false, false] rfl rfl (by kernel_rfl) (fun _ _ _ h => h) (Or.inl ⟨by rfl, ?_⟩) hHeld ?_ ?_
        rotate_left
        · rintro w' ⟨s0, s1, s2, s3, s4⟩; go_simp; try with_reducible rfl
        rotate_left
        · simp only [Act.put, List.setIfInBounds_toArray, List.set_cons_zero, List.set_cons_succ]; rfl
        refine pure_ (i := 8) (N := some 48) (v := ?_) (a' := ?_) #[true, true, true, true, true, true, true, true, true, false, false, false, false, false, false, false, false, false] rfl rfl (by kernel_rfl) (fun _ _ _ h => h) (Or.inl ⟨by rfl, ?_⟩) ?_ ?_
        rotate_left
        · intro w'; go_simp; try with_reducible rfl
        rotate_left
        · simp only [Act.put, List.setIfInBounds_toArray, List.set_cons_zero, List.set_cons_succ]; rfl
        refine take_ (i := 9) (N := some 49) (v := ?_) (a' := ?_) #[true, true, true, true, true, true, true, true, true, true, false, false, false, false, false, false, false, false] rfl rfl (by kernel_rfl) (fun _ _ _ h => h) (Or.inl ⟨by rfl, ?_⟩) hHeld ?_ ?_
        rotate_left
        · rintro w' ⟨s0, s1, s2, s3, s4⟩; go_simp; try with_reducible rfl
        rotate_left
        · simp only [Act.put, List.setIfInBounds_toArray, List.set_cons_zero, List.set_cons_succ]; rfl
        refine take_ (i := 11) (N := some 51) (v := ?_) (a' := ?_) #[true, true, true, true, true, true, true, true, true, true, false, true, false, false, false, false, false, false] rfl rfl (by kernel_rfl) (fun _ _ _ h => h) (Or.inl ⟨by rfl, ?_⟩) hHeld ?_ ?_
        rotate_left
        · rintro w' ⟨s0, s1, s2, s3, s4⟩; go_simp; try with_reducible rfl
        rotate_left
        · simp only [Act.put, List.setIfInBounds_toArray, List.set_cons_zero, List.set_cons_succ]; rfl
        refine one_ (i := 10) (N := some 50) #[true, true, true, true, true, true, true, true, true, true, true, true, false, false, false, false, false, false] rfl rfl (by kernel_rfl) (by decide) (fun K hK => ?_)
        refine goes_ Tryz.func79 (by kernel_rfl) rfl #[.slice (some ⟨1, 0, none⟩) 4 4, .string (wd l 0)] (by rfl) rfl rfl (by (try simp only [List.map_toArray, List.map_cons, List.map_nil]); first | done | rfl) ?_
        with_reducible refine (HI.out _ BE.out).mono ?_
        rintro e w3 ⟨rfl, he⟩
        obtain rfl := he.symm
        refine ⟨_, rfl, ?_⟩
        refine hK.out _ _ hHeld (fun _ => ?_)
        clear hK K
        refine norm_ (a' := ?_) ?_ ?_
        rotate_left
        · show Act.put _ (some 50) _ = _; simp only [Act.put, List.setIfInBounds_toArray, List.set_cons_zero, List.set_cons_succ]; rfl
        refine pure_ (i := 12) (N := some 52) (v := ?_) (a' := ?_) #[true, true, true, true, true, true, true, true, true, true, true, true, true, false, false, false, false, false] rfl rfl (by kernel_rfl) (fun _ _ _ h => h) (Or.inl ⟨by rfl, ?_⟩) ?_ ?_
        rotate_left
        · intro w'; go_simp; try with_reducible rfl
        rotate_left
        · simp only [Act.put, List.setIfInBounds_toArray, List.set_cons_zero, List.set_cons_succ]; rfl
        refine one_ (i := 13) (N := some 53) #[true, true, true, true, true, true, true, true, true, true, true, true, true, true, false, false, false, false] rfl rfl (by kernel_rfl) (by decide) (fun K hK => ?_)
        go_simp
        refine hK.out _ _ (keepS5 hHeld (below_alloc (Below.refl _ _) _)) (fun _ => ?_)
        clear hK K
        refine norm_ (a' := ?_) ?_ ?_
        rotate_left
        · rfl
        refine oneD_ (i := 14) (N := some 54) #[true, true, true, true, true, true, true, true, true, true, true, true, true, true, true, false, false, false] rfl rfl (by kernel_rfl) (by decide) (fun K hK => ?_)
        have BL := Lib.hid (below_alloc BE.out (Obj.cells #[.int .i64 (Lib.idxOfS kwQ0 (wd l 0)), .int .i64 sp, .int .i64 n] 75))
        obtain ⟨u, w3, hrun, hcell, hfz, ⟨Au, cu, rfl⟩, hSt⟩ := (HST.out.on BL.out).coil hp (HL0.out.on BL.out) (g1 := Ws.heap.size) (p := ⟨Lib.idxOfS kwQ0 (wd l 0), ⟨sp, n⟩⟩) (Bx.new Ws _ _) (by rw [hr]; omega) 45
        rw [hm1] at hcell hfz hSt
        refine step_app (by rfl) rfl rfl rfl hrun ?_
        refine hK.out _ _ ?_
        clear hK K
        refine norm_ (a' := ?_) ?_ ?_
        rotate_left
        · show Act.put _ (some 54) _ = _; simp only [Act.put, List.setIfInBounds_toArray, List.set_cons_zero, List.set_cons_succ]; rfl
        refine pure_ (i := 15) (N := some 55) (v := ?_) (a' := ?_) #[true, true, true, true, true, true, true, true, true, true, true, true, true, true, true, true, false, false] rfl rfl (by kernel_rfl) (fun _ _ _ h => h) (Or.inl ⟨by rfl, ?_⟩) ?_ ?_
        rotate_left
        · intro w'; go_simp; try with_reducible rfl
        rotate_left
        · simp only [Act.put, List.setIfInBounds_toArray, List.set_cons_zero, List.set_cons_succ]; rfl
        refine pure_ (i := 16) (N := some 56) (v := ?_) (a' := ?_) #[true, true, true, true, true, true, true, true, true, true, true, true, true, true, true, true, true, false] rfl rfl (by kernel_rfl) (fun _ _ _ h => h) (Or.inl ⟨by rfl, ?_⟩) ?_ ?_
        rotate_left
        · intro w'; go_simp; try with_reducible rfl
        rotate_left
        · simp only [Act.put, List.setIfInBounds_toArray, List.set_cons_zero, List.set_cons_succ]; rfl
        refine oneD_ (i := 17) (N := none) #[true, true, true, true, true, true, true, true, true, true, true, true, true, true, true, true, true, true] rfl rfl (by kernel_rfl) (by decide) (fun K hK => ?_)
        go_simp
        refine hK.out _ _ ?_
        clear hK K
        refine norm_ (a' := ?_) ?_ ?_
        rotate_left
        · rfl
        refine done_ (by kernel_rfl) ?_
        go_wp2
        go_ret
        rw [hr, List.length_append, List.length_singleton] at hSt
        exact ⟨rfl, hSt.did, fun _ => ⟨_, _, _, hSt⟩⟩
end Go.Proofs.YtdbjjbooalkkbaaGreatDoor.P

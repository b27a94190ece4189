/- The parser's method contact. -/
import Derived.Test.YtdbjjbooalkkbaaGreatDoorXParQ
set_option linter.unusedVariables false
set_option linter.unusedSimpArgs false
namespace Go.Proofs.YtdbjjbooalkkbaaGreatDoor.P
open Go.RowKit Go.Shelf Go.Proofs.YtdbjjbooalkkbaaGreatDoorW.PrintWords Go.Proofs.YtdbjjbooalkkbaaGreatDoorW.PrintLast Go.Proofs.YtdbjjbooalkkbaaGreatDoorW.PrintMore

theorem keepS7 {W W' : World} {p0 p1 p2 p3 p4 p5 p6 : Addr} {v0 v1 v2 v3 v4 v5 v6 : Value} (h : W.cell? p0 = some v0 ∧ W.cell? p1 = some v1 ∧ W.cell? p2 = some v2 ∧ W.cell? p3 = some v3 ∧ W.cell? p4 = some v4 ∧ W.cell? p5 = some v5 ∧ W.cell? p6 = some v6) (hb : Below W.heap.size W W') :
    W'.cell? p0 = some v0 ∧ W'.cell? p1 = some v1 ∧ W'.cell? p2 = some v2 ∧ W'.cell? p3 = some v3 ∧ W'.cell? p4 = some v4 ∧ W'.cell? p5 = some v5 ∧ W'.cell? p6 = some v6 :=
  ⟨pw_cell_below hb h.1, pw_cell_below hb h.2.1, pw_cell_below hb h.2.2.1, pw_cell_below hb h.2.2.2.1, pw_cell_below hb h.2.2.2.2.1, pw_cell_below hb h.2.2.2.2.2.1, pw_cell_below hb h.2.2.2.2.2.2⟩

set_option maxRecDepth 100000 in
set_option maxHeartbeats 8000000 in
theorem contact_walk {B b : Nat} (s : PSt) (l : LN) (A : Option Addr) (c : Nat) (vR vL vJ : Value) (w : World) (St : Stage B b 57 (pc s vR vL vJ) w vR s.rungs vL s.lines vJ s.jumps [] w) (hok : POk s) (hp : 0 < s.rungs.length)
    (hC : Kd.string.C w A l.f1.length l.f1) (hn : l.f1.length = 4) (hz : ∀ x ∈ l.f1, x.size ≤ 65536) (hL : Aside0 (LaidW 38 w)) :
    Calls Tryz.prog 51 #[.pointer (some ⟨b, 0, none⟩), .agg #[.int .i64 l.f0, .slice A l.f1.length c]] w (MPost B b w (contactP s l (Lib.idxOfS kwC0 (wd l 0)))) := by
  obtain ⟨m, hm⟩ : ∃ m, s.rungs.length = m + 1 := ⟨s.rungs.length - 1, by omega⟩
  have hm1 : s.rungs.length - 1 = m := by omega
  obtain ⟨g, v1, v2, L0⟩ := St.last hp
  obtain ⟨A1, c1, e1⟩ := L0.l1
  obtain ⟨A2, c2, e2⟩ := L0.l2
  obtain ⟨cap, eR⟩ := L0.val
  obtain ⟨wb, wo, rfl, hw⟩ := words_at hC (by omega)
  subst e1 e2
  have hw : ∀ i, i < l.f1.length → w.cell? ⟨wb, wo + i, none⟩ = some (.string (wd l i)) := hw
  have k1 := L0.c1
  have k2 := L0.c2
  have k3 := L0.c3
  have kb3 : w.cell? ⟨b, 3, none⟩ = some (.slice (some ⟨g, 0, none⟩) (m + 1) cap) := by rw [St.bx.cell 3 vR rfl, eR, hm]
  rw [hm1] at k1 k2 k3
  have HR := Lib.hid (fun W (hb : Below w.heap.size w W) => rung_walk g m cap b W (pw_cell_below hb kb3) (by have := hok.rungs; omega))
  have hz1 : (wd l 1).size ≤ 65536 := hz _ (by unfold wd; rw [List.getD_eq_getElem?_getD, List.getElem?_eq_getElem (by omega)]; exact List.getElem_mem _)
  have HA := Lib.hid (fun W (hb : Below w.heap.size w W) => address_walk s (wd l 1) hz1 b W (pw_cell_below hb (St.bx.cell 0 _ rfl)) (pw_cell_below hb (St.bx.cell 1 _ rfl)) (pw_cell_below hb (St.bx.cell 2 _ rfl)) hok.size (LaidW.below hL rfl hb))
  have HI := Lib.hid (fun W (hb : Below w.heap.size w W) => indexC (wd l 0) W ((hL.out.key rfl).on hb))
  have HF := Lib.hid (fun W (hb : Below w.heap.size w W) => And.intro (pw_cell_below hb k3) (And.intro (pw_cell_below hb k2) (And.intro (pw_cell_below hb k1) (And.intro (pw_cell_below hb (show w.cell? ⟨wb, wo, none⟩ = some (.string (wd l 0)) from hw 0 (by omega))) (And.intro (pw_cell_below hb (hw 1 (by omega))) (And.intro (pw_cell_below hb (hw 2 (by omega))) (pw_cell_below hb (hw 3 (by omega)))))))))
  have HN2 := Lib.hid (fun W => lex_IsName.calls (wd l 2) _ W rfl)
  have HN3 := Lib.hid (fun W => lex_IsName.calls (wd l 3) _ W rfl)
  have HST := Lib.hid St
  have HL0 := Lib.hid L0
  have HB := Lib.hid St.base
  have hcl : (lastR s.rungs).f1.length ≤ 256 := hok.con _ (lastR_mem hp)
  unfold contactP
  generalize hr : lastR s.rungs = r at *
  have B0 := Lib.hid (Below.refl w.heap.size w)
  rw [hn]
  clear hz hz1 hL hC kb3 hw k1 k2 k3 L0 St hok
  by_cases t0 : 0 < r.f2.length
  case pos =>
    rw [if_pos t0]
    have t0' : ¬ r.f2 = [] := fun e => by rw [e] at t0; exact absurd t0 (by decide)
    go_enter Tryz.func51, Tryz.ntmps51
    go_wp2_with (first
      | (go_at_call 77; (with_reducible refine (HR.out _ (below_alloc B0.out _)).mono ?_); rintro e w1 ⟨rfl, hb⟩; have B1 := Lib.hid (below_step (below_alloc B0.out _) hb); obtain ⟨f3, f2, f1, x0, x1, x2, x3⟩ := HF.out _ B1.out; have LB := (Bx.new w 61 #[.int .i64 l.f0, .slice (some ⟨wb, wo, none⟩) 4 c]).on hb; have lb1 := LB.cell 1 (.slice (some ⟨wb, wo, none⟩) 4 c) rfl; clear hb))
    go_ret
    exact MPost.bad (by decide) HB.out B1.out
  case neg =>
  rw [if_neg t0]
  have hnil : r.f2 = [] := List.eq_nil_of_length_eq_zero (by omega)
  by_cases t1 : 0 < r.f3.size
  case pos =>
    rw [if_pos t1]
    have q1 := size_pos (Nat.ne_of_gt t1)
    have q2 := list_pos (Nat.ne_of_gt t1)
    clear t1 t0
    go_enter Tryz.func51, Tryz.ntmps51
    go_wp2_with (first
      | (go_at_call 77; (with_reducible refine (HR.out _ (below_alloc B0.out _)).mono ?_); rintro e w1 ⟨rfl, hb⟩; have B1 := Lib.hid (below_step (below_alloc B0.out _) hb); obtain ⟨f3, f2, f1, x0, x1, x2, x3⟩ := HF.out _ B1.out; have LB := (Bx.new w 61 #[.int .i64 l.f0, .slice (some ⟨wb, wo, none⟩) 4 c]).on hb; have lb1 := LB.cell 1 (.slice (some ⟨wb, wo, none⟩) 4 c) rfl; clear hb))
    go_ret
    exact MPost.bad (by decide) HB.out B1.out
  case neg =>
  rw [if_neg t1]
  have q0 : r.f3.size = 0 := by omega
  have q1 := eq_true (size_nil q0)
  have q2 := list_nil q0
  clear t1 t0
  by_cases t2 : r.f1.length = 256
  case pos =>
    rw [if_pos t2]
    go_enter Tryz.func51, Tryz.ntmps51
    go_wp2_with (first
      | (go_at_call 77; (with_reducible refine (HR.out _ (below_alloc B0.out _)).mono ?_); rintro e w1 ⟨rfl, hb⟩; have B1 := Lib.hid (below_step (below_alloc B0.out _) hb); obtain ⟨f3, f2, f1, x0, x1, x2, x3⟩ := HF.out _ B1.out; have LB := (Bx.new w 61 #[.int .i64 l.f0, .slice (some ⟨wb, wo, none⟩) 4 c]).on hb; have lb1 := LB.cell 1 (.slice (some ⟨wb, wo, none⟩) 4 c) rfl; clear hb))
    go_ret
    exact MPost.bad (by decide) HB.out B1.out
  case neg =>
  rw [if_neg t2]
  have t2' : (((r.f1.length : Nat) : Int) == 256) = false := by rw [beq_eq_false_iff_ne]; omega
  unfold conAdd
  rw [hr]
  obtain ⟨⟨sp, n, er⟩, ep⟩ : ∃ p, p = addressP s (wd l 1) := ⟨_, rfl⟩
  rw [← ep] at HA ⊢
  clear ep
  simp only at HA ⊢
  by_cases t3 : er = 0
  case neg =>
    rw [if_pos t3]
    have t3' : (er == 0) = false := by rw [beq_eq_false_iff_ne]; exact t3
    go_enter Tryz.func51, Tryz.ntmps51
    go_wp2_with (first
      | (go_at_call 77; (with_reducible refine (HR.out _ (below_alloc B0.out _)).mono ?_); rintro e w1 ⟨rfl, hb⟩; have B1 := Lib.hid (below_step (below_alloc B0.out _) hb); obtain ⟨f3, f2, f1, x0, x1, x2, x3⟩ := HF.out _ B1.out; have LB := (Bx.new w 61 #[.int .i64 l.f0, .slice (some ⟨wb, wo, none⟩) 4 c]).on hb; have lb1 := LB.cell 1 (.slice (some ⟨wb, wo, none⟩) 4 c) rfl; clear hb)
      | (go_at_call 78; (with_reducible refine (HA.out _ B1.out).mono ?_); rintro e w2 ⟨rfl, hb⟩; have B2 := Lib.hid (below_alloc (below_step B1.out hb) (Obj.cells #[.int .i64 sp, .int .i64 n] 49)); replace LB := (LB.on hb).alloc (Obj.cells #[.int .i64 sp, .int .i64 n] 49); replace lb1 := LB.cell 1 (.slice (some ⟨wb, wo, none⟩) 4 c) rfl; have YB := Lib.hid (Bx.new w2 49 #[.int .i64 sp, .int .i64 n]); clear f3 f2 f1 x0 x1 x2 x3; obtain ⟨f3, f2, f1, x0, x1, x2, x3⟩ := HF.out _ B2.out; clear hb))
    go_ret
    exact MPost.bad t3 HB.out B2.out
  case pos =>
  subst t3
  rw [if_neg (by decide)]
  generalize hn2 : isName (wd l 2).data.toList = b2 at HN2 ⊢
  generalize hn3 : isName (wd l 3).data.toList = b3 at HN3 ⊢
  cases b2
  case false =>
    rw [if_pos rfl]
    go_enter Tryz.func51, Tryz.ntmps51
    go_wp2_with (first
      | (go_at_call 77; (with_reducible refine (HR.out _ (below_alloc B0.out _)).mono ?_); rintro e w1 ⟨rfl, hb⟩; have B1 := Lib.hid (below_step (below_alloc B0.out _) hb); obtain ⟨f3, f2, f1, x0, x1, x2, x3⟩ := HF.out _ B1.out; have LB := (Bx.new w 61 #[.int .i64 l.f0, .slice (some ⟨wb, wo, none⟩) 4 c]).on hb; have lb1 := LB.cell 1 (.slice (some ⟨wb, wo, none⟩) 4 c) rfl; clear hb)
      | (go_at_call 78; (with_reducible refine (HA.out _ B1.out).mono ?_); rintro e w2 ⟨rfl, hb⟩; have B2 := Lib.hid (below_alloc (below_step B1.out hb) (Obj.cells #[.int .i64 sp, .int .i64 n] 49)); replace LB := (LB.on hb).alloc (Obj.cells #[.int .i64 sp, .int .i64 n] 49); replace lb1 := LB.cell 1 (.slice (some ⟨wb, wo, none⟩) 4 c) rfl; have YB := Lib.hid (Bx.new w2 49 #[.int .i64 sp, .int .i64 n]); clear f3 f2 f1 x0 x1 x2 x3; obtain ⟨f3, f2, f1, x0, x1, x2, x3⟩ := HF.out _ B2.out; clear hb)
      | (go_at_call 67; (with_reducible refine (HN2.out _).mono ?_); rintro e w3 ⟨rfl, hb⟩; have B3 := Lib.hid (below_step B2.out hb); replace LB := LB.on hb; replace lb1 := LB.cell 1 (.slice (some ⟨wb, wo, none⟩) 4 c) rfl; replace YB := Lib.hid (YB.out.on hb); clear f3 f2 f1 x0 x1 x2 x3; obtain ⟨f3, f2, f1, x0, x1, x2, x3⟩ := HF.out _ B3.out; clear hb))
    go_ret
    exact MPost.bad (by decide) HB.out B3.out
  case true =>
  rw [if_neg (by decide)]
  cases b3
  case false =>
    rw [if_pos rfl]
    go_enter Tryz.func51, Tryz.ntmps51
    go_wp2_with (first
      | (go_at_call 77; (with_reducible refine (HR.out _ (below_alloc B0.out _)).mono ?_); rintro e w1 ⟨rfl, hb⟩; have B1 := Lib.hid (below_step (below_alloc B0.out _) hb); obtain ⟨f3, f2, f1, x0, x1, x2, x3⟩ := HF.out _ B1.out; have LB := (Bx.new w 61 #[.int .i64 l.f0, .slice (some ⟨wb, wo, none⟩) 4 c]).on hb; have lb1 := LB.cell 1 (.slice (some ⟨wb, wo, none⟩) 4 c) rfl; clear hb)
      | (go_at_call 78; (with_reducible refine (HA.out _ B1.out).mono ?_); rintro e w2 ⟨rfl, hb⟩; have B2 := Lib.hid (below_alloc (below_step B1.out hb) (Obj.cells #[.int .i64 sp, .int .i64 n] 49)); replace LB := (LB.on hb).alloc (Obj.cells #[.int .i64 sp, .int .i64 n] 49); replace lb1 := LB.cell 1 (.slice (some ⟨wb, wo, none⟩) 4 c) rfl; have YB := Lib.hid (Bx.new w2 49 #[.int .i64 sp, .int .i64 n]); clear f3 f2 f1 x0 x1 x2 x3; obtain ⟨f3, f2, f1, x0, x1, x2, x3⟩ := HF.out _ B2.out; clear hb)
      | (go_at_call 67; (with_reducible refine (HN2.out _).mono ?_); rintro e w3 ⟨rfl, hb⟩; have B3 := Lib.hid (below_step B2.out hb); replace LB := LB.on hb; replace lb1 := LB.cell 1 (.slice (some ⟨wb, wo, none⟩) 4 c) rfl; replace YB := Lib.hid (YB.out.on hb); clear f3 f2 f1 x0 x1 x2 x3; obtain ⟨f3, f2, f1, x0, x1, x2, x3⟩ := HF.out _ B3.out; clear hb)
      | (go_at_call 67; (with_reducible refine (HN3.out _).mono ?_); rintro e w3 ⟨rfl, hb⟩; have B3 := Lib.hid (below_step B3.out hb); replace LB := LB.on hb; replace lb1 := LB.cell 1 (.slice (some ⟨wb, wo, none⟩) 4 c) rfl; replace YB := Lib.hid (YB.out.on hb); clear f3 f2 f1 x0 x1 x2 x3; obtain ⟨f3, f2, f1, x0, x1, x2, x3⟩ := HF.out _ B3.out; clear hb))
    go_ret
    exact MPost.bad (by decide) HB.out B3.out
  case true =>
    rw [if_neg (by decide)]
    go_enter Tryz.func51, Tryz.ntmps51
    go_wp2_with (first
      | (go_at_call 77; (with_reducible refine (HR.out _ (below_alloc B0.out _)).mono ?_); rintro e w1 ⟨rfl, hb⟩; have B1 := Lib.hid (below_step (below_alloc B0.out _) hb); obtain ⟨f3, f2, f1, x0, x1, x2, x3⟩ := HF.out _ B1.out; have LB := (Bx.new w 61 #[.int .i64 l.f0, .slice (some ⟨wb, wo, none⟩) 4 c]).on hb; have lb1 := LB.cell 1 (.slice (some ⟨wb, wo, none⟩) 4 c) rfl; clear hb)
      | (go_at_call 78; (with_reducible refine (HA.out _ B1.out).mono ?_); rintro e w2 ⟨rfl, hb⟩; have B2 := Lib.hid (below_alloc (below_step B1.out hb) (Obj.cells #[.int .i64 sp, .int .i64 n] 49)); replace LB := (LB.on hb).alloc (Obj.cells #[.int .i64 sp, .int .i64 n] 49); replace lb1 := LB.cell 1 (.slice (some ⟨wb, wo, none⟩) 4 c) rfl; have YB := Lib.hid (Bx.new w2 49 #[.int .i64 sp, .int .i64 n]); clear f3 f2 f1 x0 x1 x2 x3; obtain ⟨f3, f2, f1, x0, x1, x2, x3⟩ := HF.out _ B2.out; clear hb)
      | (go_at_call 67; (with_reducible refine (HN2.out _).mono ?_); rintro e w3 ⟨rfl, hb⟩; have B3 := Lib.hid (below_step B2.out hb); replace LB := LB.on hb; replace lb1 := LB.cell 1 (.slice (some ⟨wb, wo, none⟩) 4 c) rfl; replace YB := Lib.hid (YB.out.on hb); clear f3 f2 f1 x0 x1 x2 x3; obtain ⟨f3, f2, f1, x0, x1, x2, x3⟩ := HF.out _ B3.out; clear hb)
      | (go_at_call 67; (with_reducible refine (HN3.out _).mono ?_); rintro e w3 ⟨rfl, hb⟩; have B3 := Lib.hid (below_step B3.out hb); replace LB := LB.on hb; replace lb1 := LB.cell 1 (.slice (some ⟨wb, wo, none⟩) 4 c) rfl; replace YB := Lib.hid (YB.out.on hb); clear f3 f2 f1 x0 x1 x2 x3; obtain ⟨f3, f2, f1, x0, x1, x2, x3⟩ := HF.out _ B3.out; clear hb))
    have BE := Lib.hid (below_drew B3.out)
    have YB := YB.out.drew
    have LB2 := LB.drew
    have SS : (fun w' => w'.cell? ⟨g, m * 4 + 1, none⟩ = some (.slice A1 r.f1.length c1) ∧ w'.cell? ⟨w.heap.size, 1, none⟩ = some (.slice (some ⟨wb, wo, none⟩) 4 c) ∧ w'.cell? ⟨wb, wo, none⟩ = some (.string (wd l 0)) ∧ w'.cell? ⟨wb, wo + 2, none⟩ = some (.string (wd l 2)) ∧ w'.cell? ⟨wb, wo + 3, none⟩ = some (.string (wd l 3)) ∧ w'.cell? ⟨w2.heap.size, 0, none⟩ = some (.int .i64 sp) ∧ w'.cell? ⟨w2.heap.size, 1, none⟩ = some (.int .i64 n)) w3.drew := ⟨(HF.out _ BE.out).2.2.1, LB2.cell 1 _ rfl, (HF.out _ BE.out).2.2.2.1, (HF.out _ BE.out).2.2.2.2.2.1, (HF.out _ BE.out).2.2.2.2.2.2, YB.cell 0 _ rfl, YB.cell 1 _ rfl⟩
    refine start_ (n := 26) (S := fun w' => w'.cell? ⟨g, m * 4 + 1, none⟩ = some (.slice A1 r.f1.length c1) ∧ w'.cell? ⟨w.heap.size, 1, none⟩ = some (.slice (some ⟨wb, wo, none⟩) 4 c) ∧ w'.cell? ⟨wb, wo, none⟩ = some (.string (wd l 0)) ∧ w'.cell? ⟨wb, wo + 2, none⟩ = some (.string (wd l 2)) ∧ w'.cell? ⟨wb, wo + 3, none⟩ = some (.string (wd l 3)) ∧ w'.cell? ⟨w2.heap.size, 0, none⟩ = some (.int .i64 sp) ∧ w'.cell? ⟨w2.heap.size, 1, none⟩ = some (.int .i64 n)) (ds := [22, 25]) #[false, false, false, false, false, false, false, false, false, false, false, false, false, false, false, false, false, false, false, false, false, false, false, false, false, false] (by kernel_rfl) rfl rfl SS (fun hHeld => ?_)
    clear SS YB LB2 LB lb1
    generalize w3.drew = Ws at hHeld BE ⊢
    refine pure_ (i := 0) (N := some 59) (v := ?_) (a' := ?_) #[true, false, false, false, false, false, false, false, false, false, false, false, false, false, false, false, false, false, false, false, false, false, false, false, false, false] rfl rfl (by kernel_rfl) (fun _ _ _ h => h) (Or.inl ⟨by rfl, ?_⟩) ?_ ?_
    rotate_left
    · intro w'; go_simp; try with_reducible rfl
    rotate_left
    · simp only [Act.put, List.setIfInBounds_toArray, List.set_cons_zero, List.set_cons_succ]; rfl
    refine pure_ (i := 1) (N := some 60) (v := ?_) (a' := ?_) #[true, true, false, false, false, false, false, false, false, false, false, false, false, false, false, false, false, false, false, false, false, false, false, false, false, false] rfl rfl (by kernel_rfl) (fun _ _ _ h => h) (Or.inl ⟨by rfl, ?_⟩) ?_ ?_
    rotate_left
    · intro w'; go_simp; try with_reducible rfl
    rotate_left
    · simp only [Act.put, List.setIfInBounds_toArray, List.set_cons_zero, List.set_cons_succ]; rfl
    refine pure_ (i := 2) (N := some 61) (v := ?_) (a' := ?_) #[true, true, true, false, false, false, false, false, false, false, false, false, false, false, false, false, false, false, false, false, false, false, false, false, false, false] rfl rfl (by kernel_rfl) (fun _ _ _ h => h) (Or.inl ⟨by rfl, ?_⟩) ?_ ?_
    rotate_left
    · intro w'; go_simp; try with_reducible rfl
    rotate_left
    · simp only [Act.put, List.setIfInBounds_toArray, List.set_cons_zero, List.set_cons_succ]; rfl
    refine pure_ (i := 3) (N := some 62) (v := ?_) (a' := ?_) #[true, true, true, true, false, false, false, false, false, false, false, false, false, false, false, false, false, false, false, false, false, false, false, false, false, false] rfl rfl (by kernel_rfl) (fun _ _ _ h => h) (Or.inl ⟨by rfl, ?_⟩) ?_ ?_
    rotate_left
    · intro w'; go_simp; try with_reducible rfl
    rotate_left
    · simp only [Act.put, List.setIfInBounds_toArray, List.set_cons_zero, List.set_cons_succ]; rfl
    refine take_ (i := 4) (N := some 63) (v := ?_) (a' := ?_) #[true, true, true, true, true, false, false, false, false, false, false, false, false, false, false, false, false, false, false, false, false, false, false, false, false, false] rfl rfl (by kernel_rfl) (fun _ _ _ h => h) (Or.inl ⟨by rfl, ?_⟩) hHeld ?_ ?_
    rotate_left
    · rintro w' ⟨s0, s1, s2, s3, s4, s5, s6⟩; go_simp; try with_reducible rfl
    rotate_left
    · simp only [Act.put, List.setIfInBounds_toArray, List.set_cons_zero, List.set_cons_succ]; rfl
    refine pure_ (i := 5) (N := some 64) (v := ?_) (a' := ?_) #[true, true, true, true, true, true, false, false, false, false, false, false, false, false, false, false, false, false, false, false, false, false, false, false, false, false] rfl rfl (by kernel_rfl) (fun _ _ _ h => h) (Or.inl ⟨by rfl, ?_⟩) ?_ ?_
    rotate_left
    · intro w'; go_simp; try with_reducible rfl
    rotate_left
    · simp only [Act.put, List.setIfInBounds_toArray, List.set_cons_zero, List.set_cons_succ]; rfl
    refine pure_ (i := 6) (N := some 65) (v := ?_) (a' := ?_) #[true, true, true, true, true, true, true, false, false, false, false, false, false, false, false, false, false, false, false, false, false, false, false, false, false, false] rfl rfl (by kernel_rfl) (fun _ _ _ h => h) (Or.inl ⟨by rfl, ?_⟩) ?_ ?_
    rotate_left
    · intro w'; go_simp; try with_reducible rfl
    rotate_left
    · simp only [Act.put, List.setIfInBounds_toArray, List.set_cons_zero, List.set_cons_succ]; rfl
    refine take_ (i := 7) (N := some 66) (v := ?_) (a' := ?_) #[true, true, true, true, true, true, true, true, false, false, false, false, false, false, false, false, false, false, false, false, false, false, false, false, false, false] rfl rfl (by kernel_rfl) (fun _ _ _ h => h) (Or.inl ⟨by rfl, ?_⟩) hHeld ?_ ?_
    rotate_left
    · rintro w' ⟨s0, s1, s2, s3, s4, s5, s6⟩; go_simp; try with_reducible rfl
    rotate_left
    · simp only [Act.put, List.setIfInBounds_toArray, List.set_cons_zero, List.set_cons_succ]; rfl
    refine pure_ (i := 8) (N := some 67) (v := ?_) (a' := ?_) #[true, true, true, true, true, true, true, true, true, false, false, false, false, false, false, false, false, false, false, false, false, false, false, false, false, false] rfl rfl (by kernel_rfl) (fun _ _ _ h => h) (Or.inl ⟨by rfl, ?_⟩) ?_ ?_
    rotate_left
    · intro w'; go_simp; try with_reducible rfl
    rotate_left
    · simp only [Act.put, List.setIfInBounds_toArray, List.set_cons_zero, List.set_cons_succ]; rfl
    refine take_ (i := 9) (N := some 68) (v := ?_) (a' := ?_) #[true, true, true, true, true, true, true, true, true, true, false, false, false, false, false, false, false, false, false, false, false, false, false, false, false, false] rfl rfl (by kernel_rfl) (fun _ _ _ h => h) (Or.inl ⟨by rfl, ?_⟩) hHeld ?_ ?_
    rotate_left
    · rintro w' ⟨s0, s1, s2, s3, s4, s5, s6⟩; go_simp; try with_reducible rfl
    rotate_left
    · simp only [Act.put, List.setIfInBounds_toArray, List.set_cons_zero, List.set_cons_succ]; rfl
    refine take_ (i := 11) (N := some 70) (v := ?_) (a' := ?_) #[true, true, true, true, true, true, true, true, true, true, false, true, false, false, false, false, false, false, false, false, false, false, false, false, false, false] rfl rfl (by kernel_rfl) (fun _ _ _ h => h) (Or.inl ⟨by rfl, ?_⟩) hHeld ?_ ?_
    rotate_left
    · rintro w' ⟨s0, s1, s2, s3, s4, s5, s6⟩; go_simp; try with_reducible rfl
    rotate_left
    · simp only [Act.put, List.setIfInBounds_toArray, List.set_cons_zero, List.set_cons_succ]; rfl
    refine pure_ (i := 12) (N := some 71) (v := ?_) (a' := ?_) #[true, true, true, true, true, true, true, true, true, true, false, true, true, false, false, false, false, false, false, false, false, false, false, false, false, false] rfl rfl (by kernel_rfl) (fun _ _ _ h => h) (Or.inl ⟨by rfl, ?_⟩) ?_ ?_
    rotate_left
    · intro w'; go_simp; try with_reducible rfl
    rotate_left
    · simp only [Act.put, List.setIfInBounds_toArray, List.set_cons_zero, List.set_cons_succ]; rfl
    refine take_ (i := 13) (N := some 72) (v := ?_) (a' := ?_) #[true, true, true, true, true, true, true, true, true, true, false, true, true, true, false, false, false, false, false, false, false, false, false, false, false, false] rfl rfl (by kernel_rfl) (fun _ _ _ h => h) (Or.inl ⟨by rfl, ?_⟩) hHeld ?_ ?_
    rotate_left
    · rintro w' ⟨s0, s1, s2, s3, s4, s5, s6⟩; go_simp; try with_reducible rfl
    rotate_left
    · simp only [Act.put, List.setIfInBounds_toArray, List.set_cons_zero, List.set_cons_succ]; rfl
    refine pure_ (i := 14) (N := some 73) (v := ?_) (a' := ?_) #[true, true, true, true, true, true, true, true, true, true, false, true, true, true, true, false, false, false, false, false, false, false, false, false, false, false] rfl rfl (by kernel_rfl) (fun _ _ _ h => h) (Or.inl ⟨by rfl, ?_⟩) ?_ ?_
    rotate_left
    · intro w'; go_simp; try with_reducible rfl
    rotate_left
    · simp only [Act.put, List.setIfInBounds_toArray, List.set_cons_zero, List.set_cons_succ]; rfl
    refine take_ (i := 15) (N := some 74) (v := ?_) (a' := ?_) #[true, true, true, true, true, true, true, true, true, true, false, true, true, true, true, true, false, false, false, false, false, false, false, false, false, false] rfl rfl (by kernel_rfl) (fun _ _ _ h => h) (Or.inl ⟨by rfl, ?_⟩) hHeld ?_ ?_
    rotate_left
    · rintro w' ⟨s0, s1, s2, s3, s4, s5, s6⟩; go_simp; try with_reducible rfl
    rotate_left
    · simp only [Act.put, List.setIfInBounds_toArray, List.set_cons_zero, List.set_cons_succ]; rfl
    refine pure_ (i := 16) (N := some 75) (v := ?_) (a' := ?_) #[true, true, true, true, true, true, true, true, true, true, false, true, true, true, true, true, true, false, false, false, false, false, false, false, false, false] rfl rfl (by kernel_rfl) (fun _ _ _ h => h) (Or.inl ⟨by rfl, ?_⟩) ?_ ?_
    rotate_left
    · intro w'; go_simp; try with_reducible rfl
    rotate_left
    · simp only [Act.put, List.setIfInBounds_toArray, List.set_cons_zero, List.set_cons_succ]; rfl
    refine take_ (i := 17) (N := some 76) (v := ?_) (a' := ?_) #[true, true, true, true, true, true, true, true, true, true, false, true, true, true, true, true, true, true, false, false, false, false, false, false, false, false] rfl rfl (by kernel_rfl) (fun _ _ _ h => h) (Or.inl ⟨by rfl, ?_⟩) hHeld ?_ ?_
    rotate_left
    · rintro w' ⟨s0, s1, s2, s3, s4, s5, s6⟩; go_simp; try with_reducible rfl
    rotate_left
    · simp only [Act.put, List.setIfInBounds_toArray, List.set_cons_zero, List.set_cons_succ]; rfl
    refine pure_ (i := 18) (N := some 77) (v := ?_) (a' := ?_) #[true, true, true, true, true, true, true, true, true, true, false, true, true, true, true, true, true, true, true, false, false, false, false, false, false, false] rfl rfl (by kernel_rfl) (fun _ _ _ h => h) (Or.inl ⟨by rfl, ?_⟩) ?_ ?_
    rotate_left
    · intro w'; go_simp; try with_reducible rfl
    rotate_left
    · simp only [Act.put, List.setIfInBounds_toArray, List.set_cons_zero, List.set_cons_succ]; rfl
    refine take_ (i := 19) (N := some 78) (v := ?_) (a' := ?_) #[true, true, true, true, true, true, true, true, true, true, false, true, true, true, true, true, true, true, true, true, false, false, false, false, false, false] rfl rfl (by kernel_rfl) (fun _ _ _ h => h) (Or.inl ⟨by rfl, ?_⟩) hHeld ?_ ?_
    rotate_left
    · rintro w' ⟨s0, s1, s2, s3, s4, s5, s6⟩; go_simp; try with_reducible rfl
    rotate_left
    · simp only [Act.put, List.setIfInBounds_toArray, List.set_cons_zero, List.set_cons_succ]; rfl
    refine one_ (i := 10) (N := some 69) #[true, true, true, true, true, true, true, true, true, true, true, true, true, true, true, true, true, true, true, true, false, false, false, false, false, false] rfl rfl (by kernel_rfl) (by decide) (fun K hK => ?_)
    refine goes_ Tryz.func79 (by kernel_rfl) rfl #[.slice (some ⟨0, 0, none⟩) 4 4, .string (wd l 0)] (by rfl) rfl rfl (by (try simp only [List.map_toArray, List.map_cons, List.map_nil]); first | done | rfl) ?_
    with_reducible refine (HI.out _ BE.out).mono ?_
    rintro e w4 ⟨rfl, he⟩
    obtain rfl := he.symm
    refine ⟨_, rfl, ?_⟩
    refine hK.out _ _ hHeld (fun _ => ?_)
    clear hK K
    refine norm_ (a' := ?_) ?_ ?_
    rotate_left
    · show Act.put _ (some 69) _ = _; simp only [Act.put, List.setIfInBounds_toArray, List.set_cons_zero, List.set_cons_succ]; rfl
    refine pure_ (i := 20) (N := some 79) (v := ?_) (a' := ?_) #[true, true, true, true, true, true, true, true, true, true, true, true, true, true, true, true, true, true, true, true, true, false, false, false, false, false] rfl rfl (by kernel_rfl) (fun _ _ _ h => h) (Or.inl ⟨by rfl, ?_⟩) ?_ ?_
    rotate_left
    · intro w'; go_simp; try with_reducible rfl
    rotate_left
    · simp only [Act.put, List.setIfInBounds_toArray, List.set_cons_zero, List.set_cons_succ]; rfl
    refine one_ (i := 21) (N := some 80) #[true, true, true, true, true, true, true, true, true, true, true, true, true, true, true, true, true, true, true, true, true, true, false, false, false, false] rfl rfl (by kernel_rfl) (by decide) (fun K hK => ?_)
    go_simp
    refine hK.out _ _ (keepS7 hHeld (below_alloc (Below.refl _ _) _)) (fun _ => ?_)
    clear hK K
    refine norm_ (a' := ?_) ?_ ?_
    rotate_left
    · rfl
    refine oneD_ (i := 22) (N := some 81) #[true, true, true, true, true, true, true, true, true, true, true, true, true, true, true, true, true, true, true, true, true, true, true, false, false, false] rfl rfl (by kernel_rfl) (by decide) (fun K hK => ?_)
    have BL := Lib.hid (below_alloc BE.out (Obj.cells #[.int .i64 (Lib.idxOfS kwC0 (wd l 0)), .int .i64 sp, .int .i64 n, .string (wd l 2), .string (wd l 3)] 51))
    obtain ⟨u, w5, hrun, hcell, hfz, ⟨Au, cu, rfl⟩, hSt⟩ := (HST.out.on BL.out).contact hp (HL0.out.on BL.out) (g1 := Ws.heap.size) (p := ⟨Lib.idxOfS kwC0 (wd l 0), ⟨sp, n⟩, wd l 2, wd l 3⟩) (Bx.new Ws _ _) (by rw [hr]; omega) 44
    rw [hm1] at hcell hfz hSt
    refine step_app (by rfl) rfl rfl rfl hrun ?_
    refine hK.out _ _ ?_
    clear hK K
    refine norm_ (a' := ?_) ?_ ?_
    rotate_left
    · show Act.put _ (some 81) _ = _; simp only [Act.put, List.setIfInBounds_toArray, List.set_cons_zero, List.set_cons_succ]; rfl
    refine pure_ (i := 23) (N := some 82) (v := ?_) (a' := ?_) #[true, true, true, true, true, true, true, true, true, true, true, true, true, true, true, true, true, true, true, true, true, true, true, true, false, false] rfl rfl (by kernel_rfl) (fun _ _ _ h => h) (Or.inl ⟨by rfl, ?_⟩) ?_ ?_
    rotate_left
    · intro w'; go_simp; try with_reducible rfl
    rotate_left
    · simp only [Act.put, List.setIfInBounds_toArray, List.set_cons_zero, List.set_cons_succ]; rfl
    refine pure_ (i := 24) (N := some 83) (v := ?_) (a' := ?_) #[true, true, true, true, true, true, true, true, true, true, true, true, true, true, true, true, true, true, true, true, true, true, true, true, true, false] rfl rfl (by kernel_rfl) (fun _ _ _ h => h) (Or.inl ⟨by rfl, ?_⟩) ?_ ?_
    rotate_left
    · intro w'; go_simp; try with_reducible rfl
    rotate_left
    · simp only [Act.put, List.setIfInBounds_toArray, List.set_cons_zero, List.set_cons_succ]; rfl
    refine oneD_ (i := 25) (N := none) #[true, true, true, true, true, true, true, true, true, true, true, true, true, true, true, true, true, true, true, true, true, true, true, true, true, true] rfl rfl (by kernel_rfl) (by decide) (fun K hK => ?_)
    go_simp
    refine hK.out _ _ ?_
    clear hK K
    refine norm_ (a' := ?_) ?_ ?_
    rotate_left
    · rfl
    refine done_ (by kernel_rfl) ?_
    go_wp2
    go_ret
    rw [hr, List.length_append, List.length_singleton] at hSt
    simp only [hnil] at hSt
    exact ⟨rfl, hSt.did, fun _ => ⟨_, _, _, hSt⟩⟩
end Go.Proofs.YtdbjjbooalkkbaaGreatDoor.P

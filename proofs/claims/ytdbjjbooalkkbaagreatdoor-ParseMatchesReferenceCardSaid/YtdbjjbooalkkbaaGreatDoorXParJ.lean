/- The parser's method jump. -/
import Derived.Test.YtdbjjbooalkkbaaGreatDoorXParQ
set_option linter.unusedVariables false
set_option linter.unusedSimpArgs false
namespace Go.Proofs.YtdbjjbooalkkbaaGreatDoor.P
open Go.RowKit Go.Shelf Go.Proofs.YtdbjjbooalkkbaaGreatDoorW.PrintWords Go.Proofs.YtdbjjbooalkkbaaGreatDoorW.PrintLast Go.Proofs.YtdbjjbooalkkbaaGreatDoorW.PrintMore

theorem keepF4 {W : World} {p p0 p1 p2 p3 : Addr} {v0 v1 v2 v3 : Value} (h : W.cell? p0 = some v0 ∧ W.cell? p1 = some v1 ∧ W.cell? p2 = some v2 ∧ W.cell? p3 = some v3) (h0 : p.block ≠ p0.block) (h3 : p.block ≠ p3.block) (h1 : p.block ≠ p1.block) (h2 : p.block ≠ p2.block) (u : Value) :
    (W.setCell p u).cell? p0 = some v0 ∧ (W.setCell p u).cell? p1 = some v1 ∧ (W.setCell p u).cell? p2 = some v2 ∧ (W.setCell p u).cell? p3 = some v3 :=
  ⟨(World.cell?_setCell_far _ _ _ _ h0).trans h.1, (World.cell?_setCell_far _ _ _ _ h1).trans h.2.1, (World.cell?_setCell_far _ _ _ _ h2).trans h.2.2.1, (World.cell?_setCell_far _ _ _ _ h3).trans h.2.2.2⟩

set_option maxRecDepth 100000 in
set_option maxHeartbeats 8000000 in
theorem jump_walk {B b : Nat} (s : PSt) (l : LN) (A : Option Addr) (c : Nat) (vR vL vJ : Value) (w : World) (St : Stage B b 57 (pc s vR vL vJ) w vR s.rungs vL s.lines vJ s.jumps [] w) (hok : POk s) (hp : 0 < s.rungs.length)
    (hC : Kd.string.C w A l.f1.length l.f1) (hn : l.f1.length = 2) (hlow : ∀ wb wo, A = some ⟨wb, wo, none⟩ → wb < B) :
    Calls Tryz.prog 50 #[.pointer (some ⟨b, 0, none⟩), .agg #[.int .i64 l.f0, .slice A l.f1.length c]] w (MPost B b w (jumpP s l)) := by
  obtain ⟨m, hm⟩ : ∃ m, s.rungs.length = m + 1 := ⟨s.rungs.length - 1, by omega⟩
  have hm1 : s.rungs.length - 1 = m := by omega
  have hjp : 0 < s.jumps.length := by have := hok.jumps; omega
  have hjm : s.jumps.length - 1 = m := by have := hok.jumps; omega
  have hjl : s.jumps.length = m + 1 := by omega
  obtain ⟨g, v1, v2, L0⟩ := St.last hp
  obtain ⟨cap, eR⟩ := L0.val
  obtain ⟨gj, capj, eJ, hgj1, hgj2, _⟩ := Kd.R_form St.J hjp
  obtain ⟨wb, wo, rfl, hw⟩ := words_at hC (by omega)
  have hw : ∀ i, i < l.f1.length → w.cell? ⟨wb, wo + i, none⟩ = some (.string (wd l i)) := hw
  have hgw : g ≠ wb := by have := hlow wb wo rfl; have := L0.le; omega
  have hgb : g ≠ b := by
    obtain ⟨rc, hrc⟩ := L0.bx
    exact blk_ne hrc.out St.bx.out (by decide)
  have hgx : g ≠ w.heap.size := by
    obtain ⟨rc, hrc⟩ := L0.bx
    exact Nat.ne_of_lt hrc.lt
  have k3 := L0.c3
  have kb3 : w.cell? ⟨b, 3, none⟩ = some (.slice (some ⟨g, 0, none⟩) (m + 1) cap) := by rw [St.bx.cell 3 vR rfl, eR, hm]
  have kb6 : w.cell? ⟨b, 6, none⟩ = some (.slice (some ⟨gj, 0, none⟩) (m + 1) capj) := by rw [St.bx.cell 6 vJ rfl, eJ, hjl]
  rw [hm1] at k3
  have HR := Lib.hid (fun W (hb : Below w.heap.size w W) => rung_walk g m cap b W (pw_cell_below hb kb3) (by have := hok.rungs; omega))
  have HF := Lib.hid (fun W (hb : Below w.heap.size w W) => And.intro (pw_cell_below hb k3) (And.intro (pw_cell_below hb kb6) (pw_cell_below hb (hw 1 (by omega)))))
  have HN1 := Lib.hid (fun W => lex_IsName.calls (wd l 1) _ W rfl)
  have HST := Lib.hid St
  have HL0 := Lib.hid L0
  have HB := Lib.hid St.base
  have i1 : IntKind.i64.wrap (((m + 1 : Nat) : Int) - 1) = (m : Int) := by rw [IntKind.wrap_i64]; have := hok.rungs; omega
  have i2 : (m : Int) < ((m + 1 : Nat) : Int) := by omega
  have i4 : IntKind.i64.wrap (m : Int) = (m : Int) := by rw [IntKind.wrap_i64]; have := hok.rungs; omega
  have i5 : (m : Int) < (m : Int) + 1 := by omega
  have i3 : (0 : Int) ≤ (m : Int) := by omega
  unfold jumpP
  have hr : ∃ r, lastR s.rungs = r := ⟨_, rfl⟩
  obtain ⟨r, hr⟩ := hr
  rw [hr] at k3 HF ⊢
  have B0 := Lib.hid (Below.refl w.heap.size w)
  rw [hn]
  clear hC kb3 kb6 hw k3 L0 St hok
  by_cases t1 : 0 < r.f3.size
  case pos =>
    rw [if_pos t1]
    have q1 := size_pos (Nat.ne_of_gt t1)
    have q2 := list_pos (Nat.ne_of_gt t1)
    clear t1
    go_enter Tryz.func50, Tryz.ntmps50
    go_wp2_with (first
      | (go_at_call 77; (with_reducible refine (HR.out _ (below_alloc B0.out _)).mono ?_); rintro e w1 ⟨rfl, hb⟩; have B1 := Lib.hid (below_step (below_alloc B0.out _) hb); obtain ⟨f3, f6, x1⟩ := HF.out _ B1.out; have LB := (Bx.new w 61 #[.int .i64 l.f0, .slice (some ⟨wb, wo, none⟩) 2 c]).on hb; have lb1 := LB.cell 1 (.slice (some ⟨wb, wo, none⟩) 2 c) rfl; have lb0 := LB.cell 0 (.int .i64 l.f0) rfl; clear hb))
    go_ret
    exact MPost.bad (by decide) HB.out B1.out
  case neg =>
  rw [if_neg t1]
  have q0 : r.f3.size = 0 := by omega
  have q1 := eq_true (size_nil q0)
  have q2 := list_nil q0
  clear t1
  generalize hn2 : isName (wd l 1).data.toList = b2 at HN1 ⊢
  cases b2
  case false =>
    rw [if_pos rfl]
    go_enter Tryz.func50, Tryz.ntmps50
    go_wp2_with (first
      | (go_at_call 77; (with_reducible refine (HR.out _ (below_alloc B0.out _)).mono ?_); rintro e w1 ⟨rfl, hb⟩; have B1 := Lib.hid (below_step (below_alloc B0.out _) hb); obtain ⟨f3, f6, x1⟩ := HF.out _ B1.out; have LB := (Bx.new w 61 #[.int .i64 l.f0, .slice (some ⟨wb, wo, none⟩) 2 c]).on hb; have lb1 := LB.cell 1 (.slice (some ⟨wb, wo, none⟩) 2 c) rfl; have lb0 := LB.cell 0 (.int .i64 l.f0) rfl; clear hb)
      | (go_at_call 67; (with_reducible refine (HN1.out _).mono ?_); rintro e w3 ⟨rfl, hb⟩; have B3 := Lib.hid (below_step B1.out hb); replace LB := LB.on hb; clear lb1 lb0 f3 f6 x1; have lb1 := LB.cell 1 (.slice (some ⟨wb, wo, none⟩) 2 c) rfl; have lb0 := LB.cell 0 (.int .i64 l.f0) rfl; obtain ⟨f3, f6, x1⟩ := HF.out _ B3.out; clear hb))
    go_ret
    exact MPost.bad (by decide) HB.out B3.out
  case true =>
    rw [if_neg (by decide)]
    unfold jumpAdd
    rw [hjm]
    go_enter Tryz.func50, Tryz.ntmps50
    go_wp2_with (first
      | (go_at_call 77; (with_reducible refine (HR.out _ (below_alloc B0.out _)).mono ?_); rintro e w1 ⟨rfl, hb⟩; have B1 := Lib.hid (below_step (below_alloc B0.out _) hb); obtain ⟨f3, f6, x1⟩ := HF.out _ B1.out; have LB := (Bx.new w 61 #[.int .i64 l.f0, .slice (some ⟨wb, wo, none⟩) 2 c]).on hb; have lb1 := LB.cell 1 (.slice (some ⟨wb, wo, none⟩) 2 c) rfl; have lb0 := LB.cell 0 (.int .i64 l.f0) rfl; clear hb)
      | (go_at_call 67; (with_reducible refine (HN1.out _).mono ?_); rintro e w3 ⟨rfl, hb⟩; have B3 := Lib.hid (below_step B1.out hb); replace LB := LB.on hb; clear lb1 lb0 f3 f6 x1; have lb1 := LB.cell 1 (.slice (some ⟨wb, wo, none⟩) 2 c) rfl; have lb0 := LB.cell 0 (.int .i64 l.f0) rfl; obtain ⟨f3, f6, x1⟩ := HF.out _ B3.out; clear hb))
    have BE := Lib.hid (below_drew1 B3.out)
    have LB2 := LB.drew
    have SS : (fun w' => w'.cell? ⟨b, 6, none⟩ = some (.slice (some ⟨gj, 0, none⟩) (m + 1) capj) ∧ w'.cell? ⟨w.heap.size, 0, none⟩ = some (.int .i64 l.f0) ∧ w'.cell? ⟨w.heap.size, 1, none⟩ = some (.slice (some ⟨wb, wo, none⟩) 2 c) ∧ w'.cell? ⟨wb, wo + 1, none⟩ = some (.string (wd l 1))) w3.drew := ⟨(HF.out _ BE.out).2.1, LB2.cell 0 _ rfl, LB2.cell 1 _ rfl, (HF.out _ BE.out).2.2⟩
    refine start_ (n := 22) (S := fun w' => w'.cell? ⟨b, 6, none⟩ = some (.slice (some ⟨gj, 0, none⟩) (m + 1) capj) ∧ w'.cell? ⟨w.heap.size, 0, none⟩ = some (.int .i64 l.f0) ∧ w'.cell? ⟨w.heap.size, 1, none⟩ = some (.slice (some ⟨wb, wo, none⟩) 2 c) ∧ w'.cell? ⟨wb, wo + 1, none⟩ = some (.string (wd l 1))) (ds := [21]) #[false, false, false, false, false, false, false, false, false, false, false, false, false, false, false, false, false, false, false, false, false, false] (by kernel_rfl) rfl rfl SS (fun hHeld => ?_)
    clear SS LB2 LB lb1 lb0
    generalize w3.drew = Ws at hHeld BE ⊢
    refine pure_ (i := 0) (N := some 21) (v := ?_) (a' := ?_) #[true, false, false, false, false, false, false, false, false, false, false, false, false, false, false, false, false, false, false, false, false, false] rfl rfl (by kernel_rfl) (fun _ _ _ h => h) (Or.inl ⟨by rfl, ?_⟩) ?_ ?_
    rotate_left
    · intro w'; go_simp; try with_reducible rfl
    rotate_left
    · simp only [Act.put, List.setIfInBounds_toArray, List.set_cons_zero, List.set_cons_succ]; rfl
    refine pure_ (i := 1) (N := some 22) (v := ?_) (a' := ?_) #[true, true, false, false, false, false, false, false, false, false, false, false, false, false, false, false, false, false, false, false, false, false] rfl rfl (by kernel_rfl) (fun _ _ _ h => h) (Or.inl ⟨by rfl, ?_⟩) ?_ ?_
    rotate_left
    · intro w'; go_simp; try with_reducible rfl
    rotate_left
    · simp only [Act.put, List.setIfInBounds_toArray, List.set_cons_zero, List.set_cons_succ]; rfl
    refine pure_ (i := 2) (N := some 23) (v := ?_) (a' := ?_) #[true, true, true, false, false, false, false, false, false, false, false, false, false, false, false, false, false, false, false, false, false, false] rfl rfl (by kernel_rfl) (fun _ _ _ h => h) (Or.inl ⟨by rfl, ?_⟩) ?_ ?_
    rotate_left
    · intro w'; go_simp; try with_reducible rfl
    rotate_left
    · simp only [Act.put, List.setIfInBounds_toArray, List.set_cons_zero, List.set_cons_succ]; rfl
    refine pure_ (i := 3) (N := some 24) (v := ?_) (a' := ?_) #[true, true, true, true, false, false, false, false, false, false, false, false, false, false, false, false, false, false, false, false, false, false] rfl rfl (by kernel_rfl) (fun _ _ _ h => h) (Or.inl ⟨by rfl, ?_⟩) ?_ ?_
    rotate_left
    · intro w'; go_simp; try with_reducible rfl
    rotate_left
    · simp only [Act.put, List.setIfInBounds_toArray, List.set_cons_zero, List.set_cons_succ]; rfl
    refine take_ (i := 4) (N := some 25) (v := ?_) (a' := ?_) #[true, true, true, true, true, false, false, false, false, false, false, false, false, false, false, false, false, false, false, false, false, false] rfl rfl (by kernel_rfl) (fun _ _ _ h => h) (Or.inl ⟨by rfl, ?_⟩) hHeld ?_ ?_
    rotate_left
    · rintro w' ⟨s0, s1, s2, s3⟩; go_simp; try with_reducible rfl
    rotate_left
    · simp only [Act.put, List.setIfInBounds_toArray, List.set_cons_zero, List.set_cons_succ]; rfl
    refine pure_ (i := 5) (N := some 26) (v := ?_) (a' := ?_) #[true, true, true, true, true, true, false, false, false, false, false, false, false, false, false, false, false, false, false, false, false, false] rfl rfl (by kernel_rfl) (fun _ _ _ h => h) (Or.inl ⟨by rfl, ?_⟩) ?_ ?_
    rotate_left
    · intro w'; go_simp; try with_reducible rfl
    rotate_left
    · simp only [Act.put, List.setIfInBounds_toArray, List.set_cons_zero, List.set_cons_succ]; rfl
    refine pure_ (i := 6) (N := some 27) (v := ?_) (a' := ?_) #[true, true, true, true, true, true, true, false, false, false, false, false, false, false, false, false, false, false, false, false, false, false] rfl rfl (by kernel_rfl) (fun _ _ _ h => h) (Or.inl ⟨by rfl, ?_⟩) ?_ ?_
    rotate_left
    · intro w'; go_simp; try with_reducible rfl
    rotate_left
    · simp only [Act.put, List.setIfInBounds_toArray, List.set_cons_zero, List.set_cons_succ]; rfl
    refine pure_ (i := 7) (N := some 28) (v := ?_) (a' := ?_) #[true, true, true, true, true, true, true, true, false, false, false, false, false, false, false, false, false, false, false, false, false, false] rfl rfl (by kernel_rfl) (fun _ _ _ h => h) (Or.inl ⟨by rfl, ?_⟩) ?_ ?_
    rotate_left
    · intro w'; go_simp; try with_reducible rfl
    rotate_left
    · simp only [Act.put, List.setIfInBounds_toArray, List.set_cons_zero, List.set_cons_succ]; rfl
    refine take_ (i := 8) (N := some 29) (v := ?_) (a' := ?_) #[true, true, true, true, true, true, true, true, true, false, false, false, false, false, false, false, false, false, false, false, false, false] rfl rfl (by kernel_rfl) (fun _ _ _ h => h) (Or.inl ⟨by rfl, ?_⟩) hHeld ?_ ?_
    rotate_left
    · rintro w' ⟨s0, s1, s2, s3⟩; go_simp; try with_reducible rfl
    rotate_left
    · simp only [Act.put, List.setIfInBounds_toArray, List.set_cons_zero, List.set_cons_succ]; rfl
    refine pure_ (i := 9) (N := some 30) (v := ?_) (a' := ?_) #[true, true, true, true, true, true, true, true, true, true, false, false, false, false, false, false, false, false, false, false, false, false] rfl rfl (by kernel_rfl) (fun _ _ _ h => h) (Or.inl ⟨by rfl, ?_⟩) ?_ ?_
    rotate_left
    · intro w'; go_simp; try with_reducible rfl
    rotate_left
    · simp only [Act.put, List.setIfInBounds_toArray, List.set_cons_zero, List.set_cons_succ]; rfl
    refine pure_ (i := 10) (N := some 31) (v := ?_) (a' := ?_) #[true, true, true, true, true, true, true, true, true, true, true, false, false, false, false, false, false, false, false, false, false, false] rfl rfl (by kernel_rfl) (fun _ _ _ h => h) (Or.inl ⟨by rfl, ?_⟩) ?_ ?_
    rotate_left
    · intro w'; go_simp; try with_reducible rfl
    rotate_left
    · simp only [Act.put, List.setIfInBounds_toArray, List.set_cons_zero, List.set_cons_succ]; rfl
    refine pure_ (i := 11) (N := some 32) (v := ?_) (a' := ?_) #[true, true, true, true, true, true, true, true, true, true, true, true, false, false, false, false, false, false, false, false, false, false] rfl rfl (by kernel_rfl) (fun _ _ _ h => h) (Or.inl ⟨by rfl, ?_⟩) ?_ ?_
    rotate_left
    · intro w'; go_simp; try with_reducible rfl
    rotate_left
    · simp only [Act.put, List.setIfInBounds_toArray, List.set_cons_zero, List.set_cons_succ]; rfl
    refine take_ (i := 12) (N := some 33) (v := ?_) (a' := ?_) #[true, true, true, true, true, true, true, true, true, true, true, true, true, false, false, false, false, false, false, false, false, false] rfl rfl (by kernel_rfl) (fun _ _ _ h => h) (Or.inl ⟨by rfl, ?_⟩) hHeld ?_ ?_
    rotate_left
    · rintro w' ⟨s0, s1, s2, s3⟩; go_simp; try with_reducible rfl
    rotate_left
    · simp only [Act.put, List.setIfInBounds_toArray, List.set_cons_zero, List.set_cons_succ]; rfl
    refine pure_ (i := 13) (N := some 34) (v := ?_) (a' := ?_) #[true, true, true, true, true, true, true, true, true, true, true, true, true, true, false, false, false, false, false, false, false, false] rfl rfl (by kernel_rfl) (fun _ _ _ h => h) (Or.inl ⟨by rfl, ?_⟩) ?_ ?_
    rotate_left
    · intro w'; go_simp; try with_reducible rfl
    rotate_left
    · simp only [Act.put, List.setIfInBounds_toArray, List.set_cons_zero, List.set_cons_succ]; rfl
    refine take_ (i := 14) (N := some 35) (v := ?_) (a' := ?_) #[true, true, true, true, true, true, true, true, true, true, true, true, true, true, true, false, false, false, false, false, false, false] rfl rfl (by kernel_rfl) (fun _ _ _ h => h) (Or.inl ⟨by rfl, ?_⟩) hHeld ?_ ?_
    rotate_left
    · rintro w' ⟨s0, s1, s2, s3⟩; go_simp; try with_reducible rfl
    rotate_left
    · simp only [Act.put, List.setIfInBounds_toArray, List.set_cons_zero, List.set_cons_succ]; rfl
    refine pure_ (i := 15) (N := some 36) (v := ?_) (a' := ?_) #[true, true, true, true, true, true, true, true, true, true, true, true, true, true, true, true, false, false, false, false, false, false] rfl rfl (by kernel_rfl) (fun _ _ _ h => h) (Or.inl ⟨by rfl, ?_⟩) ?_ ?_
    rotate_left
    · intro w'; go_simp; try with_reducible rfl
    rotate_left
    · simp only [Act.put, List.setIfInBounds_toArray, List.set_cons_zero, List.set_cons_succ]; rfl
    refine take_ (i := 16) (N := some 37) (v := ?_) (a' := ?_) #[true, true, true, true, true, true, true, true, true, true, true, true, true, true, true, true, true, false, false, false, false, false] rfl rfl (by kernel_rfl) (fun _ _ _ h => h) (Or.inl ⟨by rfl, ?_⟩) hHeld ?_ ?_
    rotate_left
    · rintro w' ⟨s0, s1, s2, s3⟩; go_simp; try with_reducible rfl
    rotate_left
    · simp only [Act.put, List.setIfInBounds_toArray, List.set_cons_zero, List.set_cons_succ]; rfl
    refine pure_ (i := 17) (N := some 38) (v := ?_) (a' := ?_) #[true, true, true, true, true, true, true, true, true, true, true, true, true, true, true, true, true, true, false, false, false, false] rfl rfl (by kernel_rfl) (fun _ _ _ h => h) (Or.inl ⟨by rfl, ?_⟩) ?_ ?_
    rotate_left
    · intro w'; go_simp; try with_reducible rfl
    rotate_left
    · simp only [Act.put, List.setIfInBounds_toArray, List.set_cons_zero, List.set_cons_succ]; rfl
    refine pure_ (i := 18) (N := some 39) (v := ?_) (a' := ?_) #[true, true, true, true, true, true, true, true, true, true, true, true, true, true, true, true, true, true, true, false, false, false] rfl rfl (by kernel_rfl) (fun _ _ _ h => h) (Or.inl ⟨by rfl, ?_⟩) ?_ ?_
    rotate_left
    · intro w'; go_simp; try with_reducible rfl
    rotate_left
    · simp only [Act.put, List.setIfInBounds_toArray, List.set_cons_zero, List.set_cons_succ]; rfl
    refine one_ (i := 19) (N := none) #[true, true, true, true, true, true, true, true, true, true, true, true, true, true, true, true, true, true, true, true, false, false] rfl rfl (by kernel_rfl) (by decide) (fun K hK => ?_)
    have hSt1 := (HST.out.on BE.out).jump hp (HL0.out.on BE.out) (wd l 1)
    rw [hm1] at hSt1
    have LF := HL0.out.on BE.out
    have fz := LF.frozen (m * 4 + 3)
    have cz := LF.c3
    rw [hm1] at cz
    clear LF
    go_simp
    refine hK.out _ _ (keepF4 hHeld hgb hgw hgx hgx _) (fun hHeld => ?_)
    clear hK K
    refine norm_ (a' := ?_) ?_ ?_
    rotate_left
    · rfl
    refine pure_ (i := 20) (N := some 40) (v := ?_) (a' := ?_) #[true, true, true, true, true, true, true, true, true, true, true, true, true, true, true, true, true, true, true, true, true, false] rfl rfl (by kernel_rfl) (fun _ _ _ h => h) (Or.inl ⟨by rfl, ?_⟩) ?_ ?_
    rotate_left
    · intro w'; go_simp; try with_reducible rfl
    rotate_left
    · simp only [Act.put, List.setIfInBounds_toArray, List.set_cons_zero, List.set_cons_succ]; rfl
    refine oneD_ (i := 21) (N := none) #[true, true, true, true, true, true, true, true, true, true, true, true, true, true, true, true, true, true, true, true, true, true] rfl rfl (by kernel_rfl) (by decide) (fun K hK => ?_)
    obtain ⟨g', cap', e', ⟨u, hu⟩, hfz2, hSt2⟩ := hSt1.jumpN hjp l.f0
    rw [eJ] at e'
    injection e' with e' _ _
    injection e' with e'
    injection e' with e' _ _
    subst e'
    rw [hjm] at hu hfz2 hSt2
    go_simp
    refine hK.out _ _ ?_
    clear hK K
    refine norm_ (a' := ?_) ?_ ?_
    rotate_left
    · rfl
    refine done_ (by kernel_rfl) ?_
    go_wp2
    go_ret
    rw [hr] at hSt2
    exact ⟨rfl, hSt2.did, fun _ => ⟨_, _, _, hSt2⟩⟩
end Go.Proofs.YtdbjjbooalkkbaaGreatDoor.P

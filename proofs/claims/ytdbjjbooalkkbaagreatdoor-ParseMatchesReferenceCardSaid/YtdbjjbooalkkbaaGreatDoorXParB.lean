/- The parser's method begin. -/
import Derived.Test.YtdbjjbooalkkbaaGreatDoorXParB0
set_option linter.unusedVariables false
set_option linter.unusedSimpArgs false
namespace Go.Proofs.YtdbjjbooalkkbaaGreatDoor.P
open Go.RowKit Go.Shelf Go.Proofs.YtdbjjbooalkkbaaGreatDoorW.PrintWords Go.Proofs.YtdbjjbooalkkbaaGreatDoorW.PrintLast Go.Proofs.YtdbjjbooalkkbaaGreatDoorW.PrintMore

theorem sl_S {α : Type} {d : Kd α} {e : Nat} {w : World} {base : Nat} {ok : Nat → Prop} {v : Value} {xs : List α} (h : Kd.S d e w base ok v xs) : ∃ n A c, v = .slice A n c := by obtain ⟨A, c, e⟩ := Kd.S_slice h; exact ⟨_, A, c, e⟩
theorem sl_R {α : Type} {d : Kd α} {e : Nat} {w : World} {base : Nat} {ok : Nat → Prop} {v : Value} {xs : List α} (h : d.R e w base ok v xs) : ∃ n A c, v = .slice A n c := by obtain ⟨A, c, e⟩ := Kd.R_slice h; exact ⟨_, A, c, e⟩
theorem sOf {B b : Nat} {s : PSt} {vR vL vJ vR' vL' vJ' : Value} {w0 W : World} {xs : List SR} {ls js : List Int} {lits : List (Nat × Nat × Array Value)} {rb lb : Nat} {lab : ByteArray} {l : LN} {v : Value}
    (h : Stage B b 57 (pc s vR vL vJ) w0 vR' xs vL' ls vJ' js lits W) (h1 : (rb, 47, (litR lab).toArray) ∈ lits) (h2 : (lb, 61, #[.int .i64 l.f0, v]) ∈ lits) :
    W.cell? ⟨b, 3, none⟩ = some vR ∧ W.cell? ⟨b, 5, none⟩ = some vL ∧ W.cell? ⟨b, 6, none⟩ = some vJ ∧ W.cell? ⟨rb, 0, none⟩ = some (.string lab) ∧ W.cell? ⟨rb, 1, none⟩ = some (.slice none 0 0) ∧ W.cell? ⟨rb, 2, none⟩ = some (.slice none 0 0) ∧ W.cell? ⟨rb, 3, none⟩ = some (.string ⟨#[]⟩) ∧ W.cell? ⟨lb, 0, none⟩ = some (.int .i64 l.f0) :=
  ⟨h.bx.cell 3 _ rfl, h.bx.cell 5 _ rfl, h.bx.cell 6 _ rfl, (h.lit _ h1).1.cell 0 _ rfl, (h.lit _ h1).1.cell 1 _ rfl, (h.lit _ h1).1.cell 2 _ rfl, (h.lit _ h1).1.cell 3 _ rfl, (h.lit _ h2).1.cell 0 _ rfl⟩
theorem Stage.withLits {B b t : Nat} {cs : Array Value} {w0 w : World} {vR vL vJ : Value} {xs : List SR} {ls js : List Int} {lits lits2 : List (Nat × Nat × Array Value)} (h : Stage B b t cs w0 vR xs vL ls vJ js lits w)
    (hl : ∀ p ∈ lits2, Bx p.1 p.2.1 p.2.2 w ∧ p.1 ≠ b ∧ vR.ownBlock ≠ some p.1 ∧ vL.ownBlock ≠ some p.1 ∧ vJ.ownBlock ≠ some p.1) : Stage B b t cs w0 vR xs vL ls vJ js lits2 w := ⟨h.bx, h.le, h.ty, h.did, h.R, h.L, h.J, h.ne, hl⟩

set_option maxRecDepth 100000 in
set_option maxHeartbeats 16000000 in
theorem begin_walk {B b : Nat} (s : PSt) (l : LN) (A : Option Addr) (c : Nat) (vR vL vJ : Value) (w : World) (St : Stage B b 57 (pc s vR vL vJ) w vR s.rungs vL s.lines vJ s.jumps [] w) (hok : POk s)
    (hC : Kd.string.C w A l.f1.length l.f1) (hn : l.f1.length = 1 ∨ l.f1.length = 2) :
    Calls Tryz.prog 49 #[.pointer (some ⟨b, 0, none⟩), .agg #[.int .i64 l.f0, .slice A l.f1.length c]] w (MPost B b w (beginP s l)) := by
  obtain ⟨wb, wo, rfl, hw⟩ := words_at hC (by omega)
  have hw : ∀ i, i < l.f1.length → w.cell? ⟨wb, wo + i, none⟩ = some (.string (wd l i)) := hw
  obtain ⟨AR, cR, eR, hlR, hCR⟩ := Kd.S_reads St.R
  have kb3 : w.cell? ⟨b, 3, none⟩ = some (.slice AR s.rungs.length cR) := by rw [St.bx.cell 3 vR rfl, eR]
  clear eR
  have hbx := St.bx.lt
  have HST := Lib.hid St
  have HB := Lib.hid St.base
  have HCR := Lib.hid hCR
  have B0 := Lib.hid (Below.refl w.heap.size w)
  obtain ⟨R, hR⟩ : ∃ R, R = beginP s l := ⟨_, rfl⟩
  rw [← hR]
  have HR := Lib.hid hR
  have hr64 := hok.rungs
  clear hR hC St hCR
  have kb3' : ((w.alloc (Obj.cells #[.int .i64 l.f0, .slice (some ⟨wb, wo, none⟩) l.f1.length c] 61)).alloc (Obj.cells #[.string ⟨#[]⟩, .slice none 0 0, .slice none 0 0, .string ⟨#[]⟩] 47)).cell? ⟨b, 3, none⟩ = some (.slice AR s.rungs.length cR) := pw_cell_below (below_alloc (below_alloc B0.out _) _) kb3
  obtain ⟨nw, hq⟩ : ∃ nw, l.f1.length = nw := ⟨_, rfl⟩
  have HQ := Lib.hid hq
  rw [hq] at hn hw kb3' ⊢
  clear hq
  go_enter Tryz.func49, Tryz.ntmps49
  go_upto_if 9 with fail
  go_cut [] (fun wc => ∃ lab, Hid (R = if s.rungs.length = 64 then (10, s) else (0, addP s l.f0 lab)) ∧ Hid (Below w.heap.size w wc) ∧ Hid (Bx (w.heap.size + 1) 47 (litR lab).toArray wc) ∧ Hid (Bx w.heap.size 61 #[.int .i64 l.f0, .slice (some ⟨wb, wo, none⟩) nw c] wc))
  case first =>
    have RN := fun lab => Lib.hid (show Bx (w.heap.size + 1) 47 (litR lab).toArray ((w.alloc (Obj.cells #[.int .i64 l.f0, .slice (some ⟨wb, wo, none⟩) nw c] 61)).alloc (Obj.cells (litR lab).toArray 47)) from by have h := Bx.new (w.alloc (Obj.cells #[.int .i64 l.f0, .slice (some ⟨wb, wo, none⟩) nw c] 61)) 47 (litR lab).toArray; rwa [show (w.alloc (Obj.cells #[.int .i64 l.f0, .slice (some ⟨wb, wo, none⟩) nw c] 61)).heap.size = w.heap.size + 1 by simp] at h)
    have LN0 := Lib.hid (Bx.new w 61 #[.int .i64 l.f0, .slice (some ⟨wb, wo, none⟩) nw c])
    rcases hn with rfl | rfl
    · have ht : decide ((1 : Int) < ((1 : Nat) : Int)) = false := decide_eq_false (by omega)
      have HR' := Lib.hid (show R = if s.rungs.length = 64 then (10, s) else (0, addP s l.f0 ⟨#[]⟩) from by rw [HR.out]; unfold beginP; rw [if_neg (by have := HQ.out; omega)])
      rw [ht]
      go_wp2
      go_meet
      case rel => exact ⟨⟨#[]⟩, HR', Lib.hid (below_alloc (below_alloc B0.out _) _), RN _, Lib.hid (LN0.out.alloc _)⟩
    · have ht : decide ((1 : Int) < ((2 : Nat) : Int)) = true := decide_eq_true (by omega)
      have HR' := Lib.hid (show R = (if isName (wd l 1).data.toList = false then (6, s) else if hasLabel s.rungs (wd l 1) = true then (9, s) else if s.rungs.length = 64 then (10, s) else (0, addP s l.f0 (wd l 1))) from by rw [HR.out]; unfold beginP; rw [if_pos (by have := HQ.out; omega)])
      rw [ht]
      have BA := Lib.hid (below_alloc (below_alloc B0.out (Obj.cells #[.int .i64 l.f0, .slice (some ⟨wb, wo, none⟩) 2 c] 61)) (Obj.cells (litR (wd l 1)).toArray 47))
      have hw1 := hw 1 (by omega)
      have x1 := pw_cell_below (below_alloc (below_alloc B0.out (Obj.cells #[.int .i64 l.f0, .slice (some ⟨wb, wo, none⟩) 2 c] 61)) (Obj.cells #[.string ⟨#[]⟩, .slice none 0 0, .slice none 0 0, .string ⟨#[]⟩] 47)) hw1
      have HN1 := Lib.hid (fun W => lex_IsName.calls (wd l 1) _ W rfl)
      have HCF := Lib.hid (fun W (hb : Below w.heap.size w W) (hx : Bx (w.heap.size + 1) 47 (litR (wd l 1)).toArray W) => has_begin (c := cR) hx rfl (Kd.C_below HCR.out hb))
      generalize hn2 : isName (wd l 1).data.toList = b2 at HN1 HR'
      generalize hn3 : hasLabel s.rungs (wd l 1) = b3 at HCF HR'
      cases b2
      · have hR : R = (6, s) := HR'.out
        subst hR
        clear HR' HR
        go_wp2_with (go_at_call 67; (with_reducible refine (HN1.out _).mono ?_); rintro e w3 ⟨rfl, hb⟩; have B3 := Lib.hid (below_step BA.out hb); clear hb)
        go_ret
        exact MPost.bad (by decide) HB.out B3.out
      · cases b3
        · have HR2 := Lib.hid (show R = if s.rungs.length = 64 then (10, s) else (0, addP s l.f0 (wd l 1)) from HR'.out)
          clear HR' HR
          go_wp2_with (first
            | (go_at_call 67; (with_reducible refine (HN1.out _).mono ?_); rintro e w3 ⟨rfl, hb⟩; have B3 := Lib.hid (below_step BA.out hb); have R3 := Lib.hid ((RN (wd l 1)).out.on hb); have L3 := Lib.hid ((LN0.out.alloc (Obj.cells (litR (wd l 1)).toArray 47)).on hb); have kq := pw_cell_below B3.out kb3; clear hb)
            | (go_at_call 23; (with_reducible refine (HCF.out _ B3.out R3.out).mono ?_); rintro e w4 ⟨rfl, hb⟩; have B4 := Lib.hid (below_step B3.out hb); have R4 := Lib.hid (R3.out.on hb); have L4 := Lib.hid (L3.out.on hb); clear hb))
          go_meet
          case rel => exact ⟨wd l 1, HR2, B4, R4, L4⟩
        · have hR : R = (9, s) := HR'.out
          subst hR
          clear HR' HR
          go_wp2_with (first
            | (go_at_call 67; (with_reducible refine (HN1.out _).mono ?_); rintro e w3 ⟨rfl, hb⟩; have B3 := Lib.hid (below_step BA.out hb); have R3 := Lib.hid ((RN (wd l 1)).out.on hb); have kq := pw_cell_below B3.out kb3; clear hb)
            | (go_at_call 23; (with_reducible refine (HCF.out _ B3.out R3.out).mono ?_); rintro e w4 ⟨rfl, hb⟩; have B4 := Lib.hid (below_step B3.out hb); clear hb))
          go_ret
          exact MPost.bad (by decide) HB.out B4.out
  case rest =>
    clear kb3' hw hn HR
    obtain ⟨lab, HRL, BC, RC, LC⟩ := hcut
    have kq := pw_cell_below BC.out kb3
    by_cases t64 : s.rungs.length = 64
    · have hR : R = (10, s) := by rw [HRL.out, if_pos t64]
      subst hR
      go_wp2
      go_ret
      exact MPost.bad (by decide) HB.out BC.out
    · have t64' : (((s.rungs.length : Nat) : Int) == 64) = false := by rw [beq_eq_false_iff_ne]; omega
      have hR : R = (0, addP s l.f0 lab) := by rw [HRL.out, if_neg t64]
      subst hR
      clear HRL
      go_wp2
      have hR64 : s.rungs.length ≤ 1000000 := by omega
      have hL64 : s.lines.length ≤ 1000000 := by have := hok.lines; omega
      have hJ64 : s.jumps.length ≤ 1000000 := by have := hok.jumps; omega
      have St00 := HST.out.on BC.out
      have St0 := Lib.hid ((St00.withLits (lits2 := [(w.heap.size + 1, 47, (litR lab).toArray), (w.heap.size, 61, #[.int .i64 l.f0, .slice (some ⟨wb, wo, none⟩) nw c])]) (fun p hp => by
        have q1 := Kd.S_lt HST.out.R
        have q2 := Kd.R_lt HST.out.L
        have q3 := Kd.R_lt HST.out.J
        rcases List.mem_cons.1 hp with rfl | hp
        · exact ⟨RC.out, by show w.heap.size + 1 ≠ b; omega, fun e => absurd (q1 _ e) (by show ¬ w.heap.size + 1 < w.heap.size; omega), fun e => absurd (q2 _ e) (by show ¬ w.heap.size + 1 < w.heap.size; omega), fun e => absurd (q3 _ e) (by show ¬ w.heap.size + 1 < w.heap.size; omega)⟩
        · obtain rfl := List.mem_singleton.1 hp
          exact ⟨LC.out, by show w.heap.size ≠ b; omega, fun e => absurd (q1 _ e) (by show ¬ w.heap.size < w.heap.size; omega), fun e => absurd (q2 _ e) (by show ¬ w.heap.size < w.heap.size; omega), fun e => absurd (q3 _ e) (by show ¬ w.heap.size < w.heap.size; omega)⟩)).drew)
      refine start_ (n := 35) (S := fun w' => w'.cell? ⟨b, 3, none⟩ = some vR ∧ w'.cell? ⟨b, 5, none⟩ = some vL ∧ w'.cell? ⟨b, 6, none⟩ = some vJ ∧ w'.cell? ⟨w.heap.size + 1, 0, none⟩ = some (.string lab) ∧ w'.cell? ⟨w.heap.size + 1, 1, none⟩ = some (.slice none 0 0) ∧ w'.cell? ⟨w.heap.size + 1, 2, none⟩ = some (.slice none 0 0) ∧ w'.cell? ⟨w.heap.size + 1, 3, none⟩ = some (.string ⟨#[]⟩) ∧ w'.cell? ⟨w.heap.size, 0, none⟩ = some (.int .i64 l.f0)) (ds := [28, 31, 34]) (bs 35 0) (by kernel_rfl) rfl (by kernel_rfl) (sOf St0.out List.mem_cons_self (List.mem_cons_of_mem _ List.mem_cons_self)) (fun hHeld => ?_)
      clear St00 kq RC LC BC
      generalize wc.drew = Ws at hHeld St0 ⊢
      refine pure_ (i := 0) (N := some 35) (v := ?_) (a' := ?_) (bs 35 1) rfl rfl (by kernel_rfl) (fun _ _ _ h => h) (Or.inl ⟨by rfl, ?_⟩) ?_ ?_
      rotate_left
      · intro w'; go_simp; try with_reducible rfl
      rotate_left
      · simp only [Act.put, List.setIfInBounds_toArray, List.set_cons_zero, List.set_cons_succ]; rfl
      refine pure_ (i := 1) (N := some 36) (v := ?_) (a' := ?_) (bs 35 3) rfl rfl (by kernel_rfl) (fun _ _ _ h => h) (Or.inl ⟨by rfl, ?_⟩) ?_ ?_
      rotate_left
      · intro w'; go_simp; try with_reducible rfl
      rotate_left
      · simp only [Act.put, List.setIfInBounds_toArray, List.set_cons_zero, List.set_cons_succ]; rfl
      refine pure_ (i := 2) (N := some 37) (v := ?_) (a' := ?_) (bs 35 7) rfl rfl (by kernel_rfl) (fun _ _ _ h => h) (Or.inl ⟨by rfl, ?_⟩) ?_ ?_
      rotate_left
      · intro w'; go_simp; try with_reducible rfl
      rotate_left
      · simp only [Act.put, List.setIfInBounds_toArray, List.set_cons_zero, List.set_cons_succ]; rfl
      refine pure_ (i := 3) (N := some 38) (v := ?_) (a' := ?_) (bs 35 15) rfl rfl (by kernel_rfl) (fun _ _ _ h => h) (Or.inl ⟨by rfl, ?_⟩) ?_ ?_
      rotate_left
      · intro w'; go_simp; try with_reducible rfl
      rotate_left
      · simp only [Act.put, List.setIfInBounds_toArray, List.set_cons_zero, List.set_cons_succ]; rfl
      refine pure_ (i := 4) (N := some 39) (v := ?_) (a' := ?_) (bs 35 31) rfl rfl (by kernel_rfl) (fun _ _ _ h => h) (Or.inl ⟨by rfl, ?_⟩) ?_ ?_
      rotate_left
      · intro w'; go_simp; try with_reducible rfl
      rotate_left
      · simp only [Act.put, List.setIfInBounds_toArray, List.set_cons_zero, List.set_cons_succ]; rfl
      refine pure_ (i := 5) (N := some 40) (v := ?_) (a' := ?_) (bs 35 63) rfl rfl (by kernel_rfl) (fun _ _ _ h => h) (Or.inl ⟨by rfl, ?_⟩) ?_ ?_
      rotate_left
      · intro w'; go_simp; try with_reducible rfl
      rotate_left
      · simp only [Act.put, List.setIfInBounds_toArray, List.set_cons_zero, List.set_cons_succ]; rfl
      refine pure_ (i := 6) (N := some 41) (v := ?_) (a' := ?_) (bs 35 127) rfl rfl (by kernel_rfl) (fun _ _ _ h => h) (Or.inl ⟨by rfl, ?_⟩) ?_ ?_
      rotate_left
      · intro w'; go_simp; try with_reducible rfl
      rotate_left
      · simp only [Act.put, List.setIfInBounds_toArray, List.set_cons_zero, List.set_cons_succ]; rfl
      refine take_ (i := 7) (N := some 42) (v := ?_) (a' := ?_) (bs 35 255) rfl rfl (by kernel_rfl) (fun _ _ _ h => h) (Or.inl ⟨by rfl, ?_⟩) hHeld ?_ ?_
      rotate_left
      · rintro w' ⟨s0, s1, s2, s3, s4, s5, s6, s7⟩; go_simp; try with_reducible rfl
      rotate_left
      · simp only [Act.put, List.setIfInBounds_toArray, List.set_cons_zero, List.set_cons_succ]; rfl
      refine take_ (i := 8) (N := some 43) (v := ?_) (a' := ?_) (bs 35 511) rfl rfl (by kernel_rfl) (fun _ _ _ h => h) (Or.inl ⟨by rfl, ?_⟩) hHeld ?_ ?_
      rotate_left
      · rintro w' ⟨s0, s1, s2, s3, s4, s5, s6, s7⟩; go_simp; try with_reducible rfl
      rotate_left
      · simp only [Act.put, List.setIfInBounds_toArray, List.set_cons_zero, List.set_cons_succ]; rfl
      refine pure_ (i := 11) (N := some 46) (v := ?_) (a' := ?_) (bs 35 2559) rfl rfl (by kernel_rfl) (fun _ _ _ h => h) (Or.inl ⟨by rfl, ?_⟩) ?_ ?_
      rotate_left
      · intro w'; go_simp; try with_reducible rfl
      rotate_left
      · simp only [Act.put, List.setIfInBounds_toArray, List.set_cons_zero, List.set_cons_succ]; rfl
      refine pure_ (i := 12) (N := some 47) (v := ?_) (a' := ?_) (bs 35 6655) rfl rfl (by kernel_rfl) (fun _ _ _ h => h) (Or.inl ⟨by rfl, ?_⟩) ?_ ?_
      rotate_left
      · intro w'; go_simp; try with_reducible rfl
      rotate_left
      · simp only [Act.put, List.setIfInBounds_toArray, List.set_cons_zero, List.set_cons_succ]; rfl
      refine pure_ (i := 13) (N := some 48) (v := ?_) (a' := ?_) (bs 35 14847) rfl rfl (by kernel_rfl) (fun _ _ _ h => h) (Or.inl ⟨by rfl, ?_⟩) ?_ ?_
      rotate_left
      · intro w'; go_simp; try with_reducible rfl
      rotate_left
      · simp only [Act.put, List.setIfInBounds_toArray, List.set_cons_zero, List.set_cons_succ]; rfl
      refine take_ (i := 14) (N := some 49) (v := ?_) (a' := ?_) (bs 35 31231) rfl rfl (by kernel_rfl) (fun _ _ _ h => h) (Or.inl ⟨by rfl, ?_⟩) hHeld ?_ ?_
      rotate_left
      · rintro w' ⟨s0, s1, s2, s3, s4, s5, s6, s7⟩; go_simp; try with_reducible rfl
      rotate_left
      · simp only [Act.put, List.setIfInBounds_toArray, List.set_cons_zero, List.set_cons_succ]; rfl
      refine pure_ (i := 15) (N := some 50) (v := ?_) (a' := ?_) (bs 35 63999) rfl rfl (by kernel_rfl) (fun _ _ _ h => h) (Or.inl ⟨by rfl, ?_⟩) ?_ ?_
      rotate_left
      · intro w'; go_simp; try with_reducible rfl
      rotate_left
      · simp only [Act.put, List.setIfInBounds_toArray, List.set_cons_zero, List.set_cons_succ]; rfl
      refine take_ (i := 16) (N := some 51) (v := ?_) (a' := ?_) (bs 35 129535) rfl rfl (by kernel_rfl) (fun _ _ _ h => h) (Or.inl ⟨by rfl, ?_⟩) hHeld ?_ ?_
      rotate_left
      · rintro w' ⟨s0, s1, s2, s3, s4, s5, s6, s7⟩; go_simp; try with_reducible rfl
      rotate_left
      · simp only [Act.put, List.setIfInBounds_toArray, List.set_cons_zero, List.set_cons_succ]; rfl
      refine pure_ (i := 19) (N := some 54) (v := ?_) (a' := ?_) (bs 35 653823) rfl rfl (by kernel_rfl) (fun _ _ _ h => h) (Or.inl ⟨by rfl, ?_⟩) ?_ ?_
      rotate_left
      · intro w'; go_simp; try with_reducible rfl
      rotate_left
      · simp only [Act.put, List.setIfInBounds_toArray, List.set_cons_zero, List.set_cons_succ]; rfl
      refine pure_ (i := 20) (N := some 55) (v := ?_) (a' := ?_) (bs 35 1702399) rfl rfl (by kernel_rfl) (fun _ _ _ h => h) (Or.inl ⟨by rfl, ?_⟩) ?_ ?_
      rotate_left
      · intro w'; go_simp; try with_reducible rfl
      rotate_left
      · simp only [Act.put, List.setIfInBounds_toArray, List.set_cons_zero, List.set_cons_succ]; rfl
      refine pure_ (i := 21) (N := some 56) (v := ?_) (a' := ?_) (bs 35 3799551) rfl rfl (by kernel_rfl) (fun _ _ _ h => h) (Or.inl ⟨by rfl, ?_⟩) ?_ ?_
      rotate_left
      · intro w'; go_simp; try with_reducible rfl
      rotate_left
      · simp only [Act.put, List.setIfInBounds_toArray, List.set_cons_zero, List.set_cons_succ]; rfl
      refine take_ (i := 22) (N := some 57) (v := ?_) (a' := ?_) (bs 35 7993855) rfl rfl (by kernel_rfl) (fun _ _ _ h => h) (Or.inl ⟨by rfl, ?_⟩) hHeld ?_ ?_
      rotate_left
      · rintro w' ⟨s0, s1, s2, s3, s4, s5, s6, s7⟩; go_simp; try with_reducible rfl
      rotate_left
      · simp only [Act.put, List.setIfInBounds_toArray, List.set_cons_zero, List.set_cons_succ]; rfl
      refine wpAnyLast_ready (rs := [9, 17, 23]) (by kernel_rfl) (by simp) ?_
      refine consL_ (i := 9) (N := some 44) (bs 35 7994367) rfl rfl rfl (by decide) (fun K hK => ?_) ?_
      · go_simp
        have St1 := Lib.hid (St0.out.made 47 #[.string lab, .slice none 0 0, .slice none 0 0, .string ⟨#[]⟩])
        refine hK.out _ _ (sOf St1.out (List.mem_cons_of_mem _ List.mem_cons_self) (List.mem_cons_of_mem _ (List.mem_cons_of_mem _ List.mem_cons_self))) (fun hHeld => ?_)
        clear hK K
        refine norm_ (a' := ?_) ?_ ?_
        rotate_left
        · rfl
        generalize Ws.alloc (Obj.cells #[.string lab, .slice none 0 0, .slice none 0 0, .string ⟨#[]⟩] 47) = W1 at hHeld St1 ⊢
        refine wpAnyLast_ready (rs := [10, 17, 23]) (by kernel_rfl) (by simp) ?_
        refine consL_ (i := 10) (N := some 45) (bs 35 7995391) rfl rfl rfl (by decide) (fun K hK => ?_) ?_
        · obtain ⟨u10, W2, hrun, St2⟩ := St1.out.appR (l := lab) (by first | exact List.mem_cons_self | exact List.mem_cons_of_mem _ List.mem_cons_self | exact List.mem_cons_of_mem _ (List.mem_cons_of_mem _ List.mem_cons_self)) hR64 23
          replace St2 := Lib.hid St2
          refine step_app (by rfl) rfl rfl rfl hrun ?_
          refine hK.out _ _ (sOf St2.out (List.mem_cons_of_mem _ List.mem_cons_self) (List.mem_cons_of_mem _ (List.mem_cons_of_mem _ List.mem_cons_self))) (fun hHeld => ?_)
          clear hK K hrun
          refine norm_ (a' := ?_) ?_ ?_
          rotate_left
          · show Act.put _ (some 45) _ = _; simp only [Act.put, List.setIfInBounds_toArray, List.set_cons_zero, List.set_cons_succ]; rfl
          refine wpAnyLast_ready (rs := [17, 23]) (by kernel_rfl) (by simp) ?_
          refine consL_ (i := 17) (N := some 52) (bs 35 8126463) rfl rfl rfl (by decide) (fun K hK => ?_) ?_
          · go_simp
            have St3 := Lib.hid (St2.out.made 3 #[.int .i64 l.f0])
            refine hK.out _ _ (sOf St3.out (List.mem_cons_of_mem _ (List.mem_cons_of_mem _ List.mem_cons_self)) (List.mem_cons_of_mem _ (List.mem_cons_of_mem _ (List.mem_cons_of_mem _ List.mem_cons_self)))) (fun hHeld => ?_)
            clear hK K
            refine norm_ (a' := ?_) ?_ ?_
            rotate_left
            · rfl
            generalize W2.alloc (Obj.cells #[.int .i64 l.f0] 3) = W3 at hHeld St3 ⊢
            refine wpAnyLast_ready (rs := [18, 23]) (by kernel_rfl) (by simp) ?_
            refine consL_ (i := 18) (N := some 53) (bs 35 8388607) rfl rfl rfl (by decide) (fun K hK => ?_) ?_
            · obtain ⟨u18, W4, hrun, St4⟩ := St3.out.appL (x := l.f0) (by first | exact List.mem_cons_self | exact List.mem_cons_of_mem _ List.mem_cons_self | exact List.mem_cons_of_mem _ (List.mem_cons_of_mem _ List.mem_cons_self)) hL64 26
              replace St4 := Lib.hid St4
              refine step_app (by rfl) rfl rfl rfl hrun ?_
              refine hK.out _ _ (sOf St4.out (List.mem_cons_of_mem _ (List.mem_cons_of_mem _ List.mem_cons_self)) (List.mem_cons_of_mem _ (List.mem_cons_of_mem _ (List.mem_cons_of_mem _ List.mem_cons_self)))) (fun hHeld => ?_)
              clear hK K hrun
              refine norm_ (a' := ?_) ?_ ?_
              rotate_left
              · show Act.put _ (some 53) _ = _; simp only [Act.put, List.setIfInBounds_toArray, List.set_cons_zero, List.set_cons_succ]; rfl
              refine one_ (i := 23) (N := some 58) (bs 35 16777215) rfl rfl (by kernel_rfl) (by decide) (fun K hK => ?_)
              go_simp
              have St5 := Lib.hid (St4.out.made 3 #[.int .i64 0])
              refine hK.out _ _ (sOf St5.out (List.mem_cons_of_mem _ (List.mem_cons_of_mem _ (List.mem_cons_of_mem _ List.mem_cons_self))) (List.mem_cons_of_mem _ (List.mem_cons_of_mem _ (List.mem_cons_of_mem _ (List.mem_cons_of_mem _ List.mem_cons_self))))) (fun hHeld => ?_)
              clear hK K
              refine norm_ (a' := ?_) ?_ ?_
              rotate_left
              · rfl
              generalize W4.alloc (Obj.cells #[.int .i64 0] 3) = W5 at hHeld St5 ⊢
              refine one_ (i := 24) (N := some 59) (bs 35 33554431) rfl rfl (by kernel_rfl) (by decide) (fun K hK => ?_)
              obtain ⟨u24, W6, hrun, St6⟩ := St5.out.appJ (x := 0) (by first | exact List.mem_cons_self | exact List.mem_cons_of_mem _ List.mem_cons_self | exact List.mem_cons_of_mem _ (List.mem_cons_of_mem _ List.mem_cons_self)) hJ64 26
              replace St6 := Lib.hid St6
              refine step_app (by rfl) rfl rfl rfl hrun ?_
              refine hK.out _ _ (sOf St6.out (List.mem_cons_of_mem _ (List.mem_cons_of_mem _ (List.mem_cons_of_mem _ List.mem_cons_self))) (List.mem_cons_of_mem _ (List.mem_cons_of_mem _ (List.mem_cons_of_mem _ (List.mem_cons_of_mem _ List.mem_cons_self))))) (fun hHeld => ?_)
              clear hK K hrun
              refine norm_ (a' := ?_) ?_ ?_
              rotate_left
              · show Act.put _ (some 59) _ = _; simp only [Act.put, List.setIfInBounds_toArray, List.set_cons_zero, List.set_cons_succ]; rfl
              obtain ⟨n1, A1, c1, rfl⟩ := sl_S St6.out.R; obtain ⟨n2, A2, c2, rfl⟩ := sl_R St6.out.L; obtain ⟨n3, A3, c3, rfl⟩ := sl_R St6.out.J
              have k3 := St6.out.bx.cell 3 vR rfl; have k5 := St6.out.bx.cell 5 vL rfl; have k6 := St6.out.bx.cell 6 vJ rfl; have z3 := St6.out.bx.frozen 3; have z5 := St6.out.bx.frozen 5; have z6 := St6.out.bx.frozen 6; have SE := Lib.hid (((St6.out.put 3 (.slice A1 n1 c1)).put 5 (.slice A2 n2 c2)).put 6 (.slice A3 n3 c3))
              clear hHeld
              refine pure_ (i := 25) (N := some 60) (v := ?_) (a' := ?_) (bs 35 67108863) rfl rfl (by kernel_rfl) (fun _ _ _ h => h) (Or.inl ⟨by rfl, ?_⟩) ?_ ?_
              rotate_left
              · intro w'; go_simp; try with_reducible rfl
              rotate_left
              · simp only [Act.put, List.setIfInBounds_toArray, List.set_cons_zero, List.set_cons_succ]; rfl
              refine pure_ (i := 26) (N := some 61) (v := ?_) (a' := ?_) (bs 35 134217727) rfl rfl (by kernel_rfl) (fun _ _ _ h => h) (Or.inl ⟨by rfl, ?_⟩) ?_ ?_
              rotate_left
              · intro w'; go_simp; try with_reducible rfl
              rotate_left
              · simp only [Act.put, List.setIfInBounds_toArray, List.set_cons_zero, List.set_cons_succ]; rfl
              refine pure_ (i := 27) (N := some 62) (v := ?_) (a' := ?_) (bs 35 268435455) rfl rfl (by kernel_rfl) (fun _ _ _ h => h) (Or.inl ⟨by rfl, ?_⟩) ?_ ?_
              rotate_left
              · intro w'; go_simp; try with_reducible rfl
              rotate_left
              · simp only [Act.put, List.setIfInBounds_toArray, List.set_cons_zero, List.set_cons_succ]; rfl
              refine oneD_ (i := 28) (N := none) (bs 35 536870911) rfl rfl (by kernel_rfl) (by decide) (fun K hK => ?_)
              go_simp
              refine hK.out _ _ ?_
              clear hK K
              refine norm_ (a' := ?_) ?_ ?_
              rotate_left
              · rfl
              refine pure_ (i := 29) (N := some 63) (v := ?_) (a' := ?_) (bs 35 1073741823) rfl rfl (by kernel_rfl) (fun _ _ _ h => h) (Or.inl ⟨by rfl, ?_⟩) ?_ ?_
              rotate_left
              · intro w'; go_simp; try with_reducible rfl
              rotate_left
              · simp only [Act.put, List.setIfInBounds_toArray, List.set_cons_zero, List.set_cons_succ]; rfl
              refine pure_ (i := 30) (N := some 64) (v := ?_) (a' := ?_) (bs 35 2147483647) rfl rfl (by kernel_rfl) (fun _ _ _ h => h) (Or.inl ⟨by rfl, ?_⟩) ?_ ?_
              rotate_left
              · intro w'; go_simp; try with_reducible rfl
              rotate_left
              · simp only [Act.put, List.setIfInBounds_toArray, List.set_cons_zero, List.set_cons_succ]; rfl
              refine oneD_ (i := 31) (N := none) (bs 35 4294967295) rfl rfl (by kernel_rfl) (by decide) (fun K hK => ?_)
              go_simp
              refine hK.out _ _ ?_
              clear hK K
              refine norm_ (a' := ?_) ?_ ?_
              rotate_left
              · rfl
              refine pure_ (i := 32) (N := some 65) (v := ?_) (a' := ?_) (bs 35 8589934591) rfl rfl (by kernel_rfl) (fun _ _ _ h => h) (Or.inl ⟨by rfl, ?_⟩) ?_ ?_
              rotate_left
              · intro w'; go_simp; try with_reducible rfl
              rotate_left
              · simp only [Act.put, List.setIfInBounds_toArray, List.set_cons_zero, List.set_cons_succ]; rfl
              refine pure_ (i := 33) (N := some 66) (v := ?_) (a' := ?_) (bs 35 17179869183) rfl rfl (by kernel_rfl) (fun _ _ _ h => h) (Or.inl ⟨by rfl, ?_⟩) ?_ ?_
              rotate_left
              · intro w'; go_simp; try with_reducible rfl
              rotate_left
              · simp only [Act.put, List.setIfInBounds_toArray, List.set_cons_zero, List.set_cons_succ]; rfl
              refine oneD_ (i := 34) (N := none) (bs 35 34359738367) rfl rfl (by kernel_rfl) (by decide) (fun K hK => ?_)
              go_simp
              refine hK.out _ _ ?_
              clear hK K
              refine norm_ (a' := ?_) ?_ ?_
              rotate_left
              · rfl
              refine done_ (by kernel_rfl) ?_
              go_wp2
              go_ret
              exact ⟨rfl, SE.out.did, fun _ => ⟨_, _, _, SE.out.bare⟩⟩
            refine consL_ (i := 23) (N := some 58) (bs 35 16515071) rfl rfl rfl (by decide) (fun K hK => ?_) ?_
            · go_simp
              have St7 := Lib.hid (St3.out.made 3 #[.int .i64 0])
              refine hK.out _ _ (sOf St7.out (List.mem_cons_of_mem _ (List.mem_cons_of_mem _ (List.mem_cons_of_mem _ List.mem_cons_self))) (List.mem_cons_of_mem _ (List.mem_cons_of_mem _ (List.mem_cons_of_mem _ (List.mem_cons_of_mem _ List.mem_cons_self))))) (fun hHeld => ?_)
              clear hK K
              refine norm_ (a' := ?_) ?_ ?_
              rotate_left
              · rfl
              generalize W3.alloc (Obj.cells #[.int .i64 0] 3) = W7 at hHeld St7 ⊢
              refine one_ (i := 18) (N := some 53) (bs 35 16777215) rfl rfl (by kernel_rfl) (by decide) (fun K hK => ?_)
              obtain ⟨u18, W8, hrun, St8⟩ := St7.out.appL (x := l.f0) (by first | exact List.mem_cons_self | exact List.mem_cons_of_mem _ List.mem_cons_self | exact List.mem_cons_of_mem _ (List.mem_cons_of_mem _ List.mem_cons_self)) hL64 26
              replace St8 := Lib.hid St8
              refine step_app (by rfl) rfl rfl rfl hrun ?_
              refine hK.out _ _ (sOf St8.out (List.mem_cons_of_mem _ (List.mem_cons_of_mem _ (List.mem_cons_of_mem _ List.mem_cons_self))) (List.mem_cons_of_mem _ (List.mem_cons_of_mem _ (List.mem_cons_of_mem _ (List.mem_cons_of_mem _ List.mem_cons_self))))) (fun hHeld => ?_)
              clear hK K hrun
              refine norm_ (a' := ?_) ?_ ?_
              rotate_left
              · show Act.put _ (some 53) _ = _; simp only [Act.put, List.setIfInBounds_toArray, List.set_cons_zero, List.set_cons_succ]; rfl
              refine one_ (i := 24) (N := some 59) (bs 35 33554431) rfl rfl (by kernel_rfl) (by decide) (fun K hK => ?_)
              obtain ⟨u24, W9, hrun, St9⟩ := St8.out.appJ (x := 0) (by first | exact List.mem_cons_self | exact List.mem_cons_of_mem _ List.mem_cons_self | exact List.mem_cons_of_mem _ (List.mem_cons_of_mem _ List.mem_cons_self)) hJ64 26
              replace St9 := Lib.hid St9
              refine step_app (by rfl) rfl rfl rfl hrun ?_
              refine hK.out _ _ (sOf St9.out (List.mem_cons_of_mem _ (List.mem_cons_of_mem _ (List.mem_cons_of_mem _ List.mem_cons_self))) (List.mem_cons_of_mem _ (List.mem_cons_of_mem _ (List.mem_cons_of_mem _ (List.mem_cons_of_mem _ List.mem_cons_self))))) (fun hHeld => ?_)
              clear hK K hrun
              refine norm_ (a' := ?_) ?_ ?_
              rotate_left
              · show Act.put _ (some 59) _ = _; simp only [Act.put, List.setIfInBounds_toArray, List.set_cons_zero, List.set_cons_succ]; rfl
              obtain ⟨n1, A1, c1, rfl⟩ := sl_S St9.out.R; obtain ⟨n2, A2, c2, rfl⟩ := sl_R St9.out.L; obtain ⟨n3, A3, c3, rfl⟩ := sl_R St9.out.J
              have k3 := St9.out.bx.cell 3 vR rfl; have k5 := St9.out.bx.cell 5 vL rfl; have k6 := St9.out.bx.cell 6 vJ rfl; have z3 := St9.out.bx.frozen 3; have z5 := St9.out.bx.frozen 5; have z6 := St9.out.bx.frozen 6; have SE := Lib.hid (((St9.out.put 3 (.slice A1 n1 c1)).put 5 (.slice A2 n2 c2)).put 6 (.slice A3 n3 c3))
              clear hHeld
              refine pure_ (i := 25) (N := some 60) (v := ?_) (a' := ?_) (bs 35 67108863) rfl rfl (by kernel_rfl) (fun _ _ _ h => h) (Or.inl ⟨by rfl, ?_⟩) ?_ ?_
              rotate_left
              · intro w'; go_simp; try with_reducible rfl
              rotate_left
              · simp only [Act.put, List.setIfInBounds_toArray, List.set_cons_zero, List.set_cons_succ]; rfl
              refine pure_ (i := 26) (N := some 61) (v := ?_) (a' := ?_) (bs 35 134217727) rfl rfl (by kernel_rfl) (fun _ _ _ h => h) (Or.inl ⟨by rfl, ?_⟩) ?_ ?_
              rotate_left
              · intro w'; go_simp; try with_reducible rfl
              rotate_left
              · simp only [Act.put, List.setIfInBounds_toArray, List.set_cons_zero, List.set_cons_succ]; rfl
              refine pure_ (i := 27) (N := some 62) (v := ?_) (a' := ?_) (bs 35 268435455) rfl rfl (by kernel_rfl) (fun _ _ _ h => h) (Or.inl ⟨by rfl, ?_⟩) ?_ ?_
              rotate_left
              · intro w'; go_simp; try with_reducible rfl
              rotate_left
              · simp only [Act.put, List.setIfInBounds_toArray, List.set_cons_zero, List.set_cons_succ]; rfl
              refine oneD_ (i := 28) (N := none) (bs 35 536870911) rfl rfl (by kernel_rfl) (by decide) (fun K hK => ?_)
              go_simp
              refine hK.out _ _ ?_
              clear hK K
              refine norm_ (a' := ?_) ?_ ?_
              rotate_left
              · rfl
              refine pure_ (i := 29) (N := some 63) (v := ?_) (a' := ?_) (bs 35 1073741823) rfl rfl (by kernel_rfl) (fun _ _ _ h => h) (Or.inl ⟨by rfl, ?_⟩) ?_ ?_
              rotate_left
              · intro w'; go_simp; try with_reducible rfl
              rotate_left
              · simp only [Act.put, List.setIfInBounds_toArray, List.set_cons_zero, List.set_cons_succ]; rfl
              refine pure_ (i := 30) (N := some 64) (v := ?_) (a' := ?_) (bs 35 2147483647) rfl rfl (by kernel_rfl) (fun _ _ _ h => h) (Or.inl ⟨by rfl, ?_⟩) ?_ ?_
              rotate_left
              · intro w'; go_simp; try with_reducible rfl
              rotate_left
              · simp only [Act.put, List.setIfInBounds_toArray, List.set_cons_zero, List.set_cons_succ]; rfl
              refine oneD_ (i := 31) (N := none) (bs 35 4294967295) rfl rfl (by kernel_rfl) (by decide) (fun K hK => ?_)
              go_simp
              refine hK.out _ _ ?_
              clear hK K
              refine norm_ (a' := ?_) ?_ ?_
              rotate_left
              · rfl
              refine pure_ (i := 32) (N := some 65) (v := ?_) (a' := ?_) (bs 35 8589934591) rfl rfl (by kernel_rfl) (fun _ _ _ h => h) (Or.inl ⟨by rfl, ?_⟩) ?_ ?_
              rotate_left
              · intro w'; go_simp; try with_reducible rfl
              rotate_left
              · simp only [Act.put, List.setIfInBounds_toArray, List.set_cons_zero, List.set_cons_succ]; rfl
              refine pure_ (i := 33) (N := some 66) (v := ?_) (a' := ?_) (bs 35 17179869183) rfl rfl (by kernel_rfl) (fun _ _ _ h => h) (Or.inl ⟨by rfl, ?_⟩) ?_ ?_
              rotate_left
              · intro w'; go_simp; try with_reducible rfl
              rotate_left
              · simp only [Act.put, List.setIfInBounds_toArray, List.set_cons_zero, List.set_cons_succ]; rfl
              refine oneD_ (i := 34) (N := none) (bs 35 34359738367) rfl rfl (by kernel_rfl) (by decide) (fun K hK => ?_)
              go_simp
              refine hK.out _ _ ?_
              clear hK K
              refine norm_ (a' := ?_) ?_ ?_
              rotate_left
              · rfl
              refine done_ (by kernel_rfl) ?_
              go_wp2
              go_ret
              exact ⟨rfl, SE.out.did, fun _ => ⟨_, _, _, SE.out.bare⟩⟩
            exact AllReadyL.nil
          refine consL_ (i := 23) (N := some 58) (bs 35 16383999) rfl rfl rfl (by decide) (fun K hK => ?_) ?_
          · go_simp
            have St10 := Lib.hid (St2.out.made 3 #[.int .i64 0])
            refine hK.out _ _ (sOf St10.out (List.mem_cons_of_mem _ (List.mem_cons_of_mem _ List.mem_cons_self)) (List.mem_cons_of_mem _ (List.mem_cons_of_mem _ (List.mem_cons_of_mem _ List.mem_cons_self)))) (fun hHeld => ?_)
            clear hK K
            refine norm_ (a' := ?_) ?_ ?_
            rotate_left
            · rfl
            generalize W2.alloc (Obj.cells #[.int .i64 0] 3) = W10 at hHeld St10 ⊢
            refine one_ (i := 17) (N := some 52) (bs 35 16515071) rfl rfl (by kernel_rfl) (by decide) (fun K hK => ?_)
            go_simp
            have St11 := Lib.hid (St10.out.made 3 #[.int .i64 l.f0])
            refine hK.out _ _ (sOf St11.out (List.mem_cons_of_mem _ (List.mem_cons_of_mem _ (List.mem_cons_of_mem _ List.mem_cons_self))) (List.mem_cons_of_mem _ (List.mem_cons_of_mem _ (List.mem_cons_of_mem _ (List.mem_cons_of_mem _ List.mem_cons_self))))) (fun hHeld => ?_)
            clear hK K
            refine norm_ (a' := ?_) ?_ ?_
            rotate_left
            · rfl
            generalize W10.alloc (Obj.cells #[.int .i64 l.f0] 3) = W11 at hHeld St11 ⊢
            refine one_ (i := 18) (N := some 53) (bs 35 16777215) rfl rfl (by kernel_rfl) (by decide) (fun K hK => ?_)
            obtain ⟨u18, W12, hrun, St12⟩ := St11.out.appL (x := l.f0) (by first | exact List.mem_cons_self | exact List.mem_cons_of_mem _ List.mem_cons_self | exact List.mem_cons_of_mem _ (List.mem_cons_of_mem _ List.mem_cons_self)) hL64 26
            replace St12 := Lib.hid St12
            refine step_app (by rfl) rfl rfl rfl hrun ?_
            refine hK.out _ _ (sOf St12.out (List.mem_cons_of_mem _ (List.mem_cons_of_mem _ (List.mem_cons_of_mem _ List.mem_cons_self))) (List.mem_cons_of_mem _ (List.mem_cons_of_mem _ (List.mem_cons_of_mem _ (List.mem_cons_of_mem _ List.mem_cons_self))))) (fun hHeld => ?_)
            clear hK K hrun
            refine norm_ (a' := ?_) ?_ ?_
            rotate_left
            · show Act.put _ (some 53) _ = _; simp only [Act.put, List.setIfInBounds_toArray, List.set_cons_zero, List.set_cons_succ]; rfl
            refine one_ (i := 24) (N := some 59) (bs 35 33554431) rfl rfl (by kernel_rfl) (by decide) (fun K hK => ?_)
            obtain ⟨u24, W13, hrun, St13⟩ := St12.out.appJ (x := 0) (by first | exact List.mem_cons_self | exact List.mem_cons_of_mem _ List.mem_cons_self | exact List.mem_cons_of_mem _ (List.mem_cons_of_mem _ List.mem_cons_self)) hJ64 26
            replace St13 := Lib.hid St13
            refine step_app (by rfl) rfl rfl rfl hrun ?_
            refine hK.out _ _ (sOf St13.out (List.mem_cons_of_mem _ (List.mem_cons_of_mem _ (List.mem_cons_of_mem _ List.mem_cons_self))) (List.mem_cons_of_mem _ (List.mem_cons_of_mem _ (List.mem_cons_of_mem _ (List.mem_cons_of_mem _ List.mem_cons_self))))) (fun hHeld => ?_)
            clear hK K hrun
            refine norm_ (a' := ?_) ?_ ?_
            rotate_left
            · show Act.put _ (some 59) _ = _; simp only [Act.put, List.setIfInBounds_toArray, List.set_cons_zero, List.set_cons_succ]; rfl
            obtain ⟨n1, A1, c1, rfl⟩ := sl_S St13.out.R; obtain ⟨n2, A2, c2, rfl⟩ := sl_R St13.out.L; obtain ⟨n3, A3, c3, rfl⟩ := sl_R St13.out.J
            have k3 := St13.out.bx.cell 3 vR rfl; have k5 := St13.out.bx.cell 5 vL rfl; have k6 := St13.out.bx.cell 6 vJ rfl; have z3 := St13.out.bx.frozen 3; have z5 := St13.out.bx.frozen 5; have z6 := St13.out.bx.frozen 6; have SE := Lib.hid (((St13.out.put 3 (.slice A1 n1 c1)).put 5 (.slice A2 n2 c2)).put 6 (.slice A3 n3 c3))
            clear hHeld
            refine pure_ (i := 25) (N := some 60) (v := ?_) (a' := ?_) (bs 35 67108863) rfl rfl (by kernel_rfl) (fun _ _ _ h => h) (Or.inl ⟨by rfl, ?_⟩) ?_ ?_
            rotate_left
            · intro w'; go_simp; try with_reducible rfl
            rotate_left
            · simp only [Act.put, List.setIfInBounds_toArray, List.set_cons_zero, List.set_cons_succ]; rfl
            refine pure_ (i := 26) (N := some 61) (v := ?_) (a' := ?_) (bs 35 134217727) rfl rfl (by kernel_rfl) (fun _ _ _ h => h) (Or.inl ⟨by rfl, ?_⟩) ?_ ?_
            rotate_left
            · intro w'; go_simp; try with_reducible rfl
            rotate_left
            · simp only [Act.put, List.setIfInBounds_toArray, List.set_cons_zero, List.set_cons_succ]; rfl
            refine pure_ (i := 27) (N := some 62) (v := ?_) (a' := ?_) (bs 35 268435455) rfl rfl (by kernel_rfl) (fun _ _ _ h => h) (Or.inl ⟨by rfl, ?_⟩) ?_ ?_
            rotate_left
            · intro w'; go_simp; try with_reducible rfl
            rotate_left
            · simp only [Act.put, List.setIfInBounds_toArray, List.set_cons_zero, List.set_cons_succ]; rfl
            refine oneD_ (i := 28) (N := none) (bs 35 536870911) rfl rfl (by kernel_rfl) (by decide) (fun K hK => ?_)
            go_simp
            refine hK.out _ _ ?_
            clear hK K
            refine norm_ (a' := ?_) ?_ ?_
            rotate_left
            · rfl
            refine pure_ (i := 29) (N := some 63) (v := ?_) (a' := ?_) (bs 35 1073741823) rfl rfl (by kernel_rfl) (fun _ _ _ h => h) (Or.inl ⟨by rfl, ?_⟩) ?_ ?_
            rotate_left
            · intro w'; go_simp; try with_reducible rfl
            rotate_left
            · simp only [Act.put, List.setIfInBounds_toArray, List.set_cons_zero, List.set_cons_succ]; rfl
            refine pure_ (i := 30) (N := some 64) (v := ?_) (a' := ?_) (bs 35 2147483647) rfl rfl (by kernel_rfl) (fun _ _ _ h => h) (Or.inl ⟨by rfl, ?_⟩) ?_ ?_
            rotate_left
            · intro w'; go_simp; try with_reducible rfl
            rotate_left
            · simp only [Act.put, List.setIfInBounds_toArray, List.set_cons_zero, List.set_cons_succ]; rfl
            refine oneD_ (i := 31) (N := none) (bs 35 4294967295) rfl rfl (by kernel_rfl) (by decide) (fun K hK => ?_)
            go_simp
            refine hK.out _ _ ?_
            clear hK K
            refine norm_ (a' := ?_) ?_ ?_
            rotate_left
            · rfl
            refine pure_ (i := 32) (N := some 65) (v := ?_) (a' := ?_) (bs 35 8589934591) rfl rfl (by kernel_rfl) (fun _ _ _ h => h) (Or.inl ⟨by rfl, ?_⟩) ?_ ?_
            rotate_left
            · intro w'; go_simp; try with_reducible rfl
            rotate_left
            · simp only [Act.put, List.setIfInBounds_toArray, List.set_cons_zero, List.set_cons_succ]; rfl
            refine pure_ (i := 33) (N := some 66) (v := ?_) (a' := ?_) (bs 35 17179869183) rfl rfl (by kernel_rfl) (fun _ _ _ h => h) (Or.inl ⟨by rfl, ?_⟩) ?_ ?_
            rotate_left
            · intro w'; go_simp; try with_reducible rfl
            rotate_left
            · simp only [Act.put, List.setIfInBounds_toArray, List.set_cons_zero, List.set_cons_succ]; rfl
            refine oneD_ (i := 34) (N := none) (bs 35 34359738367) rfl rfl (by kernel_rfl) (by decide) (fun K hK => ?_)
            go_simp
            refine hK.out _ _ ?_
            clear hK K
            refine norm_ (a' := ?_) ?_ ?_
            rotate_left
            · rfl
            refine done_ (by kernel_rfl) ?_
            go_wp2
            go_ret
            exact ⟨rfl, SE.out.did, fun _ => ⟨_, _, _, SE.out.bare⟩⟩
          exact AllReadyL.nil
        refine consL_ (i := 17) (N := some 52) (bs 35 8125439) rfl rfl rfl (by decide) (fun K hK => ?_) ?_
        · go_simp
          have St14 := Lib.hid (St1.out.made 3 #[.int .i64 l.f0])
          refine hK.out _ _ (sOf St14.out (List.mem_cons_of_mem _ (List.mem_cons_of_mem _ List.mem_cons_self)) (List.mem_cons_of_mem _ (List.mem_cons_of_mem _ (List.mem_cons_of_mem _ List.mem_cons_self)))) (fun hHeld => ?_)
          clear hK K
          refine norm_ (a' := ?_) ?_ ?_
          rotate_left
          · rfl
          generalize W1.alloc (Obj.cells #[.int .i64 l.f0] 3) = W14 at hHeld St14 ⊢
          refine wpAnyLast_ready (rs := [10, 23]) (by kernel_rfl) (by simp) ?_
          refine consL_ (i := 10) (N := some 45) (bs 35 8126463) rfl rfl rfl (by decide) (fun K hK => ?_) ?_
          · obtain ⟨u10, W15, hrun, St15⟩ := St14.out.appR (l := lab) (by first | exact List.mem_cons_self | exact List.mem_cons_of_mem _ List.mem_cons_self | exact List.mem_cons_of_mem _ (List.mem_cons_of_mem _ List.mem_cons_self)) hR64 23
            replace St15 := Lib.hid St15
            refine step_app (by rfl) rfl rfl rfl hrun ?_
            refine hK.out _ _ (sOf St15.out (List.mem_cons_of_mem _ (List.mem_cons_of_mem _ List.mem_cons_self)) (List.mem_cons_of_mem _ (List.mem_cons_of_mem _ (List.mem_cons_of_mem _ List.mem_cons_self)))) (fun hHeld => ?_)
            clear hK K hrun
            refine norm_ (a' := ?_) ?_ ?_
            rotate_left
            · show Act.put _ (some 45) _ = _; simp only [Act.put, List.setIfInBounds_toArray, List.set_cons_zero, List.set_cons_succ]; rfl
            refine wpAnyLast_ready (rs := [18, 23]) (by kernel_rfl) (by simp) ?_
            refine consL_ (i := 18) (N := some 53) (bs 35 8388607) rfl rfl rfl (by decide) (fun K hK => ?_) ?_
            · obtain ⟨u18, W16, hrun, St16⟩ := St15.out.appL (x := l.f0) (by first | exact List.mem_cons_self | exact List.mem_cons_of_mem _ List.mem_cons_self | exact List.mem_cons_of_mem _ (List.mem_cons_of_mem _ List.mem_cons_self)) hL64 26
              replace St16 := Lib.hid St16
              refine step_app (by rfl) rfl rfl rfl hrun ?_
              refine hK.out _ _ (sOf St16.out (List.mem_cons_of_mem _ (List.mem_cons_of_mem _ List.mem_cons_self)) (List.mem_cons_of_mem _ (List.mem_cons_of_mem _ (List.mem_cons_of_mem _ List.mem_cons_self)))) (fun hHeld => ?_)
              clear hK K hrun
              refine norm_ (a' := ?_) ?_ ?_
              rotate_left
              · show Act.put _ (some 53) _ = _; simp only [Act.put, List.setIfInBounds_toArray, List.set_cons_zero, List.set_cons_succ]; rfl
              refine one_ (i := 23) (N := some 58) (bs 35 16777215) rfl rfl (by kernel_rfl) (by decide) (fun K hK => ?_)
              go_simp
              have St17 := Lib.hid (St16.out.made 3 #[.int .i64 0])
              refine hK.out _ _ (sOf St17.out (List.mem_cons_of_mem _ (List.mem_cons_of_mem _ (List.mem_cons_of_mem _ List.mem_cons_self))) (List.mem_cons_of_mem _ (List.mem_cons_of_mem _ (List.mem_cons_of_mem _ (List.mem_cons_of_mem _ List.mem_cons_self))))) (fun hHeld => ?_)
              clear hK K
              refine norm_ (a' := ?_) ?_ ?_
              rotate_left
              · rfl
              generalize W16.alloc (Obj.cells #[.int .i64 0] 3) = W17 at hHeld St17 ⊢
              refine one_ (i := 24) (N := some 59) (bs 35 33554431) rfl rfl (by kernel_rfl) (by decide) (fun K hK => ?_)
              obtain ⟨u24, W18, hrun, St18⟩ := St17.out.appJ (x := 0) (by first | exact List.mem_cons_self | exact List.mem_cons_of_mem _ List.mem_cons_self | exact List.mem_cons_of_mem _ (List.mem_cons_of_mem _ List.mem_cons_self)) hJ64 26
              replace St18 := Lib.hid St18
              refine step_app (by rfl) rfl rfl rfl hrun ?_
              refine hK.out _ _ (sOf St18.out (List.mem_cons_of_mem _ (List.mem_cons_of_mem _ (List.mem_cons_of_mem _ List.mem_cons_self))) (List.mem_cons_of_mem _ (List.mem_cons_of_mem _ (List.mem_cons_of_mem _ (List.mem_cons_of_mem _ List.mem_cons_self))))) (fun hHeld => ?_)
              clear hK K hrun
              refine norm_ (a' := ?_) ?_ ?_
              rotate_left
              · show Act.put _ (some 59) _ = _; simp only [Act.put, List.setIfInBounds_toArray, List.set_cons_zero, List.set_cons_succ]; rfl
              obtain ⟨n1, A1, c1, rfl⟩ := sl_S St18.out.R; obtain ⟨n2, A2, c2, rfl⟩ := sl_R St18.out.L; obtain ⟨n3, A3, c3, rfl⟩ := sl_R St18.out.J
              have k3 := St18.out.bx.cell 3 vR rfl; have k5 := St18.out.bx.cell 5 vL rfl; have k6 := St18.out.bx.cell 6 vJ rfl; have z3 := St18.out.bx.frozen 3; have z5 := St18.out.bx.frozen 5; have z6 := St18.out.bx.frozen 6; have SE := Lib.hid (((St18.out.put 3 (.slice A1 n1 c1)).put 5 (.slice A2 n2 c2)).put 6 (.slice A3 n3 c3))
              clear hHeld
              refine pure_ (i := 25) (N := some 60) (v := ?_) (a' := ?_) (bs 35 67108863) rfl rfl (by kernel_rfl) (fun _ _ _ h => h) (Or.inl ⟨by rfl, ?_⟩) ?_ ?_
              rotate_left
              · intro w'; go_simp; try with_reducible rfl
              rotate_left
              · simp only [Act.put, List.setIfInBounds_toArray, List.set_cons_zero, List.set_cons_succ]; rfl
              refine pure_ (i := 26) (N := some 61) (v := ?_) (a' := ?_) (bs 35 134217727) rfl rfl (by kernel_rfl) (fun _ _ _ h => h) (Or.inl ⟨by rfl, ?_⟩) ?_ ?_
              rotate_left
              · intro w'; go_simp; try with_reducible rfl
              rotate_left
              · simp only [Act.put, List.setIfInBounds_toArray, List.set_cons_zero, List.set_cons_succ]; rfl
              refine pure_ (i := 27) (N := some 62) (v := ?_) (a' := ?_) (bs 35 268435455) rfl rfl (by kernel_rfl) (fun _ _ _ h => h) (Or.inl ⟨by rfl, ?_⟩) ?_ ?_
              rotate_left
              · intro w'; go_simp; try with_reducible rfl
              rotate_left
              · simp only [Act.put, List.setIfInBounds_toArray, List.set_cons_zero, List.set_cons_succ]; rfl
              refine oneD_ (i := 28) (N := none) (bs 35 536870911) rfl rfl (by kernel_rfl) (by decide) (fun K hK => ?_)
              go_simp
              refine hK.out _ _ ?_
              clear hK K
              refine norm_ (a' := ?_) ?_ ?_
              rotate_left
              · rfl
              refine pure_ (i := 29) (N := some 63) (v := ?_) (a' := ?_) (bs 35 1073741823) rfl rfl (by kernel_rfl) (fun _ _ _ h => h) (Or.inl ⟨by rfl, ?_⟩) ?_ ?_
              rotate_left
              · intro w'; go_simp; try with_reducible rfl
              rotate_left
              · simp only [Act.put, List.setIfInBounds_toArray, List.set_cons_zero, List.set_cons_succ]; rfl
              refine pure_ (i := 30) (N := some 64) (v := ?_) (a' := ?_) (bs 35 2147483647) rfl rfl (by kernel_rfl) (fun _ _ _ h => h) (Or.inl ⟨by rfl, ?_⟩) ?_ ?_
              rotate_left
              · intro w'; go_simp; try with_reducible rfl
              rotate_left
              · simp only [Act.put, List.setIfInBounds_toArray, List.set_cons_zero, List.set_cons_succ]; rfl
              refine oneD_ (i := 31) (N := none) (bs 35 4294967295) rfl rfl (by kernel_rfl) (by decide) (fun K hK => ?_)
              go_simp
              refine hK.out _ _ ?_
              clear hK K
              refine norm_ (a' := ?_) ?_ ?_
              rotate_left
              · rfl
              refine pure_ (i := 32) (N := some 65) (v := ?_) (a' := ?_) (bs 35 8589934591) rfl rfl (by kernel_rfl) (fun _ _ _ h => h) (Or.inl ⟨by rfl, ?_⟩) ?_ ?_
              rotate_left
              · intro w'; go_simp; try with_reducible rfl
              rotate_left
              · simp only [Act.put, List.setIfInBounds_toArray, List.set_cons_zero, List.set_cons_succ]; rfl
              refine pure_ (i := 33) (N := some 66) (v := ?_) (a' := ?_) (bs 35 17179869183) rfl rfl (by kernel_rfl) (fun _ _ _ h => h) (Or.inl ⟨by rfl, ?_⟩) ?_ ?_
              rotate_left
              · intro w'; go_simp; try with_reducible rfl
              rotate_left
              · simp only [Act.put, List.setIfInBounds_toArray, List.set_cons_zero, List.set_cons_succ]; rfl
              refine oneD_ (i := 34) (N := none) (bs 35 34359738367) rfl rfl (by kernel_rfl) (by decide) (fun K hK => ?_)
              go_simp
              refine hK.out _ _ ?_
              clear hK K
              refine norm_ (a' := ?_) ?_ ?_
              rotate_left
              · rfl
              refine done_ (by kernel_rfl) ?_
              go_wp2
              go_ret
              exact ⟨rfl, SE.out.did, fun _ => ⟨_, _, _, SE.out.bare⟩⟩
            refine consL_ (i := 23) (N := some 58) (bs 35 16515071) rfl rfl rfl (by decide) (fun K hK => ?_) ?_
            · go_simp
              have St19 := Lib.hid (St15.out.made 3 #[.int .i64 0])
              refine hK.out _ _ (sOf St19.out (List.mem_cons_of_mem _ (List.mem_cons_of_mem _ (List.mem_cons_of_mem _ List.mem_cons_self))) (List.mem_cons_of_mem _ (List.mem_cons_of_mem _ (List.mem_cons_of_mem _ (List.mem_cons_of_mem _ List.mem_cons_self))))) (fun hHeld => ?_)
              clear hK K
              refine norm_ (a' := ?_) ?_ ?_
              rotate_left
              · rfl
              generalize W15.alloc (Obj.cells #[.int .i64 0] 3) = W19 at hHeld St19 ⊢
              refine one_ (i := 18) (N := some 53) (bs 35 16777215) rfl rfl (by kernel_rfl) (by decide) (fun K hK => ?_)
              obtain ⟨u18, W20, hrun, St20⟩ := St19.out.appL (x := l.f0) (by first | exact List.mem_cons_self | exact List.mem_cons_of_mem _ List.mem_cons_self | exact List.mem_cons_of_mem _ (List.mem_cons_of_mem _ List.mem_cons_self)) hL64 26
              replace St20 := Lib.hid St20
              refine step_app (by rfl) rfl rfl rfl hrun ?_
              refine hK.out _ _ (sOf St20.out (List.mem_cons_of_mem _ (List.mem_cons_of_mem _ (List.mem_cons_of_mem _ List.mem_cons_self))) (List.mem_cons_of_mem _ (List.mem_cons_of_mem _ (List.mem_cons_of_mem _ (List.mem_cons_of_mem _ List.mem_cons_self))))) (fun hHeld => ?_)
              clear hK K hrun
              refine norm_ (a' := ?_) ?_ ?_
              rotate_left
              · show Act.put _ (some 53) _ = _; simp only [Act.put, List.setIfInBounds_toArray, List.set_cons_zero, List.set_cons_succ]; rfl
              refine one_ (i := 24) (N := some 59) (bs 35 33554431) rfl rfl (by kernel_rfl) (by decide) (fun K hK => ?_)
              obtain ⟨u24, W21, hrun, St21⟩ := St20.out.appJ (x := 0) (by first | exact List.mem_cons_self | exact List.mem_cons_of_mem _ List.mem_cons_self | exact List.mem_cons_of_mem _ (List.mem_cons_of_mem _ List.mem_cons_self)) hJ64 26
              replace St21 := Lib.hid St21
              refine step_app (by rfl) rfl rfl rfl hrun ?_
              refine hK.out _ _ (sOf St21.out (List.mem_cons_of_mem _ (List.mem_cons_of_mem _ (List.mem_cons_of_mem _ List.mem_cons_self))) (List.mem_cons_of_mem _ (List.mem_cons_of_mem _ (List.mem_cons_of_mem _ (List.mem_cons_of_mem _ List.mem_cons_self))))) (fun hHeld => ?_)
              clear hK K hrun
              refine norm_ (a' := ?_) ?_ ?_
              rotate_left
              · show Act.put _ (some 59) _ = _; simp only [Act.put, List.setIfInBounds_toArray, List.set_cons_zero, List.set_cons_succ]; rfl
              obtain ⟨n1, A1, c1, rfl⟩ := sl_S St21.out.R; obtain ⟨n2, A2, c2, rfl⟩ := sl_R St21.out.L; obtain ⟨n3, A3, c3, rfl⟩ := sl_R St21.out.J
              have k3 := St21.out.bx.cell 3 vR rfl; have k5 := St21.out.bx.cell 5 vL rfl; have k6 := St21.out.bx.cell 6 vJ rfl; have z3 := St21.out.bx.frozen 3; have z5 := St21.out.bx.frozen 5; have z6 := St21.out.bx.frozen 6; have SE := Lib.hid (((St21.out.put 3 (.slice A1 n1 c1)).put 5 (.slice A2 n2 c2)).put 6 (.slice A3 n3 c3))
              clear hHeld
              refine pure_ (i := 25) (N := some 60) (v := ?_) (a' := ?_) (bs 35 67108863) rfl rfl (by kernel_rfl) (fun _ _ _ h => h) (Or.inl ⟨by rfl, ?_⟩) ?_ ?_
              rotate_left
              · intro w'; go_simp; try with_reducible rfl
              rotate_left
              · simp only [Act.put, List.setIfInBounds_toArray, List.set_cons_zero, List.set_cons_succ]; rfl
              refine pure_ (i := 26) (N := some 61) (v := ?_) (a' := ?_) (bs 35 134217727) rfl rfl (by kernel_rfl) (fun _ _ _ h => h) (Or.inl ⟨by rfl, ?_⟩) ?_ ?_
              rotate_left
              · intro w'; go_simp; try with_reducible rfl
              rotate_left
              · simp only [Act.put, List.setIfInBounds_toArray, List.set_cons_zero, List.set_cons_succ]; rfl
              refine pure_ (i := 27) (N := some 62) (v := ?_) (a' := ?_) (bs 35 268435455) rfl rfl (by kernel_rfl) (fun _ _ _ h => h) (Or.inl ⟨by rfl, ?_⟩) ?_ ?_
              rotate_left
              · intro w'; go_simp; try with_reducible rfl
              rotate_left
              · simp only [Act.put, List.setIfInBounds_toArray, List.set_cons_zero, List.set_cons_succ]; rfl
              refine oneD_ (i := 28) (N := none) (bs 35 536870911) rfl rfl (by kernel_rfl) (by decide) (fun K hK => ?_)
              go_simp
              refine hK.out _ _ ?_
              clear hK K
              refine norm_ (a' := ?_) ?_ ?_
              rotate_left
              · rfl
              refine pure_ (i := 29) (N := some 63) (v := ?_) (a' := ?_) (bs 35 1073741823) rfl rfl (by kernel_rfl) (fun _ _ _ h => h) (Or.inl ⟨by rfl, ?_⟩) ?_ ?_
              rotate_left
              · intro w'; go_simp; try with_reducible rfl
              rotate_left
              · simp only [Act.put, List.setIfInBounds_toArray, List.set_cons_zero, List.set_cons_succ]; rfl
              refine pure_ (i := 30) (N := some 64) (v := ?_) (a' := ?_) (bs 35 2147483647) rfl rfl (by kernel_rfl) (fun _ _ _ h => h) (Or.inl ⟨by rfl, ?_⟩) ?_ ?_
              rotate_left
              · intro w'; go_simp; try with_reducible rfl
              rotate_left
              · simp only [Act.put, List.setIfInBounds_toArray, List.set_cons_zero, List.set_cons_succ]; rfl
              refine oneD_ (i := 31) (N := none) (bs 35 4294967295) rfl rfl (by kernel_rfl) (by decide) (fun K hK => ?_)
              go_simp
              refine hK.out _ _ ?_
              clear hK K
              refine norm_ (a' := ?_) ?_ ?_
              rotate_left
              · rfl
              refine pure_ (i := 32) (N := some 65) (v := ?_) (a' := ?_) (bs 35 8589934591) rfl rfl (by kernel_rfl) (fun _ _ _ h => h) (Or.inl ⟨by rfl, ?_⟩) ?_ ?_
              rotate_left
              · intro w'; go_simp; try with_reducible rfl
              rotate_left
              · simp only [Act.put, List.setIfInBounds_toArray, List.set_cons_zero, List.set_cons_succ]; rfl
              refine pure_ (i := 33) (N := some 66) (v := ?_) (a' := ?_) (bs 35 17179869183) rfl rfl (by kernel_rfl) (fun _ _ _ h => h) (Or.inl ⟨by rfl, ?_⟩) ?_ ?_
              rotate_left
              · intro w'; go_simp; try with_reducible rfl
              rotate_left
              · simp only [Act.put, List.setIfInBounds_toArray, List.set_cons_zero, List.set_cons_succ]; rfl
              refine oneD_ (i := 34) (N := none) (bs 35 34359738367) rfl rfl (by kernel_rfl) (by decide) (fun K hK => ?_)
              go_simp
              refine hK.out _ _ ?_
              clear hK K
              refine norm_ (a' := ?_) ?_ ?_
              rotate_left
              · rfl
              refine done_ (by kernel_rfl) ?_
              go_wp2
              go_ret
              exact ⟨rfl, SE.out.did, fun _ => ⟨_, _, _, SE.out.bare⟩⟩
            exact AllReadyL.nil
          refine consL_ (i := 23) (N := some 58) (bs 35 16514047) rfl rfl rfl (by decide) (fun K hK => ?_) ?_
          · go_simp
            have St22 := Lib.hid (St14.out.made 3 #[.int .i64 0])
            refine hK.out _ _ (sOf St22.out (List.mem_cons_of_mem _ (List.mem_cons_of_mem _ (List.mem_cons_of_mem _ List.mem_cons_self))) (List.mem_cons_of_mem _ (List.mem_cons_of_mem _ (List.mem_cons_of_mem _ (List.mem_cons_of_mem _ List.mem_cons_self))))) (fun hHeld => ?_)
            clear hK K
            refine norm_ (a' := ?_) ?_ ?_
            rotate_left
            · rfl
            generalize W14.alloc (Obj.cells #[.int .i64 0] 3) = W22 at hHeld St22 ⊢
            refine one_ (i := 10) (N := some 45) (bs 35 16515071) rfl rfl (by kernel_rfl) (by decide) (fun K hK => ?_)
            obtain ⟨u10, W23, hrun, St23⟩ := St22.out.appR (l := lab) (by first | exact List.mem_cons_self | exact List.mem_cons_of_mem _ List.mem_cons_self | exact List.mem_cons_of_mem _ (List.mem_cons_of_mem _ List.mem_cons_self)) hR64 23
            replace St23 := Lib.hid St23
            refine step_app (by rfl) rfl rfl rfl hrun ?_
            refine hK.out _ _ (sOf St23.out (List.mem_cons_of_mem _ (List.mem_cons_of_mem _ (List.mem_cons_of_mem _ List.mem_cons_self))) (List.mem_cons_of_mem _ (List.mem_cons_of_mem _ (List.mem_cons_of_mem _ (List.mem_cons_of_mem _ List.mem_cons_self))))) (fun hHeld => ?_)
            clear hK K hrun
            refine norm_ (a' := ?_) ?_ ?_
            rotate_left
            · show Act.put _ (some 45) _ = _; simp only [Act.put, List.setIfInBounds_toArray, List.set_cons_zero, List.set_cons_succ]; rfl
            refine one_ (i := 18) (N := some 53) (bs 35 16777215) rfl rfl (by kernel_rfl) (by decide) (fun K hK => ?_)
            obtain ⟨u18, W24, hrun, St24⟩ := St23.out.appL (x := l.f0) (by first | exact List.mem_cons_self | exact List.mem_cons_of_mem _ List.mem_cons_self | exact List.mem_cons_of_mem _ (List.mem_cons_of_mem _ List.mem_cons_self)) hL64 26
            replace St24 := Lib.hid St24
            refine step_app (by rfl) rfl rfl rfl hrun ?_
            refine hK.out _ _ (sOf St24.out (List.mem_cons_of_mem _ (List.mem_cons_of_mem _ (List.mem_cons_of_mem _ List.mem_cons_self))) (List.mem_cons_of_mem _ (List.mem_cons_of_mem _ (List.mem_cons_of_mem _ (List.mem_cons_of_mem _ List.mem_cons_self))))) (fun hHeld => ?_)
            clear hK K hrun
            refine norm_ (a' := ?_) ?_ ?_
            rotate_left
            · show Act.put _ (some 53) _ = _; simp only [Act.put, List.setIfInBounds_toArray, List.set_cons_zero, List.set_cons_succ]; rfl
            refine one_ (i := 24) (N := some 59) (bs 35 33554431) rfl rfl (by kernel_rfl) (by decide) (fun K hK => ?_)
            obtain ⟨u24, W25, hrun, St25⟩ := St24.out.appJ (x := 0) (by first | exact List.mem_cons_self | exact List.mem_cons_of_mem _ List.mem_cons_self | exact List.mem_cons_of_mem _ (List.mem_cons_of_mem _ List.mem_cons_self)) hJ64 26
            replace St25 := Lib.hid St25
            refine step_app (by rfl) rfl rfl rfl hrun ?_
            refine hK.out _ _ (sOf St25.out (List.mem_cons_of_mem _ (List.mem_cons_of_mem _ (List.mem_cons_of_mem _ List.mem_cons_self))) (List.mem_cons_of_mem _ (List.mem_cons_of_mem _ (List.mem_cons_of_mem _ (List.mem_cons_of_mem _ List.mem_cons_self))))) (fun hHeld => ?_)
            clear hK K hrun
            refine norm_ (a' := ?_) ?_ ?_
            rotate_left
            · show Act.put _ (some 59) _ = _; simp only [Act.put, List.setIfInBounds_toArray, List.set_cons_zero, List.set_cons_succ]; rfl
            obtain ⟨n1, A1, c1, rfl⟩ := sl_S St25.out.R; obtain ⟨n2, A2, c2, rfl⟩ := sl_R St25.out.L; obtain ⟨n3, A3, c3, rfl⟩ := sl_R St25.out.J
            have k3 := St25.out.bx.cell 3 vR rfl; have k5 := St25.out.bx.cell 5 vL rfl; have k6 := St25.out.bx.cell 6 vJ rfl; have z3 := St25.out.bx.frozen 3; have z5 := St25.out.bx.frozen 5; have z6 := St25.out.bx.frozen 6; have SE := Lib.hid (((St25.out.put 3 (.slice A1 n1 c1)).put 5 (.slice A2 n2 c2)).put 6 (.slice A3 n3 c3))
            clear hHeld
            refine pure_ (i := 25) (N := some 60) (v := ?_) (a' := ?_) (bs 35 67108863) rfl rfl (by kernel_rfl) (fun _ _ _ h => h) (Or.inl ⟨by rfl, ?_⟩) ?_ ?_
            rotate_left
            · intro w'; go_simp; try with_reducible rfl
            rotate_left
            · simp only [Act.put, List.setIfInBounds_toArray, List.set_cons_zero, List.set_cons_succ]; rfl
            refine pure_ (i := 26) (N := some 61) (v := ?_) (a' := ?_) (bs 35 134217727) rfl rfl (by kernel_rfl) (fun _ _ _ h => h) (Or.inl ⟨by rfl, ?_⟩) ?_ ?_
            rotate_left
            · intro w'; go_simp; try with_reducible rfl
            rotate_left
            · simp only [Act.put, List.setIfInBounds_toArray, List.set_cons_zero, List.set_cons_succ]; rfl
            refine pure_ (i := 27) (N := some 62) (v := ?_) (a' := ?_) (bs 35 268435455) rfl rfl (by kernel_rfl) (fun _ _ _ h => h) (Or.inl ⟨by rfl, ?_⟩) ?_ ?_
            rotate_left
            · intro w'; go_simp; try with_reducible rfl
            rotate_left
            · simp only [Act.put, List.setIfInBounds_toArray, List.set_cons_zero, List.set_cons_succ]; rfl
            refine oneD_ (i := 28) (N := none) (bs 35 536870911) rfl rfl (by kernel_rfl) (by decide) (fun K hK => ?_)
            go_simp
            refine hK.out _ _ ?_
            clear hK K
            refine norm_ (a' := ?_) ?_ ?_
            rotate_left
            · rfl
            refine pure_ (i := 29) (N := some 63) (v := ?_) (a' := ?_) (bs 35 1073741823) rfl rfl (by kernel_rfl) (fun _ _ _ h => h) (Or.inl ⟨by rfl, ?_⟩) ?_ ?_
            rotate_left
            · intro w'; go_simp; try with_reducible rfl
            rotate_left
            · simp only [Act.put, List.setIfInBounds_toArray, List.set_cons_zero, List.set_cons_succ]; rfl
            refine pure_ (i := 30) (N := some 64) (v := ?_) (a' := ?_) (bs 35 2147483647) rfl rfl (by kernel_rfl) (fun _ _ _ h => h) (Or.inl ⟨by rfl, ?_⟩) ?_ ?_
            rotate_left
            · intro w'; go_simp; try with_reducible rfl
            rotate_left
            · simp only [Act.put, List.setIfInBounds_toArray, List.set_cons_zero, List.set_cons_succ]; rfl
            refine oneD_ (i := 31) (N := none) (bs 35 4294967295) rfl rfl (by kernel_rfl) (by decide) (fun K hK => ?_)
            go_simp
            refine hK.out _ _ ?_
            clear hK K
            refine norm_ (a' := ?_) ?_ ?_
            rotate_left
            · rfl
            refine pure_ (i := 32) (N := some 65) (v := ?_) (a' := ?_) (bs 35 8589934591) rfl rfl (by kernel_rfl) (fun _ _ _ h => h) (Or.inl ⟨by rfl, ?_⟩) ?_ ?_
            rotate_left
            · intro w'; go_simp; try with_reducible rfl
            rotate_left
            · simp only [Act.put, List.setIfInBounds_toArray, List.set_cons_zero, List.set_cons_succ]; rfl
            refine pure_ (i := 33) (N := some 66) (v := ?_) (a' := ?_) (bs 35 17179869183) rfl rfl (by kernel_rfl) (fun _ _ _ h => h) (Or.inl ⟨by rfl, ?_⟩) ?_ ?_
            rotate_left
            · intro w'; go_simp; try with_reducible rfl
            rotate_left
            · simp only [Act.put, List.setIfInBounds_toArray, List.set_cons_zero, List.set_cons_succ]; rfl
            refine oneD_ (i := 34) (N := none) (bs 35 34359738367) rfl rfl (by kernel_rfl) (by decide) (fun K hK => ?_)
            go_simp
            refine hK.out _ _ ?_
            clear hK K
            refine norm_ (a' := ?_) ?_ ?_
            rotate_left
            · rfl
            refine done_ (by kernel_rfl) ?_
            go_wp2
            go_ret
            exact ⟨rfl, SE.out.did, fun _ => ⟨_, _, _, SE.out.bare⟩⟩
          exact AllReadyL.nil
        refine consL_ (i := 23) (N := some 58) (bs 35 16382975) rfl rfl rfl (by decide) (fun K hK => ?_) ?_
        · go_simp
          have St26 := Lib.hid (St1.out.made 3 #[.int .i64 0])
          refine hK.out _ _ (sOf St26.out (List.mem_cons_of_mem _ (List.mem_cons_of_mem _ List.mem_cons_self)) (List.mem_cons_of_mem _ (List.mem_cons_of_mem _ (List.mem_cons_of_mem _ List.mem_cons_self)))) (fun hHeld => ?_)
          clear hK K
          refine norm_ (a' := ?_) ?_ ?_
          rotate_left
          · rfl
          generalize W1.alloc (Obj.cells #[.int .i64 0] 3) = W26 at hHeld St26 ⊢
          refine wpAnyLast_ready (rs := [10, 17]) (by kernel_rfl) (by simp) ?_
          refine consL_ (i := 10) (N := some 45) (bs 35 16383999) rfl rfl rfl (by decide) (fun K hK => ?_) ?_
          · obtain ⟨u10, W27, hrun, St27⟩ := St26.out.appR (l := lab) (by first | exact List.mem_cons_self | exact List.mem_cons_of_mem _ List.mem_cons_self | exact List.mem_cons_of_mem _ (List.mem_cons_of_mem _ List.mem_cons_self)) hR64 23
            replace St27 := Lib.hid St27
            refine step_app (by rfl) rfl rfl rfl hrun ?_
            refine hK.out _ _ (sOf St27.out (List.mem_cons_of_mem _ (List.mem_cons_of_mem _ List.mem_cons_self)) (List.mem_cons_of_mem _ (List.mem_cons_of_mem _ (List.mem_cons_of_mem _ List.mem_cons_self)))) (fun hHeld => ?_)
            clear hK K hrun
            refine norm_ (a' := ?_) ?_ ?_
            rotate_left
            · show Act.put _ (some 45) _ = _; simp only [Act.put, List.setIfInBounds_toArray, List.set_cons_zero, List.set_cons_succ]; rfl
            refine one_ (i := 17) (N := some 52) (bs 35 16515071) rfl rfl (by kernel_rfl) (by decide) (fun K hK => ?_)
            go_simp
            have St28 := Lib.hid (St27.out.made 3 #[.int .i64 l.f0])
            refine hK.out _ _ (sOf St28.out (List.mem_cons_of_mem _ (List.mem_cons_of_mem _ (List.mem_cons_of_mem _ List.mem_cons_self))) (List.mem_cons_of_mem _ (List.mem_cons_of_mem _ (List.mem_cons_of_mem _ (List.mem_cons_of_mem _ List.mem_cons_self))))) (fun hHeld => ?_)
            clear hK K
            refine norm_ (a' := ?_) ?_ ?_
            rotate_left
            · rfl
            generalize W27.alloc (Obj.cells #[.int .i64 l.f0] 3) = W28 at hHeld St28 ⊢
            refine one_ (i := 18) (N := some 53) (bs 35 16777215) rfl rfl (by kernel_rfl) (by decide) (fun K hK => ?_)
            obtain ⟨u18, W29, hrun, St29⟩ := St28.out.appL (x := l.f0) (by first | exact List.mem_cons_self | exact List.mem_cons_of_mem _ List.mem_cons_self | exact List.mem_cons_of_mem _ (List.mem_cons_of_mem _ List.mem_cons_self)) hL64 26
            replace St29 := Lib.hid St29
            refine step_app (by rfl) rfl rfl rfl hrun ?_
            refine hK.out _ _ (sOf St29.out (List.mem_cons_of_mem _ (List.mem_cons_of_mem _ (List.mem_cons_of_mem _ List.mem_cons_self))) (List.mem_cons_of_mem _ (List.mem_cons_of_mem _ (List.mem_cons_of_mem _ (List.mem_cons_of_mem _ List.mem_cons_self))))) (fun hHeld => ?_)
            clear hK K hrun
            refine norm_ (a' := ?_) ?_ ?_
            rotate_left
            · show Act.put _ (some 53) _ = _; simp only [Act.put, List.setIfInBounds_toArray, List.set_cons_zero, List.set_cons_succ]; rfl
            refine one_ (i := 24) (N := some 59) (bs 35 33554431) rfl rfl (by kernel_rfl) (by decide) (fun K hK => ?_)
            obtain ⟨u24, W30, hrun, St30⟩ := St29.out.appJ (x := 0) (by first | exact List.mem_cons_self | exact List.mem_cons_of_mem _ List.mem_cons_self | exact List.mem_cons_of_mem _ (List.mem_cons_of_mem _ List.mem_cons_self)) hJ64 26
            replace St30 := Lib.hid St30
            refine step_app (by rfl) rfl rfl rfl hrun ?_
            refine hK.out _ _ (sOf St30.out (List.mem_cons_of_mem _ (List.mem_cons_of_mem _ (List.mem_cons_of_mem _ List.mem_cons_self))) (List.mem_cons_of_mem _ (List.mem_cons_of_mem _ (List.mem_cons_of_mem _ (List.mem_cons_of_mem _ List.mem_cons_self))))) (fun hHeld => ?_)
            clear hK K hrun
            refine norm_ (a' := ?_) ?_ ?_
            rotate_left
            · show Act.put _ (some 59) _ = _; simp only [Act.put, List.setIfInBounds_toArray, List.set_cons_zero, List.set_cons_succ]; rfl
            obtain ⟨n1, A1, c1, rfl⟩ := sl_S St30.out.R; obtain ⟨n2, A2, c2, rfl⟩ := sl_R St30.out.L; obtain ⟨n3, A3, c3, rfl⟩ := sl_R St30.out.J
            have k3 := St30.out.bx.cell 3 vR rfl; have k5 := St30.out.bx.cell 5 vL rfl; have k6 := St30.out.bx.cell 6 vJ rfl; have z3 := St30.out.bx.frozen 3; have z5 := St30.out.bx.frozen 5; have z6 := St30.out.bx.frozen 6; have SE := Lib.hid (((St30.out.put 3 (.slice A1 n1 c1)).put 5 (.slice A2 n2 c2)).put 6 (.slice A3 n3 c3))
            clear hHeld
            refine pure_ (i := 25) (N := some 60) (v := ?_) (a' := ?_) (bs 35 67108863) rfl rfl (by kernel_rfl) (fun _ _ _ h => h) (Or.inl ⟨by rfl, ?_⟩) ?_ ?_
            rotate_left
            · intro w'; go_simp; try with_reducible rfl
            rotate_left
            · simp only [Act.put, List.setIfInBounds_toArray, List.set_cons_zero, List.set_cons_succ]; rfl
            refine pure_ (i := 26) (N := some 61) (v := ?_) (a' := ?_) (bs 35 134217727) rfl rfl (by kernel_rfl) (fun _ _ _ h => h) (Or.inl ⟨by rfl, ?_⟩) ?_ ?_
            rotate_left
            · intro w'; go_simp; try with_reducible rfl
            rotate_left
            · simp only [Act.put, List.setIfInBounds_toArray, List.set_cons_zero, List.set_cons_succ]; rfl
            refine pure_ (i := 27) (N := some 62) (v := ?_) (a' := ?_) (bs 35 268435455) rfl rfl (by kernel_rfl) (fun _ _ _ h => h) (Or.inl ⟨by rfl, ?_⟩) ?_ ?_
            rotate_left
            · intro w'; go_simp; try with_reducible rfl
            rotate_left
            · simp only [Act.put, List.setIfInBounds_toArray, List.set_cons_zero, List.set_cons_succ]; rfl
            refine oneD_ (i := 28) (N := none) (bs 35 536870911) rfl rfl (by kernel_rfl) (by decide) (fun K hK => ?_)
            go_simp
            refine hK.out _ _ ?_
            clear hK K
            refine norm_ (a' := ?_) ?_ ?_
            rotate_left
            · rfl
            refine pure_ (i := 29) (N := some 63) (v := ?_) (a' := ?_) (bs 35 1073741823) rfl rfl (by kernel_rfl) (fun _ _ _ h => h) (Or.inl ⟨by rfl, ?_⟩) ?_ ?_
            rotate_left
            · intro w'; go_simp; try with_reducible rfl
            rotate_left
            · simp only [Act.put, List.setIfInBounds_toArray, List.set_cons_zero, List.set_cons_succ]; rfl
            refine pure_ (i := 30) (N := some 64) (v := ?_) (a' := ?_) (bs 35 2147483647) rfl rfl (by kernel_rfl) (fun _ _ _ h => h) (Or.inl ⟨by rfl, ?_⟩) ?_ ?_
            rotate_left
            · intro w'; go_simp; try with_reducible rfl
            rotate_left
            · simp only [Act.put, List.setIfInBounds_toArray, List.set_cons_zero, List.set_cons_succ]; rfl
            refine oneD_ (i := 31) (N := none) (bs 35 4294967295) rfl rfl (by kernel_rfl) (by decide) (fun K hK => ?_)
            go_simp
            refine hK.out _ _ ?_
            clear hK K
            refine norm_ (a' := ?_) ?_ ?_
            rotate_left
            · rfl
            refine pure_ (i := 32) (N := some 65) (v := ?_) (a' := ?_) (bs 35 8589934591) rfl rfl (by kernel_rfl) (fun _ _ _ h => h) (Or.inl ⟨by rfl, ?_⟩) ?_ ?_
            rotate_left
            · intro w'; go_simp; try with_reducible rfl
            rotate_left
            · simp only [Act.put, List.setIfInBounds_toArray, List.set_cons_zero, List.set_cons_succ]; rfl
            refine pure_ (i := 33) (N := some 66) (v := ?_) (a' := ?_) (bs 35 17179869183) rfl rfl (by kernel_rfl) (fun _ _ _ h => h) (Or.inl ⟨by rfl, ?_⟩) ?_ ?_
            rotate_left
            · intro w'; go_simp; try with_reducible rfl
            rotate_left
            · simp only [Act.put, List.setIfInBounds_toArray, List.set_cons_zero, List.set_cons_succ]; rfl
            refine oneD_ (i := 34) (N := none) (bs 35 34359738367) rfl rfl (by kernel_rfl) (by decide) (fun K hK => ?_)
            go_simp
            refine hK.out _ _ ?_
            clear hK K
            refine norm_ (a' := ?_) ?_ ?_
            rotate_left
            · rfl
            refine done_ (by kernel_rfl) ?_
            go_wp2
            go_ret
            exact ⟨rfl, SE.out.did, fun _ => ⟨_, _, _, SE.out.bare⟩⟩
          refine consL_ (i := 17) (N := some 52) (bs 35 16514047) rfl rfl rfl (by decide) (fun K hK => ?_) ?_
          · go_simp
            have St31 := Lib.hid (St26.out.made 3 #[.int .i64 l.f0])
            refine hK.out _ _ (sOf St31.out (List.mem_cons_of_mem _ (List.mem_cons_of_mem _ (List.mem_cons_of_mem _ List.mem_cons_self))) (List.mem_cons_of_mem _ (List.mem_cons_of_mem _ (List.mem_cons_of_mem _ (List.mem_cons_of_mem _ List.mem_cons_self))))) (fun hHeld => ?_)
            clear hK K
            refine norm_ (a' := ?_) ?_ ?_
            rotate_left
            · rfl
            generalize W26.alloc (Obj.cells #[.int .i64 l.f0] 3) = W31 at hHeld St31 ⊢
            refine one_ (i := 10) (N := some 45) (bs 35 16515071) rfl rfl (by kernel_rfl) (by decide) (fun K hK => ?_)
            obtain ⟨u10, W32, hrun, St32⟩ := St31.out.appR (l := lab) (by first | exact List.mem_cons_self | exact List.mem_cons_of_mem _ List.mem_cons_self | exact List.mem_cons_of_mem _ (List.mem_cons_of_mem _ List.mem_cons_self)) hR64 23
            replace St32 := Lib.hid St32
            refine step_app (by rfl) rfl rfl rfl hrun ?_
            refine hK.out _ _ (sOf St32.out (List.mem_cons_of_mem _ (List.mem_cons_of_mem _ (List.mem_cons_of_mem _ List.mem_cons_self))) (List.mem_cons_of_mem _ (List.mem_cons_of_mem _ (List.mem_cons_of_mem _ (List.mem_cons_of_mem _ List.mem_cons_self))))) (fun hHeld => ?_)
            clear hK K hrun
            refine norm_ (a' := ?_) ?_ ?_
            rotate_left
            · show Act.put _ (some 45) _ = _; simp only [Act.put, List.setIfInBounds_toArray, List.set_cons_zero, List.set_cons_succ]; rfl
            refine one_ (i := 18) (N := some 53) (bs 35 16777215) rfl rfl (by kernel_rfl) (by decide) (fun K hK => ?_)
            obtain ⟨u18, W33, hrun, St33⟩ := St32.out.appL (x := l.f0) (by first | exact List.mem_cons_self | exact List.mem_cons_of_mem _ List.mem_cons_self | exact List.mem_cons_of_mem _ (List.mem_cons_of_mem _ List.mem_cons_self)) hL64 26
            replace St33 := Lib.hid St33
            refine step_app (by rfl) rfl rfl rfl hrun ?_
            refine hK.out _ _ (sOf St33.out (List.mem_cons_of_mem _ (List.mem_cons_of_mem _ (List.mem_cons_of_mem _ List.mem_cons_self))) (List.mem_cons_of_mem _ (List.mem_cons_of_mem _ (List.mem_cons_of_mem _ (List.mem_cons_of_mem _ List.mem_cons_self))))) (fun hHeld => ?_)
            clear hK K hrun
            refine norm_ (a' := ?_) ?_ ?_
            rotate_left
            · show Act.put _ (some 53) _ = _; simp only [Act.put, List.setIfInBounds_toArray, List.set_cons_zero, List.set_cons_succ]; rfl
            refine one_ (i := 24) (N := some 59) (bs 35 33554431) rfl rfl (by kernel_rfl) (by decide) (fun K hK => ?_)
            obtain ⟨u24, W34, hrun, St34⟩ := St33.out.appJ (x := 0) (by first | exact List.mem_cons_self | exact List.mem_cons_of_mem _ List.mem_cons_self | exact List.mem_cons_of_mem _ (List.mem_cons_of_mem _ List.mem_cons_self)) hJ64 26
            replace St34 := Lib.hid St34
            refine step_app (by rfl) rfl rfl rfl hrun ?_
            refine hK.out _ _ (sOf St34.out (List.mem_cons_of_mem _ (List.mem_cons_of_mem _ (List.mem_cons_of_mem _ List.mem_cons_self))) (List.mem_cons_of_mem _ (List.mem_cons_of_mem _ (List.mem_cons_of_mem _ (List.mem_cons_of_mem _ List.mem_cons_self))))) (fun hHeld => ?_)
            clear hK K hrun
            refine norm_ (a' := ?_) ?_ ?_
            rotate_left
            · show Act.put _ (some 59) _ = _; simp only [Act.put, List.setIfInBounds_toArray, List.set_cons_zero, List.set_cons_succ]; rfl
            obtain ⟨n1, A1, c1, rfl⟩ := sl_S St34.out.R; obtain ⟨n2, A2, c2, rfl⟩ := sl_R St34.out.L; obtain ⟨n3, A3, c3, rfl⟩ := sl_R St34.out.J
            have k3 := St34.out.bx.cell 3 vR rfl; have k5 := St34.out.bx.cell 5 vL rfl; have k6 := St34.out.bx.cell 6 vJ rfl; have z3 := St34.out.bx.frozen 3; have z5 := St34.out.bx.frozen 5; have z6 := St34.out.bx.frozen 6; have SE := Lib.hid (((St34.out.put 3 (.slice A1 n1 c1)).put 5 (.slice A2 n2 c2)).put 6 (.slice A3 n3 c3))
            clear hHeld
            refine pure_ (i := 25) (N := some 60) (v := ?_) (a' := ?_) (bs 35 67108863) rfl rfl (by kernel_rfl) (fun _ _ _ h => h) (Or.inl ⟨by rfl, ?_⟩) ?_ ?_
            rotate_left
            · intro w'; go_simp; try with_reducible rfl
            rotate_left
            · simp only [Act.put, List.setIfInBounds_toArray, List.set_cons_zero, List.set_cons_succ]; rfl
            refine pure_ (i := 26) (N := some 61) (v := ?_) (a' := ?_) (bs 35 134217727) rfl rfl (by kernel_rfl) (fun _ _ _ h => h) (Or.inl ⟨by rfl, ?_⟩) ?_ ?_
            rotate_left
            · intro w'; go_simp; try with_reducible rfl
            rotate_left
            · simp only [Act.put, List.setIfInBounds_toArray, List.set_cons_zero, List.set_cons_succ]; rfl
            refine pure_ (i := 27) (N := some 62) (v := ?_) (a' := ?_) (bs 35 268435455) rfl rfl (by kernel_rfl) (fun _ _ _ h => h) (Or.inl ⟨by rfl, ?_⟩) ?_ ?_
            rotate_left
            · intro w'; go_simp; try with_reducible rfl
            rotate_left
            · simp only [Act.put, List.setIfInBounds_toArray, List.set_cons_zero, List.set_cons_succ]; rfl
            refine oneD_ (i := 28) (N := none) (bs 35 536870911) rfl rfl (by kernel_rfl) (by decide) (fun K hK => ?_)
            go_simp
            refine hK.out _ _ ?_
            clear hK K
            refine norm_ (a' := ?_) ?_ ?_
            rotate_left
            · rfl
            refine pure_ (i := 29) (N := some 63) (v := ?_) (a' := ?_) (bs 35 1073741823) rfl rfl (by kernel_rfl) (fun _ _ _ h => h) (Or.inl ⟨by rfl, ?_⟩) ?_ ?_
            rotate_left
            · intro w'; go_simp; try with_reducible rfl
            rotate_left
            · simp only [Act.put, List.setIfInBounds_toArray, List.set_cons_zero, List.set_cons_succ]; rfl
            refine pure_ (i := 30) (N := some 64) (v := ?_) (a' := ?_) (bs 35 2147483647) rfl rfl (by kernel_rfl) (fun _ _ _ h => h) (Or.inl ⟨by rfl, ?_⟩) ?_ ?_
            rotate_left
            · intro w'; go_simp; try with_reducible rfl
            rotate_left
            · simp only [Act.put, List.setIfInBounds_toArray, List.set_cons_zero, List.set_cons_succ]; rfl
            refine oneD_ (i := 31) (N := none) (bs 35 4294967295) rfl rfl (by kernel_rfl) (by decide) (fun K hK => ?_)
            go_simp
            refine hK.out _ _ ?_
            clear hK K
            refine norm_ (a' := ?_) ?_ ?_
            rotate_left
            · rfl
            refine pure_ (i := 32) (N := some 65) (v := ?_) (a' := ?_) (bs 35 8589934591) rfl rfl (by kernel_rfl) (fun _ _ _ h => h) (Or.inl ⟨by rfl, ?_⟩) ?_ ?_
            rotate_left
            · intro w'; go_simp; try with_reducible rfl
            rotate_left
            · simp only [Act.put, List.setIfInBounds_toArray, List.set_cons_zero, List.set_cons_succ]; rfl
            refine pure_ (i := 33) (N := some 66) (v := ?_) (a' := ?_) (bs 35 17179869183) rfl rfl (by kernel_rfl) (fun _ _ _ h => h) (Or.inl ⟨by rfl, ?_⟩) ?_ ?_
            rotate_left
            · intro w'; go_simp; try with_reducible rfl
            rotate_left
            · simp only [Act.put, List.setIfInBounds_toArray, List.set_cons_zero, List.set_cons_succ]; rfl
            refine oneD_ (i := 34) (N := none) (bs 35 34359738367) rfl rfl (by kernel_rfl) (by decide) (fun K hK => ?_)
            go_simp
            refine hK.out _ _ ?_
            clear hK K
            refine norm_ (a' := ?_) ?_ ?_
            rotate_left
            · rfl
            refine done_ (by kernel_rfl) ?_
            go_wp2
            go_ret
            exact ⟨rfl, SE.out.did, fun _ => ⟨_, _, _, SE.out.bare⟩⟩
          exact AllReadyL.nil
        exact AllReadyL.nil
      refine consL_ (i := 17) (N := some 52) (bs 35 8124927) rfl rfl rfl (by decide) (fun K hK => ?_) ?_
      · go_simp
        have St35 := Lib.hid (St0.out.made 3 #[.int .i64 l.f0])
        refine hK.out _ _ (sOf St35.out (List.mem_cons_of_mem _ List.mem_cons_self) (List.mem_cons_of_mem _ (List.mem_cons_of_mem _ List.mem_cons_self))) (fun hHeld => ?_)
        clear hK K
        refine norm_ (a' := ?_) ?_ ?_
        rotate_left
        · rfl
        generalize Ws.alloc (Obj.cells #[.int .i64 l.f0] 3) = W35 at hHeld St35 ⊢
        refine wpAnyLast_ready (rs := [9, 23]) (by kernel_rfl) (by simp) ?_
        refine consL_ (i := 9) (N := some 44) (bs 35 8125439) rfl rfl rfl (by decide) (fun K hK => ?_) ?_
        · go_simp
          have St36 := Lib.hid (St35.out.made 47 #[.string lab, .slice none 0 0, .slice none 0 0, .string ⟨#[]⟩])
          refine hK.out _ _ (sOf St36.out (List.mem_cons_of_mem _ (List.mem_cons_of_mem _ List.mem_cons_self)) (List.mem_cons_of_mem _ (List.mem_cons_of_mem _ (List.mem_cons_of_mem _ List.mem_cons_self)))) (fun hHeld => ?_)
          clear hK K
          refine norm_ (a' := ?_) ?_ ?_
          rotate_left
          · rfl
          generalize W35.alloc (Obj.cells #[.string lab, .slice none 0 0, .slice none 0 0, .string ⟨#[]⟩] 47) = W36 at hHeld St36 ⊢
          refine wpAnyLast_ready (rs := [10, 23]) (by kernel_rfl) (by simp) ?_
          refine consL_ (i := 10) (N := some 45) (bs 35 8126463) rfl rfl rfl (by decide) (fun K hK => ?_) ?_
          · obtain ⟨u10, W37, hrun, St37⟩ := St36.out.appR (l := lab) (by first | exact List.mem_cons_self | exact List.mem_cons_of_mem _ List.mem_cons_self | exact List.mem_cons_of_mem _ (List.mem_cons_of_mem _ List.mem_cons_self)) hR64 23
            replace St37 := Lib.hid St37
            refine step_app (by rfl) rfl rfl rfl hrun ?_
            refine hK.out _ _ (sOf St37.out (List.mem_cons_of_mem _ (List.mem_cons_of_mem _ List.mem_cons_self)) (List.mem_cons_of_mem _ (List.mem_cons_of_mem _ (List.mem_cons_of_mem _ List.mem_cons_self)))) (fun hHeld => ?_)
            clear hK K hrun
            refine norm_ (a' := ?_) ?_ ?_
            rotate_left
            · show Act.put _ (some 45) _ = _; simp only [Act.put, List.setIfInBounds_toArray, List.set_cons_zero, List.set_cons_succ]; rfl
            refine wpAnyLast_ready (rs := [18, 23]) (by kernel_rfl) (by simp) ?_
            refine consL_ (i := 18) (N := some 53) (bs 35 8388607) rfl rfl rfl (by decide) (fun K hK => ?_) ?_
            · obtain ⟨u18, W38, hrun, St38⟩ := St37.out.appL (x := l.f0) (by first | exact List.mem_cons_self | exact List.mem_cons_of_mem _ List.mem_cons_self | exact List.mem_cons_of_mem _ (List.mem_cons_of_mem _ List.mem_cons_self)) hL64 26
              replace St38 := Lib.hid St38
              refine step_app (by rfl) rfl rfl rfl hrun ?_
              refine hK.out _ _ (sOf St38.out (List.mem_cons_of_mem _ (List.mem_cons_of_mem _ List.mem_cons_self)) (List.mem_cons_of_mem _ (List.mem_cons_of_mem _ (List.mem_cons_of_mem _ List.mem_cons_self)))) (fun hHeld => ?_)
              clear hK K hrun
              refine norm_ (a' := ?_) ?_ ?_
              rotate_left
              · show Act.put _ (some 53) _ = _; simp only [Act.put, List.setIfInBounds_toArray, List.set_cons_zero, List.set_cons_succ]; rfl
              refine one_ (i := 23) (N := some 58) (bs 35 16777215) rfl rfl (by kernel_rfl) (by decide) (fun K hK => ?_)
              go_simp
              have St39 := Lib.hid (St38.out.made 3 #[.int .i64 0])
              refine hK.out _ _ (sOf St39.out (List.mem_cons_of_mem _ (List.mem_cons_of_mem _ (List.mem_cons_of_mem _ List.mem_cons_self))) (List.mem_cons_of_mem _ (List.mem_cons_of_mem _ (List.mem_cons_of_mem _ (List.mem_cons_of_mem _ List.mem_cons_self))))) (fun hHeld => ?_)
              clear hK K
              refine norm_ (a' := ?_) ?_ ?_
              rotate_left
              · rfl
              generalize W38.alloc (Obj.cells #[.int .i64 0] 3) = W39 at hHeld St39 ⊢
              refine one_ (i := 24) (N := some 59) (bs 35 33554431) rfl rfl (by kernel_rfl) (by decide) (fun K hK => ?_)
              obtain ⟨u24, W40, hrun, St40⟩ := St39.out.appJ (x := 0) (by first | exact List.mem_cons_self | exact List.mem_cons_of_mem _ List.mem_cons_self | exact List.mem_cons_of_mem _ (List.mem_cons_of_mem _ List.mem_cons_self)) hJ64 26
              replace St40 := Lib.hid St40
              refine step_app (by rfl) rfl rfl rfl hrun ?_
              refine hK.out _ _ (sOf St40.out (List.mem_cons_of_mem _ (List.mem_cons_of_mem _ (List.mem_cons_of_mem _ List.mem_cons_self))) (List.mem_cons_of_mem _ (List.mem_cons_of_mem _ (List.mem_cons_of_mem _ (List.mem_cons_of_mem _ List.mem_cons_self))))) (fun hHeld => ?_)
              clear hK K hrun
              refine norm_ (a' := ?_) ?_ ?_
              rotate_left
              · show Act.put _ (some 59) _ = _; simp only [Act.put, List.setIfInBounds_toArray, List.set_cons_zero, List.set_cons_succ]; rfl
              obtain ⟨n1, A1, c1, rfl⟩ := sl_S St40.out.R; obtain ⟨n2, A2, c2, rfl⟩ := sl_R St40.out.L; obtain ⟨n3, A3, c3, rfl⟩ := sl_R St40.out.J
              have k3 := St40.out.bx.cell 3 vR rfl; have k5 := St40.out.bx.cell 5 vL rfl; have k6 := St40.out.bx.cell 6 vJ rfl; have z3 := St40.out.bx.frozen 3; have z5 := St40.out.bx.frozen 5; have z6 := St40.out.bx.frozen 6; have SE := Lib.hid (((St40.out.put 3 (.slice A1 n1 c1)).put 5 (.slice A2 n2 c2)).put 6 (.slice A3 n3 c3))
              clear hHeld
              refine pure_ (i := 25) (N := some 60) (v := ?_) (a' := ?_) (bs 35 67108863) rfl rfl (by kernel_rfl) (fun _ _ _ h => h) (Or.inl ⟨by rfl, ?_⟩) ?_ ?_
              rotate_left
              · intro w'; go_simp; try with_reducible rfl
              rotate_left
              · simp only [Act.put, List.setIfInBounds_toArray, List.set_cons_zero, List.set_cons_succ]; rfl
              refine pure_ (i := 26) (N := some 61) (v := ?_) (a' := ?_) (bs 35 134217727) rfl rfl (by kernel_rfl) (fun _ _ _ h => h) (Or.inl ⟨by rfl, ?_⟩) ?_ ?_
              rotate_left
              · intro w'; go_simp; try with_reducible rfl
              rotate_left
              · simp only [Act.put, List.setIfInBounds_toArray, List.set_cons_zero, List.set_cons_succ]; rfl
              refine pure_ (i := 27) (N := some 62) (v := ?_) (a' := ?_) (bs 35 268435455) rfl rfl (by kernel_rfl) (fun _ _ _ h => h) (Or.inl ⟨by rfl, ?_⟩) ?_ ?_
              rotate_left
              · intro w'; go_simp; try with_reducible rfl
              rotate_left
              · simp only [Act.put, List.setIfInBounds_toArray, List.set_cons_zero, List.set_cons_succ]; rfl
              refine oneD_ (i := 28) (N := none) (bs 35 536870911) rfl rfl (by kernel_rfl) (by decide) (fun K hK => ?_)
              go_simp
              refine hK.out _ _ ?_
              clear hK K
              refine norm_ (a' := ?_) ?_ ?_
              rotate_left
              · rfl
              refine pure_ (i := 29) (N := some 63) (v := ?_) (a' := ?_) (bs 35 1073741823) rfl rfl (by kernel_rfl) (fun _ _ _ h => h) (Or.inl ⟨by rfl, ?_⟩) ?_ ?_
              rotate_left
              · intro w'; go_simp; try with_reducible rfl
              rotate_left
              · simp only [Act.put, List.setIfInBounds_toArray, List.set_cons_zero, List.set_cons_succ]; rfl
              refine pure_ (i := 30) (N := some 64) (v := ?_) (a' := ?_) (bs 35 2147483647) rfl rfl (by kernel_rfl) (fun _ _ _ h => h) (Or.inl ⟨by rfl, ?_⟩) ?_ ?_
              rotate_left
              · intro w'; go_simp; try with_reducible rfl
              rotate_left
              · simp only [Act.put, List.setIfInBounds_toArray, List.set_cons_zero, List.set_cons_succ]; rfl
              refine oneD_ (i := 31) (N := none) (bs 35 4294967295) rfl rfl (by kernel_rfl) (by decide) (fun K hK => ?_)
              go_simp
              refine hK.out _ _ ?_
              clear hK K
              refine norm_ (a' := ?_) ?_ ?_
              rotate_left
              · rfl
              refine pure_ (i := 32) (N := some 65) (v := ?_) (a' := ?_) (bs 35 8589934591) rfl rfl (by kernel_rfl) (fun _ _ _ h => h) (Or.inl ⟨by rfl, ?_⟩) ?_ ?_
              rotate_left
              · intro w'; go_simp; try with_reducible rfl
              rotate_left
              · simp only [Act.put, List.setIfInBounds_toArray, List.set_cons_zero, List.set_cons_succ]; rfl
              refine pure_ (i := 33) (N := some 66) (v := ?_) (a' := ?_) (bs 35 17179869183) rfl rfl (by kernel_rfl) (fun _ _ _ h => h) (Or.inl ⟨by rfl, ?_⟩) ?_ ?_
              rotate_left
              · intro w'; go_simp; try with_reducible rfl
              rotate_left
              · simp only [Act.put, List.setIfInBounds_toArray, List.set_cons_zero, List.set_cons_succ]; rfl
              refine oneD_ (i := 34) (N := none) (bs 35 34359738367) rfl rfl (by kernel_rfl) (by decide) (fun K hK => ?_)
              go_simp
              refine hK.out _ _ ?_
              clear hK K
              refine norm_ (a' := ?_) ?_ ?_
              rotate_left
              · rfl
              refine done_ (by kernel_rfl) ?_
              go_wp2
              go_ret
              exact ⟨rfl, SE.out.did, fun _ => ⟨_, _, _, SE.out.bare⟩⟩
            refine consL_ (i := 23) (N := some 58) (bs 35 16515071) rfl rfl rfl (by decide) (fun K hK => ?_) ?_
            · go_simp
              have St41 := Lib.hid (St37.out.made 3 #[.int .i64 0])
              refine hK.out _ _ (sOf St41.out (List.mem_cons_of_mem _ (List.mem_cons_of_mem _ (List.mem_cons_of_mem _ List.mem_cons_self))) (List.mem_cons_of_mem _ (List.mem_cons_of_mem _ (List.mem_cons_of_mem _ (List.mem_cons_of_mem _ List.mem_cons_self))))) (fun hHeld => ?_)
              clear hK K
              refine norm_ (a' := ?_) ?_ ?_
              rotate_left
              · rfl
              generalize W37.alloc (Obj.cells #[.int .i64 0] 3) = W41 at hHeld St41 ⊢
              refine one_ (i := 18) (N := some 53) (bs 35 16777215) rfl rfl (by kernel_rfl) (by decide) (fun K hK => ?_)
              obtain ⟨u18, W42, hrun, St42⟩ := St41.out.appL (x := l.f0) (by first | exact List.mem_cons_self | exact List.mem_cons_of_mem _ List.mem_cons_self | exact List.mem_cons_of_mem _ (List.mem_cons_of_mem _ List.mem_cons_self)) hL64 26
              replace St42 := Lib.hid St42
              refine step_app (by rfl) rfl rfl rfl hrun ?_
              refine hK.out _ _ (sOf St42.out (List.mem_cons_of_mem _ (List.mem_cons_of_mem _ (List.mem_cons_of_mem _ List.mem_cons_self))) (List.mem_cons_of_mem _ (List.mem_cons_of_mem _ (List.mem_cons_of_mem _ (List.mem_cons_of_mem _ List.mem_cons_self))))) (fun hHeld => ?_)
              clear hK K hrun
              refine norm_ (a' := ?_) ?_ ?_
              rotate_left
              · show Act.put _ (some 53) _ = _; simp only [Act.put, List.setIfInBounds_toArray, List.set_cons_zero, List.set_cons_succ]; rfl
              refine one_ (i := 24) (N := some 59) (bs 35 33554431) rfl rfl (by kernel_rfl) (by decide) (fun K hK => ?_)
              obtain ⟨u24, W43, hrun, St43⟩ := St42.out.appJ (x := 0) (by first | exact List.mem_cons_self | exact List.mem_cons_of_mem _ List.mem_cons_self | exact List.mem_cons_of_mem _ (List.mem_cons_of_mem _ List.mem_cons_self)) hJ64 26
              replace St43 := Lib.hid St43
              refine step_app (by rfl) rfl rfl rfl hrun ?_
              refine hK.out _ _ (sOf St43.out (List.mem_cons_of_mem _ (List.mem_cons_of_mem _ (List.mem_cons_of_mem _ List.mem_cons_self))) (List.mem_cons_of_mem _ (List.mem_cons_of_mem _ (List.mem_cons_of_mem _ (List.mem_cons_of_mem _ List.mem_cons_self))))) (fun hHeld => ?_)
              clear hK K hrun
              refine norm_ (a' := ?_) ?_ ?_
              rotate_left
              · show Act.put _ (some 59) _ = _; simp only [Act.put, List.setIfInBounds_toArray, List.set_cons_zero, List.set_cons_succ]; rfl
              obtain ⟨n1, A1, c1, rfl⟩ := sl_S St43.out.R; obtain ⟨n2, A2, c2, rfl⟩ := sl_R St43.out.L; obtain ⟨n3, A3, c3, rfl⟩ := sl_R St43.out.J
              have k3 := St43.out.bx.cell 3 vR rfl; have k5 := St43.out.bx.cell 5 vL rfl; have k6 := St43.out.bx.cell 6 vJ rfl; have z3 := St43.out.bx.frozen 3; have z5 := St43.out.bx.frozen 5; have z6 := St43.out.bx.frozen 6; have SE := Lib.hid (((St43.out.put 3 (.slice A1 n1 c1)).put 5 (.slice A2 n2 c2)).put 6 (.slice A3 n3 c3))
              clear hHeld
              refine pure_ (i := 25) (N := some 60) (v := ?_) (a' := ?_) (bs 35 67108863) rfl rfl (by kernel_rfl) (fun _ _ _ h => h) (Or.inl ⟨by rfl, ?_⟩) ?_ ?_
              rotate_left
              · intro w'; go_simp; try with_reducible rfl
              rotate_left
              · simp only [Act.put, List.setIfInBounds_toArray, List.set_cons_zero, List.set_cons_succ]; rfl
              refine pure_ (i := 26) (N := some 61) (v := ?_) (a' := ?_) (bs 35 134217727) rfl rfl (by kernel_rfl) (fun _ _ _ h => h) (Or.inl ⟨by rfl, ?_⟩) ?_ ?_
              rotate_left
              · intro w'; go_simp; try with_reducible rfl
              rotate_left
              · simp only [Act.put, List.setIfInBounds_toArray, List.set_cons_zero, List.set_cons_succ]; rfl
              refine pure_ (i := 27) (N := some 62) (v := ?_) (a' := ?_) (bs 35 268435455) rfl rfl (by kernel_rfl) (fun _ _ _ h => h) (Or.inl ⟨by rfl, ?_⟩) ?_ ?_
              rotate_left
              · intro w'; go_simp; try with_reducible rfl
              rotate_left
              · simp only [Act.put, List.setIfInBounds_toArray, List.set_cons_zero, List.set_cons_succ]; rfl
              refine oneD_ (i := 28) (N := none) (bs 35 536870911) rfl rfl (by kernel_rfl) (by decide) (fun K hK => ?_)
              go_simp
              refine hK.out _ _ ?_
              clear hK K
              refine norm_ (a' := ?_) ?_ ?_
              rotate_left
              · rfl
              refine pure_ (i := 29) (N := some 63) (v := ?_) (a' := ?_) (bs 35 1073741823) rfl rfl (by kernel_rfl) (fun _ _ _ h => h) (Or.inl ⟨by rfl, ?_⟩) ?_ ?_
              rotate_left
              · intro w'; go_simp; try with_reducible rfl
              rotate_left
              · simp only [Act.put, List.setIfInBounds_toArray, List.set_cons_zero, List.set_cons_succ]; rfl
              refine pure_ (i := 30) (N := some 64) (v := ?_) (a' := ?_) (bs 35 2147483647) rfl rfl (by kernel_rfl) (fun _ _ _ h => h) (Or.inl ⟨by rfl, ?_⟩) ?_ ?_
              rotate_left
              · intro w'; go_simp; try with_reducible rfl
              rotate_left
              · simp only [Act.put, List.setIfInBounds_toArray, List.set_cons_zero, List.set_cons_succ]; rfl
              refine oneD_ (i := 31) (N := none) (bs 35 4294967295) rfl rfl (by kernel_rfl) (by decide) (fun K hK => ?_)
              go_simp
              refine hK.out _ _ ?_
              clear hK K
              refine norm_ (a' := ?_) ?_ ?_
              rotate_left
              · rfl
              refine pure_ (i := 32) (N := some 65) (v := ?_) (a' := ?_) (bs 35 8589934591) rfl rfl (by kernel_rfl) (fun _ _ _ h => h) (Or.inl ⟨by rfl, ?_⟩) ?_ ?_
              rotate_left
              · intro w'; go_simp; try with_reducible rfl
              rotate_left
              · simp only [Act.put, List.setIfInBounds_toArray, List.set_cons_zero, List.set_cons_succ]; rfl
              refine pure_ (i := 33) (N := some 66) (v := ?_) (a' := ?_) (bs 35 17179869183) rfl rfl (by kernel_rfl) (fun _ _ _ h => h) (Or.inl ⟨by rfl, ?_⟩) ?_ ?_
              rotate_left
              · intro w'; go_simp; try with_reducible rfl
              rotate_left
              · simp only [Act.put, List.setIfInBounds_toArray, List.set_cons_zero, List.set_cons_succ]; rfl
              refine oneD_ (i := 34) (N := none) (bs 35 34359738367) rfl rfl (by kernel_rfl) (by decide) (fun K hK => ?_)
              go_simp
              refine hK.out _ _ ?_
              clear hK K
              refine norm_ (a' := ?_) ?_ ?_
              rotate_left
              · rfl
              refine done_ (by kernel_rfl) ?_
              go_wp2
              go_ret
              exact ⟨rfl, SE.out.did, fun _ => ⟨_, _, _, SE.out.bare⟩⟩
            exact AllReadyL.nil
          refine consL_ (i := 23) (N := some 58) (bs 35 16514047) rfl rfl rfl (by decide) (fun K hK => ?_) ?_
          · go_simp
            have St44 := Lib.hid (St36.out.made 3 #[.int .i64 0])
            refine hK.out _ _ (sOf St44.out (List.mem_cons_of_mem _ (List.mem_cons_of_mem _ (List.mem_cons_of_mem _ List.mem_cons_self))) (List.mem_cons_of_mem _ (List.mem_cons_of_mem _ (List.mem_cons_of_mem _ (List.mem_cons_of_mem _ List.mem_cons_self))))) (fun hHeld => ?_)
            clear hK K
            refine norm_ (a' := ?_) ?_ ?_
            rotate_left
            · rfl
            generalize W36.alloc (Obj.cells #[.int .i64 0] 3) = W44 at hHeld St44 ⊢
            refine one_ (i := 10) (N := some 45) (bs 35 16515071) rfl rfl (by kernel_rfl) (by decide) (fun K hK => ?_)
            obtain ⟨u10, W45, hrun, St45⟩ := St44.out.appR (l := lab) (by first | exact List.mem_cons_self | exact List.mem_cons_of_mem _ List.mem_cons_self | exact List.mem_cons_of_mem _ (List.mem_cons_of_mem _ List.mem_cons_self)) hR64 23
            replace St45 := Lib.hid St45
            refine step_app (by rfl) rfl rfl rfl hrun ?_
            refine hK.out _ _ (sOf St45.out (List.mem_cons_of_mem _ (List.mem_cons_of_mem _ (List.mem_cons_of_mem _ List.mem_cons_self))) (List.mem_cons_of_mem _ (List.mem_cons_of_mem _ (List.mem_cons_of_mem _ (List.mem_cons_of_mem _ List.mem_cons_self))))) (fun hHeld => ?_)
            clear hK K hrun
            refine norm_ (a' := ?_) ?_ ?_
            rotate_left
            · show Act.put _ (some 45) _ = _; simp only [Act.put, List.setIfInBounds_toArray, List.set_cons_zero, List.set_cons_succ]; rfl
            refine one_ (i := 18) (N := some 53) (bs 35 16777215) rfl rfl (by kernel_rfl) (by decide) (fun K hK => ?_)
            obtain ⟨u18, W46, hrun, St46⟩ := St45.out.appL (x := l.f0) (by first | exact List.mem_cons_self | exact List.mem_cons_of_mem _ List.mem_cons_self | exact List.mem_cons_of_mem _ (List.mem_cons_of_mem _ List.mem_cons_self)) hL64 26
            replace St46 := Lib.hid St46
            refine step_app (by rfl) rfl rfl rfl hrun ?_
            refine hK.out _ _ (sOf St46.out (List.mem_cons_of_mem _ (List.mem_cons_of_mem _ (List.mem_cons_of_mem _ List.mem_cons_self))) (List.mem_cons_of_mem _ (List.mem_cons_of_mem _ (List.mem_cons_of_mem _ (List.mem_cons_of_mem _ List.mem_cons_self))))) (fun hHeld => ?_)
            clear hK K hrun
            refine norm_ (a' := ?_) ?_ ?_
            rotate_left
            · show Act.put _ (some 53) _ = _; simp only [Act.put, List.setIfInBounds_toArray, List.set_cons_zero, List.set_cons_succ]; rfl
            refine one_ (i := 24) (N := some 59) (bs 35 33554431) rfl rfl (by kernel_rfl) (by decide) (fun K hK => ?_)
            obtain ⟨u24, W47, hrun, St47⟩ := St46.out.appJ (x := 0) (by first | exact List.mem_cons_self | exact List.mem_cons_of_mem _ List.mem_cons_self | exact List.mem_cons_of_mem _ (List.mem_cons_of_mem _ List.mem_cons_self)) hJ64 26
            replace St47 := Lib.hid St47
            refine step_app (by rfl) rfl rfl rfl hrun ?_
            refine hK.out _ _ (sOf St47.out (List.mem_cons_of_mem _ (List.mem_cons_of_mem _ (List.mem_cons_of_mem _ List.mem_cons_self))) (List.mem_cons_of_mem _ (List.mem_cons_of_mem _ (List.mem_cons_of_mem _ (List.mem_cons_of_mem _ List.mem_cons_self))))) (fun hHeld => ?_)
            clear hK K hrun
            refine norm_ (a' := ?_) ?_ ?_
            rotate_left
            · show Act.put _ (some 59) _ = _; simp only [Act.put, List.setIfInBounds_toArray, List.set_cons_zero, List.set_cons_succ]; rfl
            obtain ⟨n1, A1, c1, rfl⟩ := sl_S St47.out.R; obtain ⟨n2, A2, c2, rfl⟩ := sl_R St47.out.L; obtain ⟨n3, A3, c3, rfl⟩ := sl_R St47.out.J
            have k3 := St47.out.bx.cell 3 vR rfl; have k5 := St47.out.bx.cell 5 vL rfl; have k6 := St47.out.bx.cell 6 vJ rfl; have z3 := St47.out.bx.frozen 3; have z5 := St47.out.bx.frozen 5; have z6 := St47.out.bx.frozen 6; have SE := Lib.hid (((St47.out.put 3 (.slice A1 n1 c1)).put 5 (.slice A2 n2 c2)).put 6 (.slice A3 n3 c3))
            clear hHeld
            refine pure_ (i := 25) (N := some 60) (v := ?_) (a' := ?_) (bs 35 67108863) rfl rfl (by kernel_rfl) (fun _ _ _ h => h) (Or.inl ⟨by rfl, ?_⟩) ?_ ?_
            rotate_left
            · intro w'; go_simp; try with_reducible rfl
            rotate_left
            · simp only [Act.put, List.setIfInBounds_toArray, List.set_cons_zero, List.set_cons_succ]; rfl
            refine pure_ (i := 26) (N := some 61) (v := ?_) (a' := ?_) (bs 35 134217727) rfl rfl (by kernel_rfl) (fun _ _ _ h => h) (Or.inl ⟨by rfl, ?_⟩) ?_ ?_
            rotate_left
            · intro w'; go_simp; try with_reducible rfl
            rotate_left
            · simp only [Act.put, List.setIfInBounds_toArray, List.set_cons_zero, List.set_cons_succ]; rfl
            refine pure_ (i := 27) (N := some 62) (v := ?_) (a' := ?_) (bs 35 268435455) rfl rfl (by kernel_rfl) (fun _ _ _ h => h) (Or.inl ⟨by rfl, ?_⟩) ?_ ?_
            rotate_left
            · intro w'; go_simp; try with_reducible rfl
            rotate_left
            · simp only [Act.put, List.setIfInBounds_toArray, List.set_cons_zero, List.set_cons_succ]; rfl
            refine oneD_ (i := 28) (N := none) (bs 35 536870911) rfl rfl (by kernel_rfl) (by decide) (fun K hK => ?_)
            go_simp
            refine hK.out _ _ ?_
            clear hK K
            refine norm_ (a' := ?_) ?_ ?_
            rotate_left
            · rfl
            refine pure_ (i := 29) (N := some 63) (v := ?_) (a' := ?_) (bs 35 1073741823) rfl rfl (by kernel_rfl) (fun _ _ _ h => h) (Or.inl ⟨by rfl, ?_⟩) ?_ ?_
            rotate_left
            · intro w'; go_simp; try with_reducible rfl
            rotate_left
            · simp only [Act.put, List.setIfInBounds_toArray, List.set_cons_zero, List.set_cons_succ]; rfl
            refine pure_ (i := 30) (N := some 64) (v := ?_) (a' := ?_) (bs 35 2147483647) rfl rfl (by kernel_rfl) (fun _ _ _ h => h) (Or.inl ⟨by rfl, ?_⟩) ?_ ?_
            rotate_left
            · intro w'; go_simp; try with_reducible rfl
            rotate_left
            · simp only [Act.put, List.setIfInBounds_toArray, List.set_cons_zero, List.set_cons_succ]; rfl
            refine oneD_ (i := 31) (N := none) (bs 35 4294967295) rfl rfl (by kernel_rfl) (by decide) (fun K hK => ?_)
            go_simp
            refine hK.out _ _ ?_
            clear hK K
            refine norm_ (a' := ?_) ?_ ?_
            rotate_left
            · rfl
            refine pure_ (i := 32) (N := some 65) (v := ?_) (a' := ?_) (bs 35 8589934591) rfl rfl (by kernel_rfl) (fun _ _ _ h => h) (Or.inl ⟨by rfl, ?_⟩) ?_ ?_
            rotate_left
            · intro w'; go_simp; try with_reducible rfl
            rotate_left
            · simp only [Act.put, List.setIfInBounds_toArray, List.set_cons_zero, List.set_cons_succ]; rfl
            refine pure_ (i := 33) (N := some 66) (v := ?_) (a' := ?_) (bs 35 17179869183) rfl rfl (by kernel_rfl) (fun _ _ _ h => h) (Or.inl ⟨by rfl, ?_⟩) ?_ ?_
            rotate_left
            · intro w'; go_simp; try with_reducible rfl
            rotate_left
            · simp only [Act.put, List.setIfInBounds_toArray, List.set_cons_zero, List.set_cons_succ]; rfl
            refine oneD_ (i := 34) (N := none) (bs 35 34359738367) rfl rfl (by kernel_rfl) (by decide) (fun K hK => ?_)
            go_simp
            refine hK.out _ _ ?_
            clear hK K
            refine norm_ (a' := ?_) ?_ ?_
            rotate_left
            · rfl
            refine done_ (by kernel_rfl) ?_
            go_wp2
            go_ret
            exact ⟨rfl, SE.out.did, fun _ => ⟨_, _, _, SE.out.bare⟩⟩
          exact AllReadyL.nil
        refine consL_ (i := 23) (N := some 58) (bs 35 16513535) rfl rfl rfl (by decide) (fun K hK => ?_) ?_
        · go_simp
          have St48 := Lib.hid (St35.out.made 3 #[.int .i64 0])
          refine hK.out _ _ (sOf St48.out (List.mem_cons_of_mem _ (List.mem_cons_of_mem _ List.mem_cons_self)) (List.mem_cons_of_mem _ (List.mem_cons_of_mem _ (List.mem_cons_of_mem _ List.mem_cons_self)))) (fun hHeld => ?_)
          clear hK K
          refine norm_ (a' := ?_) ?_ ?_
          rotate_left
          · rfl
          generalize W35.alloc (Obj.cells #[.int .i64 0] 3) = W48 at hHeld St48 ⊢
          refine one_ (i := 9) (N := some 44) (bs 35 16514047) rfl rfl (by kernel_rfl) (by decide) (fun K hK => ?_)
          go_simp
          have St49 := Lib.hid (St48.out.made 47 #[.string lab, .slice none 0 0, .slice none 0 0, .string ⟨#[]⟩])
          refine hK.out _ _ (sOf St49.out (List.mem_cons_of_mem _ (List.mem_cons_of_mem _ (List.mem_cons_of_mem _ List.mem_cons_self))) (List.mem_cons_of_mem _ (List.mem_cons_of_mem _ (List.mem_cons_of_mem _ (List.mem_cons_of_mem _ List.mem_cons_self))))) (fun hHeld => ?_)
          clear hK K
          refine norm_ (a' := ?_) ?_ ?_
          rotate_left
          · rfl
          generalize W48.alloc (Obj.cells #[.string lab, .slice none 0 0, .slice none 0 0, .string ⟨#[]⟩] 47) = W49 at hHeld St49 ⊢
          refine one_ (i := 10) (N := some 45) (bs 35 16515071) rfl rfl (by kernel_rfl) (by decide) (fun K hK => ?_)
          obtain ⟨u10, W50, hrun, St50⟩ := St49.out.appR (l := lab) (by first | exact List.mem_cons_self | exact List.mem_cons_of_mem _ List.mem_cons_self | exact List.mem_cons_of_mem _ (List.mem_cons_of_mem _ List.mem_cons_self)) hR64 23
          replace St50 := Lib.hid St50
          refine step_app (by rfl) rfl rfl rfl hrun ?_
          refine hK.out _ _ (sOf St50.out (List.mem_cons_of_mem _ (List.mem_cons_of_mem _ (List.mem_cons_of_mem _ List.mem_cons_self))) (List.mem_cons_of_mem _ (List.mem_cons_of_mem _ (List.mem_cons_of_mem _ (List.mem_cons_of_mem _ List.mem_cons_self))))) (fun hHeld => ?_)
          clear hK K hrun
          refine norm_ (a' := ?_) ?_ ?_
          rotate_left
          · show Act.put _ (some 45) _ = _; simp only [Act.put, List.setIfInBounds_toArray, List.set_cons_zero, List.set_cons_succ]; rfl
          refine one_ (i := 18) (N := some 53) (bs 35 16777215) rfl rfl (by kernel_rfl) (by decide) (fun K hK => ?_)
          obtain ⟨u18, W51, hrun, St51⟩ := St50.out.appL (x := l.f0) (by first | exact List.mem_cons_self | exact List.mem_cons_of_mem _ List.mem_cons_self | exact List.mem_cons_of_mem _ (List.mem_cons_of_mem _ List.mem_cons_self)) hL64 26
          replace St51 := Lib.hid St51
          refine step_app (by rfl) rfl rfl rfl hrun ?_
          refine hK.out _ _ (sOf St51.out (List.mem_cons_of_mem _ (List.mem_cons_of_mem _ (List.mem_cons_of_mem _ List.mem_cons_self))) (List.mem_cons_of_mem _ (List.mem_cons_of_mem _ (List.mem_cons_of_mem _ (List.mem_cons_of_mem _ List.mem_cons_self))))) (fun hHeld => ?_)
          clear hK K hrun
          refine norm_ (a' := ?_) ?_ ?_
          rotate_left
          · show Act.put _ (some 53) _ = _; simp only [Act.put, List.setIfInBounds_toArray, List.set_cons_zero, List.set_cons_succ]; rfl
          refine one_ (i := 24) (N := some 59) (bs 35 33554431) rfl rfl (by kernel_rfl) (by decide) (fun K hK => ?_)
          obtain ⟨u24, W52, hrun, St52⟩ := St51.out.appJ (x := 0) (by first | exact List.mem_cons_self | exact List.mem_cons_of_mem _ List.mem_cons_self | exact List.mem_cons_of_mem _ (List.mem_cons_of_mem _ List.mem_cons_self)) hJ64 26
          replace St52 := Lib.hid St52
          refine step_app (by rfl) rfl rfl rfl hrun ?_
          refine hK.out _ _ (sOf St52.out (List.mem_cons_of_mem _ (List.mem_cons_of_mem _ (List.mem_cons_of_mem _ List.mem_cons_self))) (List.mem_cons_of_mem _ (List.mem_cons_of_mem _ (List.mem_cons_of_mem _ (List.mem_cons_of_mem _ List.mem_cons_self))))) (fun hHeld => ?_)
          clear hK K hrun
          refine norm_ (a' := ?_) ?_ ?_
          rotate_left
          · show Act.put _ (some 59) _ = _; simp only [Act.put, List.setIfInBounds_toArray, List.set_cons_zero, List.set_cons_succ]; rfl
          obtain ⟨n1, A1, c1, rfl⟩ := sl_S St52.out.R; obtain ⟨n2, A2, c2, rfl⟩ := sl_R St52.out.L; obtain ⟨n3, A3, c3, rfl⟩ := sl_R St52.out.J
          have k3 := St52.out.bx.cell 3 vR rfl; have k5 := St52.out.bx.cell 5 vL rfl; have k6 := St52.out.bx.cell 6 vJ rfl; have z3 := St52.out.bx.frozen 3; have z5 := St52.out.bx.frozen 5; have z6 := St52.out.bx.frozen 6; have SE := Lib.hid (((St52.out.put 3 (.slice A1 n1 c1)).put 5 (.slice A2 n2 c2)).put 6 (.slice A3 n3 c3))
          clear hHeld
          refine pure_ (i := 25) (N := some 60) (v := ?_) (a' := ?_) (bs 35 67108863) rfl rfl (by kernel_rfl) (fun _ _ _ h => h) (Or.inl ⟨by rfl, ?_⟩) ?_ ?_
          rotate_left
          · intro w'; go_simp; try with_reducible rfl
          rotate_left
          · simp only [Act.put, List.setIfInBounds_toArray, List.set_cons_zero, List.set_cons_succ]; rfl
          refine pure_ (i := 26) (N := some 61) (v := ?_) (a' := ?_) (bs 35 134217727) rfl rfl (by kernel_rfl) (fun _ _ _ h => h) (Or.inl ⟨by rfl, ?_⟩) ?_ ?_
          rotate_left
          · intro w'; go_simp; try with_reducible rfl
          rotate_left
          · simp only [Act.put, List.setIfInBounds_toArray, List.set_cons_zero, List.set_cons_succ]; rfl
          refine pure_ (i := 27) (N := some 62) (v := ?_) (a' := ?_) (bs 35 268435455) rfl rfl (by kernel_rfl) (fun _ _ _ h => h) (Or.inl ⟨by rfl, ?_⟩) ?_ ?_
          rotate_left
          · intro w'; go_simp; try with_reducible rfl
          rotate_left
          · simp only [Act.put, List.setIfInBounds_toArray, List.set_cons_zero, List.set_cons_succ]; rfl
          refine oneD_ (i := 28) (N := none) (bs 35 536870911) rfl rfl (by kernel_rfl) (by decide) (fun K hK => ?_)
          go_simp
          refine hK.out _ _ ?_
          clear hK K
          refine norm_ (a' := ?_) ?_ ?_
          rotate_left
          · rfl
          refine pure_ (i := 29) (N := some 63) (v := ?_) (a' := ?_) (bs 35 1073741823) rfl rfl (by kernel_rfl) (fun _ _ _ h => h) (Or.inl ⟨by rfl, ?_⟩) ?_ ?_
          rotate_left
          · intro w'; go_simp; try with_reducible rfl
          rotate_left
          · simp only [Act.put, List.setIfInBounds_toArray, List.set_cons_zero, List.set_cons_succ]; rfl
          refine pure_ (i := 30) (N := some 64) (v := ?_) (a' := ?_) (bs 35 2147483647) rfl rfl (by kernel_rfl) (fun _ _ _ h => h) (Or.inl ⟨by rfl, ?_⟩) ?_ ?_
          rotate_left
          · intro w'; go_simp; try with_reducible rfl
          rotate_left
          · simp only [Act.put, List.setIfInBounds_toArray, List.set_cons_zero, List.set_cons_succ]; rfl
          refine oneD_ (i := 31) (N := none) (bs 35 4294967295) rfl rfl (by kernel_rfl) (by decide) (fun K hK => ?_)
          go_simp
          refine hK.out _ _ ?_
          clear hK K
          refine norm_ (a' := ?_) ?_ ?_
          rotate_left
          · rfl
          refine pure_ (i := 32) (N := some 65) (v := ?_) (a' := ?_) (bs 35 8589934591) rfl rfl (by kernel_rfl) (fun _ _ _ h => h) (Or.inl ⟨by rfl, ?_⟩) ?_ ?_
          rotate_left
          · intro w'; go_simp; try with_reducible rfl
          rotate_left
          · simp only [Act.put, List.setIfInBounds_toArray, List.set_cons_zero, List.set_cons_succ]; rfl
          refine pure_ (i := 33) (N := some 66) (v := ?_) (a' := ?_) (bs 35 17179869183) rfl rfl (by kernel_rfl) (fun _ _ _ h => h) (Or.inl ⟨by rfl, ?_⟩) ?_ ?_
          rotate_left
          · intro w'; go_simp; try with_reducible rfl
          rotate_left
          · simp only [Act.put, List.setIfInBounds_toArray, List.set_cons_zero, List.set_cons_succ]; rfl
          refine oneD_ (i := 34) (N := none) (bs 35 34359738367) rfl rfl (by kernel_rfl) (by decide) (fun K hK => ?_)
          go_simp
          refine hK.out _ _ ?_
          clear hK K
          refine norm_ (a' := ?_) ?_ ?_
          rotate_left
          · rfl
          refine done_ (by kernel_rfl) ?_
          go_wp2
          go_ret
          exact ⟨rfl, SE.out.did, fun _ => ⟨_, _, _, SE.out.bare⟩⟩
        exact AllReadyL.nil
      refine consL_ (i := 23) (N := some 58) (bs 35 16382463) rfl rfl rfl (by decide) (fun K hK => ?_) ?_
      · go_simp
        have St53 := Lib.hid (St0.out.made 3 #[.int .i64 0])
        refine hK.out _ _ (sOf St53.out (List.mem_cons_of_mem _ List.mem_cons_self) (List.mem_cons_of_mem _ (List.mem_cons_of_mem _ List.mem_cons_self))) (fun hHeld => ?_)
        clear hK K
        refine norm_ (a' := ?_) ?_ ?_
        rotate_left
        · rfl
        generalize Ws.alloc (Obj.cells #[.int .i64 0] 3) = W53 at hHeld St53 ⊢
        refine wpAnyLast_ready (rs := [9, 17]) (by kernel_rfl) (by simp) ?_
        refine consL_ (i := 9) (N := some 44) (bs 35 16382975) rfl rfl rfl (by decide) (fun K hK => ?_) ?_
        · go_simp
          have St54 := Lib.hid (St53.out.made 47 #[.string lab, .slice none 0 0, .slice none 0 0, .string ⟨#[]⟩])
          refine hK.out _ _ (sOf St54.out (List.mem_cons_of_mem _ (List.mem_cons_of_mem _ List.mem_cons_self)) (List.mem_cons_of_mem _ (List.mem_cons_of_mem _ (List.mem_cons_of_mem _ List.mem_cons_self)))) (fun hHeld => ?_)
          clear hK K
          refine norm_ (a' := ?_) ?_ ?_
          rotate_left
          · rfl
          generalize W53.alloc (Obj.cells #[.string lab, .slice none 0 0, .slice none 0 0, .string ⟨#[]⟩] 47) = W54 at hHeld St54 ⊢
          refine wpAnyLast_ready (rs := [10, 17]) (by kernel_rfl) (by simp) ?_
          refine consL_ (i := 10) (N := some 45) (bs 35 16383999) rfl rfl rfl (by decide) (fun K hK => ?_) ?_
          · obtain ⟨u10, W55, hrun, St55⟩ := St54.out.appR (l := lab) (by first | exact List.mem_cons_self | exact List.mem_cons_of_mem _ List.mem_cons_self | exact List.mem_cons_of_mem _ (List.mem_cons_of_mem _ List.mem_cons_self)) hR64 23
            replace St55 := Lib.hid St55
            refine step_app (by rfl) rfl rfl rfl hrun ?_
            refine hK.out _ _ (sOf St55.out (List.mem_cons_of_mem _ (List.mem_cons_of_mem _ List.mem_cons_self)) (List.mem_cons_of_mem _ (List.mem_cons_of_mem _ (List.mem_cons_of_mem _ List.mem_cons_self)))) (fun hHeld => ?_)
            clear hK K hrun
            refine norm_ (a' := ?_) ?_ ?_
            rotate_left
            · show Act.put _ (some 45) _ = _; simp only [Act.put, List.setIfInBounds_toArray, List.set_cons_zero, List.set_cons_succ]; rfl
            refine one_ (i := 17) (N := some 52) (bs 35 16515071) rfl rfl (by kernel_rfl) (by decide) (fun K hK => ?_)
            go_simp
            have St56 := Lib.hid (St55.out.made 3 #[.int .i64 l.f0])
            refine hK.out _ _ (sOf St56.out (List.mem_cons_of_mem _ (List.mem_cons_of_mem _ (List.mem_cons_of_mem _ List.mem_cons_self))) (List.mem_cons_of_mem _ (List.mem_cons_of_mem _ (List.mem_cons_of_mem _ (List.mem_cons_of_mem _ List.mem_cons_self))))) (fun hHeld => ?_)
            clear hK K
            refine norm_ (a' := ?_) ?_ ?_
            rotate_left
            · rfl
            generalize W55.alloc (Obj.cells #[.int .i64 l.f0] 3) = W56 at hHeld St56 ⊢
            refine one_ (i := 18) (N := some 53) (bs 35 16777215) rfl rfl (by kernel_rfl) (by decide) (fun K hK => ?_)
            obtain ⟨u18, W57, hrun, St57⟩ := St56.out.appL (x := l.f0) (by first | exact List.mem_cons_self | exact List.mem_cons_of_mem _ List.mem_cons_self | exact List.mem_cons_of_mem _ (List.mem_cons_of_mem _ List.mem_cons_self)) hL64 26
            replace St57 := Lib.hid St57
            refine step_app (by rfl) rfl rfl rfl hrun ?_
            refine hK.out _ _ (sOf St57.out (List.mem_cons_of_mem _ (List.mem_cons_of_mem _ (List.mem_cons_of_mem _ List.mem_cons_self))) (List.mem_cons_of_mem _ (List.mem_cons_of_mem _ (List.mem_cons_of_mem _ (List.mem_cons_of_mem _ List.mem_cons_self))))) (fun hHeld => ?_)
            clear hK K hrun
            refine norm_ (a' := ?_) ?_ ?_
            rotate_left
            · show Act.put _ (some 53) _ = _; simp only [Act.put, List.setIfInBounds_toArray, List.set_cons_zero, List.set_cons_succ]; rfl
            refine one_ (i := 24) (N := some 59) (bs 35 33554431) rfl rfl (by kernel_rfl) (by decide) (fun K hK => ?_)
            obtain ⟨u24, W58, hrun, St58⟩ := St57.out.appJ (x := 0) (by first | exact List.mem_cons_self | exact List.mem_cons_of_mem _ List.mem_cons_self | exact List.mem_cons_of_mem _ (List.mem_cons_of_mem _ List.mem_cons_self)) hJ64 26
            replace St58 := Lib.hid St58
            refine step_app (by rfl) rfl rfl rfl hrun ?_
            refine hK.out _ _ (sOf St58.out (List.mem_cons_of_mem _ (List.mem_cons_of_mem _ (List.mem_cons_of_mem _ List.mem_cons_self))) (List.mem_cons_of_mem _ (List.mem_cons_of_mem _ (List.mem_cons_of_mem _ (List.mem_cons_of_mem _ List.mem_cons_self))))) (fun hHeld => ?_)
            clear hK K hrun
            refine norm_ (a' := ?_) ?_ ?_
            rotate_left
            · show Act.put _ (some 59) _ = _; simp only [Act.put, List.setIfInBounds_toArray, List.set_cons_zero, List.set_cons_succ]; rfl
            obtain ⟨n1, A1, c1, rfl⟩ := sl_S St58.out.R; obtain ⟨n2, A2, c2, rfl⟩ := sl_R St58.out.L; obtain ⟨n3, A3, c3, rfl⟩ := sl_R St58.out.J
            have k3 := St58.out.bx.cell 3 vR rfl; have k5 := St58.out.bx.cell 5 vL rfl; have k6 := St58.out.bx.cell 6 vJ rfl; have z3 := St58.out.bx.frozen 3; have z5 := St58.out.bx.frozen 5; have z6 := St58.out.bx.frozen 6; have SE := Lib.hid (((St58.out.put 3 (.slice A1 n1 c1)).put 5 (.slice A2 n2 c2)).put 6 (.slice A3 n3 c3))
            clear hHeld
            refine pure_ (i := 25) (N := some 60) (v := ?_) (a' := ?_) (bs 35 67108863) rfl rfl (by kernel_rfl) (fun _ _ _ h => h) (Or.inl ⟨by rfl, ?_⟩) ?_ ?_
            rotate_left
            · intro w'; go_simp; try with_reducible rfl
            rotate_left
            · simp only [Act.put, List.setIfInBounds_toArray, List.set_cons_zero, List.set_cons_succ]; rfl
            refine pure_ (i := 26) (N := some 61) (v := ?_) (a' := ?_) (bs 35 134217727) rfl rfl (by kernel_rfl) (fun _ _ _ h => h) (Or.inl ⟨by rfl, ?_⟩) ?_ ?_
            rotate_left
            · intro w'; go_simp; try with_reducible rfl
            rotate_left
            · simp only [Act.put, List.setIfInBounds_toArray, List.set_cons_zero, List.set_cons_succ]; rfl
            refine pure_ (i := 27) (N := some 62) (v := ?_) (a' := ?_) (bs 35 268435455) rfl rfl (by kernel_rfl) (fun _ _ _ h => h) (Or.inl ⟨by rfl, ?_⟩) ?_ ?_
            rotate_left
            · intro w'; go_simp; try with_reducible rfl
            rotate_left
            · simp only [Act.put, List.setIfInBounds_toArray, List.set_cons_zero, List.set_cons_succ]; rfl
            refine oneD_ (i := 28) (N := none) (bs 35 536870911) rfl rfl (by kernel_rfl) (by decide) (fun K hK => ?_)
            go_simp
            refine hK.out _ _ ?_
            clear hK K
            refine norm_ (a' := ?_) ?_ ?_
            rotate_left
            · rfl
            refine pure_ (i := 29) (N := some 63) (v := ?_) (a' := ?_) (bs 35 1073741823) rfl rfl (by kernel_rfl) (fun _ _ _ h => h) (Or.inl ⟨by rfl, ?_⟩) ?_ ?_
            rotate_left
            · intro w'; go_simp; try with_reducible rfl
            rotate_left
            · simp only [Act.put, List.setIfInBounds_toArray, List.set_cons_zero, List.set_cons_succ]; rfl
            refine pure_ (i := 30) (N := some 64) (v := ?_) (a' := ?_) (bs 35 2147483647) rfl rfl (by kernel_rfl) (fun _ _ _ h => h) (Or.inl ⟨by rfl, ?_⟩) ?_ ?_
            rotate_left
            · intro w'; go_simp; try with_reducible rfl
            rotate_left
            · simp only [Act.put, List.setIfInBounds_toArray, List.set_cons_zero, List.set_cons_succ]; rfl
            refine oneD_ (i := 31) (N := none) (bs 35 4294967295) rfl rfl (by kernel_rfl) (by decide) (fun K hK => ?_)
            go_simp
            refine hK.out _ _ ?_
            clear hK K
            refine norm_ (a' := ?_) ?_ ?_
            rotate_left
            · rfl
            refine pure_ (i := 32) (N := some 65) (v := ?_) (a' := ?_) (bs 35 8589934591) rfl rfl (by kernel_rfl) (fun _ _ _ h => h) (Or.inl ⟨by rfl, ?_⟩) ?_ ?_
            rotate_left
            · intro w'; go_simp; try with_reducible rfl
            rotate_left
            · simp only [Act.put, List.setIfInBounds_toArray, List.set_cons_zero, List.set_cons_succ]; rfl
            refine pure_ (i := 33) (N := some 66) (v := ?_) (a' := ?_) (bs 35 17179869183) rfl rfl (by kernel_rfl) (fun _ _ _ h => h) (Or.inl ⟨by rfl, ?_⟩) ?_ ?_
            rotate_left
            · intro w'; go_simp; try with_reducible rfl
            rotate_left
            · simp only [Act.put, List.setIfInBounds_toArray, List.set_cons_zero, List.set_cons_succ]; rfl
            refine oneD_ (i := 34) (N := none) (bs 35 34359738367) rfl rfl (by kernel_rfl) (by decide) (fun K hK => ?_)
            go_simp
            refine hK.out _ _ ?_
            clear hK K
            refine norm_ (a' := ?_) ?_ ?_
            rotate_left
            · rfl
            refine done_ (by kernel_rfl) ?_
            go_wp2
            go_ret
            exact ⟨rfl, SE.out.did, fun _ => ⟨_, _, _, SE.out.bare⟩⟩
          refine consL_ (i := 17) (N := some 52) (bs 35 16514047) rfl rfl rfl (by decide) (fun K hK => ?_) ?_
          · go_simp
            have St59 := Lib.hid (St54.out.made 3 #[.int .i64 l.f0])
            refine hK.out _ _ (sOf St59.out (List.mem_cons_of_mem _ (List.mem_cons_of_mem _ (List.mem_cons_of_mem _ List.mem_cons_self))) (List.mem_cons_of_mem _ (List.mem_cons_of_mem _ (List.mem_cons_of_mem _ (List.mem_cons_of_mem _ List.mem_cons_self))))) (fun hHeld => ?_)
            clear hK K
            refine norm_ (a' := ?_) ?_ ?_
            rotate_left
            · rfl
            generalize W54.alloc (Obj.cells #[.int .i64 l.f0] 3) = W59 at hHeld St59 ⊢
            refine one_ (i := 10) (N := some 45) (bs 35 16515071) rfl rfl (by kernel_rfl) (by decide) (fun K hK => ?_)
            obtain ⟨u10, W60, hrun, St60⟩ := St59.out.appR (l := lab) (by first | exact List.mem_cons_self | exact List.mem_cons_of_mem _ List.mem_cons_self | exact List.mem_cons_of_mem _ (List.mem_cons_of_mem _ List.mem_cons_self)) hR64 23
            replace St60 := Lib.hid St60
            refine step_app (by rfl) rfl rfl rfl hrun ?_
            refine hK.out _ _ (sOf St60.out (List.mem_cons_of_mem _ (List.mem_cons_of_mem _ (List.mem_cons_of_mem _ List.mem_cons_self))) (List.mem_cons_of_mem _ (List.mem_cons_of_mem _ (List.mem_cons_of_mem _ (List.mem_cons_of_mem _ List.mem_cons_self))))) (fun hHeld => ?_)
            clear hK K hrun
            refine norm_ (a' := ?_) ?_ ?_
            rotate_left
            · show Act.put _ (some 45) _ = _; simp only [Act.put, List.setIfInBounds_toArray, List.set_cons_zero, List.set_cons_succ]; rfl
            refine one_ (i := 18) (N := some 53) (bs 35 16777215) rfl rfl (by kernel_rfl) (by decide) (fun K hK => ?_)
            obtain ⟨u18, W61, hrun, St61⟩ := St60.out.appL (x := l.f0) (by first | exact List.mem_cons_self | exact List.mem_cons_of_mem _ List.mem_cons_self | exact List.mem_cons_of_mem _ (List.mem_cons_of_mem _ List.mem_cons_self)) hL64 26
            replace St61 := Lib.hid St61
            refine step_app (by rfl) rfl rfl rfl hrun ?_
            refine hK.out _ _ (sOf St61.out (List.mem_cons_of_mem _ (List.mem_cons_of_mem _ (List.mem_cons_of_mem _ List.mem_cons_self))) (List.mem_cons_of_mem _ (List.mem_cons_of_mem _ (List.mem_cons_of_mem _ (List.mem_cons_of_mem _ List.mem_cons_self))))) (fun hHeld => ?_)
            clear hK K hrun
            refine norm_ (a' := ?_) ?_ ?_
            rotate_left
            · show Act.put _ (some 53) _ = _; simp only [Act.put, List.setIfInBounds_toArray, List.set_cons_zero, List.set_cons_succ]; rfl
            refine one_ (i := 24) (N := some 59) (bs 35 33554431) rfl rfl (by kernel_rfl) (by decide) (fun K hK => ?_)
            obtain ⟨u24, W62, hrun, St62⟩ := St61.out.appJ (x := 0) (by first | exact List.mem_cons_self | exact List.mem_cons_of_mem _ List.mem_cons_self | exact List.mem_cons_of_mem _ (List.mem_cons_of_mem _ List.mem_cons_self)) hJ64 26
            replace St62 := Lib.hid St62
            refine step_app (by rfl) rfl rfl rfl hrun ?_
            refine hK.out _ _ (sOf St62.out (List.mem_cons_of_mem _ (List.mem_cons_of_mem _ (List.mem_cons_of_mem _ List.mem_cons_self))) (List.mem_cons_of_mem _ (List.mem_cons_of_mem _ (List.mem_cons_of_mem _ (List.mem_cons_of_mem _ List.mem_cons_self))))) (fun hHeld => ?_)
            clear hK K hrun
            refine norm_ (a' := ?_) ?_ ?_
            rotate_left
            · show Act.put _ (some 59) _ = _; simp only [Act.put, List.setIfInBounds_toArray, List.set_cons_zero, List.set_cons_succ]; rfl
            obtain ⟨n1, A1, c1, rfl⟩ := sl_S St62.out.R; obtain ⟨n2, A2, c2, rfl⟩ := sl_R St62.out.L; obtain ⟨n3, A3, c3, rfl⟩ := sl_R St62.out.J
            have k3 := St62.out.bx.cell 3 vR rfl; have k5 := St62.out.bx.cell 5 vL rfl; have k6 := St62.out.bx.cell 6 vJ rfl; have z3 := St62.out.bx.frozen 3; have z5 := St62.out.bx.frozen 5; have z6 := St62.out.bx.frozen 6; have SE := Lib.hid (((St62.out.put 3 (.slice A1 n1 c1)).put 5 (.slice A2 n2 c2)).put 6 (.slice A3 n3 c3))
            clear hHeld
            refine pure_ (i := 25) (N := some 60) (v := ?_) (a' := ?_) (bs 35 67108863) rfl rfl (by kernel_rfl) (fun _ _ _ h => h) (Or.inl ⟨by rfl, ?_⟩) ?_ ?_
            rotate_left
            · intro w'; go_simp; try with_reducible rfl
            rotate_left
            · simp only [Act.put, List.setIfInBounds_toArray, List.set_cons_zero, List.set_cons_succ]; rfl
            refine pure_ (i := 26) (N := some 61) (v := ?_) (a' := ?_) (bs 35 134217727) rfl rfl (by kernel_rfl) (fun _ _ _ h => h) (Or.inl ⟨by rfl, ?_⟩) ?_ ?_
            rotate_left
            · intro w'; go_simp; try with_reducible rfl
            rotate_left
            · simp only [Act.put, List.setIfInBounds_toArray, List.set_cons_zero, List.set_cons_succ]; rfl
            refine pure_ (i := 27) (N := some 62) (v := ?_) (a' := ?_) (bs 35 268435455) rfl rfl (by kernel_rfl) (fun _ _ _ h => h) (Or.inl ⟨by rfl, ?_⟩) ?_ ?_
            rotate_left
            · intro w'; go_simp; try with_reducible rfl
            rotate_left
            · simp only [Act.put, List.setIfInBounds_toArray, List.set_cons_zero, List.set_cons_succ]; rfl
            refine oneD_ (i := 28) (N := none) (bs 35 536870911) rfl rfl (by kernel_rfl) (by decide) (fun K hK => ?_)
            go_simp
            refine hK.out _ _ ?_
            clear hK K
            refine norm_ (a' := ?_) ?_ ?_
            rotate_left
            · rfl
            refine pure_ (i := 29) (N := some 63) (v := ?_) (a' := ?_) (bs 35 1073741823) rfl rfl (by kernel_rfl) (fun _ _ _ h => h) (Or.inl ⟨by rfl, ?_⟩) ?_ ?_
            rotate_left
            · intro w'; go_simp; try with_reducible rfl
            rotate_left
            · simp only [Act.put, List.setIfInBounds_toArray, List.set_cons_zero, List.set_cons_succ]; rfl
            refine pure_ (i := 30) (N := some 64) (v := ?_) (a' := ?_) (bs 35 2147483647) rfl rfl (by kernel_rfl) (fun _ _ _ h => h) (Or.inl ⟨by rfl, ?_⟩) ?_ ?_
            rotate_left
            · intro w'; go_simp; try with_reducible rfl
            rotate_left
            · simp only [Act.put, List.setIfInBounds_toArray, List.set_cons_zero, List.set_cons_succ]; rfl
            refine oneD_ (i := 31) (N := none) (bs 35 4294967295) rfl rfl (by kernel_rfl) (by decide) (fun K hK => ?_)
            go_simp
            refine hK.out _ _ ?_
            clear hK K
            refine norm_ (a' := ?_) ?_ ?_
            rotate_left
            · rfl
            refine pure_ (i := 32) (N := some 65) (v := ?_) (a' := ?_) (bs 35 8589934591) rfl rfl (by kernel_rfl) (fun _ _ _ h => h) (Or.inl ⟨by rfl, ?_⟩) ?_ ?_
            rotate_left
            · intro w'; go_simp; try with_reducible rfl
            rotate_left
            · simp only [Act.put, List.setIfInBounds_toArray, List.set_cons_zero, List.set_cons_succ]; rfl
            refine pure_ (i := 33) (N := some 66) (v := ?_) (a' := ?_) (bs 35 17179869183) rfl rfl (by kernel_rfl) (fun _ _ _ h => h) (Or.inl ⟨by rfl, ?_⟩) ?_ ?_
            rotate_left
            · intro w'; go_simp; try with_reducible rfl
            rotate_left
            · simp only [Act.put, List.setIfInBounds_toArray, List.set_cons_zero, List.set_cons_succ]; rfl
            refine oneD_ (i := 34) (N := none) (bs 35 34359738367) rfl rfl (by kernel_rfl) (by decide) (fun K hK => ?_)
            go_simp
            refine hK.out _ _ ?_
            clear hK K
            refine norm_ (a' := ?_) ?_ ?_
            rotate_left
            · rfl
            refine done_ (by kernel_rfl) ?_
            go_wp2
            go_ret
            exact ⟨rfl, SE.out.did, fun _ => ⟨_, _, _, SE.out.bare⟩⟩
          exact AllReadyL.nil
        refine consL_ (i := 17) (N := some 52) (bs 35 16513535) rfl rfl rfl (by decide) (fun K hK => ?_) ?_
        · go_simp
          have St63 := Lib.hid (St53.out.made 3 #[.int .i64 l.f0])
          refine hK.out _ _ (sOf St63.out (List.mem_cons_of_mem _ (List.mem_cons_of_mem _ List.mem_cons_self)) (List.mem_cons_of_mem _ (List.mem_cons_of_mem _ (List.mem_cons_of_mem _ List.mem_cons_self)))) (fun hHeld => ?_)
          clear hK K
          refine norm_ (a' := ?_) ?_ ?_
          rotate_left
          · rfl
          generalize W53.alloc (Obj.cells #[.int .i64 l.f0] 3) = W63 at hHeld St63 ⊢
          refine one_ (i := 9) (N := some 44) (bs 35 16514047) rfl rfl (by kernel_rfl) (by decide) (fun K hK => ?_)
          go_simp
          have St64 := Lib.hid (St63.out.made 47 #[.string lab, .slice none 0 0, .slice none 0 0, .string ⟨#[]⟩])
          refine hK.out _ _ (sOf St64.out (List.mem_cons_of_mem _ (List.mem_cons_of_mem _ (List.mem_cons_of_mem _ List.mem_cons_self))) (List.mem_cons_of_mem _ (List.mem_cons_of_mem _ (List.mem_cons_of_mem _ (List.mem_cons_of_mem _ List.mem_cons_self))))) (fun hHeld => ?_)
          clear hK K
          refine norm_ (a' := ?_) ?_ ?_
          rotate_left
          · rfl
          generalize W63.alloc (Obj.cells #[.string lab, .slice none 0 0, .slice none 0 0, .string ⟨#[]⟩] 47) = W64 at hHeld St64 ⊢
          refine one_ (i := 10) (N := some 45) (bs 35 16515071) rfl rfl (by kernel_rfl) (by decide) (fun K hK => ?_)
          obtain ⟨u10, W65, hrun, St65⟩ := St64.out.appR (l := lab) (by first | exact List.mem_cons_self | exact List.mem_cons_of_mem _ List.mem_cons_self | exact List.mem_cons_of_mem _ (List.mem_cons_of_mem _ List.mem_cons_self)) hR64 23
          replace St65 := Lib.hid St65
          refine step_app (by rfl) rfl rfl rfl hrun ?_
          refine hK.out _ _ (sOf St65.out (List.mem_cons_of_mem _ (List.mem_cons_of_mem _ (List.mem_cons_of_mem _ List.mem_cons_self))) (List.mem_cons_of_mem _ (List.mem_cons_of_mem _ (List.mem_cons_of_mem _ (List.mem_cons_of_mem _ List.mem_cons_self))))) (fun hHeld => ?_)
          clear hK K hrun
          refine norm_ (a' := ?_) ?_ ?_
          rotate_left
          · show Act.put _ (some 45) _ = _; simp only [Act.put, List.setIfInBounds_toArray, List.set_cons_zero, List.set_cons_succ]; rfl
          refine one_ (i := 18) (N := some 53) (bs 35 16777215) rfl rfl (by kernel_rfl) (by decide) (fun K hK => ?_)
          obtain ⟨u18, W66, hrun, St66⟩ := St65.out.appL (x := l.f0) (by first | exact List.mem_cons_self | exact List.mem_cons_of_mem _ List.mem_cons_self | exact List.mem_cons_of_mem _ (List.mem_cons_of_mem _ List.mem_cons_self)) hL64 26
          replace St66 := Lib.hid St66
          refine step_app (by rfl) rfl rfl rfl hrun ?_
          refine hK.out _ _ (sOf St66.out (List.mem_cons_of_mem _ (List.mem_cons_of_mem _ (List.mem_cons_of_mem _ List.mem_cons_self))) (List.mem_cons_of_mem _ (List.mem_cons_of_mem _ (List.mem_cons_of_mem _ (List.mem_cons_of_mem _ List.mem_cons_self))))) (fun hHeld => ?_)
          clear hK K hrun
          refine norm_ (a' := ?_) ?_ ?_
          rotate_left
          · show Act.put _ (some 53) _ = _; simp only [Act.put, List.setIfInBounds_toArray, List.set_cons_zero, List.set_cons_succ]; rfl
          refine one_ (i := 24) (N := some 59) (bs 35 33554431) rfl rfl (by kernel_rfl) (by decide) (fun K hK => ?_)
          obtain ⟨u24, W67, hrun, St67⟩ := St66.out.appJ (x := 0) (by first | exact List.mem_cons_self | exact List.mem_cons_of_mem _ List.mem_cons_self | exact List.mem_cons_of_mem _ (List.mem_cons_of_mem _ List.mem_cons_self)) hJ64 26
          replace St67 := Lib.hid St67
          refine step_app (by rfl) rfl rfl rfl hrun ?_
          refine hK.out _ _ (sOf St67.out (List.mem_cons_of_mem _ (List.mem_cons_of_mem _ (List.mem_cons_of_mem _ List.mem_cons_self))) (List.mem_cons_of_mem _ (List.mem_cons_of_mem _ (List.mem_cons_of_mem _ (List.mem_cons_of_mem _ List.mem_cons_self))))) (fun hHeld => ?_)
          clear hK K hrun
          refine norm_ (a' := ?_) ?_ ?_
          rotate_left
          · show Act.put _ (some 59) _ = _; simp only [Act.put, List.setIfInBounds_toArray, List.set_cons_zero, List.set_cons_succ]; rfl
          obtain ⟨n1, A1, c1, rfl⟩ := sl_S St67.out.R; obtain ⟨n2, A2, c2, rfl⟩ := sl_R St67.out.L; obtain ⟨n3, A3, c3, rfl⟩ := sl_R St67.out.J
          have k3 := St67.out.bx.cell 3 vR rfl; have k5 := St67.out.bx.cell 5 vL rfl; have k6 := St67.out.bx.cell 6 vJ rfl; have z3 := St67.out.bx.frozen 3; have z5 := St67.out.bx.frozen 5; have z6 := St67.out.bx.frozen 6; have SE := Lib.hid (((St67.out.put 3 (.slice A1 n1 c1)).put 5 (.slice A2 n2 c2)).put 6 (.slice A3 n3 c3))
          clear hHeld
          refine pure_ (i := 25) (N := some 60) (v := ?_) (a' := ?_) (bs 35 67108863) rfl rfl (by kernel_rfl) (fun _ _ _ h => h) (Or.inl ⟨by rfl, ?_⟩) ?_ ?_
          rotate_left
          · intro w'; go_simp; try with_reducible rfl
          rotate_left
          · simp only [Act.put, List.setIfInBounds_toArray, List.set_cons_zero, List.set_cons_succ]; rfl
          refine pure_ (i := 26) (N := some 61) (v := ?_) (a' := ?_) (bs 35 134217727) rfl rfl (by kernel_rfl) (fun _ _ _ h => h) (Or.inl ⟨by rfl, ?_⟩) ?_ ?_
          rotate_left
          · intro w'; go_simp; try with_reducible rfl
          rotate_left
          · simp only [Act.put, List.setIfInBounds_toArray, List.set_cons_zero, List.set_cons_succ]; rfl
          refine pure_ (i := 27) (N := some 62) (v := ?_) (a' := ?_) (bs 35 268435455) rfl rfl (by kernel_rfl) (fun _ _ _ h => h) (Or.inl ⟨by rfl, ?_⟩) ?_ ?_
          rotate_left
          · intro w'; go_simp; try with_reducible rfl
          rotate_left
          · simp only [Act.put, List.setIfInBounds_toArray, List.set_cons_zero, List.set_cons_succ]; rfl
          refine oneD_ (i := 28) (N := none) (bs 35 536870911) rfl rfl (by kernel_rfl) (by decide) (fun K hK => ?_)
          go_simp
          refine hK.out _ _ ?_
          clear hK K
          refine norm_ (a' := ?_) ?_ ?_
          rotate_left
          · rfl
          refine pure_ (i := 29) (N := some 63) (v := ?_) (a' := ?_) (bs 35 1073741823) rfl rfl (by kernel_rfl) (fun _ _ _ h => h) (Or.inl ⟨by rfl, ?_⟩) ?_ ?_
          rotate_left
          · intro w'; go_simp; try with_reducible rfl
          rotate_left
          · simp only [Act.put, List.setIfInBounds_toArray, List.set_cons_zero, List.set_cons_succ]; rfl
          refine pure_ (i := 30) (N := some 64) (v := ?_) (a' := ?_) (bs 35 2147483647) rfl rfl (by kernel_rfl) (fun _ _ _ h => h) (Or.inl ⟨by rfl, ?_⟩) ?_ ?_
          rotate_left
          · intro w'; go_simp; try with_reducible rfl
          rotate_left
          · simp only [Act.put, List.setIfInBounds_toArray, List.set_cons_zero, List.set_cons_succ]; rfl
          refine oneD_ (i := 31) (N := none) (bs 35 4294967295) rfl rfl (by kernel_rfl) (by decide) (fun K hK => ?_)
          go_simp
          refine hK.out _ _ ?_
          clear hK K
          refine norm_ (a' := ?_) ?_ ?_
          rotate_left
          · rfl
          refine pure_ (i := 32) (N := some 65) (v := ?_) (a' := ?_) (bs 35 8589934591) rfl rfl (by kernel_rfl) (fun _ _ _ h => h) (Or.inl ⟨by rfl, ?_⟩) ?_ ?_
          rotate_left
          · intro w'; go_simp; try with_reducible rfl
          rotate_left
          · simp only [Act.put, List.setIfInBounds_toArray, List.set_cons_zero, List.set_cons_succ]; rfl
          refine pure_ (i := 33) (N := some 66) (v := ?_) (a' := ?_) (bs 35 17179869183) rfl rfl (by kernel_rfl) (fun _ _ _ h => h) (Or.inl ⟨by rfl, ?_⟩) ?_ ?_
          rotate_left
          · intro w'; go_simp; try with_reducible rfl
          rotate_left
          · simp only [Act.put, List.setIfInBounds_toArray, List.set_cons_zero, List.set_cons_succ]; rfl
          refine oneD_ (i := 34) (N := none) (bs 35 34359738367) rfl rfl (by kernel_rfl) (by decide) (fun K hK => ?_)
          go_simp
          refine hK.out _ _ ?_
          clear hK K
          refine norm_ (a' := ?_) ?_ ?_
          rotate_left
          · rfl
          refine done_ (by kernel_rfl) ?_
          go_wp2
          go_ret
          exact ⟨rfl, SE.out.did, fun _ => ⟨_, _, _, SE.out.bare⟩⟩
        exact AllReadyL.nil
      exact AllReadyL.nil
end Go.Proofs.YtdbjjbooalkkbaaGreatDoor.P

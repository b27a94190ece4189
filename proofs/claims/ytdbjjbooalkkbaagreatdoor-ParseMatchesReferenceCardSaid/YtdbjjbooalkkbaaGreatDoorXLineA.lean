/- The parser's method line, a keyword being found. -/
import Derived.Test.YtdbjjbooalkkbaaGreatDoorXWords
import Derived.Test.YtdbjjbooalkkbaaGreatDoorXParR
set_option linter.unusedVariables false
set_option linter.unusedSimpArgs false
namespace Go.Proofs.YtdbjjbooalkkbaaGreatDoor.P
open Go.RowKit Go.Shelf Go.Proofs.YtdbjjbooalkkbaaGreatDoorW.PrintWords Go.Proofs.YtdbjjbooalkkbaaGreatDoorW.PrintLast Go.Proofs.YtdbjjbooalkkbaaGreatDoorW.PrintMore

theorem MPost.from {B b : Nat} {w0 w w' : World} {r : Int × PSt} {e : Ending} (h : MPost B b w r e w') (hd : Did B b w0 w) : MPost B b w0 r e w' :=
  ⟨h.1, hd.trans h.2.1, fun h0 => by obtain ⟨vR, vL, vJ, S⟩ := h.2.2 h0; exact ⟨vR, vL, vJ, S.from hd⟩⟩
set_option maxRecDepth 100000 in
set_option maxHeartbeats 4000000 in
theorem line_at {B b : Nat} (f least most : Nat) (sized inn : Bool) (R : Int × PSt) (s : PSt) (l : LN) (A : Option Addr) (c r : Nat) (vR vL vJ : Value) (w : World) (St : Stage B b 57 (pc s vR vL vJ) w vR s.rungs vL s.lines vJ s.jumps [] w)
    (hC : Kd.string.C w A l.f1.length l.f1) (hn : 0 < l.f1.length) (hlook : ∀ W, Below w.heap.size w W → (Instr.lookup 58 (.map (some r)) (.string (wd l 0)) true).run Tryz.prog W = .ok (.tuple #[ent b f least most sized inn, .bool true]) W)
    (hent : ∀ args w, (callFunc f args).run Tryz.prog w = .ok (.enter f args) w)
    (hcall : least ≤ l.f1.length → l.f1.length ≤ most → (sized = true → s.sized = true) → (inn = true → 0 < s.rungs.length) → ∀ W, Below w.heap.size w W → Calls Tryz.prog f #[.pointer (some ⟨b, 0, none⟩), .agg #[.int .i64 l.f0, .slice A l.f1.length c]] W (MPost B b W R)) :
    Calls Tryz.prog 22 #[.pointer (some ⟨b, 0, none⟩), .map (some r), .agg #[.int .i64 l.f0, .slice A l.f1.length c]] w (MPost B b w (guardP least most sized inn s l R)) := by
  obtain ⟨wb, wo, rfl, hw⟩ := words_at hC hn
  have hw0 : w.cell? ⟨wb, wo, none⟩ = some (.string (wd l 0)) := hw 0 hn
  have hwlt : wb < w.heap.size := World.block_lt_of_cell? _ _ hw0
  have hblt := St.bx.lt
  have hne : wb ≠ w.heap.size := by omega
  have hnb : b ≠ w.heap.size := by omega
  have hlook1 := hlook (w.alloc (.cells #[.int .i64 l.f0, .slice (some ⟨wb, wo, none⟩) l.f1.length c] 61)) ((Below.refl _ _).alloc (Nat.le_refl _) _)
  unfold ent at hlook1
  have cs : w.cell? ⟨b, 4, none⟩ = some (.bool s.sized) := St.bx.cell 4 _ rfl
  obtain ⟨AR, cR, eR⟩ := Kd.S_slice St.R
  have cr : w.cell? ⟨b, 3, none⟩ = some (.slice AR s.rungs.length cR) := by have := St.bx.cell 3 vR rfl; rw [eR] at this; exact this
  have HB := Lib.hid (show B ≤ w.heap.size by have := St.le; omega)
  have HSt := Lib.hid St
  have BL := Lib.hid (below_alloc (below_alloc (Below.refl w.heap.size w) (.cells #[.int .i64 l.f0, .slice (some ⟨wb, wo, none⟩) l.f1.length c] 61)) (.cells #[.int .i64 least, .int .i64 most, .bool sized, .bool inn, .func (.func f) #[.pointer (some ⟨b, 0, none⟩)] #[]] 106))
  clear eR hC hlook hw St
  generalize hss : s.sized = ss at cs hcall
  have HH := Lib.hid hcall
  clear hcall
  have hst : ∀ (a : Addr) (w : World), (store a (.func (.func f) #[.pointer (some ⟨b, 0, none⟩)] #[])).run Tryz.prog w = stored Tryz.prog w a (.func (.func f) #[.pointer (some ⟨b, 0, none⟩)] #[]) .plain := fun a w => run_store _ w a _ _ rfl
  unfold guardP
  rw [hss]
  generalize hrl : s.rungs.length = nr at cr HH ⊢
  by_cases t1 : l.f1.length < least
  case pos =>
    rw [if_pos t1]
    have q1 : decide ((l.f1.length : Int) < (least : Int)) = true := decide_eq_true (by omega)
    go_enter Tryz.func22, Tryz.ntmps22
    go_wp2
    go_ret
    exact MPost.bad (by decide) HB.out BL.out
  case neg =>
  rw [if_neg t1]
  have q1 : decide ((l.f1.length : Int) < (least : Int)) = false := decide_eq_false (by omega)
  by_cases t2 : most < l.f1.length
  case pos =>
    rw [if_pos t2]
    have q2 : decide ((most : Int) < (l.f1.length : Int)) = true := decide_eq_true (by omega)
    go_enter Tryz.func22, Tryz.ntmps22
    go_wp2
    go_ret
    exact MPost.bad (by decide) HB.out BL.out
  case neg =>
  rw [if_neg t2]
  have q2 : decide ((most : Int) < (l.f1.length : Int)) = false := decide_eq_false (by omega)
  by_cases t3 : sized = true ∧ ss = false
  case pos =>
    rw [if_pos t3]
    obtain ⟨rfl, rfl⟩ := t3
    go_enter Tryz.func22, Tryz.ntmps22
    go_wp2
    go_ret
    exact MPost.bad (by decide) HB.out BL.out
  case neg =>
  rw [if_neg t3]
  by_cases t4 : inn = true ∧ nr = 0
  case pos =>
    rw [if_pos t4]
    obtain ⟨rfl, rfl⟩ := t4
    cases sized <;> cases ss
    case true.false => exact absurd ⟨rfl, rfl⟩ t3
    all_goals
      clear t3
      go_enter Tryz.func22, Tryz.ntmps22
      go_wp2
      go_ret
      exact MPost.bad (by decide) HB.out BL.out
  case neg =>
  rw [if_neg t4]
  have HC := Lib.hid (HH.out (by omega) (by omega) (fun h => by cases ss with | true => rfl | false => exact absurd ⟨h, rfl⟩ t3) (fun h => by have : ¬ nr = 0 := fun h2 => t4 ⟨h, h2⟩; omega) _ BL.out)
  clear HH
  have q4 : inn = true → ((nr : Int) == 0) = false := fun h => by rw [beq_eq_false_iff_ne]; intro h2; exact t4 ⟨h, by omega⟩
  cases sized <;> cases ss <;> cases inn
  case true.false.true => exact absurd ⟨rfl, rfl⟩ t3
  case true.false.false => exact absurd ⟨rfl, rfl⟩ t3
  all_goals
    clear t3 t4
    try have q5 := q4 rfl
    clear q4
    go_enter Tryz.func22, Tryz.ntmps22
    go_wp2
    refine HC.out.mono ?_
    rintro e w1 ⟨rfl, hd⟩
    go_wp2
    go_ret
    exact MPost.from ⟨rfl, hd⟩ (.of_below BL.out HB.out)
end Go.Proofs.YtdbjjbooalkkbaaGreatDoor.P

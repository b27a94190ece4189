/- PrinterRoundTrip: the walk. (Printed in part by wip/tools/mkround.py.) -/
import Derived.Test.YtdbjjbooalkkbaaGreatDoorXRoundB
import Derived.Test.YtdbjjbooalkkbaaGreatDoorXSameA
import Derived.Test.YtdbjjbooalkkbaaGreatDoorXMap
import Derived.Test.YtdbjjbooalkkbaaGreatDoorXParseAll
set_option linter.unusedVariables false
set_option linter.unusedSimpArgs false
namespace Go.Proofs.YtdbjjbooalkkbaaGreatDoor.P
open Go.RowKit Go.Proofs.YtdbjjbooalkkbaaGreatDoorW.PrintWords Go.Proofs.YtdbjjbooalkkbaaGreatDoorW.PrintLast Go.Proofs.YtdbjjbooalkkbaaGreatDoorW.PrintMore

abbrev SLd := S25
structure Row (W : World) (A : Option Addr) (c : Nat) (l : List SR) : Prop where
  reads : k47.C W A l.length l
  room : l.length ≤ c
theorem Row.on {W W' : World} {A : Option Addr} {c : Nat} {l : List SR} (h : Row W A c l) (hb : Below W.heap.size W W') : Row W' A c l := ⟨Kd.C_below h.reads hb, h.room⟩
theorem print2 (I Q M : Int) (l : List SR) (n : ByteArray) (e : Int) (hv : printP I Q M l = (n, e)) (A : Option Addr) (c : Nat) (w : World) (hr : Row w A c l) (hL : Aside0 (LaidW 50 w)) :
    Calls Tryz.prog 16 #[.agg #[.int .i64 I, .int .i64 Q, .int .i64 M, .slice A l.length c]] w fun z w' => z = .returned (.tuple #[.string n, .int .i64 e]) ∧ Below w.heap.size w w' :=
  printer_Print.calls _ _ _ A c l n e w hr.reads hr.room hL (by unfold printer_Print.f; rw [hv])
theorem check2 (I Q M : Int) (l : List SR) (n e : Int) (hv : checkP I Q M l = (n, e)) (A : Option Addr) (c : Nat) (w : World) (hr : Row w A c l) :
    Calls Tryz.prog 18 #[.agg #[.int .i64 I, .int .i64 Q, .int .i64 M, .slice A l.length c]] w fun z w' => z = .returned (.tuple #[.int .i64 n, .int .i64 e]) ∧ Below w.heap.size w w' :=
  printer_Check.calls 1000 _ _ _ A c l n e w hr.reads hr.room (by rw [check_eq, hv])
theorem equal2 (I Q M : Int) (l : List SR) (hn : l.length ≤ 9223372036854775807) (hm : ∀ r ∈ l, r.f1.length ≤ 9223372036854775807 ∧ r.f2.length ≤ 9223372036854775807) (A : Option Addr) (c : Nat) (B : Option Addr) (d : Nat) (w : World) (hr : Row w A c l) (hs : Row w B d l) :
    Calls Tryz.prog 17 #[.agg #[.int .i64 I, .int .i64 Q, .int .i64 M, .slice A l.length c], .agg #[.int .i64 I, .int .i64 Q, .int .i64 M, .slice B l.length d]] w fun e w' => e = .returned (.bool true) ∧ Below w.heap.size w w' := by
  obtain ⟨k, hk⟩ := (equal_eq I Q M l I Q M l hn hm).one
  rw [sameP_refl] at hk
  exact printer_Equal.calls k _ _ _ A c l _ _ _ B d l true w hr.reads hr.room hs.reads hs.room hk
theorem printP_ok' {I Q M : Int} {l : List SR} {t : ByteArray} (h : printP I Q M l = (t, 0)) : (checkP I Q M l).2 = 0 ∧ (ladderT I Q M l).length ≤ 65536 ∧ t.data.toList = ladderT I Q M l := by
  unfold printP at h
  by_cases h1 : (checkP I Q M l).2 = 0
  · rw [if_pos h1] at h
    unfold printRes at h
    by_cases h2 : 65536 < (ladderT I Q M l).length
    · rw [if_pos h2] at h; cases h
    · rw [if_neg h2] at h
      cases h
      exact ⟨h1, by omega, by simp⟩
  · rw [if_neg h1] at h
    exact absurd (congrArg Prod.snd h) h1
theorem print_parse {I Q M : Int} {l : List SR} {t : ByteArray} (h : printP I Q M l = (t, 0)) : ∃ ls : List Int, ls.length = l.length ∧ parse_Parse.f t = some (I, Q, M, l, ls, 0, 0) := by
  obtain ⟨h1, h2, h3⟩ := printP_ok' h
  obtain ⟨ls, h4, h5⟩ := round_law h1 h2
  exact ⟨ls, h4, by rw [parse_eq, h3, h5]⟩
theorem parse_print {t : ByteArray} (ht : t.size ≤ 5000) {r : PRes} (hp : parse_Parse.f t = some r) (h0 : r.2.2.2.2.2.2 = 0) :
    ∃ (I Q M : Int) (l : List SR) (ls : List Int) (T : ByteArray), r = (I, Q, M, l, ls, 0, 0) ∧ l.length ≤ 64 ∧ checkP I Q M l = ((l.length : Int), 0) ∧ printP I Q M l = (T, 0) ∧ (∀ y ∈ l, y.f1.length ≤ 256 ∧ y.f2.length ≤ 16) := by
  rw [parse_eq] at hp
  have hr := Option.some.inj hp
  subst hr
  obtain ⟨I, Q, M, l, ls, h1, h2, h3, h4, h5⟩ := back_law h0
  refine ⟨I, Q, M, l, ls, ⟨(ladderT I Q M l).toArray⟩, h1, h2, h3, ?_, h5⟩
  unfold printP
  rw [h3, if_pos rfl]
  unfold printRes
  rw [if_neg (by rw [size_len] at ht; omega)]
set_option maxRecDepth 100000 in
set_option maxHeartbeats 32000000 in
theorem round_walk (x : SLd) (A : Option Addr) (c : Nat) (t : ByteArray) (w : World) (hx : Lad x A c w) (hL : Aside0 (LaidW 63 w)) :
    Calls Tryz.prog 4 #[ladV x A c, .string t] w fun e w' => e = .returned (.bool true) ∧ Below w.heap.size w w' := by
  obtain ⟨t1, ht1⟩ := large_call x A c w hx
  obtain ⟨⟨s, f⟩, hp⟩ : ∃ v, printP x.f0 x.f1 x.f2 x.f3 = v := ⟨_, rfl⟩
  obtain ⟨⟨I, Q, M, l, ls, n5, e5⟩, hpt⟩ : ∃ v, parse_Parse.f t = some v := ⟨_, parse_eq t⟩
  have HT1 := Lib.hid ht1
  have HA := Lib.hid (fun W (h : Since w W) => law11_alive.calls true W (LaidW.below hL rfl h.out) rfl)
  have HPx := Lib.hid (fun W (h : Since w W) => print2 x.f0 x.f1 x.f2 x.f3 s f hp A c W ⟨(hx.on h).reads, hx.room⟩ (LaidW.below hL rfl h.out))
  have HPt := Lib.hid (fun W (h : Since w W) => parse_Parse.calls _ _ _ _ _ _ _ _ W (LaidW.below hL rfl h.out) hpt)
  have S0 := Lib.hid (show Since w (w.alloc (.cells (ladC x A c) 25)) from ⟨below_alloc (Below.refl _ _) _⟩)
  have X0 := Lib.hid (Blk.new w 25 (ladC x A c))
  by_cases h1 : 0 < t1
  · have q1 : decide (0 < t1) = true := decide_eq_true h1
    clear ht1 hp hpt HPx HPt hL hx
    go_enter Tryz.func4, Tryz.ntmps4
    go_wp2_with (first
      | (go_at_call 14; (with_reducible refine (HT1.out _ S0.out).mono ?_); rintro e w1 ⟨rfl, hb⟩; have S1 := Lib.hid (S0.out.on hb); have X1 := Lib.hid (X0.out.on hb); have x0 := X1.out.cell 0 _ rfl; have x1 := X1.out.cell 1 _ rfl; have x2 := X1.out.cell 2 _ rfl; have x3 := X1.out.cell 3 _ rfl; clear hb)
      | (go_at_call 15; (with_reducible refine (HA.out _ S1.out).mono ?_); rintro e w12 ⟨rfl, hb⟩; have S12 := Lib.hid (S1.out.on hb); clear hb))
    go_ret
    exact ⟨rfl, S12.out.out⟩
  have q1 : decide (0 < t1) = false := decide_eq_false h1
  by_cases h2 : 5000 < (t.size : Int)
  · have q2 : decide (5000 < (t.size : Int)) = true := decide_eq_true h2
    clear ht1 hp hpt HPx HPt hL hx
    go_enter Tryz.func4, Tryz.ntmps4
    go_wp2_with (first
      | (go_at_call 14; (with_reducible refine (HT1.out _ S0.out).mono ?_); rintro e w1 ⟨rfl, hb⟩; have S1 := Lib.hid (S0.out.on hb); have X1 := Lib.hid (X0.out.on hb); have x0 := X1.out.cell 0 _ rfl; have x1 := X1.out.cell 1 _ rfl; have x2 := X1.out.cell 2 _ rfl; have x3 := X1.out.cell 3 _ rfl; clear hb)
      | (go_at_call 15; (with_reducible refine (HA.out _ S1.out).mono ?_); rintro e w12 ⟨rfl, hb⟩; have S12 := Lib.hid (S1.out.on hb); clear hb))
    go_ret
    exact ⟨rfl, S12.out.out⟩
  have q2 : decide (5000 < (t.size : Int)) = false := decide_eq_false h2
  by_cases he5 : e5 = 0
  case neg =>
    have q5 : (e5 != 0) = true := bne_iff_ne.2 he5
    by_cases hf : f = 0
    case neg =>
      have q6 : (f == 0) = false := beq_false_of_ne hf
      clear ht1 hp hpt hL hx
      go_enter Tryz.func4, Tryz.ntmps4
      go_wp2_with (first
        | (go_at_call 14; (with_reducible refine (HT1.out _ S0.out).mono ?_); rintro e w1 ⟨rfl, hb⟩; have S1 := Lib.hid (S0.out.on hb); have X1 := Lib.hid (X0.out.on hb); have x0 := X1.out.cell 0 _ rfl; have x1 := X1.out.cell 1 _ rfl; have x2 := X1.out.cell 2 _ rfl; have x3 := X1.out.cell 3 _ rfl; clear hb)
        | (go_at_call 16; (with_reducible refine (HPx.out _ S1.out).mono ?_); rintro e w2 ⟨rfl, hb⟩; have S2 := Lib.hid (S1.out.on hb); have X2 := Lib.hid (X1.out.on hb); have x0 := X2.out.cell 0 _ rfl; have x1 := X2.out.cell 1 _ rfl; have x2 := X2.out.cell 2 _ rfl; have x3 := X2.out.cell 3 _ rfl; clear hb)
        | (go_at_call 6; (with_reducible refine (HPt.out _ S2.out).mono ?_); rintro e w5 ⟨v5, v6, rfl, hS, hR, hb⟩; obtain ⟨A5, c5, rfl, hm5, hr5⟩ := Kd.S_reads hS; obtain ⟨A6, c6, rfl, _, _⟩ := Kd.R_reads hR; have R5 := Lib.hid (show Row w5 A5 c5 l from ⟨hr5, hm5⟩); have S5 := Lib.hid (S2.out.on hb); clear hb hS hR hm5 hr5)
        | (go_at_call 15; (with_reducible refine (HA.out _ (Lib.hid (S5.out.on (below_alloc (Below.refl _ _) (.cells #[.int .i64 I, .int .i64 Q, .int .i64 M, .slice A5 l.length c5] 25)))).out).mono ?_); rintro e w12 ⟨rfl, hb⟩; have S12 := Lib.hid ((Lib.hid (S5.out.on (below_alloc (Below.refl _ _) (.cells #[.int .i64 I, .int .i64 Q, .int .i64 M, .slice A5 l.length c5] 25)))).out.on hb); clear hb))
      go_ret
      exact ⟨rfl, S12.out.out⟩
    case pos =>
      subst hf
      obtain ⟨la, hla, hpa⟩ := print_parse hp
      have HPa := Lib.hid (fun W (h : Since w W) => parse_Parse.calls _ _ _ _ _ _ _ _ W (LaidW.below hL rfl h.out) hpa)
      have HEa := Lib.hid (fun W B d (h : Since w W) (hR : Row W B d x.f3) => equal2 x.f0 x.f1 x.f2 x.f3 hx.n hx.m A c B d W ⟨(hx.on h).reads, hx.room⟩ hR)
      have q7 : ((la.length : Int) != (x.f3.length : Int)) = false := by rw [hla]; simp
      clear ht1 hp hpt hL hx hpa hla
      go_enter Tryz.func4, Tryz.ntmps4
      go_wp2_with (first
        | (go_at_call 14; (with_reducible refine (HT1.out _ S0.out).mono ?_); rintro e w1 ⟨rfl, hb⟩; have S1 := Lib.hid (S0.out.on hb); have X1 := Lib.hid (X0.out.on hb); have x0 := X1.out.cell 0 _ rfl; have x1 := X1.out.cell 1 _ rfl; have x2 := X1.out.cell 2 _ rfl; have x3 := X1.out.cell 3 _ rfl; clear hb)
        | (go_at_call 16; (with_reducible refine (HPx.out _ S1.out).mono ?_); rintro e w2 ⟨rfl, hb⟩; have S2 := Lib.hid (S1.out.on hb); have X2 := Lib.hid (X1.out.on hb); have x0 := X2.out.cell 0 _ rfl; have x1 := X2.out.cell 1 _ rfl; have x2 := X2.out.cell 2 _ rfl; have x3 := X2.out.cell 3 _ rfl; clear hb)
        | (go_at_call 6; (with_reducible refine (HPa.out _ S2.out).mono ?_); rintro e w3 ⟨v3, v4, rfl, hS, hR, hb⟩; obtain ⟨A3, c3, rfl, hm3, hr3⟩ := Kd.S_reads hS; obtain ⟨A4, c4, rfl, _, _⟩ := Kd.R_reads hR; have R3 := Lib.hid (show Row w3 A3 c3 x.f3 from ⟨hr3, hm3⟩); have S3 := Lib.hid (S2.out.on hb); have X3 := Lib.hid (X2.out.on hb); have X3a := Lib.hid (X3.out.alloc (.cells #[.int .i64 x.f0, .int .i64 x.f1, .int .i64 x.f2, .slice A3 x.f3.length c3] 25)); have xa0 := X3a.out.cell 0 _ rfl; have xa1 := X3a.out.cell 1 _ rfl; have xa2 := X3a.out.cell 2 _ rfl; have xa3 := X3a.out.cell 3 _ rfl; have x0 := X3.out.cell 0 _ rfl; have x1 := X3.out.cell 1 _ rfl; have x2 := X3.out.cell 2 _ rfl; have x3 := X3.out.cell 3 _ rfl; clear hb hS hR hm3 hr3)
        | (go_at_call 17; (with_reducible refine (HEa.out _ _ _ (S3.out.on (below_alloc (Below.refl _ _) _)) (R3.out.on (below_alloc (Below.refl _ _) _))).mono ?_); rintro e w4 ⟨rfl, hb⟩; have X4 := Lib.hid (X3a.out.on hb); have xb3 := X4.out.cell 3 _ rfl; have S4 := Lib.hid ((S3.out.on (below_alloc (Below.refl _ _) (.cells (ladC x A3 c3) 25))).on hb); clear hb)
        | (go_at_call 6; (with_reducible refine (HPt.out _ S4.out).mono ?_); rintro e w5 ⟨v5, v6, rfl, hS, hR, hb⟩; obtain ⟨A5, c5, rfl, hm5, hr5⟩ := Kd.S_reads hS; obtain ⟨A6, c6, rfl, _, _⟩ := Kd.R_reads hR; have R5 := Lib.hid (show Row w5 A5 c5 l from ⟨hr5, hm5⟩); have S5 := Lib.hid (S4.out.on hb); clear hb hS hR hm5 hr5)
        | (go_at_call 15; (with_reducible refine (HA.out _ (Lib.hid (S5.out.on (below_alloc (Below.refl _ _) (.cells #[.int .i64 I, .int .i64 Q, .int .i64 M, .slice A5 l.length c5] 25)))).out).mono ?_); rintro e w12 ⟨rfl, hb⟩; have S12 := Lib.hid ((Lib.hid (S5.out.on (below_alloc (Below.refl _ _) (.cells #[.int .i64 I, .int .i64 Q, .int .i64 M, .slice A5 l.length c5] 25)))).out.on hb); clear hb))
      go_ret
      exact ⟨rfl, S12.out.out⟩
  case pos =>
    subst he5
    obtain ⟨I', Q', M', l', ls', T, hr, h64, hck, hpm, hbd⟩ := parse_print (by omega) hpt rfl
    obtain ⟨rfl, rfl, rfl, rfl, rfl, rfl, _⟩ : I = I' ∧ Q = Q' ∧ M = M' ∧ l = l' ∧ ls = ls' ∧ n5 = 0 ∧ (0 : Int) = 0 := by simpa using hr
    obtain ⟨lk, hlk, hpk⟩ := print_parse hpm
    have HPm := Lib.hid (fun W B d (h : Since w W) (hR : Row W B d l) => print2 I Q M l T 0 hpm B d W hR (LaidW.below hL rfl h.out))
    have HPk := Lib.hid (fun W (h : Since w W) => parse_Parse.calls _ _ _ _ _ _ _ _ W (LaidW.below hL rfl h.out) hpk)
    have HCm := Lib.hid (fun W B d (hR : Row W B d l) => check2 I Q M l _ _ hck B d W hR)
    have HEm := Lib.hid (fun W B d B' d' (hR : Row W B d l) (hR' : Row W B' d' l) => equal2 I Q M l (by omega) (fun y hy => by have := hbd y hy; omega) B d B' d' W hR hR')
    by_cases hf : f = 0
    case neg =>
      have q6 : (f == 0) = false := beq_false_of_ne hf
      clear ht1 hp hpt hL hx hpm hck hbd hpk hlk hr
      go_enter Tryz.func4, Tryz.ntmps4
      go_wp2_with (first
        | (go_at_call 14; (with_reducible refine (HT1.out _ S0.out).mono ?_); rintro e w1 ⟨rfl, hb⟩; have S1 := Lib.hid (S0.out.on hb); have X1 := Lib.hid (X0.out.on hb); have x0 := X1.out.cell 0 _ rfl; have x1 := X1.out.cell 1 _ rfl; have x2 := X1.out.cell 2 _ rfl; have x3 := X1.out.cell 3 _ rfl; clear hb)
        | (go_at_call 16; (with_reducible refine (HPx.out _ S1.out).mono ?_); rintro e w2 ⟨rfl, hb⟩; have S2 := Lib.hid (S1.out.on hb); have X2 := Lib.hid (X1.out.on hb); have x0 := X2.out.cell 0 _ rfl; have x1 := X2.out.cell 1 _ rfl; have x2 := X2.out.cell 2 _ rfl; have x3 := X2.out.cell 3 _ rfl; clear hb)
        | (go_at_call 6; (with_reducible refine (HPt.out _ S2.out).mono ?_); rintro e w5 ⟨v5, v6, rfl, hS, hR, hb⟩; obtain ⟨A5, c5, rfl, hm5, hr5⟩ := Kd.S_reads hS; obtain ⟨A6, c6, rfl, _, _⟩ := Kd.R_reads hR; have R5 := Lib.hid (show Row w5 A5 c5 l from ⟨hr5, hm5⟩); have S5 := Lib.hid (S2.out.on hb); clear hb hS hR hm5 hr5)
        | (go_at_call 16; (with_reducible refine (HPm.out _ _ _ (S5.out.on (below_alloc (Below.refl _ _) _)) (R5.out.on (below_alloc (Below.refl _ _) _))).mono ?_); rintro e w6 ⟨rfl, hb⟩; have S6 := Lib.hid ((S5.out.on (below_alloc (Below.refl _ _) (.cells #[.int .i64 I, .int .i64 Q, .int .i64 M, .slice A5 l.length c5] 25))).on hb); have G6 := Lib.hid ((Blk.new w5 25 #[.int .i64 I, .int .i64 Q, .int .i64 M, .slice A5 l.length c5]).on hb); have R6 := Lib.hid ((R5.out.on (below_alloc (Below.refl _ _) (.cells #[.int .i64 I, .int .i64 Q, .int .i64 M, .slice A5 l.length c5] 25))).on hb); have y0 := G6.out.cell 0 _ rfl; have y1 := G6.out.cell 1 _ rfl; have y2 := G6.out.cell 2 _ rfl; have y3 := G6.out.cell 3 _ rfl; clear hb)
        | (go_at_call 6; (with_reducible refine (HPk.out _ S6.out).mono ?_); rintro e w7 ⟨v7, v8, rfl, hS, hR, hb⟩; obtain ⟨A7, c7, rfl, hm7, hr7⟩ := Kd.S_reads hS; obtain ⟨A8, c8, rfl, _, _⟩ := Kd.R_reads hR; have K7 := Lib.hid (show Row w7 A7 c7 l from ⟨hr7, hm7⟩); have S7 := Lib.hid (S6.out.on hb); have G7 := Lib.hid (G6.out.on hb); have R7 := Lib.hid (R6.out.on hb); have G7a := Lib.hid (G7.out.alloc (.cells #[.int .i64 I, .int .i64 Q, .int .i64 M, .slice A7 l.length c7] 25)); have ya0 := G7a.out.cell 0 _ rfl; have ya1 := G7a.out.cell 1 _ rfl; have ya2 := G7a.out.cell 2 _ rfl; have ya3 := G7a.out.cell 3 _ rfl; have y0 := G7.out.cell 0 _ rfl; have y1 := G7.out.cell 1 _ rfl; have y2 := G7.out.cell 2 _ rfl; have y3 := G7.out.cell 3 _ rfl; clear hb hS hR hm7 hr7)
        | (go_at_call 18; (with_reducible refine (HCm.out _ _ _ (R7.out.on (below_alloc (Below.refl _ _) _))).mono ?_); rintro e w8 ⟨rfl, hb⟩; have S8 := Lib.hid ((S7.out.on (below_alloc (Below.refl _ _) (.cells #[.int .i64 I, .int .i64 Q, .int .i64 M, .slice A7 l.length c7] 25))).on hb); have G8 := Lib.hid ((G7.out.on (below_alloc (Below.refl _ _) (.cells #[.int .i64 I, .int .i64 Q, .int .i64 M, .slice A7 l.length c7] 25))).on hb); have R8 := Lib.hid ((R7.out.on (below_alloc (Below.refl _ _) (.cells #[.int .i64 I, .int .i64 Q, .int .i64 M, .slice A7 l.length c7] 25))).on hb); have K8 := Lib.hid ((K7.out.on (below_alloc (Below.refl _ _) (.cells #[.int .i64 I, .int .i64 Q, .int .i64 M, .slice A7 l.length c7] 25))).on hb); have Z8 := Lib.hid ((Blk.new w7 25 #[.int .i64 I, .int .i64 Q, .int .i64 M, .slice A7 l.length c7]).on hb); have z0 := Z8.out.cell 0 _ rfl; have z1 := Z8.out.cell 1 _ rfl; have z2 := Z8.out.cell 2 _ rfl; have z3 := Z8.out.cell 3 _ rfl; clear hb)
        | (go_at_call 16; (with_reducible refine (HPm.out _ _ _ S8.out K8.out).mono ?_); rintro e w9 ⟨rfl, hb⟩; have S9 := Lib.hid (S8.out.on hb); have G9 := Lib.hid (G8.out.on hb); have R9 := Lib.hid (R8.out.on hb); have K9 := Lib.hid (K8.out.on hb); have Z9 := Lib.hid (Z8.out.on hb); clear hb)
        | (go_at_call 15; (with_reducible refine (HA.out _ S9.out).mono ?_); rintro e w10 ⟨rfl, hb⟩; have S10 := Lib.hid (S9.out.on hb); have G10 := Lib.hid (G9.out.on hb); have R10 := Lib.hid (R9.out.on hb); have K10 := Lib.hid (K9.out.on hb); have Z10 := Lib.hid (Z9.out.on hb); have y0 := G10.out.cell 0 _ rfl; have y1 := G10.out.cell 1 _ rfl; have y2 := G10.out.cell 2 _ rfl; have y3 := G10.out.cell 3 _ rfl; have z0 := Z10.out.cell 0 _ rfl; have z1 := Z10.out.cell 1 _ rfl; have z2 := Z10.out.cell 2 _ rfl; have z3 := Z10.out.cell 3 _ rfl; clear hb)
        | (go_at_call 17; (with_reducible refine (HEm.out _ _ _ _ _ K10.out R10.out).mono ?_); rintro e w11 ⟨rfl, hb⟩; have S11 := Lib.hid (S10.out.on hb); clear hb))
      go_ret
      exact ⟨by first | rfl | simp, S11.out.out⟩
    case pos =>
      subst hf
      obtain ⟨la, hla, hpa⟩ := print_parse hp
      have HPa := Lib.hid (fun W (h : Since w W) => parse_Parse.calls _ _ _ _ _ _ _ _ W (LaidW.below hL rfl h.out) hpa)
      have HEa := Lib.hid (fun W B d (h : Since w W) (hR : Row W B d x.f3) => equal2 x.f0 x.f1 x.f2 x.f3 hx.n hx.m A c B d W ⟨(hx.on h).reads, hx.room⟩ hR)
      have q7 : ((la.length : Int) != (x.f3.length : Int)) = false := by rw [hla]; simp
      clear ht1 hp hpt hL hx hpa hla hpm hck hbd hpk hlk hr
      go_enter Tryz.func4, Tryz.ntmps4
      go_wp2_with (first
        | (go_at_call 14; (with_reducible refine (HT1.out _ S0.out).mono ?_); rintro e w1 ⟨rfl, hb⟩; have S1 := Lib.hid (S0.out.on hb); have X1 := Lib.hid (X0.out.on hb); have x0 := X1.out.cell 0 _ rfl; have x1 := X1.out.cell 1 _ rfl; have x2 := X1.out.cell 2 _ rfl; have x3 := X1.out.cell 3 _ rfl; clear hb)
        | (go_at_call 16; (with_reducible refine (HPx.out _ S1.out).mono ?_); rintro e w2 ⟨rfl, hb⟩; have S2 := Lib.hid (S1.out.on hb); have X2 := Lib.hid (X1.out.on hb); have x0 := X2.out.cell 0 _ rfl; have x1 := X2.out.cell 1 _ rfl; have x2 := X2.out.cell 2 _ rfl; have x3 := X2.out.cell 3 _ rfl; clear hb)
        | (go_at_call 6; (with_reducible refine (HPa.out _ S2.out).mono ?_); rintro e w3 ⟨v3, v4, rfl, hS, hR, hb⟩; obtain ⟨A3, c3, rfl, hm3, hr3⟩ := Kd.S_reads hS; obtain ⟨A4, c4, rfl, _, _⟩ := Kd.R_reads hR; have R3 := Lib.hid (show Row w3 A3 c3 x.f3 from ⟨hr3, hm3⟩); have S3 := Lib.hid (S2.out.on hb); have X3 := Lib.hid (X2.out.on hb); have X3a := Lib.hid (X3.out.alloc (.cells #[.int .i64 x.f0, .int .i64 x.f1, .int .i64 x.f2, .slice A3 x.f3.length c3] 25)); have xa0 := X3a.out.cell 0 _ rfl; have xa1 := X3a.out.cell 1 _ rfl; have xa2 := X3a.out.cell 2 _ rfl; have xa3 := X3a.out.cell 3 _ rfl; have x0 := X3.out.cell 0 _ rfl; have x1 := X3.out.cell 1 _ rfl; have x2 := X3.out.cell 2 _ rfl; have x3 := X3.out.cell 3 _ rfl; clear hb hS hR hm3 hr3)
        | (go_at_call 17; (with_reducible refine (HEa.out _ _ _ (S3.out.on (below_alloc (Below.refl _ _) _)) (R3.out.on (below_alloc (Below.refl _ _) _))).mono ?_); rintro e w4 ⟨rfl, hb⟩; have X4 := Lib.hid (X3a.out.on hb); have xb3 := X4.out.cell 3 _ rfl; have S4 := Lib.hid ((S3.out.on (below_alloc (Below.refl _ _) (.cells (ladC x A3 c3) 25))).on hb); clear hb)
        | (go_at_call 6; (with_reducible refine (HPt.out _ S4.out).mono ?_); rintro e w5 ⟨v5, v6, rfl, hS, hR, hb⟩; obtain ⟨A5, c5, rfl, hm5, hr5⟩ := Kd.S_reads hS; obtain ⟨A6, c6, rfl, _, _⟩ := Kd.R_reads hR; have R5 := Lib.hid (show Row w5 A5 c5 l from ⟨hr5, hm5⟩); have S5 := Lib.hid (S4.out.on hb); clear hb hS hR hm5 hr5)
        | (go_at_call 16; (with_reducible refine (HPm.out _ _ _ (S5.out.on (below_alloc (Below.refl _ _) _)) (R5.out.on (below_alloc (Below.refl _ _) _))).mono ?_); rintro e w6 ⟨rfl, hb⟩; have S6 := Lib.hid ((S5.out.on (below_alloc (Below.refl _ _) (.cells #[.int .i64 I, .int .i64 Q, .int .i64 M, .slice A5 l.length c5] 25))).on hb); have G6 := Lib.hid ((Blk.new w5 25 #[.int .i64 I, .int .i64 Q, .int .i64 M, .slice A5 l.length c5]).on hb); have R6 := Lib.hid ((R5.out.on (below_alloc (Below.refl _ _) (.cells #[.int .i64 I, .int .i64 Q, .int .i64 M, .slice A5 l.length c5] 25))).on hb); have y0 := G6.out.cell 0 _ rfl; have y1 := G6.out.cell 1 _ rfl; have y2 := G6.out.cell 2 _ rfl; have y3 := G6.out.cell 3 _ rfl; clear hb)
        | (go_at_call 6; (with_reducible refine (HPk.out _ S6.out).mono ?_); rintro e w7 ⟨v7, v8, rfl, hS, hR, hb⟩; obtain ⟨A7, c7, rfl, hm7, hr7⟩ := Kd.S_reads hS; obtain ⟨A8, c8, rfl, _, _⟩ := Kd.R_reads hR; have K7 := Lib.hid (show Row w7 A7 c7 l from ⟨hr7, hm7⟩); have S7 := Lib.hid (S6.out.on hb); have G7 := Lib.hid (G6.out.on hb); have R7 := Lib.hid (R6.out.on hb); have G7a := Lib.hid (G7.out.alloc (.cells #[.int .i64 I, .int .i64 Q, .int .i64 M, .slice A7 l.length c7] 25)); have ya0 := G7a.out.cell 0 _ rfl; have ya1 := G7a.out.cell 1 _ rfl; have ya2 := G7a.out.cell 2 _ rfl; have ya3 := G7a.out.cell 3 _ rfl; have y0 := G7.out.cell 0 _ rfl; have y1 := G7.out.cell 1 _ rfl; have y2 := G7.out.cell 2 _ rfl; have y3 := G7.out.cell 3 _ rfl; clear hb hS hR hm7 hr7)
        | (go_at_call 18; (with_reducible refine (HCm.out _ _ _ (R7.out.on (below_alloc (Below.refl _ _) _))).mono ?_); rintro e w8 ⟨rfl, hb⟩; have S8 := Lib.hid ((S7.out.on (below_alloc (Below.refl _ _) (.cells #[.int .i64 I, .int .i64 Q, .int .i64 M, .slice A7 l.length c7] 25))).on hb); have G8 := Lib.hid ((G7.out.on (below_alloc (Below.refl _ _) (.cells #[.int .i64 I, .int .i64 Q, .int .i64 M, .slice A7 l.length c7] 25))).on hb); have R8 := Lib.hid ((R7.out.on (below_alloc (Below.refl _ _) (.cells #[.int .i64 I, .int .i64 Q, .int .i64 M, .slice A7 l.length c7] 25))).on hb); have K8 := Lib.hid ((K7.out.on (below_alloc (Below.refl _ _) (.cells #[.int .i64 I, .int .i64 Q, .int .i64 M, .slice A7 l.length c7] 25))).on hb); have Z8 := Lib.hid ((Blk.new w7 25 #[.int .i64 I, .int .i64 Q, .int .i64 M, .slice A7 l.length c7]).on hb); have z0 := Z8.out.cell 0 _ rfl; have z1 := Z8.out.cell 1 _ rfl; have z2 := Z8.out.cell 2 _ rfl; have z3 := Z8.out.cell 3 _ rfl; clear hb)
        | (go_at_call 16; (with_reducible refine (HPm.out _ _ _ S8.out K8.out).mono ?_); rintro e w9 ⟨rfl, hb⟩; have S9 := Lib.hid (S8.out.on hb); have G9 := Lib.hid (G8.out.on hb); have R9 := Lib.hid (R8.out.on hb); have K9 := Lib.hid (K8.out.on hb); have Z9 := Lib.hid (Z8.out.on hb); clear hb)
        | (go_at_call 15; (with_reducible refine (HA.out _ S9.out).mono ?_); rintro e w10 ⟨rfl, hb⟩; have S10 := Lib.hid (S9.out.on hb); have G10 := Lib.hid (G9.out.on hb); have R10 := Lib.hid (R9.out.on hb); have K10 := Lib.hid (K9.out.on hb); have Z10 := Lib.hid (Z9.out.on hb); have y0 := G10.out.cell 0 _ rfl; have y1 := G10.out.cell 1 _ rfl; have y2 := G10.out.cell 2 _ rfl; have y3 := G10.out.cell 3 _ rfl; have z0 := Z10.out.cell 0 _ rfl; have z1 := Z10.out.cell 1 _ rfl; have z2 := Z10.out.cell 2 _ rfl; have z3 := Z10.out.cell 3 _ rfl; clear hb)
        | (go_at_call 17; (with_reducible refine (HEm.out _ _ _ _ _ K10.out R10.out).mono ?_); rintro e w11 ⟨rfl, hb⟩; have S11 := Lib.hid (S10.out.on hb); clear hb))
      go_ret
      exact ⟨by first | rfl | simp, S11.out.out⟩
end Go.Proofs.YtdbjjbooalkkbaaGreatDoor.P

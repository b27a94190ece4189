/- PrinterEqualMatchesReference: the walk of the law. -/
import Derived.Test.YtmcmpjkfdkogiaaDoorXSame2
import Derived.Test.YtmcmpjkfdkogiaaDoorXAlive
namespace Go.Proofs.YtmcmpjkfdkogiaaDoor.P
open Go.RowKit Go.Proofs.YtmcmpjkfdkogiaaDoorW.PrintWords

abbrev ladV (x : S24) (A : Option Addr) (c : Nat) : Value := .agg #[.int .i64 x.f0, .int .i64 x.f1, .int .i64 x.f2, .slice A x.f3.length c]
abbrev ladC (x : S24) (A : Option Addr) (c : Nat) : Array Value := #[.int .i64 x.f0, .int .i64 x.f1, .int .i64 x.f2, .slice A x.f3.length c]
/-- What the law is told of a ladder. -/
structure Lad (x : S24) (A : Option Addr) (c : Nat) (w : World) : Prop where
  n : x.f3.length ≤ 9223372036854775807
  m : ∀ r ∈ x.f3, r.f1.length ≤ 9223372036854775807 ∧ r.f2.length ≤ 9223372036854775807
  room : x.f3.length ≤ c
  reads : Kd.C k40 w A x.f3.length x.f3
theorem Lad.on {x : S24} {A : Option Addr} {c : Nat} {w w' : World} (h : Lad x A c w) (hs : Since w w') : Lad x A c w' := ⟨h.n, h.m, h.room, Kd.C_below h.reads hs.out⟩
theorem Lad.of {x : S24} {A : Option Addr} {c : Nat} {w : World} (hg : x.f3.length ≤ maxLen ∧ ∀ r ∈ x.f3, r.f1.length ≤ maxLen ∧ r.f2.length ≤ maxLen) (hc : x.f3.length ≤ c) (hr : Kd.C k40 w A x.f3.length x.f3) : Lad x A c w :=
  ⟨Nat.le_trans hg.1 (by decide), fun r h => ⟨Nat.le_trans (hg.2 r h).1 (by decide), Nat.le_trans (hg.2 r h).2 (by decide)⟩, hc, hr⟩
theorem equal_call (x : S24) (A : Option Addr) (c : Nat) (y : S24) (B : Option Addr) (d : Nat) (v : Bool) (w u : World) (hx : Lad x A c u) (hy : Lad y B d u) (hv : sameP x.f0 x.f1 x.f2 x.f3 y.f0 y.f1 y.f2 y.f3 = v) (hs : Since u w) :
    Calls Tryd.prog 18 #[ladV x A c, ladV y B d] w fun e w' => e = .returned (.bool v) ∧ Below w.heap.size w w' := by
  obtain ⟨k, hk⟩ := (equal_eq x.f0 x.f1 x.f2 x.f3 y.f0 y.f1 y.f2 y.f3 hx.n hx.m).one
  rw [hv] at hk
  exact printer_Equal.calls k _ _ _ A c x.f3 _ _ _ B d y.f3 v w (hx.on hs).reads hx.room (hy.on hs).reads hy.room hk
theorem same_call (x : S24) (A : Option Addr) (c : Nat) (y : S24) (B : Option Addr) (d : Nat) (v : Bool) (w u : World) (hx : Lad x A c u) (hy : Lad y B d u) (hv : sameP x.f0 x.f1 x.f2 x.f3 y.f0 y.f1 y.f2 y.f3 = v) (hs : Since u w) :
    Calls Tryd.prog 19 #[ladV x A c, ladV y B d] w fun e w' => e = .returned (.bool v) ∧ Below w.heap.size w w' := by
  obtain ⟨k, hk⟩ := (same_eq x.f0 x.f1 x.f2 x.f3 y.f0 y.f1 y.f2 y.f3 hx.n hx.m).one
  rw [hv] at hk
  exact ref10_Same.calls k _ _ _ A c x.f3 _ _ _ B d y.f3 v w (hx.on hs).reads hx.room (hy.on hs).reads hy.room hk
theorem large_call (x : S24) (A : Option Addr) (c : Nat) (u : World) (hx : Lad x A c u) : ∃ t, ∀ w, Since u w →
    Calls Tryd.prog 9 #[ladV x A c] w fun e w' => e = .returned (.int .i64 t) ∧ Below w.heap.size w w' := by
  obtain ⟨k, t, h⟩ := large_some x.f0 x.f1 x.f2 x.f3 hx.n (fun r hr => (hx.m r hr).1)
  exact ⟨t, fun w hs => law11_TooLarge.calls k _ _ _ A c x.f3 t w (hx.on hs).reads hx.room h⟩
theorem alive_call (w u : World) (hL : Aside0 (LaidW 50 u)) (hs : Since u w) : Calls Tryd.prog 10 #[] w fun e w' => e = .returned (.bool true) ∧ Below w.heap.size w w' := law11_alive.calls true w (LaidW.below hL rfl hs.out) rfl
theorem Since.refl (w : World) : Since w w := ⟨Below.refl _ _⟩
theorem keepE {g h : Nat} {x y : S24} {A B : Option Addr} {c d : Nat} {w w' : World} (h1 : Blk g 24 (ladC x A c) w') (h2 : Blk h 24 (ladC y B d) w') (hs : Since w w') :
    w'.cell? ⟨g, 0, none⟩ = some (.int .i64 x.f0) ∧ w'.cell? ⟨g, 1, none⟩ = some (.int .i64 x.f1) ∧ w'.cell? ⟨g, 2, none⟩ = some (.int .i64 x.f2) ∧ w'.cell? ⟨g, 3, none⟩ = some (.slice A x.f3.length c) ∧
    w'.cell? ⟨h, 0, none⟩ = some (.int .i64 y.f0) ∧ w'.cell? ⟨h, 1, none⟩ = some (.int .i64 y.f1) ∧ w'.cell? ⟨h, 2, none⟩ = some (.int .i64 y.f2) ∧ w'.cell? ⟨h, 3, none⟩ = some (.slice B y.f3.length d) ∧
    Since w w' ∧ Blk g 24 (ladC x A c) w' ∧ Blk h 24 (ladC y B d) w' :=
  ⟨h1.cell 0 _ rfl, h1.cell 1 _ rfl, h1.cell 2 _ rfl, h1.cell 3 _ rfl, h2.cell 0 _ rfl, h2.cell 1 _ rfl, h2.cell 2 _ rfl, h2.cell 3 _ rfl, hs, h1, h2⟩
set_option maxRecDepth 100000 in
set_option maxHeartbeats 16000000 in
theorem equal_law (x : S24) (A : Option Addr) (c : Nat) (y : S24) (B : Option Addr) (d : Nat) (w : World) (hx : Lad x A c w) (hy : Lad y B d w) (hL : Aside0 (LaidW 50 w)) :
    Calls Tryd.prog 5 #[ladV x A c, ladV y B d] w fun e w' => e = .returned (.bool true) ∧ Below w.heap.size w w' := by
  obtain ⟨t, ht⟩ := large_call x A c w hx
  obtain ⟨s, hs⟩ := large_call y B d w hy
  obtain ⟨v, hv⟩ : ∃ v, sameP x.f0 x.f1 x.f2 x.f3 y.f0 y.f1 y.f2 y.f3 = v := ⟨_, rfl⟩
  have HT := Lib.hid ht
  have HS := Lib.hid hs
  have HA := Lib.hid (fun W h => alive_call W w hL h)
  have HE1 := Lib.hid (fun W h => equal_call x A c y B d v W w hx hy hv h)
  have HE2 := Lib.hid (fun W h => same_call x A c y B d v W w hx hy hv h)
  have HE3 := Lib.hid (fun W h => equal_call x A c x A c true W w hx hx (sameP_refl _ _ _ _) h)
  have HE4 := Lib.hid (fun W h => equal_call y B d x A c v W w hy hx ((sameP_comm _ _ _ _ _ _ _ _).trans hv) h)
  clear hx hy hL ht hs hv
  have HB0 := Lib.hid (show Since w ((w.alloc (.cells (ladC x A c) 24)).alloc (.cells (ladC y B d) 24)) from ⟨below_alloc (below_alloc (Below.refl _ _) _) _⟩)
  have HX0 := Lib.hid ((Blk.new w 24 (ladC x A c)).alloc (.cells (ladC y B d) 24))
  have HY0 := Lib.hid (show Blk (w.heap.size + 1) 24 (ladC y B d) ((w.alloc (.cells (ladC x A c) 24)).alloc (.cells (ladC y B d) 24)) from by have := Blk.new (w.alloc (.cells (ladC x A c) 24)) 24 (ladC y B d); rwa [World.size_alloc] at this)
  by_cases h1 : 0 < t
  · have q1 : decide (0 < t) = true := decide_eq_true h1
    go_enter Tryd.func5, Tryd.ntmps5
    go_wp2_with (first
      | (go_at_call 9; (with_reducible refine (HT.out _ HB0.out).mono ?_); rintro e w1 ⟨rfl, hb⟩; have HB1 := Lib.hid (HB0.out.on hb); clear hb)
      | (go_at_call 10; (with_reducible refine (HA.out _ HB1.out).mono ?_); rintro e w2 ⟨rfl, hb⟩; have HB2 := Lib.hid (HB1.out.on hb); clear hb))
    go_ret
    exact ⟨rfl, HB2.out.out⟩
  · have q1 : decide (0 < t) = false := decide_eq_false h1
    by_cases h2 : 0 < s
    · have q2 : decide (0 < s) = true := decide_eq_true h2
      go_enter Tryd.func5, Tryd.ntmps5
      go_wp2_with (first
        | (go_at_call 9; (with_reducible refine (HT.out _ HB0.out).mono ?_); rintro e w1 ⟨rfl, hb⟩; have HB1 := Lib.hid (HB0.out.on hb); have HY1 := Lib.hid (HY0.out.on hb); have y0 := HY1.out.cell 0 _ rfl; have y1 := HY1.out.cell 1 _ rfl; have y2 := HY1.out.cell 2 _ rfl; have y3 := HY1.out.cell 3 _ rfl; clear hb)
        | (go_at_call 9; (with_reducible refine (HS.out _ HB1.out).mono ?_); rintro e w2 ⟨rfl, hb⟩; have HB2 := Lib.hid (HB1.out.on hb); clear hb)
        | (go_at_call 10; (with_reducible refine (HA.out _ HB2.out).mono ?_); rintro e w3 ⟨rfl, hb⟩; have HB3 := Lib.hid (HB2.out.on hb); clear hb))
      go_ret
      exact ⟨rfl, HB3.out.out⟩
    · have q2 : decide (0 < s) = false := decide_eq_false h2
      go_enter Tryd.func5, Tryd.ntmps5
      go_wp2_with (first
        | (go_at_call 9; (with_reducible refine (HT.out _ HB0.out).mono ?_); rintro e w1 ⟨rfl, hb⟩; have HB1 := Lib.hid (HB0.out.on hb); have HX1 := Lib.hid (HX0.out.on hb); have HY1 := Lib.hid (HY0.out.on hb); have y0 := HY1.out.cell 0 _ rfl; have y1 := HY1.out.cell 1 _ rfl; have y2 := HY1.out.cell 2 _ rfl; have y3 := HY1.out.cell 3 _ rfl; clear hb)
        | (go_at_call 9; (with_reducible refine (HS.out _ HB1.out).mono ?_); rintro e w2 ⟨rfl, hb⟩; have HB2 := Lib.hid (show Since w w2.drew from (HB1.out.on hb).on (below_drew (Below.refl _ _))); have HX2 := Lib.hid (show Blk w.heap.size 24 (ladC x A c) w2.drew from ⟨(HX1.out.on hb).out⟩); have HY2 := Lib.hid (show Blk (w.heap.size + 1) 24 (ladC y B d) w2.drew from ⟨(HY1.out.on hb).out⟩); clear hb))
      go_region_held3 (fun w' => w'.cell? ⟨w.heap.size, 0, none⟩ = some (.int .i64 x.f0) ∧ w'.cell? ⟨w.heap.size, 1, none⟩ = some (.int .i64 x.f1) ∧ w'.cell? ⟨w.heap.size, 2, none⟩ = some (.int .i64 x.f2) ∧ w'.cell? ⟨w.heap.size, 3, none⟩ = some (.slice A x.f3.length c) ∧
          w'.cell? ⟨w.heap.size + 1, 0, none⟩ = some (.int .i64 y.f0) ∧ w'.cell? ⟨w.heap.size + 1, 1, none⟩ = some (.int .i64 y.f1) ∧ w'.cell? ⟨w.heap.size + 1, 2, none⟩ = some (.int .i64 y.f2) ∧ w'.cell? ⟨w.heap.size + 1, 3, none⟩ = some (.slice B y.f3.length d) ∧
          Since w w' ∧ Blk w.heap.size 24 (ladC x A c) w' ∧ Blk (w.heap.size + 1) 24 (ladC y B d) w')
        (((try go_split_ands); exact keepE (by first | assumption | exact HX2.out) (by first | assumption | exact HY2.out) (by first | assumption | exact HB2.out)))
        ((first
          | (go_at_call 10; go_split_ands; (with_reducible refine (HA.out _ (by assumption)).mono ?_); rintro e w3 ⟨rfl, hb⟩; have z1 := Blk.on (g := w.heap.size) (by assumption) hb; have z2 := Blk.on (g := w.heap.size + 1) (by assumption) hb; have z3 := Since.on (by assumption) hb)
          | (go_at_call 18; go_split_ands; (with_reducible refine (HE1.out _ (by assumption)).mono ?_); rintro e w3 ⟨rfl, hb⟩; have z1 := Blk.on (g := w.heap.size) (by assumption) hb; have z2 := Blk.on (g := w.heap.size + 1) (by assumption) hb; have z3 := Since.on (by assumption) hb)
          | (go_at_call 18; go_split_ands; (with_reducible refine (HE3.out _ (by assumption)).mono ?_); rintro e w3 ⟨rfl, hb⟩; have z1 := Blk.on (g := w.heap.size) (by assumption) hb; have z2 := Blk.on (g := w.heap.size + 1) (by assumption) hb; have z3 := Since.on (by assumption) hb)
          | (go_at_call 18; go_split_ands; (with_reducible refine (HE4.out _ (by assumption)).mono ?_); rintro e w3 ⟨rfl, hb⟩; have z1 := Blk.on (g := w.heap.size) (by assumption) hb; have z2 := Blk.on (g := w.heap.size + 1) (by assumption) hb; have z3 := Since.on (by assumption) hb)
          | (go_at_call 19; go_split_ands; (with_reducible refine (HE2.out _ (by assumption)).mono ?_); rintro e w3 ⟨rfl, hb⟩; have z1 := Blk.on (g := w.heap.size) (by assumption) hb; have z2 := Blk.on (g := w.heap.size + 1) (by assumption) hb; have z3 := Since.on (by assumption) hb)))
      go_wp2
      go_split_ands
      go_ret
      exact ⟨by first | rfl | simp, Since.out (by assumption)⟩
theorem PrinterEqualMatchesReference_walk (x0 : S24) (A0 : Option Addr) (c0 : Nat) (x1 : S24) (A1 : Option Addr) (c1 : Nat) (w : World)
    (g0 : x0.f3.length ≤ maxLen ∧ ∀ r ∈ x0.f3, r.f1.length ≤ maxLen ∧ r.f2.length ≤ maxLen) (l0 : x0.f3.length ≤ c0) (r0 : Kd.C k40 w A0 x0.f3.length x0.f3) (g1 : x1.f3.length ≤ maxLen ∧ ∀ r ∈ x1.f3, r.f1.length ≤ maxLen ∧ r.f2.length ≤ maxLen) (l1 : x1.f3.length ≤ c1) (r1 : Kd.C k40 w A1 x1.f3.length x1.f3) (hL : Aside0 (LaidW 50 w)) :
    Calls Tryd.prog 5 #[ladV x0 A0 c0, ladV x1 A1 c1] w fun e w' => e = .returned (.bool true) ∧ Below w.heap.size w w' := equal_law x0 A0 c0 x1 A1 c1 w (Lad.of g0 l0 r0) (Lad.of g1 l1 r1) hL
end Go.Proofs.YtmcmpjkfdkogiaaDoor.P

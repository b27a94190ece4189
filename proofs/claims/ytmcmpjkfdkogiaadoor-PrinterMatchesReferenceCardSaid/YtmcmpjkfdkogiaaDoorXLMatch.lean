/- PrinterMatchesReference: the walk of the law. -/
import Derived.Test.YtmcmpjkfdkogiaaDoorXLad
import Derived.Test.YtmcmpjkfdkogiaaDoorXRefPrintW
import Derived.Test.YtmcmpjkfdkogiaaDoorXEdge
namespace Go.Proofs.YtmcmpjkfdkogiaaDoor.P
open Go.RowKit Go.Proofs.YtmcmpjkfdkogiaaDoorW.PrintWords

theorem pcheck_call (x : S24) (A : Option Addr) (c : Nat) (n e : Int) (w u : World) (hx : Lad x A c u) (hv : checkP x.f0 x.f1 x.f2 x.f3 = (n, e)) (hs : Since u w) :
    Calls Tryd.prog 11 #[ladV x A c] w fun z w' => z = .returned (.tuple #[.int .i64 n, .int .i64 e]) ∧ Below w.heap.size w w' :=
  printer_Check.calls 1000 _ _ _ A c x.f3 n e w (hx.on hs).reads hx.room (by rw [check_eq, hv])
theorem rcheck_call (x : S24) (A : Option Addr) (c : Nat) (n e : Int) (w u : World) (hx : Lad x A c u) (hv : checkP x.f0 x.f1 x.f2 x.f3 = (n, e)) (hs : Since u w) :
    Calls Tryd.prog 12 #[ladV x A c] w fun z w' => z = .returned (.tuple #[.int .i64 n, .int .i64 e]) ∧ Below w.heap.size w w' :=
  ref11_Check.calls 1000 _ _ _ A c x.f3 n e w (hx.on hs).reads hx.room (by rw [ref_check, hv])
theorem pprint_call (x : S24) (A : Option Addr) (c : Nat) (n : ByteArray) (e : Int) (w u : World) (hx : Lad x A c u) (hL : Aside0 (LaidW 50 u)) (hv : printP x.f0 x.f1 x.f2 x.f3 = (n, e)) (hs : Since u w) :
    Calls Tryd.prog 13 #[ladV x A c] w fun z w' => z = .returned (.tuple #[.string n, .int .i64 e]) ∧ Below w.heap.size w w' :=
  printer_Print.calls _ _ _ A c x.f3 n e w (hx.on hs).reads hx.room (LaidW.below hL rfl hs.out) (by unfold printer_Print.f; rw [hv])
theorem rprint_call (x : S24) (A : Option Addr) (c : Nat) (n : ByteArray) (e : Int) (w u : World) (hx : Lad x A c u) (hv : printP x.f0 x.f1 x.f2 x.f3 = (n, e)) (hs : Since u w) :
    Calls Tryd.prog 14 #[ladV x A c] w fun z w' => z = .returned (.tuple #[.string n, .int .i64 e]) ∧ Below w.heap.size w w' :=
  ref11_Print.calls _ _ _ A c x.f3 n e w (hx.on hs).reads hx.room (by unfold ref11_Print.f; rw [hv])
theorem edge_call (x : S24) (A : Option Addr) (c : Nat) (n : Int) (w u : World) (hx : Lad x A c u) (hv : edgeR 0 x.f3 = n) (hs : Since u w) :
    Calls Tryd.prog 15 #[ladV x A c] w fun z w' => z = .returned (.int .i64 n) ∧ Below w.heap.size w w' := by
  obtain ⟨k, hk⟩ := (edge_eq x.f0 x.f1 x.f2 x.f3 hx.n (fun r hr => (hx.m r hr).1)).one
  exact printer_EdgeCount.calls k _ _ _ A c x.f3 n w (hx.on hs).reads hx.room (by rw [hk, hv])
theorem redge_call (x : S24) (A : Option Addr) (c : Nat) (n : Int) (w u : World) (hx : Lad x A c u) (hv : edgeR 0 x.f3 = n) (hs : Since u w) :
    Calls Tryd.prog 16 #[ladV x A c] w fun z w' => z = .returned (.int .i64 n) ∧ Below w.heap.size w w' := by
  obtain ⟨k, hk⟩ := (redge_eq x.f0 x.f1 x.f2 x.f3 hx.n (fun r hr => (hx.m r hr).1)).one
  exact ref11_EdgeCount.calls k _ _ _ A c x.f3 n w (hx.on hs).reads hx.room (by rw [hk, hv])
theorem keepM {g : Nat} {x : S24} {A : Option Addr} {c : Nat} {w w' : World} (h1 : Blk g 24 (ladC x A c) w') (hs : Since w w') :
    w'.cell? ⟨g, 0, none⟩ = some (.int .i64 x.f0) ∧ w'.cell? ⟨g, 1, none⟩ = some (.int .i64 x.f1) ∧ w'.cell? ⟨g, 2, none⟩ = some (.int .i64 x.f2) ∧ w'.cell? ⟨g, 3, none⟩ = some (.slice A x.f3.length c) ∧ Since w w' ∧ Blk g 24 (ladC x A c) w' :=
  ⟨h1.cell 0 _ rfl, h1.cell 1 _ rfl, h1.cell 2 _ rfl, h1.cell 3 _ rfl, hs, h1⟩
set_option maxRecDepth 100000 in
set_option maxHeartbeats 16000000 in
theorem match_law (x : S24) (A : Option Addr) (c : Nat) (w : World) (hx : Lad x A c w) (hL : Aside0 (LaidW 50 w)) :
    Calls Tryd.prog 3 #[ladV x A c] w fun e w' => e = .returned (.bool true) ∧ Below w.heap.size w w' := by
  obtain ⟨t, ht⟩ := large_call x A c w hx
  obtain ⟨⟨n, e⟩, hv⟩ : ∃ v, checkP x.f0 x.f1 x.f2 x.f3 = v := ⟨_, rfl⟩
  obtain ⟨⟨s, f⟩, hp⟩ : ∃ v, printP x.f0 x.f1 x.f2 x.f3 = v := ⟨_, rfl⟩
  obtain ⟨m, hm⟩ : ∃ v, edgeR 0 x.f3 = v := ⟨_, rfl⟩
  have HT := Lib.hid ht
  have HA := Lib.hid (fun W h => alive_call W w hL h)
  have H1 := Lib.hid (fun W h => pcheck_call x A c n e W w hx hv h)
  have H2 := Lib.hid (fun W h => rcheck_call x A c n e W w hx hv h)
  have H3 := Lib.hid (fun W h => pprint_call x A c s f W w hx hL hp h)
  have H4 := Lib.hid (fun W h => rprint_call x A c s f W w hx hp h)
  have H5 := Lib.hid (fun W h => edge_call x A c m W w hx hm h)
  have H6 := Lib.hid (fun W h => redge_call x A c m W w hx hm h)
  clear hx hL ht hv hp hm
  have HB0 := Lib.hid (show Since w (w.alloc (.cells (ladC x A c) 24)) from ⟨below_alloc (Below.refl _ _) _⟩)
  have HX0 := Lib.hid (Blk.new w 24 (ladC x A c))
  by_cases h1 : 0 < t
  · have q1 : decide (0 < t) = true := decide_eq_true h1
    go_enter Tryd.func3, Tryd.ntmps3
    go_wp2_with (first
      | (go_at_call 9; (with_reducible refine (HT.out _ HB0.out).mono ?_); rintro e w1 ⟨rfl, hb⟩; have HB1 := Lib.hid (HB0.out.on hb); clear hb)
      | (go_at_call 10; (with_reducible refine (HA.out _ HB1.out).mono ?_); rintro e w2 ⟨rfl, hb⟩; have HB2 := Lib.hid (HB1.out.on hb); clear hb))
    go_ret
    exact ⟨rfl, HB2.out.out⟩
  · have q1 : decide (0 < t) = false := decide_eq_false h1
    go_enter Tryd.func3, Tryd.ntmps3
    go_wp2_with (first
      | (go_at_call 9; (with_reducible refine (HT.out _ HB0.out).mono ?_); rintro e w1 ⟨rfl, hb⟩; have HB1 := Lib.hid (HB0.out.on hb); have HX1 := Lib.hid (HX0.out.on hb); have x0 := HX1.out.cell 0 _ rfl; have x1 := HX1.out.cell 1 _ rfl; have x2 := HX1.out.cell 2 _ rfl; have x3 := HX1.out.cell 3 _ rfl; clear hb)
      | (go_at_call 11; (with_reducible refine (H1.out _ HB1.out).mono ?_); rintro e w2 ⟨rfl, hb⟩; have HB2 := Lib.hid (HB1.out.on hb); have HX2 := Lib.hid (HX1.out.on hb); have y0 := HX2.out.cell 0 _ rfl; have y1 := HX2.out.cell 1 _ rfl; have y2 := HX2.out.cell 2 _ rfl; have y3 := HX2.out.cell 3 _ rfl; clear hb)
      | (go_at_call 12; (with_reducible refine (H2.out _ HB2.out).mono ?_); rintro e w3 ⟨rfl, hb⟩; have HB3 := Lib.hid (HB2.out.on hb); have HX3 := Lib.hid (HX2.out.on hb); have z0 := HX3.out.cell 0 _ rfl; have z1 := HX3.out.cell 1 _ rfl; have z2 := HX3.out.cell 2 _ rfl; have z3 := HX3.out.cell 3 _ rfl; clear hb)
      | (go_at_call 13; (with_reducible refine (H3.out _ HB3.out).mono ?_); rintro e w4 ⟨rfl, hb⟩; have HB4 := Lib.hid (HB3.out.on hb); have HX4 := Lib.hid (HX3.out.on hb); have a0 := HX4.out.cell 0 _ rfl; have a1 := HX4.out.cell 1 _ rfl; have a2 := HX4.out.cell 2 _ rfl; have a3 := HX4.out.cell 3 _ rfl; clear hb)
      | (go_at_call 14; (with_reducible refine (H4.out _ HB4.out).mono ?_); rintro e w5 ⟨rfl, hb⟩; have HB5 := Lib.hid (show Since w w5.drew from (HB4.out.on hb).on (below_drew (Below.refl _ _))); have HX5 := Lib.hid (show Blk w.heap.size 24 (ladC x A c) w5.drew from ⟨(HX4.out.on hb).out⟩); clear hb))
    go_region_held3 (fun w' => w'.cell? ⟨w.heap.size, 0, none⟩ = some (.int .i64 x.f0) ∧ w'.cell? ⟨w.heap.size, 1, none⟩ = some (.int .i64 x.f1) ∧ w'.cell? ⟨w.heap.size, 2, none⟩ = some (.int .i64 x.f2) ∧ w'.cell? ⟨w.heap.size, 3, none⟩ = some (.slice A x.f3.length c) ∧
        Since w w' ∧ Blk w.heap.size 24 (ladC x A c) w')
      (((try go_split_ands); exact keepM (by first | assumption | exact HX5.out) (by first | assumption | exact HB5.out)))
      ((first
        | (go_at_call 10; go_split_ands; (with_reducible refine (HA.out _ (by assumption)).mono ?_); rintro e w6 ⟨rfl, hb⟩; have z1 := Blk.on (g := w.heap.size) (by assumption) hb; have z3 := Since.on (by assumption) hb)
        | (go_at_call 15; go_split_ands; (with_reducible refine (H5.out _ (by assumption)).mono ?_); rintro e w6 ⟨rfl, hb⟩; have z1 := Blk.on (g := w.heap.size) (by assumption) hb; have z3 := Since.on (by assumption) hb)
        | (go_at_call 16; go_split_ands; (with_reducible refine (H6.out _ (by assumption)).mono ?_); rintro e w6 ⟨rfl, hb⟩; have z1 := Blk.on (g := w.heap.size) (by assumption) hb; have z3 := Since.on (by assumption) hb)))
    go_wp2
    go_split_ands
    go_ret
    exact ⟨by first | rfl | simp, Since.out (by assumption)⟩
theorem PrinterMatchesReference_walk (x0 : S24) (A0 : Option Addr) (c0 : Nat) (w : World)
    (g0 : x0.f3.length ≤ maxLen ∧ ∀ r ∈ x0.f3, r.f1.length ≤ maxLen ∧ r.f2.length ≤ maxLen) (l0 : x0.f3.length ≤ c0) (r0 : Kd.C k40 w A0 x0.f3.length x0.f3) (hL : Aside0 (LaidW 50 w)) :
    Calls Tryd.prog 3 #[ladV x0 A0 c0] w fun e w' => e = .returned (.bool true) ∧ Below w.heap.size w w' := match_law x0 A0 c0 w (Lad.of g0 l0 r0) hL
end Go.Proofs.YtmcmpjkfdkogiaaDoor.P

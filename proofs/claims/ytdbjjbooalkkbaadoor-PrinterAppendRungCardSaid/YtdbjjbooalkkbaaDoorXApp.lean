/- PrinterAppendRung: the walk. -/
import Derived.Test.YtdbjjbooalkkbaaDoorXApp0
import Derived.Test.YtdbjjbooalkkbaaDoorPQ7
import Derived.Laws.BitsLemmas
set_option linter.unusedVariables false
set_option linter.unusedSimpArgs false
namespace Go.Proofs.YtdbjjbooalkkbaaDoor.P
open Go.RowKit Go.Proofs.YtdbjjbooalkkbaaDoorW.PrintWords Go.Proofs.YtdbjjbooalkkbaaDoorW.PrintLast Go.Proofs.YtdbjjbooalkkbaaDoorW.PrintMore

abbrev SLd := S24
abbrev SRg := S28
abbrev rungV (r : SRg) (B1 : Option Addr) (d1 : Nat) (B2 : Option Addr) (d2 : Nat) : Value := .agg #[.string r.f0, .slice B1 r.f1.length d1, .slice B2 r.f2.length d2, .string r.f3]
abbrev rungC (r : SRg) (B1 : Option Addr) (d1 : Nat) (B2 : Option Addr) (d2 : Nat) : Array Value := #[.string r.f0, .slice B1 r.f1.length d1, .slice B2 r.f2.length d2, .string r.f3]
/-- What the law is told of a rung. -/
structure RIn (r : SRg) (B1 : Option Addr) (d1 : Nat) (B2 : Option Addr) (d2 : Nat) (w : World) : Prop where
  m1 : r.f1.length ≤ 9223372036854775807
  m2 : r.f2.length ≤ 9223372036854775807
  l1 : r.f1.length ≤ d1
  g1 : k44.C w B1 r.f1.length r.f1
  l2 : r.f2.length ≤ d2
  g2 : k47.C w B2 r.f2.length r.f2
section
variable {r : SRg} {B1 B2 : Option Addr} {d1 d2 : Nat} {w w' : World}
theorem RIn.on (h : RIn r B1 d1 B2 d2 w) (hs : Since w w') : RIn r B1 d1 B2 d2 w' := ⟨h.m1, h.m2, h.l1, Kd.C_below h.g1 hs.out, h.l2, Kd.C_below h.g2 hs.out⟩
theorem RIn.K (h : RIn r B1 d1 B2 d2 w) : k28.K w r [.string r.f0, .slice B1 r.f1.length d1, .slice B2 r.f2.length d2, .string r.f3] := k28_mk w r h.l1 h.g1 h.l2 h.g2
theorem RIn.one {g : Nat} (h : RIn r B1 d1 B2 d2 w) (hb : Blk g 28 (rungC r B1 d1 B2 d2) w) : k28.C w (some ⟨g, 0, none⟩) 1 [r] := one_row k28 hb.out h.K
theorem RIn.foot (h : RIn r B1 d1 B2 d2 w) : Kd.FK k28 w (fun k => k < w.heap.size) r [.string r.f0, .slice B1 r.f1.length d1, .slice B2 r.f2.length d2, .string r.f3] := fk_rung _ _ h.K
end
theorem large2 (I Q M : Int) (l : List SRg) (hn : l.length ≤ 9223372036854775807) (hm : ∀ r ∈ l, r.f1.length ≤ 9223372036854775807) : ∃ t, ∀ A c w, k28.C w A l.length l → l.length ≤ c →
    Calls Tryd.prog 7 #[.agg #[.int .i64 I, .int .i64 Q, .int .i64 M, .slice A l.length c]] w fun e w' => e = .returned (.int .i64 t) ∧ Below w.heap.size w w' := by
  obtain ⟨k, t, h⟩ := large_some I Q M l hn hm
  exact ⟨t, fun A c w hr hc => law11_TooLarge.calls k _ _ _ A c l t w hr hc h⟩
theorem edge2 (I Q M : Int) (l : List SRg) (hn : l.length ≤ 9223372036854775807) (hm : ∀ r ∈ l, r.f1.length ≤ 9223372036854775807) (n : Int) (hv : edgeR 0 l = n) (A : Option Addr) (c : Nat) (w : World) (hr : k28.C w A l.length l) (hc : l.length ≤ c) :
    Calls Tryd.prog 11 #[.agg #[.int .i64 I, .int .i64 Q, .int .i64 M, .slice A l.length c]] w fun e w' => e = .returned (.int .i64 n) ∧ Below w.heap.size w w' := by
  obtain ⟨k, hk⟩ := (edge_eq I Q M l hn hm).one
  exact printer_EdgeCount.calls k _ _ _ A c l n w hr hc (by rw [hk, hv])
theorem check2 (I Q M : Int) (l : List SRg) (n e : Int) (hv : checkP I Q M l = (n, e)) (A : Option Addr) (c : Nat) (w : World) (hr : k28.C w A l.length l) (hc : l.length ≤ c) :
    Calls Tryd.prog 9 #[.agg #[.int .i64 I, .int .i64 Q, .int .i64 M, .slice A l.length c]] w fun z w' => z = .returned (.tuple #[.int .i64 n, .int .i64 e]) ∧ Below w.heap.size w w' :=
  printer_Check.calls 1000 _ _ _ A c l n e w hr hc (by rw [check_eq, hv])
theorem print2 (I Q M : Int) (l : List SRg) (n : ByteArray) (e : Int) (hv : printP I Q M l = (n, e)) (A : Option Addr) (c : Nat) (w : World) (hr : k28.C w A l.length l) (hc : l.length ≤ c) (hL : Aside0 (LaidW 50 w)) :
    Calls Tryd.prog 6 #[.agg #[.int .i64 I, .int .i64 Q, .int .i64 M, .slice A l.length c]] w fun z w' => z = .returned (.tuple #[.string n, .int .i64 e]) ∧ Below w.heap.size w w' :=
  printer_Print.calls _ _ _ A c l n e w hr hc hL (by unfold printer_Print.f; rw [hv])
/-- The new ladder's row, told whole. -/
structure Row (W : World) (A : Option Addr) (c : Nat) (l : List SRg) : Prop where
  reads : k28.C W A l.length l
  room : l.length ≤ c
theorem Row.on {W W' : World} {A : Option Addr} {c : Nat} {l : List SRg} (h : Row W A c l) (hb : Below W.heap.size W W') : Row W' A c l := ⟨Kd.C_below h.reads hb, h.room⟩
theorem keep8 {B a b : Nat} {cs ds : Array Value} {s t : Nat} {w w' : World} (hb : Below B w w') (ha : a < B) (hb2 : b < B) (hX : Blk a s cs w) (hR : Blk b t ds w) : Blk a s cs w' ∧ Blk b t ds w' := ⟨⟨(hb.block a ha).trans hX.out⟩, ⟨(hb.block b hb2).trans hR.out⟩⟩
theorem bel_set {w0 w : World} {g : Nat} (hg : w0.heap.size ≤ g) {i : Nat} {v : Value} (h : Below w0.heap.size w0 w) : Below w0.heap.size w0 (w.setCell ⟨g, i, none⟩ v) := h.setCell hg v
theorem cells8 {a b : Nat} {x0 x1 x2 x3 y0 y1 y2 y3 : Value} {s t : Nat} {w : World} (h : Blk a s #[x0, x1, x2, x3] w ∧ Blk b t #[y0, y1, y2, y3] w) :
    w.cell? ⟨a, 0, none⟩ = some x0 ∧ w.cell? ⟨a, 1, none⟩ = some x1 ∧ w.cell? ⟨a, 2, none⟩ = some x2 ∧ w.cell? ⟨a, 3, none⟩ = some x3 ∧ w.cell? ⟨b, 0, none⟩ = some y0 ∧ w.cell? ⟨b, 1, none⟩ = some y1 ∧ w.cell? ⟨b, 2, none⟩ = some y2 ∧ w.cell? ⟨b, 3, none⟩ = some y3 :=
  ⟨h.1.cell 0 _ rfl, h.1.cell 1 _ rfl, h.1.cell 2 _ rfl, h.1.cell 3 _ rfl, h.2.cell 0 _ rfl, h.2.cell 1 _ rfl, h.2.cell 2 _ rfl, h.2.cell 3 _ rfl⟩
/-- The new ladder, at p. -/
def NewLad (w : World) (x : SLd) (r : SRg) (cx cr : Array Value) (p : Value) (wc : World) : Prop :=
  ∃ g v, p = .pointer (some ⟨g, 0, none⟩) ∧ Hid (Since w wc) ∧ Hid (Blk w.heap.size 24 cx wc ∧ Blk (w.heap.size + 1) 28 cr wc) ∧ Hid (Blk g 24 #[.int .i64 x.f0, .int .i64 x.f1, .int .i64 x.f2, v] wc) ∧ Hid (∃ A' c', v = .slice A' (x.f3.length + 1) c' ∧ Row wc A' c' (x.f3 ++ [r]))
theorem leaf_new {w w3 W : World} {x : SLd} {r : SRg} {cx cr : Array Value} {A' : Option Addr} {c' : Nat} (h3 : Since w w3) (hF : Fin w3.heap.size w3 (x.f3 ++ [r]) (.slice A' (x.f3.length + 1) c') none W)
    (ha : w.heap.size < w3.heap.size) (hb2 : w.heap.size + 1 < w3.heap.size) (hX : Blk w.heap.size 24 cx w3) (hR : Blk (w.heap.size + 1) 28 cr w3) :
    NewLad w x r cx cr (.pointer (some ⟨W.heap.size, 0, none⟩)) (W.alloc (.cells #[.int .i64 x.f0, .int .i64 x.f1, .int .i64 x.f2, .slice A' (x.f3.length + 1) c'] 24)) := by
  obtain ⟨h1, h2, h4⟩ := Kd.N_reads' (Kd.N_alloc hF.V (.cells #[.int .i64 x.f0, .int .i64 x.f1, .int .i64 x.f2, .slice A' (x.f3.length + 1) c'] 24))
  have hb := below_alloc hF.bel (.cells #[.int .i64 x.f0, .int .i64 x.f1, .int .i64 x.f2, .slice A' (x.f3.length + 1) c'] 24)
  exact ⟨W.heap.size, _, rfl, Lib.hid (h3.on hb), Lib.hid (keep8 hb ha hb2 hX hR), Lib.hid (Blk.new _ _ _), Lib.hid ⟨A', c', rfl, ⟨h4, by rw [← h1]; exact h2⟩⟩⟩
theorem leaf_old {w w3 W : World} {x : SLd} {r : SRg} {cx cr : Array Value} {A' : Option Addr} {c' g g' : Nat} (h3 : Since w w3) (hF : Fin w3.heap.size w3 (x.f3 ++ [r]) (.slice A' (x.f3.length + 1) c') (some g) W) (hg : g = g')
    (ha : w.heap.size < w3.heap.size) (hb2 : w.heap.size + 1 < w3.heap.size) (hX : Blk w.heap.size 24 cx w3) (hR : Blk (w.heap.size + 1) 28 cr w3) :
    NewLad w x r cx cr (.pointer (some ⟨g', 0, none⟩)) ((((W.setCell ⟨g', 0, none⟩ (.int .i64 x.f0)).setCell ⟨g', 1, none⟩ (.int .i64 x.f1)).setCell ⟨g', 2, none⟩ (.int .i64 x.f2)).setCell ⟨g', 3, none⟩ (.slice A' (x.f3.length + 1) c')) := by
  subst hg
  obtain ⟨hle, hG⟩ := hF.L g rfl
  obtain ⟨hp, hk⟩ := put4 hG rfl (.int .i64 x.f0) (.int .i64 x.f1) (.int .i64 x.f2) (.slice A' (x.f3.length + 1) c')
  obtain ⟨h1, h2, h4⟩ := Kd.N_reads' (Kd.N_step hF.V (fun k hk1 _ => hk k (fun e => hk1 (by rw [e]))))
  have hb := bel_set hle (i := 3) (v := .slice A' (x.f3.length + 1) c') (bel_set hle (i := 2) (v := .int .i64 x.f2) (bel_set hle (i := 1) (v := .int .i64 x.f1) (bel_set hle (i := 0) (v := .int .i64 x.f0) hF.bel)))
  exact ⟨g, _, rfl, Lib.hid (h3.on hb), Lib.hid (keep8 hb ha hb2 hX hR), Lib.hid hp, Lib.hid ⟨A', c', rfl, ⟨h4, by rw [← h1]; exact h2⟩⟩⟩
theorem prefix_f (u t : ByteArray) (h : t.data.toList <+: u.data.toList) : strings_HasPrefix.f u t = some true := by
  have h1 : t.size ≤ u.size := by
    have := h.length_le
    simpa using this
  unfold strings_HasPrefix.f stringslite_HasPrefix.f
  rw [if_pos (by omega), if_pos (by omega), if_pos (by omega)]
  have e : (u.extract 0 t.size).toList = t.toList := by
    rw [ByteArray.toList_eq, ByteArray.toList_eq]
    obtain ⟨s, hs⟩ := h
    have h2 : t.size = t.data.toList.length := by simp
    rw [ByteArray.data_extract, Array.toList_extract, h2, ← hs]
    simp
  rw [Int.toNat_natCast, e]
  simp
/-- What stands while the law looks at the new ladder. -/
structure Rg (w0 : World) (a b g : Nat) (cx cr cm : Array Value) (A : Option Addr) (c : Nat) (l : List SRg) (z : Option Nat) (w : World) : Prop where
  since : Since w0 w
  X : Blk a 24 cx w
  R : Blk b 28 cr w
  G : Blk g 24 cm w
  row : Row w A c l
  Z : ∀ k, z = some k → Blk k 28 cr w
section
variable {w0 w w' : World} {a b g : Nat} {cx cr cm : Array Value} {A : Option Addr} {c : Nat} {l : List SRg} {z : Option Nat}
theorem Rg.on (h : Rg w0 a b g cx cr cm A c l z w) (hb : Below w.heap.size w w') : Rg w0 a b g cx cr cm A c l z w' := ⟨h.since.on hb, h.X.on hb, h.R.on hb, h.G.on hb, h.row.on hb, fun k hk => (h.Z k hk).on hb⟩
theorem Rg.drew (h : Rg w0 a b g cx cr cm A c l z w) : Rg w0 a b g cx cr cm A c l z w.drew := h.on (below_drew (Below.refl _ _))
theorem Rg.lit (h : Rg w0 a b g cx cr cm A c l none w) : Rg w0 a b g cx cr cm A c l (some w.heap.size) (w.alloc (.cells cr 28)) := by
  have h1 := h.on (below_alloc (Below.refl _ _) (.cells cr 28))
  exact ⟨h1.since, h1.X, h1.R, h1.G, h1.row, fun k hk => by cases hk; exact Blk.new _ _ _⟩
theorem Rg.zb {k : Nat} (h : Rg w0 a b g cx cr cm A c l (some k) w) : Blk k 28 cr w := h.Z k rfl
theorem Rg.cells {x0 x1 x2 x3 y0 y1 y2 y3 m0 m1 m2 m3 : Value} (h : Rg w0 a b g #[x0, x1, x2, x3] #[y0, y1, y2, y3] #[m0, m1, m2, m3] A c l z w) :
    w.cell? ⟨a, 0, none⟩ = some x0 ∧ w.cell? ⟨a, 1, none⟩ = some x1 ∧ w.cell? ⟨a, 2, none⟩ = some x2 ∧ w.cell? ⟨a, 3, none⟩ = some x3 ∧ w.cell? ⟨b, 0, none⟩ = some y0 ∧ w.cell? ⟨b, 1, none⟩ = some y1 ∧ w.cell? ⟨b, 2, none⟩ = some y2 ∧ w.cell? ⟨b, 3, none⟩ = some y3 ∧
    w.cell? ⟨g, 0, none⟩ = some m0 ∧ w.cell? ⟨g, 1, none⟩ = some m1 ∧ w.cell? ⟨g, 2, none⟩ = some m2 ∧ w.cell? ⟨g, 3, none⟩ = some m3 :=
  ⟨h.X.cell 0 _ rfl, h.X.cell 1 _ rfl, h.X.cell 2 _ rfl, h.X.cell 3 _ rfl, h.R.cell 0 _ rfl, h.R.cell 1 _ rfl, h.R.cell 2 _ rfl, h.R.cell 3 _ rfl, h.G.cell 0 _ rfl, h.G.cell 1 _ rfl, h.G.cell 2 _ rfl, h.G.cell 3 _ rfl⟩
end
set_option maxRecDepth 100000 in
set_option maxHeartbeats 32000000 in
theorem app_law (x : SLd) (A : Option Addr) (c : Nat) (r : SRg) (B1 : Option Addr) (d1 : Nat) (B2 : Option Addr) (d2 : Nat) (w : World) (hx : Lad x A c w) (hr : RIn r B1 d1 B2 d2 w) (hL : Aside0 (LaidW 50 w)) :
    Calls Tryd.prog 3 #[ladV x A c, rungV r B1 d1 B2 d2] w fun e w' => e = .returned (.bool true) ∧ Below w.heap.size w w' := by
  obtain ⟨t1, ht1⟩ := large2 x.f0 x.f1 x.f2 x.f3 hx.n (fun r hr => (hx.m r hr).1)
  obtain ⟨t2, ht2⟩ := large2 0 0 0 [r] (by simp) (fun y hy => by rw [List.mem_singleton.1 hy]; exact hr.m1)
  obtain ⟨⟨s, f⟩, hp⟩ : ∃ v, printP x.f0 x.f1 x.f2 x.f3 = v := ⟨_, rfl⟩
  have HT1 := Lib.hid (fun W (h : Since w W) => ht1 A c W (hx.on h).reads hx.room)
  have HP := Lib.hid (fun W (h : Since w W) => print2 x.f0 x.f1 x.f2 x.f3 s f hp A c W (hx.on h).reads hx.room (LaidW.below hL rfl h.out))
  have HA := Lib.hid (fun W h => alive_call W w hL h)
  have HT2 := Lib.hid (fun W g (h : Since w W) (hb : Blk g 28 (rungC r B1 d1 B2 d2) W) => show Calls Tryd.prog 7 #[.agg #[.int .i64 0, .int .i64 0, .int .i64 0, .slice (some ⟨g, 0, none⟩) 1 1]] W fun e w' => e = .returned (.int .i64 t2) ∧ Below W.heap.size W w' from ht2 (some ⟨g, 0, none⟩) 1 W ((hr.on h).one hb) (Nat.le_refl 1))
  have HB0 := Lib.hid (show Since w ((w.alloc (.cells (ladC x A c) 24)).alloc (.cells (rungC r B1 d1 B2 d2) 28)) from ⟨below_alloc (below_alloc (Below.refl _ _) _) _⟩)
  have HX0 := Lib.hid ((Blk.new w 24 (ladC x A c)).alloc (.cells (rungC r B1 d1 B2 d2) 28))
  have HR0 := Lib.hid (show Blk (w.heap.size + 1) 28 (rungC r B1 d1 B2 d2) ((w.alloc (.cells (ladC x A c) 24)).alloc (.cells (rungC r B1 d1 B2 d2) 28)) from by have := Blk.new (w.alloc (.cells (ladC x A c) 24)) 28 (rungC r B1 d1 B2 d2); rwa [World.size_alloc] at this)
  have Hx := Lib.hid hx
  have Hr := Lib.hid hr
  have HL := Lib.hid hL
  have Hp := Lib.hid hp
  clear ht1 ht2 hx hr hL hp
  by_cases h1 : 0 < t1
  · have q1 : decide (0 < t1) = true := decide_eq_true h1
    go_enter Tryd.func3, Tryd.ntmps3
    go_wp2_with (first
      | (go_at_call 6; (with_reducible refine (HP.out _ HB0.out).mono ?_); rintro e w1 ⟨rfl, hb⟩; have HB1 := Lib.hid (HB0.out.on hb); have HX1 := Lib.hid (HX0.out.on hb); have x0 := HX1.out.cell 0 _ rfl; have x1 := HX1.out.cell 1 _ rfl; have x2 := HX1.out.cell 2 _ rfl; have x3 := HX1.out.cell 3 _ rfl; clear hb)
      | (go_at_call 7; (with_reducible refine (HT1.out _ HB1.out).mono ?_); rintro e w2 ⟨rfl, hb⟩; have HB2 := Lib.hid (HB1.out.on hb); clear hb)
      | (go_at_call 8; (with_reducible refine (HA.out _ HB2.out).mono ?_); rintro e w3 ⟨rfl, hb⟩; have HB3 := Lib.hid (HB2.out.on hb); clear hb))
    go_ret
    exact ⟨rfl, HB3.out.out⟩
  · have q1 : decide (0 < t1) = false := decide_eq_false h1
    by_cases h2 : f = 0
    case neg =>
      have q2 : (f != 0) = true := bne_iff_ne.2 h2
      go_enter Tryd.func3, Tryd.ntmps3
      go_wp2_with (first
        | (go_at_call 6; (with_reducible refine (HP.out _ HB0.out).mono ?_); rintro e w1 ⟨rfl, hb⟩; have HB1 := Lib.hid (HB0.out.on hb); have HX1 := Lib.hid (HX0.out.on hb); have x0 := HX1.out.cell 0 _ rfl; have x1 := HX1.out.cell 1 _ rfl; have x2 := HX1.out.cell 2 _ rfl; have x3 := HX1.out.cell 3 _ rfl; clear hb)
        | (go_at_call 7; (with_reducible refine (HT1.out _ HB1.out).mono ?_); rintro e w2 ⟨rfl, hb⟩; have HB2 := Lib.hid (HB1.out.on hb); clear hb)
        | (go_at_call 8; (with_reducible refine (HA.out _ HB2.out).mono ?_); rintro e w3 ⟨rfl, hb⟩; have HB3 := Lib.hid (HB2.out.on hb); clear hb))
      go_ret
      exact ⟨rfl, HB3.out.out⟩
    case pos =>
      subst h2
      by_cases h3 : 0 < t2
      · have q3 : decide (0 < t2) = true := decide_eq_true h3
        go_enter Tryd.func3, Tryd.ntmps3
        go_wp2_with (first
          | (go_at_call 6; (with_reducible refine (HP.out _ HB0.out).mono ?_); rintro e w1 ⟨rfl, hb⟩; have HB1 := Lib.hid (HB0.out.on hb); have HX1 := Lib.hid (HX0.out.on hb); have HR1 := Lib.hid (HR0.out.on hb); have x0 := HX1.out.cell 0 _ rfl; have x1 := HX1.out.cell 1 _ rfl; have x2 := HX1.out.cell 2 _ rfl; have x3 := HX1.out.cell 3 _ rfl; clear hb)
          | (go_at_call 7; (with_reducible refine (HT1.out _ HB1.out).mono ?_); rintro e w2 ⟨rfl, hb⟩; have HB2 := Lib.hid (HB1.out.on hb); have HR2 := Lib.hid (HR1.out.on hb); have y0 := HR2.out.cell 0 _ rfl; have y1 := HR2.out.cell 1 _ rfl; have y2 := HR2.out.cell 2 _ rfl; have y3 := HR2.out.cell 3 _ rfl; clear hb)
          | (go_at_call 7; (with_reducible refine (HT2.out _ _ (HB2.out.on (below_alloc (Below.refl _ _) _)) (Blk.new _ _ _)).mono ?_); rintro e w3 ⟨rfl, hb⟩; have HB3 := Lib.hid ((HB2.out.on (below_alloc (Below.refl _ _) (.cells (rungC r B1 d1 B2 d2) 28))).on hb); clear hb)
          | (go_at_call 8; (with_reducible refine (HA.out _ HB3.out).mono ?_); rintro e w4 ⟨rfl, hb⟩; have HB4 := Lib.hid (HB3.out.on hb); clear hb))
        go_ret
        exact ⟨rfl, HB4.out.out⟩
      · have q3 : decide (0 < t2) = false := decide_eq_false h3
        obtain ⟨hchk, hlen, hs⟩ := printP_ok Hp.out
        have h64 := (check_ok hchk).2.1
        have Hs := Lib.hid (And.intro hchk hs)
        clear hchk hlen hs
        go_enter Tryd.func3, Tryd.ntmps3
        go_upto_region 4 with (first
          | (go_at_call 6; (with_reducible refine (HP.out _ HB0.out).mono ?_); rintro e w1 ⟨rfl, hb⟩; have HB1 := Lib.hid (HB0.out.on hb); have HX1 := Lib.hid (HX0.out.on hb); have HR1 := Lib.hid (HR0.out.on hb); have x0 := HX1.out.cell 0 _ rfl; have x1 := HX1.out.cell 1 _ rfl; have x2 := HX1.out.cell 2 _ rfl; have x3 := HX1.out.cell 3 _ rfl; clear hb)
          | (go_at_call 7; (with_reducible refine (HT1.out _ HB1.out).mono ?_); rintro e w2 ⟨rfl, hb⟩; have HB2 := Lib.hid (HB1.out.on hb); have HX2 := Lib.hid (HX1.out.on hb); have HR2 := Lib.hid (HR1.out.on hb); have y0 := HR2.out.cell 0 _ rfl; have y1 := HR2.out.cell 1 _ rfl; have y2 := HR2.out.cell 2 _ rfl; have y3 := HR2.out.cell 3 _ rfl; clear hb)
          | (go_at_call 7; (with_reducible refine (HT2.out _ _ (HB2.out.on (below_alloc (Below.refl _ _) _)) (Blk.new _ _ _)).mono ?_); rintro e w3 ⟨rfl, hb⟩; have HB3 := Lib.hid ((HB2.out.on (below_alloc (Below.refl _ _) (.cells (rungC r B1 d1 B2 d2) 28))).on hb); have HX3 := Lib.hid ((HX2.out.alloc (.cells (rungC r B1 d1 B2 d2) 28)).on hb); have HR3 := Lib.hid ((HR2.out.alloc (.cells (rungC r B1 d1 B2 d2) 28)).on hb); clear hb))
        go_cut [7] (fun p wc => NewLad w x r (ladC x A c) (rungC r B1 d1 B2 d2) p wc)
        case first =>
          have hBa : w.heap.size < w3.heap.size := HX3.out.lt
          have hBb : w.heap.size + 1 < w3.heap.size := HR3.out.lt
          have HF := Lib.hid (f_rungs (Hx.out.on HB3.out).reads)
          have HK := Lib.hid (Hr.out.on HB3.out).foot
          have hS0 := St.new (xs := x.f3) (r := r) w3 rfl
          clear HP HT1 HT2 HA HB0 HB1 HB2 HX0 HX1 HX2 HR0 HR1 HR2
          go_region_held3 (fun w' => w'.cell? ⟨w.heap.size, 0, none⟩ = some (.int .i64 x.f0) ∧ w'.cell? ⟨w.heap.size, 1, none⟩ = some (.int .i64 x.f1) ∧ w'.cell? ⟨w.heap.size, 2, none⟩ = some (.int .i64 x.f2) ∧ w'.cell? ⟨w.heap.size, 3, none⟩ = some (.slice A x.f3.length c) ∧
              w'.cell? ⟨w.heap.size + 1, 0, none⟩ = some (.string r.f0) ∧ w'.cell? ⟨w.heap.size + 1, 1, none⟩ = some (.slice B1 r.f1.length d1) ∧ w'.cell? ⟨w.heap.size + 1, 2, none⟩ = some (.slice B2 r.f2.length d2) ∧ w'.cell? ⟨w.heap.size + 1, 3, none⟩ = some (.string r.f3))
            ((exact cells8 (keep8 (w := w3) (B := w3.heap.size) (by repeat (first | exact St.bel (by assumption) | exact Fin.bel (by assumption) | apply below_drew | apply below_alloc | apply bel_set zle)) hBa hBb HX3.out HR3.out)))
            ((first
              | (refine step_rows (B := w3.heap.size) (w0 := w3) (xs := x.f3) (r := r) rfl _ _ rfl A x.f3.length c rfl HF.out (by omega) (Nat.le_refl _) (by (repeat (first | assumption | apply St.drew | apply St.emptyA | apply St.oneA HK.out (Nat.le_refl _) | apply St.ladder))) (by first | rfl | (simp only [World.size_alloc]; rfl)) ?_; intro v6 w6 h6)
              | (refine step_last (B := w3.heap.size) (w0 := w3) (xs := x.f3) (r := r) rfl _ _ rfl (by omega) (by (repeat (first | assumption | apply St.drew | apply St.emptyA | apply St.oneA HK.out (Nat.le_refl _) | apply St.ladder))) (by first | rfl | (simp only [World.size_alloc]; rfl)) (by first | rfl | (simp only [World.size_alloc]; rfl)) ?_; intro A7 c7 w7 h7; (try (have zle := (h7.L _ rfl).1; (try simp only [World.size_alloc] at zle); have zb := (h7.L _ rfl).2; (try simp only [World.size_alloc] at zb); have z0 := zb.cell 0 (.int .i64 0) rfl; have z1 := zb.cell 1 (.int .i64 0) rfl; have z2 := zb.cell 2 (.int .i64 0) rfl; have z3 := zb.cell 3 (.slice none 0 0) rfl; have k0 := zb.frozen 0; have k1 := zb.frozen 1; have k2 := zb.frozen 2; have k3 := zb.frozen 3)))))
          all_goals
            go_wp2
            go_meet
            case rel =>
              first
                | exact leaf_new HB3.out (by assumption) hBa hBb HX3.out HR3.out
                | exact leaf_old HB3.out (by assumption) (by first | rfl | (simp only [World.size_alloc])) hBa hBb HX3.out HR3.out
        case rest =>
          obtain ⟨g, v, rfl, HBc, HXc, HGc, hv⟩ := hcut
          obtain ⟨A', c', rfl, hrow⟩ := hv.out
          clear HP HT1 HT2 HB0 HX0 HR0 HB1 HX1 HR1 HB2 HX2 HR2 HB3 HX3 HR3 hv
          have HG0 := Lib.hid (show Rg w w.heap.size (w.heap.size + 1) g (ladC x A c) (rungC r B1 d1 B2 d2) #[.int .i64 x.f0, .int .i64 x.f1, .int .i64 x.f2, .slice A' (x.f3.length + 1) c'] A' c' (x.f3 ++ [r]) none wc from ⟨HBc.out, HXc.out.1, HXc.out.2, HGc.out, hrow, fun k hk => by cases hk⟩)
          clear HBc HXc HGc hrow
          have hln : (x.f3 ++ [r]).length = x.f3.length + 1 := by rw [List.length_append, List.length_singleton]
          obtain ⟨⟨u, e2⟩, hpm⟩ : ∃ y, printP x.f0 x.f1 x.f2 (x.f3 ++ [r]) = y := ⟨_, rfl⟩
          obtain ⟨⟨n2, g2⟩, hcm⟩ : ∃ y, checkP x.f0 x.f1 x.f2 (x.f3 ++ [r]) = y := ⟨_, rfl⟩
          have HPm := Lib.hid (fun W (h : Since w W) (hR : Row W A' c' (x.f3 ++ [r])) => show Calls Tryd.prog 6 #[.agg #[.int .i64 x.f0, .int .i64 x.f1, .int .i64 x.f2, .slice A' (x.f3.length + 1) c']] W fun z w' => z = .returned (.tuple #[.string u, .int .i64 e2]) ∧ Below W.heap.size W w' from by
            have := print2 x.f0 x.f1 x.f2 (x.f3 ++ [r]) u e2 hpm A' c' W hR.reads hR.room (LaidW.below HL.out rfl h.out)
            rwa [hln] at this)
          have HCm := Lib.hid (fun W (hR : Row W A' c' (x.f3 ++ [r])) => show Calls Tryd.prog 9 #[.agg #[.int .i64 x.f0, .int .i64 x.f1, .int .i64 x.f2, .slice A' (x.f3.length + 1) c']] W fun z w' => z = .returned (.tuple #[.int .i64 n2, .int .i64 g2]) ∧ Below W.heap.size W w' from by
            have := check2 x.f0 x.f1 x.f2 (x.f3 ++ [r]) n2 g2 hcm A' c' W hR.reads hR.room
            rwa [hln] at this)
          have m0 := HG0.out.G.cell 0 _ rfl
          have m1 := HG0.out.G.cell 1 _ rfl
          have m2 := HG0.out.G.cell 2 _ rfl
          have m3 := HG0.out.G.cell 3 _ rfl
          by_cases he : e2 = 0
          case neg =>
            have q4 : (e2 != 0) = true := bne_iff_ne.2 he
            obtain ⟨hu, hd⟩ := app_bad hpm he
            rw [hcm] at hd
            subst hu
            have hue : (⟨#[]⟩ : ByteArray).toList = ([] : List UInt8) := by rw [ByteArray.toList_eq]
            clear hpm hcm
            rcases hd with ⟨hd1, hd2, hd3⟩ | rfl
            · have hd1 : g2 = e2 := hd1
              have hd2 : (0 : Int) ≤ n2 := hd2
              have hd3 : n2 ≤ (x.f3.length : Int) := hd3
              subst hd1
              have q5 : decide (0 ≤ n2) = true := decide_eq_true hd2
              have q6 : decide (n2 ≤ (x.f3.length : Int)) = true := decide_eq_true hd3
              go_wp2_with (first
                | (go_at_call 6; (with_reducible refine (HPm.out _ HG0.out.since HG0.out.row).mono ?_); rintro e w4 ⟨rfl, hb⟩; have HG1 := Lib.hid (HG0.out.on hb); have m0 := HG1.out.G.cell 0 _ rfl; have m1 := HG1.out.G.cell 1 _ rfl; have m2 := HG1.out.G.cell 2 _ rfl; have m3 := HG1.out.G.cell 3 _ rfl; clear hb)
                | (go_at_call 9; (with_reducible refine (HCm.out _ HG1.out.row).mono ?_); rintro e w5 ⟨rfl, hb⟩; have HG2 := Lib.hid (HG1.out.on hb); clear hb)
                | (go_at_call 8; (with_reducible refine (HA.out _ HG2.out.since).mono ?_); rintro e w6 ⟨rfl, hb⟩; have HG3 := Lib.hid (HG2.out.on hb); have x3 := HG3.out.X.cell 3 _ rfl; clear hb))
              all_goals (go_ret; exact ⟨by first | rfl | simp, HG3.out.since.out⟩)
            · go_wp2_with (first
                | (go_at_call 6; (with_reducible refine (HPm.out _ HG0.out.since HG0.out.row).mono ?_); rintro e w4 ⟨rfl, hb⟩; have HG1 := Lib.hid (HG0.out.on hb); have m0 := HG1.out.G.cell 0 _ rfl; have m1 := HG1.out.G.cell 1 _ rfl; have m2 := HG1.out.G.cell 2 _ rfl; have m3 := HG1.out.G.cell 3 _ rfl; clear hb)
                | (go_at_call 9; (with_reducible refine (HCm.out _ HG1.out.row).mono ?_); rintro e w5 ⟨rfl, hb⟩; have HG2 := Lib.hid (HG1.out.on hb); clear hb)
                | (go_at_call 8; (with_reducible refine (HA.out _ HG2.out.since).mono ?_); rintro e w6 ⟨rfl, hb⟩; have HG3 := Lib.hid (HG2.out.on hb); have x3 := HG3.out.X.cell 3 _ rfl; clear hb))
              all_goals (go_ret; exact ⟨by first | rfl | simp, HG3.out.since.out⟩)
          case pos =>
            subst he
            obtain ⟨hc2, hpre⟩ := app_good Hp.out hpm
            obtain ⟨Ea, Eb, ha1, ha2, ha3, hea, heb⟩ : ∃ Ea Eb : Int, edgeR 0 x.f3 = Ea ∧ edgeR 0 [r] = Eb ∧ edgeR 0 (x.f3 ++ [r]) = Ea + Eb ∧ (0 ≤ Ea ∧ Ea ≤ 20000) ∧ (0 ≤ Eb ∧ Eb ≤ 20000) := by
              obtain ⟨a, b, h1, h2, h3, h4, h5⟩ := app_edges (show (checkP x.f0 x.f1 x.f2 (x.f3 ++ [r])).2 = 0 by rw [hc2])
              exact ⟨(a : Int), (b : Int), h3, h4, by rw [h5]; omega, by omega, by omega⟩
            rw [hcm] at hc2
            obtain ⟨rfl, rfl⟩ := Prod.mk.inj hc2
            have HH := Lib.hid (fun W => strings_HasPrefix.calls u s true W (prefix_f u s hpre))
            have HEm := Lib.hid (fun W (hR : Row W A' c' (x.f3 ++ [r])) => show Calls Tryd.prog 11 #[.agg #[.int .i64 x.f0, .int .i64 x.f1, .int .i64 x.f2, .slice A' (x.f3.length + 1) c']] W fun z w' => z = .returned (.int .i64 (Ea + Eb)) ∧ Below W.heap.size W w' from by
              have := edge2 x.f0 x.f1 x.f2 (x.f3 ++ [r]) (by rw [hln]; omega) (fun y hy => by rcases List.mem_append.1 hy with h | h; exact (Hx.out.m y h).1; rw [List.mem_singleton.1 h]; exact Hr.out.m1) _ ha3 A' c' W hR.reads hR.room
              rwa [hln] at this)
            have HEl := Lib.hid (fun W (h : Since w W) => edge2 x.f0 x.f1 x.f2 x.f3 Hx.out.n (fun y hy => (Hx.out.m y hy).1) _ ha1 A c W (Hx.out.on h).reads Hx.out.room)
            have HEz := Lib.hid (fun W k (h : Since w W) (hb : Blk k 28 (rungC r B1 d1 B2 d2) W) => show Calls Tryd.prog 11 #[.agg #[.int .i64 0, .int .i64 0, .int .i64 0, .slice (some ⟨k, 0, none⟩) 1 1]] W fun z w' => z = .returned (.int .i64 Eb) ∧ Below W.heap.size W w' from
              edge2 0 0 0 [r] (by simp) (fun y hy => by rw [List.mem_singleton.1 hy]; exact Hr.out.m1) _ ha2 (some ⟨k, 0, none⟩) 1 W ((Hr.out.on h).one hb) (Nat.le_refl 1))
            clear hpm hcm hc2 hpre ha1 ha2 ha3
            have qn : (((x.f3.length : Int) + 1) == IntKind.i64.wrap ((x.f3.length : Int) + 1)) = true := by rw [beq_iff_eq, IntKind.wrap_i64]; omega
            have qe : ((Ea + Eb) == IntKind.i64.wrap (Ea + Eb)) = true := by rw [beq_iff_eq, IntKind.wrap_i64]; omega
            go_upto_region 9 with (first
              | (go_at_call 6; (with_reducible refine (HPm.out _ HG0.out.since HG0.out.row).mono ?_); rintro e w4 ⟨rfl, hb⟩; have HG1 := Lib.hid (HG0.out.on hb); have m0 := HG1.out.G.cell 0 _ rfl; have m1 := HG1.out.G.cell 1 _ rfl; have m2 := HG1.out.G.cell 2 _ rfl; have m3 := HG1.out.G.cell 3 _ rfl; clear hb)
              | (go_at_call 9; (with_reducible refine (HCm.out _ HG1.out.row).mono ?_); rintro e w5 ⟨rfl, hb⟩; have HG2 := Lib.hid (HG1.out.on hb); clear hb))
            have hG := HG2.out
            clear m0 m1 m2 m3 HPm HCm
            go_region_held3 (fun w' => w'.cell? ⟨w.heap.size, 0, none⟩ = some (.int .i64 x.f0) ∧ w'.cell? ⟨w.heap.size, 1, none⟩ = some (.int .i64 x.f1) ∧ w'.cell? ⟨w.heap.size, 2, none⟩ = some (.int .i64 x.f2) ∧ w'.cell? ⟨w.heap.size, 3, none⟩ = some (.slice A x.f3.length c) ∧ w'.cell? ⟨w.heap.size + 1, 0, none⟩ = some (.string r.f0) ∧ w'.cell? ⟨w.heap.size + 1, 1, none⟩ = some (.slice B1 r.f1.length d1) ∧ w'.cell? ⟨w.heap.size + 1, 2, none⟩ = some (.slice B2 r.f2.length d2) ∧ w'.cell? ⟨w.heap.size + 1, 3, none⟩ = some (.string r.f3) ∧ w'.cell? ⟨g, 0, none⟩ = some (.int .i64 x.f0) ∧ w'.cell? ⟨g, 1, none⟩ = some (.int .i64 x.f1) ∧ w'.cell? ⟨g, 2, none⟩ = some (.int .i64 x.f2) ∧ w'.cell? ⟨g, 3, none⟩ = some (.slice A' (x.f3.length + 1) c'))
              ((exact Rg.cells (by (repeat (first | assumption | apply Rg.drew | apply Rg.lit)))))
              ((first
                | (go_at_call 8; go_split_ands; (with_reducible refine (HA.out _ (Rg.since (by (repeat (first | assumption | apply Rg.drew | apply Rg.lit))))).mono ?_); rintro e w6 ⟨rfl, hb⟩; have hG := Rg.on (by (repeat (first | assumption | apply Rg.drew | apply Rg.lit))) hb)
                | (go_at_call 10; go_split_ands; (with_reducible refine (HH.out _).mono ?_); rintro e w6 ⟨rfl, hb⟩; have hG := Rg.on (by (repeat (first | assumption | apply Rg.drew | apply Rg.lit))) hb.below)
                | (go_at_call 11; go_split_ands; (with_reducible refine (HEm.out _ (Rg.row (by (repeat (first | assumption | apply Rg.drew | apply Rg.lit))))).mono ?_); rintro e w6 ⟨rfl, hb⟩; have hG := Rg.on (by (repeat (first | assumption | apply Rg.drew | apply Rg.lit))) hb)
                | (go_at_call 11; go_split_ands; (with_reducible refine (HEl.out _ (Rg.since (by (repeat (first | assumption | apply Rg.drew | apply Rg.lit))))).mono ?_); rintro e w6 ⟨rfl, hb⟩; have hG := Rg.on (by (repeat (first | assumption | apply Rg.drew | apply Rg.lit))) hb)
                | (go_at_call 11; go_split_ands; (with_reducible refine (HEz.out _ _ (Rg.since (by (repeat (first | assumption | apply Rg.drew | apply Rg.lit)))) (Rg.zb (by (repeat (first | assumption | apply Rg.drew | apply Rg.lit))))).mono ?_); rintro e w6 ⟨rfl, hb⟩; have hG := Rg.on (by (repeat (first | assumption | apply Rg.drew | apply Rg.lit))) hb)))
            all_goals
              go_wp2
              go_split_ands
              go_ret
              exact ⟨by first | rfl | simp, Since.out (Rg.since (by (repeat (first | assumption | apply Rg.drew | apply Rg.lit))))⟩
end Go.Proofs.YtdbjjbooalkkbaaDoor.P

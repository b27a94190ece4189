/- LexConcatenation: the lines of two texts joined by a newline are the lines of both texts, with shifted line numbers. -/
import Derived.Test.YthidobgadndclaaDoorXPLex0
import Derived.Test.YthidobgadndclaaDoorXAddr
import Derived.RegionTactic
import Derived.IntWalk
namespace Go.Proofs.YthidobgadndclaaDoor.P
open Go.RowKit Go.Proofs.YthidobgadndclaaDoorW.PrintWords

theorem collect_num {segs : List (List UInt8)} : ∀ {i : Nat} {p : Int × List ByteArray}, p ∈ collect i segs → 0 ≤ p.1 ∧ p.1 ≤ (i : Int) + segs.length := by
  induction segs with
  | nil => intro i p hp; cases hp
  | cons l r ih =>
    intro i p hp
    rw [collect] at hp
    rw [List.length_cons]
    split at hp
    · have := ih hp; omega
    · rcases List.mem_cons.mp hp with rfl | hp
      · dsimp only; omega
      · have := ih hp; omega
theorem collect_le (segs : List (List UInt8)) : ∀ i : Nat, (collect i segs).length ≤ segs.length := by
  induction segs with
  | nil => intro i; exact Nat.le_refl _
  | cons l r ih =>
    intro i
    rw [collect]
    have := ih (i + 1)
    split
    · rw [List.length_cons]; omega
    · rw [List.length_cons, List.length_cons]; omega
theorem segs_le (t : List UInt8) : (cutAt 10 t).length ≤ t.length + 1 := by
  rw [count_cutAt]
  have := List.count_le_length (a := (10 : UInt8)) (l := t)
  omega
/-- lex.Lines, its answer as a slice that reads as the lines. -/
theorem lines_any (s : ByteArray) (hs : s.size ≤ 65536) (L : List S32) (n e : Int) (h : ((linesG (cutAt 10 s.data.toList)).1.map toS, (linesG (cutAt 10 s.data.toList)).2) = (L, n, e)) (W : World) (hL : Aside0 (LaidW 9 W)) :
    Calls Tryd.prog 16 #[.string s] W fun en w' => ∃ A c, en = .returned (.tuple #[.slice A L.length c, .int .i64 n, .int .i64 e]) ∧ L.length ≤ c ∧ Kd.C k32 w' A L.length L ∧ Below W.heap.size W w' := by
  refine (lex_Lines.calls s L n e W hL (by rw [lex_Lines_eq s hs, h])).mono fun en w' ⟨v, he, hS, hb⟩ => ?_
  obtain ⟨A, c, rfl, hl, hc⟩ := Kd.S_reads hS
  exact ⟨A, c, he, hl, hc, hb⟩
theorem alive_any (W : World) (hL : Aside0 (LaidW 9 W)) : Calls Tryd.prog 15 #[] W fun e w' => e = .returned (.bool true) ∧ Below W.heap.size W w' := law09_alive.calls true W hL rfl
set_option maxRecDepth 100000 in
set_option maxHeartbeats 2000000 in
theorem concat_long (a0 a1 : ByteArray) (w : World) (h : (2000 : Int) < ((a0.size : Nat) : Int) ∨ ((a0.size : Nat) : Int) ≤ 2000 ∧ (2000 : Int) < ((a1.size : Nat) : Int)) (hL : Aside0 (LaidW 9 w)) :
    Calls Tryd.prog 5 #[.string a0, .string a1] w fun e w' => e = .returned (.bool true) ∧ Below w.heap.size w w' := by
  have HA := Lib.hid (alive_any w hL)
  rcases h with h | ⟨h0, h⟩
  all_goals
    go_enter Tryd.func5, Tryd.ntmps5
    go_wp2_with (go_at_call 15; (with_reducible refine HA.out.mono ?_); rintro e w1 ⟨rfl, hb⟩)
    go_ret
    exact ⟨rfl, hb⟩
set_option maxRecDepth 100000 in
set_option maxHeartbeats 4000000 in
theorem concat_error (a0 a1 : ByteArray) (w : World) (h0 : ((a0.size : Nat) : Int) ≤ 2000) (h1 : ((a1.size : Nat) : Int) ≤ 2000) (L M : List S32) (n1 e1 n2 e2 : Int)
    (g1 : ((linesG (cutAt 10 a0.data.toList)).1.map toS, (linesG (cutAt 10 a0.data.toList)).2) = (L, n1, e1)) (g2 : ((linesG (cutAt 10 a1.data.toList)).1.map toS, (linesG (cutAt 10 a1.data.toList)).2) = (M, n2, e2))
    (h : (e1 != 0) = true ∨ (e1 != 0) = false ∧ (e2 != 0) = true) (hL : Aside0 (LaidW 9 w)) :
    Calls Tryd.prog 5 #[.string a0, .string a1] w fun e w' => e = .returned (.bool true) ∧ Below w.heap.size w w' := by
  have HA := Lib.hid (fun W hL => alive_any W hL)
  have H1 := Lib.hid (lines_any a0 (by omega) L n1 e1 g1 w hL)
  have H2 := Lib.hid (fun W hL => lines_any a1 (by omega) M n2 e2 g2 W hL)
  have HL := Lib.hid hL
  clear g1 g2 hL
  rcases h with h | ⟨h2, h⟩
  all_goals
    go_enter Tryd.func5, Tryd.ntmps5
    go_wp2_with fail
    refine H1.out.mono ?_
    rintro e w1 ⟨A, c, rfl, hl, hC, hb⟩
    have HB1 := Lib.hid hb
    clear hb hl hC
    go_wp2_with fail
    refine (H2.out _ (LaidW.below HL.out rfl HB1.out)).mono ?_
    rintro e w2 ⟨A2, c2, rfl, hl, hC, hb⟩
    have HB2 := Lib.hid (HB1.out.trans (hb.mono HB1.out.size))
    clear hb hl hC
    go_wp2_with fail
    refine (HA.out _ (LaidW.below HL.out rfl HB2.out)).mono ?_
    rintro e w3 ⟨rfl, hb⟩
    have HB3 := Lib.hid (HB2.out.trans (hb.mono HB2.out.size))
    clear hb
    go_wp2_with fail
    go_ret
    exact ⟨rfl, HB3.out⟩
theorem alloc_cell {W : World} {p : Addr} {v : Value} {o : Obj} (h : W.cell? p = some v) : (W.alloc o).cell? p = some v := by rw [World.cell?_alloc_old _ _ _ (Nat.ne_of_lt (World.block_lt_of_cell? _ _ h))]; exact h
/-- What the region of the last test keeps beside its cells: the two lines' words read as they did. -/
structure JF (w4 : World) (l : List ByteArray) (A B : Option Addr) (W : World) : Prop where
  a : Kd.string.C W A l.length l
  b : Kd.string.C W B l.length l
  below : Below w4.heap.size w4 W
theorem JF.on {w4 W W' : World} {l : List ByteArray} {A B : Option Addr} (h : JF w4 l A B W) (hb : Below W.heap.size W W') : JF w4 l A B W' := ⟨Kd.C_below h.a hb, Kd.C_below h.b hb, h.below.trans (hb.mono h.below.size)⟩
theorem JF.start {w4 W : World} {l : List ByteArray} {A B : Option Addr} (h1 : Kd.string.C W A l.length l) (h2 : Kd.string.C W B l.length l) (hb : Below w4.heap.size w4 W) (o : Obj) : JF w4 l A B (W.alloc o).drew := JF.on ⟨h1, h2, hb⟩ (below_drew (below_alloc (Below.refl _ _) o))
theorem joined_a {w4 : World} {l : List ByteArray} {A B : Option Addr} {c : Nat} {t : ByteArray} (hc : l.length ≤ c) (h : strings_Join.f l (⟨#[32]⟩ : ByteArray) = some t) (W : World) (hJ : JF w4 l A B W) :
    Calls Tryd.prog 18 #[.slice A l.length c, .string (⟨#[32]⟩ : ByteArray)] W fun e w' => e = .returned (.string t) ∧ Below W.heap.size W w' := strings_Join.calls A c l _ t W hJ.a hc h
theorem joined_b {w4 : World} {l : List ByteArray} {A B : Option Addr} {c : Nat} {t : ByteArray} (hc : l.length ≤ c) (h : strings_Join.f l (⟨#[32]⟩ : ByteArray) = some t) (W : World) (hJ : JF w4 l A B W) :
    Calls Tryd.prog 18 #[.slice B l.length c, .string (⟨#[32]⟩ : ByteArray)] W fun e w' => e = .returned (.string t) ∧ Below W.heap.size W w' := strings_Join.calls B c l _ t W hJ.b hc h
/-- What the walk asks of the three lists of lines. -/
structure Shifted (L M NN : List S32) (by_ : Int) : Prop where
  len : NN.length = L.length + M.length
  small : L.length ≤ 10000 ∧ M.length ≤ 10000 ∧ 0 ≤ by_ ∧ by_ ≤ 10000
  left : ∀ i : Nat, i < L.length → ∃ x y : S32, rd_T32 L (i : Int) = x ∧ rd_T32 NN (i : Int) = y ∧ y.f0 = x.f0 ∧ y.f1 = x.f1 ∧ 0 ≤ x.f0 ∧ x.f0 ≤ 10000 ∧ ∃ t, strings_Join.f x.f1 (⟨#[32]⟩ : ByteArray) = some t
  right : ∀ i : Nat, i < M.length → ∃ x y : S32, rd_T32 M (i : Int) = x ∧ rd_T32 NN ((L.length + i : Nat) : Int) = y ∧ y.f0 = x.f0 + by_ ∧ y.f1 = x.f1 ∧ 0 ≤ x.f0 ∧ x.f0 ≤ 10000 ∧ ∃ t, strings_Join.f x.f1 (⟨#[32]⟩ : ByteArray) = some t
set_option maxRecDepth 100000 in
set_option maxHeartbeats 4000000 in
theorem concat_main (a0 a1 : ByteArray) (w : World) (h0 : ((a0.size : Nat) : Int) ≤ 2000) (h1 : ((a1.size : Nat) : Int) ≤ 2000) (L M NN : List S32) (n1 n2 cnt : Int)
    (g1 : ((linesG (cutAt 10 a0.data.toList)).1.map toS, (linesG (cutAt 10 a0.data.toList)).2) = (L, n1, 0)) (g2 : ((linesG (cutAt 10 a1.data.toList)).1.map toS, (linesG (cutAt 10 a1.data.toList)).2) = (M, n2, 0))
    (g3 : ((linesG (cutAt 10 (a0 ++ (⟨#[10]⟩ : ByteArray) ++ a1).data.toList)).1.map toS, (linesG (cutAt 10 (a0 ++ (⟨#[10]⟩ : ByteArray) ++ a1).data.toList)).2) = (NN, 0, 0))
    (hc : strings_Count.f a0 (⟨#[10]⟩ : ByteArray) = some cnt) (hS : Shifted L M NN (cnt + 1)) (hL : Aside0 (LaidW 9 w)) :
    Calls Tryd.prog 5 #[.string a0, .string a1] w fun e w' => e = .returned (.bool true) ∧ Below w.heap.size w w' := by
  have hsz : (a0 ++ (⟨#[10]⟩ : ByteArray) ++ a1).size ≤ 65536 := by
    rw [ByteArray.size_append, ByteArray.size_append]
    have : (⟨#[10]⟩ : ByteArray).size = 1 := rfl
    omega
  have HA := Lib.hid (fun W hL => alive_any W hL)
  have H1 := Lib.hid (lines_any a0 (by omega) L n1 0 g1 w hL)
  have H2 := Lib.hid (fun W hL => lines_any a1 (by omega) M n2 0 g2 W hL)
  have H3 := Lib.hid (fun W hL => lines_any _ hsz NN 0 0 g3 W hL)
  have HC := Lib.hid (fun W => strings_Count.calls a0 _ _ W hc)
  have HL := Lib.hid hL
  have HS := Lib.hid hS
  have hlen := hS.len
  have hsm := hS.small
  have q1 : ¬ 9223372036854775807 < a0.size + 1 := by omega
  have q2 : ¬ 9223372036854775807 < a0.size + 1 + a1.size := by omega
  have q3 : ((NN.length : Int) != (L.length : Int) + (M.length : Int)) = false := by rw [bne_eq_false_iff_eq]; omega
  have q4 : IntKind.i64.wrap ((L.length : Int) + (M.length : Int)) = (L.length : Int) + (M.length : Int) := IntWalk.i64_in _ (by omega)
  have q5 : IntKind.i64.wrap (cnt + 1) = cnt + 1 := IntWalk.i64_in _ (by omega)
  have hk1 : L.length ≤ 10000 := hsm.1
  have hk2 : M.length ≤ 10000 := hsm.2.1
  have hk3 := Lib.hid hlen
  have hk4 : 0 ≤ cnt + 1 := hsm.2.2.1
  have hk5 : cnt + 1 ≤ 10000 := hsm.2.2.2
  clear g1 g2 g3 hL hsz hc hS hlen hsm
  go_enter Tryd.func5, Tryd.ntmps5
  go_wp2_with fail
  refine H1.out.mono ?_
  rintro e w1 ⟨A, c, rfl, hl1, hC1, hb⟩
  have HB1 := Lib.hid hb
  have HC1 := Lib.hid hC1
  clear hb hl1 hC1
  go_wp2_with fail
  refine (H2.out _ (LaidW.below HL.out rfl HB1.out)).mono ?_
  rintro e w2 ⟨A2, c2, rfl, hl2, hC2, hb⟩
  have HB2 := Lib.hid (HB1.out.trans (hb.mono HB1.out.size))
  have HC12 := Lib.hid (Kd.C_below HC1.out hb)
  have HC2 := Lib.hid hC2
  clear hb hl2 hC2 HC1
  go_wp2_with fail
  refine (H3.out _ (LaidW.below HL.out rfl HB2.out)).mono ?_
  rintro e w3 ⟨A3, c3, rfl, hl3, hC3, hb⟩
  have HB3 := Lib.hid (HB2.out.trans (hb.mono HB2.out.size))
  have HC13 := Lib.hid (Kd.C_below HC12.out hb)
  have HC23 := Lib.hid (Kd.C_below HC2.out hb)
  have HC3 := Lib.hid hC3
  clear hb hl3 hC3 HC12 HC2
  go_wp2_with fail
  refine (HC.out _).mono ?_
  rintro e w4 ⟨rfl, hb⟩
  have HB4 := Lib.hid (HB3.out.trans (hb.mono HB3.out.size))
  have HC14 := Lib.hid (Kd.C_below HC13.out hb)
  have HC24 := Lib.hid (Kd.C_below HC23.out hb)
  have HC34 := Lib.hid (Kd.C_below HC3.out hb)
  clear hb HC13 HC23 HC3 HB1 HB2 HB3
  go_wp2_with fail
  clear H1 H2 H3 HC
  go_loopw [76] (fun i wr => ∃ k : Nat, k ≤ NN.length ∧ i = .int .i64 k ∧ Hid (Below w4.heap.size w4 wr)) (fun i _ => NN.length - (intOf i).toNat)
  case atStart => exact ⟨0, Nat.zero_le _, rfl, Lib.hid (Below.refl _ _)⟩
  case round =>
    obtain ⟨k, hk, rfl, HW⟩ := hrel
    by_cases hlt : k < NN.length
    · obtain ⟨ad, Ay, cy, eA3, hy0, hy1, hyl, hyr⟩ := at_T32 (Kd.C_below HC34.out HW.out) k (by omega) (by omega)
      subst eA3
      rw [Int.toNat_natCast] at hy0 hy1
      by_cases hl : k < L.length
      · obtain ⟨x, y, ex, ey, e0, e1, b0, b1, t, ht⟩ := HS.out.left k hl
        obtain ⟨adx, Ax, cx, eA1, hx0, hx1, hxl, hxr⟩ := at_T32 (Kd.C_below HC14.out HW.out) k (by omega) (by omega)
        subst eA1
        rw [Int.toNat_natCast] at hx0 hx1
        rw [ey] at hy0 hy1 hyl hyr
        rw [ex] at hx0 hx1 hxl hxr
        rw [e0] at hy0
        rw [e1] at hy1 hyl hyr
        have HYL := Lib.hid hyl
        have HYR := Lib.hid hyr
        have HXL := Lib.hid hxl
        have HXR := Lib.hid hxr
        have HT := Lib.hid ht
        have s1 : IntKind.i64.wrap (x.f0 + 0) = x.f0 + 0 := IntWalk.i64_in _ (by omega)
        have s0 : IntKind.i64.wrap x.f0 = x.f0 := IntWalk.i64_in _ (by omega)
        have s2 : (x.f0 != x.f0) = false := by simp
        have hx0a := alloc_cell (o := .cells #[.int .i64 0, .slice none 0 0] 32) hx0
        have hx1a := alloc_cell (o := .cells #[.int .i64 0, .slice none 0 0] 32) hx1
        have hy0a := alloc_cell (o := .cells #[.int .i64 x.f0, .slice Ax x.f1.length cx] 32) hy0
        have hy1a := alloc_cell (o := .cells #[.int .i64 x.f0, .slice Ax x.f1.length cx] 32) hy1
        clear hyl hyr hxl hxr ht ex ey e0 e1
        have HJ1 := Lib.hid (fun W (hJ : JF w4 x.f1 Ay Ax W) => joined_a HYL.out HT.out W hJ)
        have HJ2 := Lib.hid (fun W (hJ : JF w4 x.f1 Ay Ax W) => joined_b HXL.out HT.out W hJ)
        have HJ0 := Lib.hid (JF.start HYR.out HXR.out HW.out (.cells #[.int .i64 x.f0, .slice Ax x.f1.length cx] 32))
        go_wp2_with fail
        go_region_held3 (fun w' => w'.cell? (ad.add (k * 2)) = some (.int .i64 x.f0) ∧ w'.cell? ⟨(ad.add (k * 2)).block, (ad.add (k * 2)).off + 1, none⟩ = some (.slice Ay x.f1.length cy) ∧ w'.cell? ⟨wr.heap.size, 0, none⟩ = some (.int .i64 x.f0) ∧ w'.cell? ⟨wr.heap.size, 1, none⟩ = some (.slice Ax x.f1.length cx) ∧ JF w4 x.f1 Ay Ax w')
          (((try go_split_ands); refine ⟨?_, ?_, ?_, ?_, ?_⟩ <;> first | assumption | exact HJ0.out | exact JF.on (by assumption) (by assumption) | exact pw_cell_below (by assumption) (by assumption) | go_keep))
          ((first
            | (go_at_call 18; go_split_ands; (with_reducible refine (HJ1.out _ (by assumption)).mono ?_); rintro e w5 ⟨rfl, hb5⟩)
            | (go_at_call 18; go_split_ands; (with_reducible refine (HJ2.out _ (by assumption)).mono ?_); rintro e w5 ⟨rfl, hb5⟩)))
        go_wp2
        go_split_ands
        go_roundw
        case rel => exact ⟨k + 1, by omega, by go_num, Lib.hid (JF.below (by assumption))⟩
        case measure => simp [intOf]; omega
      · obtain ⟨j, hj⟩ : ∃ j, k = L.length + j := ⟨k - L.length, by omega⟩
        have hjm : j < M.length := by have := hk3.out; omega
        obtain ⟨x, y, ex, ey, e0, e1, b0, b1, t, ht⟩ := HS.out.right j hjm
        rw [← hj] at ey
        have hkb : k ≤ 20000 := by omega
        have sj : IntKind.i64.wrap ((k : Int) - (L.length : Int)) = (j : Int) := by
          rw [IntWalk.i64_in ((k : Int) - (L.length : Int)) (by omega)]
          omega
        have HJK := Lib.hid hj
        clear hj
        obtain ⟨adx, Ax, cx, eA2, hx0, hx1, hxl, hxr⟩ := at_T32 (Kd.C_below HC24.out HW.out) j (by omega) (by omega)
        subst eA2
        rw [Int.toNat_natCast] at hx0 hx1
        rw [ey] at hy0 hy1 hyl hyr
        rw [ex] at hx0 hx1 hxl hxr
        rw [e0] at hy0
        rw [e1] at hy1 hyl hyr
        have HYL := Lib.hid hyl
        have HYR := Lib.hid hyr
        have HXL := Lib.hid hxl
        have HXR := Lib.hid hxr
        have HT := Lib.hid ht
        have s0 : IntKind.i64.wrap (x.f0 + (cnt + 1)) = x.f0 + (cnt + 1) := IntWalk.i64_in _ (by omega)
        have s2 : ((x.f0 + (cnt + 1)) != (x.f0 + (cnt + 1))) = false := by simp
        have hx0a := alloc_cell (o := .cells #[.int .i64 0, .slice none 0 0] 32) hx0
        have hx1a := alloc_cell (o := .cells #[.int .i64 0, .slice none 0 0] 32) hx1
        have hy0a := alloc_cell (o := .cells #[.int .i64 x.f0, .slice Ax x.f1.length cx] 32) hy0
        have hy1a := alloc_cell (o := .cells #[.int .i64 x.f0, .slice Ax x.f1.length cx] 32) hy1
        clear hyl hyr hxl hxr ht ex ey e0 e1
        have HJ1 := Lib.hid (fun W (hJ : JF w4 x.f1 Ay Ax W) => joined_a HYL.out HT.out W hJ)
        have HJ2 := Lib.hid (fun W (hJ : JF w4 x.f1 Ay Ax W) => joined_b HXL.out HT.out W hJ)
        have HJ0 := Lib.hid (JF.start HYR.out HXR.out HW.out (.cells #[.int .i64 x.f0, .slice Ax x.f1.length cx] 32))
        go_wp2_with fail
        go_region_held3 (fun w' => w'.cell? (ad.add (k * 2)) = some (.int .i64 (x.f0 + (cnt + 1))) ∧ w'.cell? ⟨(ad.add (k * 2)).block, (ad.add (k * 2)).off + 1, none⟩ = some (.slice Ay x.f1.length cy) ∧ w'.cell? ⟨wr.heap.size, 0, none⟩ = some (.int .i64 x.f0) ∧ w'.cell? ⟨wr.heap.size, 1, none⟩ = some (.slice Ax x.f1.length cx) ∧ JF w4 x.f1 Ay Ax w')
          (((try go_split_ands); refine ⟨?_, ?_, ?_, ?_, ?_⟩ <;> first | assumption | exact HJ0.out | exact JF.on (by assumption) (by assumption) | exact pw_cell_below (by assumption) (by assumption) | go_keep))
          ((first
            | (go_at_call 18; go_split_ands; (with_reducible refine (HJ1.out _ (by assumption)).mono ?_); rintro e w5 ⟨rfl, hb5⟩)
            | (go_at_call 18; go_split_ands; (with_reducible refine (HJ2.out _ (by assumption)).mono ?_); rintro e w5 ⟨rfl, hb5⟩)))
        go_wp2
        go_split_ands
        go_roundw
        case rel => exact ⟨k + 1, by omega, by go_num, Lib.hid (JF.below (by assumption))⟩
        case measure => simp [intOf]; omega
    · have e : k = NN.length := by omega
      subst e
      go_wp2_with (go_at_call 15; (with_reducible refine (HA.out _ (LaidW.below HL.out rfl (HB4.out.trans (HW.out.mono HB4.out.size)))).mono ?_); rintro e w5 ⟨rfl, hb⟩)
      go_ret
      exact ⟨rfl, (HB4.out.trans (HW.out.mono HB4.out.size)).trans (hb.mono (HB4.out.trans (HW.out.mono HB4.out.size)).size)⟩
theorem rd_left (G H : List (Int × List ByteArray)) (i : Nat) (h : i < G.length) : rd_T32 ((G ++ H).map toS) (i : Int) = toS G[i] := by
  rw [rd_toS (G ++ H) i (by rw [List.length_append]; omega), List.getElem_append_left h]
theorem rd_right (G H : List (Int × List ByteArray)) (i : Nat) (h : i < H.length) : rd_T32 ((G ++ H).map toS) ((G.length + i : Nat) : Int) = toS H[i] := by
  rw [rd_toS (G ++ H) (G.length + i) (by rw [List.length_append]; omega), List.getElem_append_right (by omega)]
  simp
theorem shifted_of (a b : List UInt8) (ha : a.length ≤ 2000) (hb : b.length ≤ 2000) :
    Shifted ((collect 0 (cutAt 10 a)).map toS) ((collect 0 (cutAt 10 b)).map toS) ((collect 0 (cutAt 10 a ++ cutAt 10 b)).map toS) ((cutAt 10 a).length : Int) := by
  have la := segs_le a
  have lb := segs_le b
  have ca := collect_le (cutAt 10 a) 0
  have cb := collect_le (cutAt 10 b) 0
  have hN : collect 0 (cutAt 10 a ++ cutAt 10 b) = collect 0 (cutAt 10 a) ++ (collect 0 (cutAt 10 b)).map (fun p => (p.1 + ((cutAt 10 a).length : Int), p.2)) := by
    rw [collect_append, Nat.zero_add]
    congr 1
    have := collect_shift (cutAt 10 b) (cutAt 10 a).length 0
    rw [Nat.zero_add] at this
    exact this
  rw [hN]
  refine ⟨by simp, ⟨by rw [List.length_map]; omega, by rw [List.length_map]; omega, by omega, by omega⟩, fun i hi => ?_, fun i hi => ?_⟩
  · rw [List.length_map] at hi
    have hm := List.getElem_mem hi
    obtain ⟨h1, h2⟩ := collect_num hm
    obtain ⟨l, hl, e, _⟩ := collect_mem hm
    have hll := cutAt_len 10 a l hl
    refine ⟨_, _, rd_toS _ i hi, rd_left _ _ i hi, rfl, rfl, h1, by show (collect 0 (cutAt 10 a))[i].1 ≤ 10000; omega, ?_⟩
    exact ⟨_, by show strings_Join.f (collect 0 (cutAt 10 a))[i].2 _ = _; rw [e]; exact join_words l (by omega) _ (by decide)⟩
  · rw [List.length_map] at hi
    have hm := List.getElem_mem hi
    obtain ⟨h1, h2⟩ := collect_num hm
    obtain ⟨l, hl, e, _⟩ := collect_mem hm
    have hll := cutAt_len 10 b l hl
    refine ⟨toS (collect 0 (cutAt 10 b))[i], toS (((collect 0 (cutAt 10 b)).map (fun p => (p.1 + ((cutAt 10 a).length : Int), p.2)))[i]'(by rw [List.length_map]; exact hi)), rd_toS _ i hi, by rw [List.length_map]; exact rd_right _ _ i (by rw [List.length_map]; exact hi), by simp [toS], by simp [toS], h1, by show (collect 0 (cutAt 10 b))[i].1 ≤ 10000; omega, ?_⟩
    exact ⟨_, by show strings_Join.f (collect 0 (cutAt 10 b))[i].2 _ = _; rw [e]; exact join_words l (by omega) _ (by decide)⟩
theorem LexConcatenation_walk (a0 a1 : ByteArray) (w : World) (_ : a0.size ≤ 140737488351232) (_ : a1.size ≤ 140737488351232) (hL : Aside0 (LaidW 9 w)) :
    Calls Tryd.prog 5 #[.string a0, .string a1] w fun e w' => e = .returned (.bool true) ∧ Below w.heap.size w w' := by
  have z0 := size_list a0
  have z1 := size_list a1
  by_cases h : (2000 : Int) < ((a0.size : Nat) : Int) ∨ ((a0.size : Nat) : Int) ≤ 2000 ∧ (2000 : Int) < ((a1.size : Nat) : Int)
  · exact concat_long a0 a1 w h hL
  · have h0 : ((a0.size : Nat) : Int) ≤ 2000 := by omega
    have h1 : ((a1.size : Nat) : Int) ≤ 2000 := by omega
    cases f1 : firstBad 0 (cutAt 10 a0.data.toList) with
    | some k =>
      exact concat_error a0 a1 w h0 h1 [] _ ((k : Int) + 1) 6 _ _ (by unfold linesG; rw [f1]; rfl) rfl (.inl rfl) hL
    | none =>
      have g1 : linesG (cutAt 10 a0.data.toList) = (collect 0 (cutAt 10 a0.data.toList), 0, 0) := by unfold linesG; rw [f1]
      cases f2 : firstBad 0 (cutAt 10 a1.data.toList) with
      | some k =>
        exact concat_error a0 a1 w h0 h1 _ [] 0 0 ((k : Int) + 1) 6 (by rw [g1]) (by unfold linesG; rw [f2]; rfl) (.inr ⟨rfl, rfl⟩) hL
      | none =>
        have g2 : linesG (cutAt 10 a1.data.toList) = (collect 0 (cutAt 10 a1.data.toList), 0, 0) := by unfold linesG; rw [f2]
        have hc : cutAt 10 (a0 ++ (⟨#[10]⟩ : ByteArray) ++ a1).data.toList = cutAt 10 a0.data.toList ++ cutAt 10 a1.data.toList := by
          rw [append_list, append_list]
          have := cutAt_two 10 a0.data.toList a1.data.toList
          rw [← this]
          simp
        have f3 : firstBad 0 (cutAt 10 a0.data.toList ++ cutAt 10 a1.data.toList) = none := by
          rw [firstBad_none] at f1 f2 ⊢
          intro l hl
          rcases List.mem_append.mp hl with hl | hl
          · exact f1 l hl
          · exact f2 l hl
        have g3 : linesG (cutAt 10 (a0 ++ (⟨#[10]⟩ : ByteArray) ++ a1).data.toList) = (collect 0 (cutAt 10 a0.data.toList ++ cutAt 10 a1.data.toList), 0, 0) := by rw [hc]; unfold linesG; rw [f3]
        have hcnt := count_cutAt 10 a0.data.toList
        have hs := shifted_of a0.data.toList a1.data.toList (by omega) (by omega)
        rw [hcnt] at hs
        exact concat_main a0 a1 w h0 h1 _ _ _ 0 0 (Lib.countByte a0.data.toList 10 : Int) (by rw [g1]) (by rw [g2]) (by rw [g3]) rfl (by unfold Lib.countByte; exact_mod_cast hs) hL
end Go.Proofs.YthidobgadndclaaDoor.P

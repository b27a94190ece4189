/- printer.Print: the walk. -/
import Derived.Test.YtdbjjbooalkkbaaDoorXPrint
namespace Go.Proofs.YtdbjjbooalkkbaaDoor.P
open Go.RowKit Go.Shelf Go.Proofs.YtdbjjbooalkkbaaDoorW.PrintWords

/-- What is the same from w on, for whatever lay in w. -/
structure Since (w w' : World) : Prop where out : Below w.heap.size w w'
theorem Since.on {w w1 w2 : World} (h : Since w w1) (hb : Below w1.heap.size w1 w2) : Since w w2 := ⟨below_then h.out h.out.size hb⟩
theorem Since.then {w w1 w2 : World} {B : Nat} (h : Since w w1) (hw : w.heap.size ≤ B) (hb : Below B w1 w2) : Since w w2 := ⟨h.out.trans (hb.mono hw)⟩
/-- A block's cells, behind a name. -/
structure Blk (g t : Nat) (cs : Array Value) (w : World) : Prop where out : w.heap[g]? = some (.cells cs t (0, 0))
theorem Blk.on {g t : Nat} {cs : Array Value} {w w' : World} (h : Blk g t cs w) (hb : Below w.heap.size w w') : Blk g t cs w' := ⟨(hb.block g (Array.getElem?_eq_some_iff.1 h.out).1).trans h.out⟩
theorem Blk.alloc {g t : Nat} {cs : Array Value} {w : World} (h : Blk g t cs w) (o : Obj) : Blk g t cs (w.alloc o) := h.on (below_alloc (Below.refl _ _) o)
theorem Blk.kept {g t b : Nat} {cs : Array Value} {w w' : World} (h : Blk g t cs w) (ho : OKept b w w') (hb : g ≠ b) (ht : t ≠ 5) : Blk g t cs w' := ⟨ho.cells h.out hb ht⟩
theorem Blk.cell {g t : Nat} {cs : Array Value} {w : World} (h : Blk g t cs w) (i : Nat) (v : Value) (hi : cs[i]? = some v) : w.cell? ⟨g, i, none⟩ = some v := by simp [World.cell?, h.out, hi]
theorem Blk.lt {g t : Nat} {cs : Array Value} {w : World} (h : Blk g t cs w) : g < w.heap.size := (Array.getElem?_eq_some_iff.1 h.out).1
theorem cell_below {B : Nat} {w w' : World} {p : Addr} {v : Value} (h : Below B w w') (hp : p.block < B) (hc : w.cell? p = some v) : w'.cell? p = some v := (h.cell hp).trans hc

/-- The builder B holds the text t; what lay ahead of it in u is as it was. -/
structure Writ (B : Nat) (u : World) (t : List UInt8) (w : World) : Prop where
  bld : IsB B B t w
  bel : Below B u w
theorem Writ.on {B : Nat} {u w w' : World} {t : List UInt8} (h : Writ B u t w) (hB : B ≤ w.heap.size) (hb : Below w.heap.size w w') : Writ B u t w' := ⟨h.bld.below hb, h.bel.trans (hb.mono hB)⟩
theorem Writ.lt {B : Nat} {u w : World} {t : List UInt8} (h : Writ B u t w) : B < w.heap.size := h.bld.elim (fun h => h.lt) (fun h => h.lt)
theorem Writ.size {B : Nat} {u w : World} {t : List UInt8} (h : Writ B u t w) (hu : B ≤ u.heap.size) : B ≤ w.heap.size := Nat.le_trans hu h.bel.size

/-- printer.line, as Print's walk asks for it. -/
theorem line_call (B : Nat) (u : World) (t : List UInt8) (ws : List ByteArray) (cs : Array Value) (k g : Nat) (w : World) (h : Writ B u t w) (hg : g = w.heap.size) (hu : B ≤ u.heap.size) (hcs : cs = wordCells ws) (hk : ws.length = k) (hk2 : k ≤ 4) (hlen : t.length + (lineL ws).length ≤ 140737488355328) :
    Calls Tryd.prog 18 #[.pointer (some ⟨B, 0, none⟩), .slice (some ⟨g, 0, none⟩) k k] (w.alloc (.cells cs 9)) fun e w' => e = .returned (.tuple #[]) ∧ Writ B u (t ++ lineL ws) w' ∧ OKept B w w' ∧ Below B w w' := by
  subst hcs hk hg
  have hB := h.size hu
  have hlt : B < w.heap.size := h.bld.elim (fun h => h.lt) (fun h => h.lt)
  refine (bline_walk B B w.heap.size t ws _ (h.bld.below (below_alloc (Below.refl _ _) _)) (heap_alloc_new w _) (by omega) hlen (by omega) (by simp; omega)).mono ?_
  rintro e w' ⟨rfl, hb, hbe, ho⟩
  have h2 : Below B w w' := ((Below.refl B w).alloc hB _).trans hbe
  exact ⟨rfl, ⟨hb, h.bel.trans h2⟩, (OKept.below (below_alloc (Below.refl _ _) _)).trans ho, h2⟩
theorem itoa_call (n : Int) (h0 : 0 ≤ n) (h1 : n ≤ 256) (w u : World) (h : LaidPow u) (hs : Since u w) :
    Calls Tryd.prog 13 #[.int .i64 n] w fun e w' => e = .returned (.string (itoaB n)) ∧ Below w.heap.size w w' :=
  (Tryd.strconv_Itoa n (by omega) (by omega) w (h.on hs.out)).mono fun e w' ⟨he, k, os, hw⟩ => ⟨he, by rw [hw]; exact Lib.below_grow _ w (Nat.le_refl _) k os⟩
theorem format_call (s n : Int) (w u : World) (hp : LaidPow u) (hl : LaidLetters u) (hs : Since u w) :
    Calls Tryd.prog 19 #[.agg #[.int .i64 s, .int .i64 n]] w fun e w' => e = .returned (.string (fmtB s n)) ∧ Below w.heap.size w w' := format_any s n w (hp.on hs.out) (hl.on hs.out)

theorem print_bad (k : Nat) (I Q M : Int) (A : Option Addr) (c : Nat) (l : List S28) (n e : Int) (w : World) (hr : Kd.C k28 w A l.length l) (hc : l.length ≤ c) (h : printer_Check.f k I Q M l = some (n, e)) (he : e ≠ 0) :
    Calls Tryd.prog 6 #[.agg #[.int .i64 I, .int .i64 Q, .int .i64 M, .slice A l.length c]] w fun x w' => x = .returned (.tuple #[.string ⟨#[]⟩, .int .i64 e]) ∧ Below w.heap.size w w' := by
  have HC := Lib.hid (fun o => printer_Check.calls k I Q M A c l n e (w.alloc o) (Kd.C_below hr (below_alloc (Below.refl _ _) o)) hc h)
  have he' : (e != 0) = true := by rw [bne_iff_ne]; exact he
  have he2 : decide (e = 0) = false := decide_eq_false he
  clear hr h
  go_enter Tryd.func6, Tryd.ntmps6
  go_wp2_with (go_at_call 9; (with_reducible refine (HC.out _).mono ?_); rintro x w1 ⟨rfl, hb⟩; have HB := Lib.hid hb; clear hb)
  go_ret2
  exact ⟨rfl, below_then (below_alloc (Below.refl _ _) _) (by simp) HB.out⟩

theorem wr_rung (s : ByteArray) : (#[Value.string ⟨#[114, 117, 110, 103]⟩, .string s] : Array Value) = wordCells [wRung, s] := rfl
theorem wr_jump (s : ByteArray) : (#[Value.string ⟨#[106, 117, 109, 112]⟩, .string s] : Array Value) = wordCells [wJump, s] := rfl
theorem wr_con (a b c d : ByteArray) : (#[Value.string a, .string b, .string c, .string d] : Array Value) = wordCells [a, b, c, d] := rfl
theorem wr_coil (a b : ByteArray) : (#[Value.string a, .string b] : Array Value) = wordCells [a, b] := rfl
def printRes (I Q M : Int) (l : List S28) : ByteArray × Int := if 65536 < (ladderT I Q M l).length then (⟨#[]⟩, 7) else (⟨(ladderT I Q M l).toArray⟩, 0)

theorem Blk.low {g t B : Nat} {cs : Array Value} {w w' : World} (h : Blk g t cs w) (hb : Below B w w') (hg : g < B) : Blk g t cs w' := ⟨(hb.block g hg).trans h.out⟩
theorem Blk.put {g t : Nat} {cs : Array Value} {w : World} (h : Blk g t cs w) (i : Nat) (v : Value) {cs' : Array Value} (hc : cs.setIfInBounds i v = cs') : Blk g t cs' (w.setCell ⟨g, i, none⟩ v) := ⟨by
  have := blk_put h.out i v hc
  exact this⟩
theorem Blk.new (w : World) (t : Nat) (cs : Array Value) : Blk w.heap.size t cs (w.alloc (.cells cs t)) := ⟨heap_alloc_new w _⟩
theorem keep6 {g : Nat} {I Q M : Int} {v : Value} {w w' : World} (h : Blk g 24 #[.int .i64 I, .int .i64 Q, .int .i64 M, v] w') (hs : Since w w') :
    w'.cell? ⟨g, 0, none⟩ = some (.int .i64 I) ∧ w'.cell? ⟨g, 1, none⟩ = some (.int .i64 Q) ∧ w'.cell? ⟨g, 2, none⟩ = some (.int .i64 M) ∧ Since w w' ∧ Blk g 24 #[.int .i64 I, .int .i64 Q, .int .i64 M, v] w' :=
  ⟨h.cell 0 _ rfl, h.cell 1 _ rfl, h.cell 2 _ rfl, hs, h⟩
theorem keep14 {g h : Nat} {K S N : Int} {a b kw : ByteArray} {w w' : World} (hz : Blk g 44 #[.int .i64 K, .int .i64 S, .int .i64 N, .string a, .string b] w') (hk : w'.cell? ⟨h, K.toNat, none⟩ = some (.string kw)) (hs : Since w w') :
    w'.cell? ⟨g, 0, none⟩ = some (.int .i64 K) ∧ w'.cell? ⟨g, 1, none⟩ = some (.int .i64 S) ∧ w'.cell? ⟨g, 2, none⟩ = some (.int .i64 N) ∧ w'.cell? ⟨g, 3, none⟩ = some (.string a) ∧ w'.cell? ⟨g, 4, none⟩ = some (.string b) ∧ w'.cell? ⟨h, K.toNat, none⟩ = some (.string kw) ∧ Since w w' ∧
      Blk g 44 #[.int .i64 K, .int .i64 S, .int .i64 N, .string a, .string b] w' :=
  ⟨hz.cell 0 _ rfl, hz.cell 1 _ rfl, hz.cell 2 _ rfl, hz.cell 3 _ rfl, hz.cell 4 _ rfl, hk, hs, hz⟩
theorem keep19 {g h : Nat} {K S N : Int} {kw : ByteArray} {w w' : World} (hz : Blk g 47 #[.int .i64 K, .int .i64 S, .int .i64 N] w') (hk : w'.cell? ⟨h, K.toNat, none⟩ = some (.string kw)) (hs : Since w w') :
    w'.cell? ⟨g, 0, none⟩ = some (.int .i64 K) ∧ w'.cell? ⟨g, 1, none⟩ = some (.int .i64 S) ∧ w'.cell? ⟨g, 2, none⟩ = some (.int .i64 N) ∧ w'.cell? ⟨h, K.toNat, none⟩ = some (.string kw) ∧ Since w w' ∧ Blk g 47 #[.int .i64 K, .int .i64 S, .int .i64 N] w' :=
  ⟨hz.cell 0 _ rfl, hz.cell 1 _ rfl, hz.cell 2 _ rfl, hk, hs, hz⟩

set_option maxRecDepth 100000 in
set_option maxHeartbeats 16000000 in
theorem print_ok (k0 : Nat) (I Q M : Int) (A : Option Addr) (c : Nat) (l : List S28) (n : Int) (w : World) (hr : Kd.C k28 w A l.length l) (hc : l.length ≤ c) (h : printer_Check.f k0 I Q M l = some (n, 0)) (ht : Tame I Q M l) (hL : Aside0 (LaidW 50 w)) :
    Calls Tryd.prog 6 #[.agg #[.int .i64 I, .int .i64 Q, .int .i64 M, .slice A l.length c]] w fun x w' => x = .returned (.tuple #[.string (printRes I Q M l).1, .int .i64 (printRes I Q M l).2]) ∧ Below w.heap.size w w' := by
  have HC := Lib.hid (fun o => printer_Check.calls k0 I Q M A c l n 0 (w.alloc o) (Kd.C_below hr (below_alloc (Below.refl _ _) o)) hc h)
  have HR := Lib.hid hr
  have HT := Lib.hid ht
  have HP := Lib.hid (hL.out.pow rfl)
  have HK := Lib.hid (hL.out.key rfl)
  have HLE := Lib.hid (hL.out.letters rfl)
  have hn := ht.n
  have HLEN := Lib.hid (ladderT_len ht)
  clear hr h ht hL hc
  go_enter Tryd.func6, Tryd.ntmps6
  go_wp2_with (first
    | (go_at_call 9; (with_reducible refine (HC.out _).mono ?_); rintro x w1 ⟨rfl, hb⟩; have HB1 := Lib.hid (Since.on (⟨below_alloc (Below.refl _ _) _⟩ : Since w _) hb); have HZ1 := Lib.hid ((Blk.mk (heap_alloc_new w _)).on hb : Blk w.heap.size 24 _ w1); clear hb)
    | (go_at_call 16; (with_reducible refine (kwC_walk _ (HK.out.on HB1.out.out)).mono ?_); rintro x w2 ⟨⟨gC, capC, rfl, hcC⟩, hb⟩; have HB2 := Lib.hid (HB1.out.on hb); have HZ2 := Lib.hid (HZ1.out.on hb); have HKC := Lib.hid hcC; clear hb hcC)
    | (go_at_call 17; (with_reducible refine (kwQ_walk _ (HK.out.on HB2.out.out)).mono ?_); rintro x w3 ⟨⟨gQ, capQ, rfl, hcQ⟩, hb⟩; have HB3 := Lib.hid (HB2.out.on hb); have HZ3 := Lib.hid (HZ2.out.on hb); have HKC3 := Lib.hid (fun j hj => pw_cell_below hb (HKC.out j hj)); have HKQ := Lib.hid hcQ; clear hb hcQ))
  have hB3w : w.heap.size ≤ w3.heap.size := HB3.out.out.size
  have hgw : w.heap.size < w3.heap.size := HZ3.out.lt
  have HZ4 := Lib.hid (show Blk w.heap.size 24 _ (w3.alloc (.cells #[.pointer none, .slice none 0 0] 63)).drew from ⟨(HZ3.out.alloc _).out⟩)
  have HB4 := Lib.hid (show Since w (w3.alloc (.cells #[.pointer none, .slice none 0 0] 63)).drew from ⟨below_drew (below_then HB3.out.out hB3w (below_alloc (Below.refl _ _) _))⟩)
  have HW4 := Lib.hid (show Writ w3.heap.size w3 [] (w3.alloc (.cells #[.pointer none, .slice none 0 0] 63)).drew from ⟨IsB.fresh w3, below_drew ((Below.refl _ _).alloc (Nat.le_refl _) _)⟩)
  have HI1 := Lib.hid (fun W hs => itoa_call I HT.out.i.1 HT.out.i.2 W w HP.out hs)
  have HI2 := Lib.hid (fun W hs => itoa_call Q HT.out.q.1 HT.out.q.2 W w HP.out hs)
  have HI3 := Lib.hid (fun W hs => itoa_call M HT.out.m.1 HT.out.m.2 W w HP.out hs)
  have HL6 := Lib.hid (fun W (hw : Writ w3.heap.size w3 [] W) => line_call w3.heap.size w3 [] [wSize, itoaB I, itoaB Q, itoaB M] #[.string ⟨#[115, 105, 122, 101]⟩, .string (itoaB I), .string (itoaB Q), .string (itoaB M)] 4 W.heap.size W hw rfl (Nat.le_refl _) rfl rfl (by decide) (by have := sizeT_len HT.out; unfold sizeT at this; simp; omega))
  have HLT := Lib.hid hgw
  have HLE3 := Lib.hid hB3w
  clear hgw hB3w
  go_region_held3 (fun w' => w'.cell? ⟨w.heap.size, 0, none⟩ = some (.int .i64 I) ∧ w'.cell? ⟨w.heap.size, 1, none⟩ = some (.int .i64 Q) ∧ w'.cell? ⟨w.heap.size, 2, none⟩ = some (.int .i64 M) ∧ Since w w' ∧ Blk w.heap.size 24 #[.int .i64 I, .int .i64 Q, .int .i64 M, .slice A l.length c] w')
    (((try go_split_ands); exact keep6 (by first | assumption | exact HZ4.out | exact Blk.alloc (by assumption) _) (by first | assumption | exact HB4.out | exact Since.on (by assumption) (below_alloc (Below.refl _ _) _))))
    ((first
      | (go_at_call 13; go_split_ands; (with_reducible refine (HI1.out _ (by assumption)).mono ?_); rintro e w5 ⟨rfl, hb⟩; have z1 := Blk.on (by assumption) hb; have z2 := Since.on (by assumption) hb; have z3 := Writ.on (t := []) (B := w3.heap.size) (u := w3) (by first | assumption | exact HW4.out) (Writ.size (by first | assumption | exact HW4.out) (Nat.le_refl _)) hb)
      | (go_at_call 13; go_split_ands; (with_reducible refine (HI2.out _ (by assumption)).mono ?_); rintro e w5 ⟨rfl, hb⟩; have z1 := Blk.on (by assumption) hb; have z2 := Since.on (by assumption) hb; have z3 := Writ.on (t := []) (B := w3.heap.size) (u := w3) (by first | assumption | exact HW4.out) (Writ.size (by first | assumption | exact HW4.out) (Nat.le_refl _)) hb)
      | (go_at_call 13; go_split_ands; (with_reducible refine (HI3.out _ (by assumption)).mono ?_); rintro e w5 ⟨rfl, hb⟩; have z1 := Blk.on (by assumption) hb; have z2 := Since.on (by assumption) hb; have z3 := Writ.on (t := []) (B := w3.heap.size) (u := w3) (by first | assumption | exact HW4.out) (Writ.size (by first | assumption | exact HW4.out) (Nat.le_refl _)) hb)
      | (go_at_call 18; go_split_ands; (with_reducible refine (HL6.out _ (by assumption)).mono ?_); rintro e w6 ⟨rfl, z3, ho, hb⟩; have z1 := Blk.low (by assumption) hb HLT.out; have z2 := Since.then (by assumption) HLE3.out hb)))
  go_split_ands
  have HW6 := Lib.hid (show Writ w3.heap.size w3 (sizeT I Q M) w6 from by have h := ‹Writ w3.heap.size w3 ([] ++ lineL [wSize, itoaB I, itoaB Q, itoaB M]) w6›; rwa [List.nil_append] at h)
  have c3 := Blk.cell ‹Blk w.heap.size 24 _ w6› 3 _ rfl
  clear HK HKC
  go_wp2
  go_loopw [42] (fun i wr => ∃ k : Nat, k ≤ l.length ∧ i = .int .i64 k ∧ Hid (Writ w3.heap.size w3 (sizeT I Q M ++ rungsT (l.take k)) wr)) (fun i _ => l.length - (intOf i).toNat)
  case atStart => exact ⟨0, Nat.zero_le _, rfl, Lib.hid (by simpa [rungsT] using HW6.out)⟩
  case round =>
    revert hrel; revert wr; intro wo hrel
    obtain ⟨k, hk, rfl, HWR⟩ := hrel
    have HSR := Lib.hid (HB3.out.then HLE3.out HWR.out.bel)
    by_cases hlt : k < l.length
    · obtain ⟨r, hrk⟩ : ∃ r, l[k]? = some r := ⟨_, List.getElem?_eq_getElem hlt⟩
      have hrm : r ∈ l := List.mem_of_getElem? hrk
      obtain ⟨ad, A1, cp1, A2, cp2, eA, h0, h1, h2, h3, hl1, hr1, hl2, hr2⟩ := at_T28 HR.out k (by omega) (by omega)
      subst eA
      rw [Int.toNat_natCast, rd40_at l k r hrk] at h0 h1 h2 h3
      rw [rd40_at l k r hrk] at hl1 hr1 hl2 hr2
      have g0 := pw_cell_below HSR.out.out h0
      have g1 := pw_cell_below HSR.out.out h1
      have g2 := pw_cell_below HSR.out.out h2
      have g3 := pw_cell_below HSR.out.out h3
      have HR1 := Lib.hid hr1
      have HR2 := Lib.hid hr2
      have hcons := HT.out.cons r hrm
      have hcoils := HT.out.coils r hrm
      have HCON := Lib.hid (HT.out.con r hrm)
      have HCOIL := Lib.hid (HT.out.coil r hrm)
      have hT := flat_take rungT l k r hrk
      have hTl := flat_le rungT l (k + 1)
      rw [hT, List.length_append] at hTl
      have hTot : (sizeT I Q M ++ rungsT (l.take k)).length + (rungT r).length ≤ 1000000 := by
        have := HLEN.out
        unfold ladderT rungsT at this
        rw [List.length_append] at this
        unfold rungsT
        rw [List.length_append]
        omega
      have hrt : (rungT r).length = (lineL [wRung, r.f0]).length + (consT r.f1).length + (coilsT r.f2).length + (jumpT r.f3).length := by unfold rungT; simp only [List.length_append]
      have HTK := Lib.hid (show rungsT (l.take (k + 1)) = rungsT (l.take k) ++ rungT r from hT)
      obtain ⟨T, hTe⟩ : ∃ T, T = sizeT I Q M ++ rungsT (l.take k) := ⟨_, rfl⟩
      rw [← hTe] at HWR hTot
      have HTE := Lib.hid hTe
      have HRT := Lib.hid hrt
      have HTOT := Lib.hid hTot
      have HQ := Lib.hid (Blk.new wo 28 #[.string r.f0, .slice A1 r.f1.length cp1, .slice A2 r.f2.length cp2, .string r.f3])
      have hBr := Writ.size HWR.out (Nat.le_refl _)
      have hW0 := HWR.out.on hBr (below_alloc (Below.refl _ _) (.cells #[.string r.f0, .slice A1 r.f1.length cp1, .slice A2 r.f2.length cp2, .string r.f3] 28))
      have HLB := Lib.hid (line_call w3.heap.size w3 T [wRung, r.f0] #[.string ⟨#[114, 117, 110, 103]⟩, .string r.f0] 2 (wo.heap.size + 1) _ hW0 (by simp) (Nat.le_refl _) rfl rfl (by decide) (by omega))
      have HBr := Lib.hid hBr
      have HNE := Lib.hid (Nat.ne_of_gt HWR.out.lt)
      clear hr1 hr2 h0 h1 h2 h3 hT hTl hTot hrt hTe hW0 hBr hl1 hl2
      go_wp2_with (go_at_call 18; (with_reducible refine HLB.out.mono ?_); rintro e w7 ⟨rfl, hW7, ho, hb⟩; have HW7 := Lib.hid hW7; have HZ7 := Lib.hid (Blk.kept HQ.out ho HNE.out (by decide)); have c1 := HZ7.out.cell 1 _ rfl; clear hW7 ho hb)
      go_loopw [54] (fun i wr => ∃ j : Nat, j ≤ r.f1.length ∧ i = .int .i64 j ∧ Hid (Writ w3.heap.size w3 (T ++ lineL [wRung, r.f0] ++ consT (r.f1.take j)) wr) ∧ Hid (Blk wo.heap.size 28 #[.string r.f0, .slice A1 r.f1.length cp1, .slice A2 r.f2.length cp2, .string r.f3] wr)) (fun i _ => r.f1.length - (intOf i).toNat)
      case atStart => exact ⟨0, Nat.zero_le _, rfl, Lib.hid (by simpa [consT] using HW7.out), HZ7⟩
      case round =>
        obtain ⟨j, hj, rfl, HWQ, HZQ⟩ := hrel
        have HSQ := Lib.hid (HB3.out.then HLE3.out HWQ.out.bel)
        by_cases hlj : j < r.f1.length
        · obtain ⟨x, hxj⟩ : ∃ x, r.f1[j]? = some x := ⟨_, List.getElem?_eq_getElem hlj⟩
          have hxm : x ∈ r.f1 := List.mem_of_getElem? hxj
          obtain ⟨ad5, e5, d0, d1, d2, d3, d4⟩ := at_T44 HR1.out j (by omega) (by omega)
          subst e5
          rw [Int.toNat_natCast, rd50_at r.f1 j x hxj] at d0 d1 d2 d3 d4
          replace d0 := pw_cell_below HSQ.out.out d0
          replace d1 := pw_cell_below HSQ.out.out d1
          replace d2 := pw_cell_below HSQ.out.out d2
          replace d3 := pw_cell_below HSQ.out.out d3
          replace d4 := pw_cell_below HSQ.out.out d4
          have hK0 := (HCON.out x hxm).1
          have hK4 : x.f0 < 4 := (HCON.out x hxm).2.1
          have hkc := cell_below HWQ.out.bel (World.block_lt_of_cell? _ _ (HKC3.out x.f0.toNat (by omega))) (HKC3.out x.f0.toNat (by omega))
          obtain ⟨kw, hkw⟩ : ∃ kw, kw = kwC.getD x.f0.toNat ByteArray.empty := ⟨_, rfl⟩
          rw [← hkw] at hkc
          have HGC := Lib.hid (World.block_lt_of_cell? _ _ (HKC3.out x.f0.toNat (by omega)))
          have hbd : (lineL (conWords x)).length ≤ 46 := con_len x (HCON.out x hxm).2.2
          have htj := flat_take (fun c => lineL (conWords c)) r.f1 j x hxj
          have htl := flat_le (fun c => lineL (conWords c)) r.f1 j
          have HTJ := Lib.hid (show T ++ lineL [wRung, r.f0] ++ consT (r.f1.take (j + 1)) = T ++ lineL [wRung, r.f0] ++ consT (r.f1.take j) ++ lineL (conWords x) from by unfold consT; rw [htj]; simp only [List.append_assoc])
          have hlen : (T ++ lineL [wRung, r.f0] ++ consT (r.f1.take j)).length + (lineL (conWords x)).length ≤ 140737488355328 := by
            have h1 := HTOT.out
            have h2 := HRT.out
            have h3 : (consT (r.f1.take j)).length ≤ (consT r.f1).length := htl
            simp only [List.length_append]
            omega
          have hBq := Writ.size HWQ.out (Nat.le_refl _)
          have hb1 : Below wr.heap.size wr (wr.alloc (.cells #[.int .i64 x.f0, .int .i64 x.f1.f0, .int .i64 x.f1.f1, .string x.f2, .string x.f3] 44)).drew := below_drew (below_alloc (Below.refl _ _) _)
          have HWS := Lib.hid (HWQ.out.on hBq hb1)
          have HZS := Lib.hid (HZQ.out.on hb1)
          have HSS := Lib.hid (HSQ.out.on hb1)
          have HXS := Lib.hid (show Blk wr.heap.size 44 #[.int .i64 x.f0, .int .i64 x.f1.f0, .int .i64 x.f1.f1, .string x.f2, .string x.f3] (wr.alloc (.cells #[.int .i64 x.f0, .int .i64 x.f1.f0, .int .i64 x.f1.f1, .string x.f2, .string x.f3] 44)).drew from ⟨(Blk.new wr 44 #[.int .i64 x.f0, .int .i64 x.f1.f0, .int .i64 x.f1.f1, .string x.f2, .string x.f3]).out⟩)
          have HKS := Lib.hid (pw_cell_below hb1 hkc)
          have HN1 := Lib.hid (Nat.ne_of_gt HWQ.out.lt)
          have HFM := Lib.hid (fun W hs => format_call x.f1.f0 x.f1.f1 W w HP.out HLE.out hs)
          have HLN := Lib.hid (fun W (hw : Writ w3.heap.size w3 (T ++ lineL [wRung, r.f0] ++ consT (r.f1.take j)) W) => line_call w3.heap.size w3 _ (conWords x) #[.string kw, .string (fmtB x.f1.f0 x.f1.f1), .string x.f2, .string x.f3] 4 W.heap.size W hw rfl (Nat.le_refl _) (by rw [hkw]; rfl) rfl (by decide) hlen)
          clear hkw htj htl hbd hlen hBq hb1 hxj hxm
          go_wp2_with fail
          go_region_held3 (fun w' => w'.cell? ⟨wr.heap.size, 0, none⟩ = some (.int .i64 x.f0) ∧ w'.cell? ⟨wr.heap.size, 1, none⟩ = some (.int .i64 x.f1.f0) ∧ w'.cell? ⟨wr.heap.size, 2, none⟩ = some (.int .i64 x.f1.f1) ∧ w'.cell? ⟨wr.heap.size, 3, none⟩ = some (.string x.f2) ∧ w'.cell? ⟨wr.heap.size, 4, none⟩ = some (.string x.f3) ∧ w'.cell? ⟨gC, x.f0.toNat, none⟩ = some (.string kw) ∧ Since w w' ∧ Blk wr.heap.size 44 #[.int .i64 x.f0, .int .i64 x.f1.f0, .int .i64 x.f1.f1, .string x.f2, .string x.f3] w')
            (((try go_split_ands); exact keep14 (by first | assumption | exact HXS.out | exact Blk.alloc (by assumption) _) (by first | assumption | exact HKS.out | exact pw_cell_below (below_alloc (Below.refl _ _) _) (by assumption)) (by first | assumption | exact HSS.out | exact Since.on (by assumption) (below_alloc (Below.refl _ _) _))))
            ((first
              | (go_at_call 19; go_split_ands; (with_reducible refine (HFM.out _ (by assumption)).mono ?_); rintro e wa ⟨rfl, hb⟩; have z1 := Blk.on (g := wr.heap.size) (by assumption) hb; have z2 := Since.on (by assumption) hb; have z3 := Writ.on (t := T ++ lineL [wRung, r.f0] ++ consT (r.f1.take j)) (B := w3.heap.size) (u := w3) (by first | assumption | exact HWS.out) (Writ.size (by first | assumption | exact HWS.out) (Nat.le_refl _)) hb; have z4 := Blk.on (g := wo.heap.size) (by first | assumption | exact HZS.out) hb; have z5 := pw_cell_below (a := ⟨gC, x.f0.toNat, none⟩) hb (by assumption))
              | (go_at_call 18; go_split_ands; (with_reducible refine (HLN.out _ (by assumption)).mono ?_); rintro e wb ⟨rfl, z3, ho, hb⟩; have z1 := Blk.kept (g := wr.heap.size) (by assumption) ho HN1.out (by decide); have z4 := Blk.kept (g := wo.heap.size) (by assumption) ho HNE.out (by decide); have z2 := Since.then (by assumption) HLE3.out hb; have z5 := cell_below (p := ⟨gC, x.f0.toNat, none⟩) hb HGC.out (by assumption))))
          go_wp2
          go_split_ands
          go_roundw
          case rel => exact ⟨j + 1, by omega, by go_num, Lib.hid (by rw [HTJ.out]; assumption), Lib.hid (by assumption)⟩
          case measure => simp [intOf]; omega
        · obtain rfl : j = r.f1.length := by omega
          have HW9 := Lib.hid (show Writ w3.heap.size w3 (T ++ lineL [wRung, r.f0] ++ consT r.f1) wr from by have h := HWQ.out; rwa [List.take_length] at h)
          have HZ9 := HZQ
          have c2 := HZQ.out.cell 2 _ rfl
          clear HWQ HZQ HSQ HW7 HZ7
          go_wp2
          go_loopw [77] (fun i wr => ∃ j : Nat, j ≤ r.f2.length ∧ i = .int .i64 j ∧ Hid (Writ w3.heap.size w3 (T ++ lineL [wRung, r.f0] ++ consT r.f1 ++ coilsT (r.f2.take j)) wr) ∧ Hid (Blk wo.heap.size 28 #[.string r.f0, .slice A1 r.f1.length cp1, .slice A2 r.f2.length cp2, .string r.f3] wr)) (fun i _ => r.f2.length - (intOf i).toNat)
          case atStart => exact ⟨0, Nat.zero_le _, rfl, Lib.hid (by simpa [coilsT] using HW9.out), HZ9⟩
          case round =>
            obtain ⟨j, hj, rfl, HWQ, HZQ⟩ := hrel
            have HSQ := Lib.hid (HB3.out.then HLE3.out HWQ.out.bel)
            by_cases hlj : j < r.f2.length
            · obtain ⟨x, hxj⟩ : ∃ x, r.f2[j]? = some x := ⟨_, List.getElem?_eq_getElem hlj⟩
              have hxm : x ∈ r.f2 := List.mem_of_getElem? hxj
              obtain ⟨ad5, e5, d0, d1, d2⟩ := at_T47 HR2.out j (by omega) (by omega)
              subst e5
              rw [Int.toNat_natCast, rd53_at r.f2 j x hxj] at d0 d1 d2
              replace d0 := pw_cell_below HSQ.out.out d0
              replace d1 := pw_cell_below HSQ.out.out d1
              replace d2 := pw_cell_below HSQ.out.out d2
              have hK0 := (HCOIL.out x hxm).1
              have hK4 : x.f0 < 4 := (HCOIL.out x hxm).2
              have hkc := cell_below HWQ.out.bel (World.block_lt_of_cell? _ _ (HKQ.out x.f0.toNat (by omega))) (HKQ.out x.f0.toNat (by omega))
              obtain ⟨kw, hkw⟩ : ∃ kw, kw = kwQ.getD x.f0.toNat ByteArray.empty := ⟨_, rfl⟩
              rw [← hkw] at hkc
              have HGC := Lib.hid (World.block_lt_of_cell? _ _ (HKQ.out x.f0.toNat (by omega)))
              have hbd : (lineL (coilWords x)).length ≤ 46 := coil_len x
              have htj := flat_take (fun c => lineL (coilWords c)) r.f2 j x hxj
              have htl := flat_le (fun c => lineL (coilWords c)) r.f2 j
              have HTJ := Lib.hid (show T ++ lineL [wRung, r.f0] ++ consT r.f1 ++ coilsT (r.f2.take (j + 1)) = T ++ lineL [wRung, r.f0] ++ consT r.f1 ++ coilsT (r.f2.take j) ++ lineL (coilWords x) from by unfold coilsT; rw [htj]; simp only [List.append_assoc])
              have hlen : (T ++ lineL [wRung, r.f0] ++ consT r.f1 ++ coilsT (r.f2.take j)).length + (lineL (coilWords x)).length ≤ 140737488355328 := by
                have h1 := HTOT.out
                have h2 := HRT.out
                have h3 : (coilsT (r.f2.take j)).length ≤ (coilsT r.f2).length := htl
                simp only [List.length_append]
                omega
              have hBq := Writ.size HWQ.out (Nat.le_refl _)
              have hb1 : Below wr.heap.size wr (wr.alloc (.cells #[.int .i64 x.f0, .int .i64 x.f1.f0, .int .i64 x.f1.f1] 47)).drew := below_drew (below_alloc (Below.refl _ _) _)
              have HWS := Lib.hid (HWQ.out.on hBq hb1)
              have HZS := Lib.hid (HZQ.out.on hb1)
              have HSS := Lib.hid (HSQ.out.on hb1)
              have HXS := Lib.hid (show Blk wr.heap.size 47 #[.int .i64 x.f0, .int .i64 x.f1.f0, .int .i64 x.f1.f1] (wr.alloc (.cells #[.int .i64 x.f0, .int .i64 x.f1.f0, .int .i64 x.f1.f1] 47)).drew from ⟨(Blk.new wr 47 #[.int .i64 x.f0, .int .i64 x.f1.f0, .int .i64 x.f1.f1]).out⟩)
              have HKS := Lib.hid (pw_cell_below hb1 hkc)
              have HN1 := Lib.hid (Nat.ne_of_gt HWQ.out.lt)
              have HFM := Lib.hid (fun W hs => format_call x.f1.f0 x.f1.f1 W w HP.out HLE.out hs)
              have HLN := Lib.hid (fun W (hw : Writ w3.heap.size w3 (T ++ lineL [wRung, r.f0] ++ consT r.f1 ++ coilsT (r.f2.take j)) W) => line_call w3.heap.size w3 _ (coilWords x) #[.string kw, .string (fmtB x.f1.f0 x.f1.f1)] 2 W.heap.size W hw rfl (Nat.le_refl _) (by rw [hkw]; rfl) rfl (by decide) hlen)
              clear hkw htj htl hbd hlen hBq hb1 hxj hxm
              go_wp2_with fail
              go_region_held3 (fun w' => w'.cell? ⟨wr.heap.size, 0, none⟩ = some (.int .i64 x.f0) ∧ w'.cell? ⟨wr.heap.size, 1, none⟩ = some (.int .i64 x.f1.f0) ∧ w'.cell? ⟨wr.heap.size, 2, none⟩ = some (.int .i64 x.f1.f1) ∧ w'.cell? ⟨gQ, x.f0.toNat, none⟩ = some (.string kw) ∧ Since w w' ∧ Blk wr.heap.size 47 #[.int .i64 x.f0, .int .i64 x.f1.f0, .int .i64 x.f1.f1] w')
                (((try go_split_ands); exact keep19 (by first | assumption | exact HXS.out | exact Blk.alloc (by assumption) _) (by first | assumption | exact HKS.out | exact pw_cell_below (below_alloc (Below.refl _ _) _) (by assumption)) (by first | assumption | exact HSS.out | exact Since.on (by assumption) (below_alloc (Below.refl _ _) _))))
                ((first
                  | (go_at_call 19; go_split_ands; (with_reducible refine (HFM.out _ (by assumption)).mono ?_); rintro e wa ⟨rfl, hb⟩; have z1 := Blk.on (g := wr.heap.size) (by assumption) hb; have z2 := Since.on (by assumption) hb; have z3 := Writ.on (t := T ++ lineL [wRung, r.f0] ++ consT r.f1 ++ coilsT (r.f2.take j)) (B := w3.heap.size) (u := w3) (by first | assumption | exact HWS.out) (Writ.size (by first | assumption | exact HWS.out) (Nat.le_refl _)) hb; have z4 := Blk.on (g := wo.heap.size) (by first | assumption | exact HZS.out) hb; have z5 := pw_cell_below (a := ⟨gQ, x.f0.toNat, none⟩) hb (by assumption))
                  | (go_at_call 18; go_split_ands; (with_reducible refine (HLN.out _ (by assumption)).mono ?_); rintro e wb ⟨rfl, z3, ho, hb⟩; have z1 := Blk.kept (g := wr.heap.size) (by assumption) ho HN1.out (by decide); have z4 := Blk.kept (g := wo.heap.size) (by assumption) ho HNE.out (by decide); have z2 := Since.then (by assumption) HLE3.out hb; have z5 := cell_below (p := ⟨gQ, x.f0.toNat, none⟩) hb HGC.out (by assumption))))
              go_wp2
              go_split_ands
              go_roundw
              case rel => exact ⟨j + 1, by omega, by go_num, Lib.hid (by rw [HTJ.out]; assumption), Lib.hid (by assumption)⟩
              case measure => simp [intOf]; omega
            · obtain rfl : j = r.f2.length := by omega
              have HW10 := Lib.hid (show Writ w3.heap.size w3 (T ++ lineL [wRung, r.f0] ++ consT r.f1 ++ coilsT r.f2) wr from by have h := HWQ.out; rwa [List.take_length] at h)
              by_cases hj0 : r.f3.size = 0
              · have hje := size_nil hj0
                have c3 := HZQ.out.cell 3 (.string ByteArray.empty) (by rw [hje]; rfl)
                have HFIN := Lib.hid (show sizeT I Q M ++ rungsT (l.take (k + 1)) = T ++ lineL [wRung, r.f0] ++ consT r.f1 ++ coilsT r.f2 from by rw [HTK.out, HTE.out]; unfold rungT jumpT; rw [if_pos hj0]; simp only [List.append_assoc, List.append_nil])
                clear hj0
                go_wp2
                go_roundw
                case rel => exact ⟨k + 1, by omega, by go_num, Lib.hid (by rw [HFIN.out]; exact HW10.out)⟩
                case measure => simp [intOf]; omega
              · have q1 := size_pos hj0
                have q2 := list_pos hj0
                have c3 := HZQ.out.cell 3 _ rfl
                have HFIN := Lib.hid (show sizeT I Q M ++ rungsT (l.take (k + 1)) = T ++ lineL [wRung, r.f0] ++ consT r.f1 ++ coilsT r.f2 ++ lineL [wJump, r.f3] from by rw [HTK.out, HTE.out]; unfold rungT jumpT; rw [if_neg hj0]; simp only [List.append_assoc])
                have hjl : jumpT r.f3 = lineL [wJump, r.f3] := by unfold jumpT; rw [if_neg hj0]
                have hlen : (T ++ lineL [wRung, r.f0] ++ consT r.f1 ++ coilsT r.f2).length + (lineL [wJump, r.f3]).length ≤ 140737488355328 := by
                  have h1 := HTOT.out
                  have h2 := HRT.out
                  rw [hjl] at h2
                  simp only [List.length_append]
                  omega
                have HLJ := Lib.hid (line_call w3.heap.size w3 _ [wJump, r.f3] #[.string ⟨#[106, 117, 109, 112]⟩, .string r.f3] 2 wr.heap.size _ HW10.out rfl (Nat.le_refl _) rfl rfl (by decide) hlen)
                clear hj0 hjl hlen
                go_wp2_with (go_at_call 18; (with_reducible refine HLJ.out.mono ?_); rintro e wc ⟨rfl, hW, ho, hb⟩; have HW11 := Lib.hid hW; clear hW ho hb)
                go_roundw
                case rel => exact ⟨k + 1, by omega, by go_num, Lib.hid (by rw [HFIN.out]; exact HW11.out)⟩
                case measure => simp [intOf]; omega
    · obtain rfl : k = l.length := by omega
      have HWF := Lib.hid (show Writ w3.heap.size w3 (ladderT I Q M l) wo from by have h := HWR.out; rw [List.take_length] at h; exact h)
      have hB := Writ.size HWF.out (Nat.le_refl _)
      have HLEN2 := Lib.hid (lenB _ _ _ wo HWF.out.bld)
      have HSTR := Lib.hid (stringB _ _ _ wo HWF.out.bld hB)
      have HSF := Lib.hid HSR.out.out
      have HLL := HLE3
      clear hB
      by_cases hbig : 65536 < (ladderT I Q M l).length
      · have hb1 : decide ((65536 : Int) < ((ladderT I Q M l).length : Int)) = true := decide_eq_true (by omega)
        have HRES := Lib.hid (show printRes I Q M l = (⟨#[]⟩, 7) from if_pos hbig)
        clear hbig
        go_wp2_with (go_at_call 20; (with_reducible refine HLEN2.out.mono ?_); rintro e wc ⟨rfl, rfl⟩)
        go_ret2
        exact ⟨by rw [HRES.out]; rfl, HSF.out⟩
      · have hb1 : decide ((65536 : Int) < ((ladderT I Q M l).length : Int)) = false := decide_eq_false (by omega)
        have HRES := Lib.hid (show printRes I Q M l = (⟨(ladderT I Q M l).toArray⟩, 0) from if_neg hbig)
        clear hbig
        go_wp2_with (first | (go_at_call 20; (with_reducible refine HLEN2.out.mono ?_); rintro e wc ⟨rfl, rfl⟩) | (go_at_call 21; (with_reducible refine HSTR.out.mono ?_); rintro e wd ⟨rfl, _, hbd⟩; have HBD := Lib.hid hbd; clear hbd))
        go_ret2
        exact ⟨by rw [HRES.out]; rfl, HSF.out.trans (HBD.out.mono HLL.out)⟩
end Go.Proofs.YtdbjjbooalkkbaaDoor.P

/- strings.Builder at this seat, and printer.line: the non-empty words of a line, joined by spaces, and a newline. -/
import Derived.Test.YtdbjjbooalkkbaaDoorXStrE
import Derived.Test.YtdbjjbooalkkbaaDoorShelf
import Derived.Test.YtdbjjbooalkkbaaDoorXLaid
import Derived.Shelf.Strings.BuilderK
import Derived.Tactics
import Derived.WalkKit
import Derived.KernelRfl
import Derived.LoopTactic
import Derived.Below
import Derived.Lib.Hide
namespace Go.Proofs.YtdbjjbooalkkbaaDoor.P
open Go.RowKit Go.Shelf Go.Proofs.YtdbjjbooalkkbaaDoorW.PrintWords

def bren : Go.Shelf.Ren := ⟨fun | 166 => 41 | 167 => 40 | 169 => 21 | 170 => 20 | 240 => 56 | 276 => 73 | n => n,
  fun | 20 => 20 | 37 => 61 | 70 => 60 | 72 => 63 | 75 => 94 | 80 => 67 | 127 => 100 | 164 => 133 | 5 => 5 | 9 => 9 | 3 => 3 | 4 => 4 | n => n, fun | n => n⟩
theorem blays166 : Go.Proofs.Lays.n166 Tryd.prog bren := {
  mixed := by kernel_rfl
  f166 := Tryd.func41.trans (congrArg some (by kernel_rfl))
  f240 := Tryd.func56.trans (congrArg some (by kernel_rfl))
  f276 := Tryd.func73.trans (congrArg some (by kernel_rfl))
  t0 := Tryd.underlying0, a0 := Tryd.isAgg0, z0 := Tryd.sizeOf0, v0 := Tryd.zeroValue0
  t3 := Tryd.underlying3, a3 := Tryd.isAgg3, z3 := Tryd.sizeOf3, v3 := Tryd.zeroValue3
  t4 := Tryd.underlying4, a4 := Tryd.isAgg4, z4 := Tryd.sizeOf4, v4 := Tryd.zeroValue4
  t9 := Tryd.underlying9, a9 := Tryd.isAgg9, z9 := Tryd.sizeOf9, v9 := Tryd.zeroValue9
  t20 := Tryd.underlying20, a20 := Tryd.isAgg20, z20 := Tryd.sizeOf20, v20 := Tryd.zeroValue20
  t37 := Tryd.underlying61, a37 := Tryd.isAgg61, z37 := Tryd.sizeOf61, v37 := Tryd.zeroValue61
  t70 := Tryd.underlying60, a70 := Tryd.isAgg60, z70 := Tryd.sizeOf60, v70 := Tryd.zeroValue60
  t72 := Tryd.underlying63, a72 := Tryd.isAgg63, z72 := Tryd.sizeOf63, v72 := Tryd.zeroValue63
  t75 := Tryd.underlying94, a75 := Tryd.isAgg94, z75 := Tryd.sizeOf94, v75 := Tryd.zeroValue94
  t164 := Tryd.underlying133, a164 := Tryd.isAgg133, z164 := Tryd.sizeOf133, v164 := Tryd.zeroValue133 }
theorem blays167 : Go.Proofs.Lays.n167 Tryd.prog bren := { blays166 with
  f167 := Tryd.func40.trans (congrArg some (by kernel_rfl))
  t5 := Tryd.underlying5, a5 := Tryd.isAgg5, z5 := Tryd.sizeOf5, v5 := Tryd.zeroValue5 }
theorem blays169 : Go.Proofs.Lays.n169 Tryd.prog bren := { blays166 with
  f169 := Tryd.func21.trans (congrArg some (by kernel_rfl))
  t127 := Tryd.underlying100, a127 := Tryd.isAgg100, z127 := Tryd.sizeOf100, v127 := Tryd.zeroValue100 }
theorem blays170 : Go.Proofs.Lays.n170 Tryd.prog bren := { blays166 with
  f170 := Tryd.func20.trans (congrArg some (by kernel_rfl)) }
theorem bextra : Builder.Extra Tryd.prog bren := {
  sizeBuilder := by kernel_rfl
  liesBuilder := by kernel_rfl
  t5 := Tryd.underlying5
  a5 := Tryd.isAgg5
  z5 := Tryd.sizeOf5
  v5 := Tryd.zeroValue5
  infoByte := by kernel_rfl
  cellsByte := by kernel_rfl
  sizeByte := by kernel_rfl
  neB5 := by decide }

abbrev IsB (B b : Nat) (l : List UInt8) (w : World) : Prop := Lib.IsBuilderF 63 5 B b (Lib.byteCells l) w
abbrev OKept (b : Nat) (w w' : World) : Prop := Lib.OthersKept 5 (some b) w w'
theorem writeS (B b : Nat) (l : List UInt8) (s : ByteArray) (w : World) (h : IsB B b l w) (hlen : l.length + s.size ≤ 140737488355328) (hBw : B ≤ w.heap.size) :
    Calls Tryd.prog 41 #[.pointer (some ⟨b, 0, none⟩), .string s] w fun e w' => e = .returned (.tuple #[.int .i64 s.size, .nilIface]) ∧ IsB B b (l ++ s.data.toList) w' ∧ Below B w w' ∧ OKept b w w' := by
  refine (Any.Builder_WriteString_k blays166 bextra B b (Lib.byteCells l) s w h (by simpa [Lib.byteCells] using hlen) hBw).mono fun e w' ⟨he, hb, hbe, ho⟩ => ⟨he, .inr ?_, hbe, ho⟩
  rw [show Lib.byteCells (l ++ s.data.toList) = Lib.byteCells l ++ Lib.strCells s by simp [Lib.byteCells, Lib.strCells]]
  exact hb
theorem writeB (B b : Nat) (l : List UInt8) (c : UInt8) (w : World) (h : IsB B b l w) (hlen : l.length + 1 ≤ 140737488355328) (hBw : B ≤ w.heap.size) :
    Calls Tryd.prog 40 #[.pointer (some ⟨b, 0, none⟩), .int .u8 (c.toNat : Int)] w fun e w' => e = .returned .nilIface ∧ IsB B b (l ++ [c]) w' ∧ Below B w w' ∧ OKept b w w' := by
  refine (Any.Builder_WriteByte_k blays167 bextra B b (Lib.byteCells l) c.toNat w h (by simpa [Lib.byteCells] using hlen) hBw).mono fun e w' ⟨he, hb, hbe, ho⟩ => ⟨he, .inr ?_, hbe, ho⟩
  rw [show Lib.byteCells (l ++ [c]) = Lib.byteCells l ++ [.int .u8 (c.toNat : Int)] by simp [Lib.byteCells]]
  exact hb
theorem write32 (B b : Nat) (l : List UInt8) (w : World) (h : IsB B b l w) (hlen : l.length + 1 ≤ 140737488355328) (hBw : B ≤ w.heap.size) :
    Calls Tryd.prog 40 #[.pointer (some ⟨b, 0, none⟩), .int .u8 32] w fun e w' => e = .returned .nilIface ∧ IsB B b (l ++ [32]) w' ∧ Below B w w' ∧ OKept b w w' := writeB B b l 32 w h hlen hBw
theorem write10 (B b : Nat) (l : List UInt8) (w : World) (h : IsB B b l w) (hlen : l.length + 1 ≤ 140737488355328) (hBw : B ≤ w.heap.size) :
    Calls Tryd.prog 40 #[.pointer (some ⟨b, 0, none⟩), .int .u8 10] w fun e w' => e = .returned .nilIface ∧ IsB B b (l ++ [10]) w' ∧ Below B w w' ∧ OKept b w w' := writeB B b l 10 w h hlen hBw
theorem lenB (B b : Nat) (l : List UInt8) (w : World) (h : IsB B b l w) :
    Calls Tryd.prog 20 #[.pointer (some ⟨b, 0, none⟩)] w fun e w' => e = .returned (.int .i64 l.length) ∧ w' = w := by
  have := Any.Builder_Len_f blays170 B b (Lib.byteCells l) w h
  rw [show (Lib.byteCells l).length = l.length by simp [Lib.byteCells]] at this
  exact this
theorem stringB (B b : Nat) (l : List UInt8) (w : World) (h : IsB B b l w) (hBw : B ≤ w.heap.size) :
    Calls Tryd.prog 21 #[.pointer (some ⟨b, 0, none⟩)] w fun e w' => e = .returned (.string ⟨l.toArray⟩) ∧ IsB B b l w' ∧ Below B w w' :=
  (Any.Builder_String_any_k blays169 bextra B b l w h hBw).mono fun _ _ ⟨he, hb, hbe, _⟩ => ⟨he, hb, hbe⟩
theorem IsB.below {B b : Nat} {l : List UInt8} {w w' : World} (h : IsB B b l w) (hb : Below w.heap.size w w') : IsB B b l w' := by
  have one : ∀ {p : Value}, Lib.BuilderAtF 63 5 B b p (Lib.byteCells l) w → Lib.BuilderAtF 63 5 B b p (Lib.byteCells l) w' := by
    intro p h
    have hlt := h.lt
    obtain ⟨h1, v, h2, h3, h4⟩ := h
    refine ⟨h1, v, (hb.block b hlt).trans h2, ⟨h3.1, ?_⟩, h4⟩
    rcases h3.2 with h5 | ⟨g, cap, cur, fz, e1, e2, e3, e4⟩
    · exact .inl h5
    · exact .inr ⟨g, cap, cur, fz, e1, e2, (hb.block g (Array.getElem?_eq_some_iff.1 e3).1).trans e3, e4⟩
  exact h.elim (fun h => .inl (one h)) (fun h => .inr (one h))
theorem IsB.fresh (w : World) : IsB w.heap.size w.heap.size [] (w.alloc (.cells #[.pointer none, .slice none 0 0] 63)) := Lib.IsBuilderF.of (Lib.fresh_isBuilder _ _ _)
theorem OKept.cells {b g t : Nat} {cs : Array Value} {fz : Nat × Nat} {w w' : World} (h : OKept b w w') (hg : w.heap[g]? = some (.cells cs t fz)) (hb : g ≠ b) (ht : t ≠ 5) : w'.heap[g]? = some (.cells cs t fz) :=
  h g _ hg (fun e => hb (Option.some.inj e)) (fun c fz e => by injection e with _ e _; exact ht e)
theorem OKept.below {b : Nat} {w w' : World} (h : Below w.heap.size w w') : OKept b w w' := fun k _ hk _ _ => (h.block k (Array.getElem?_eq_some_iff.1 hk).1).trans hk

/-! ### printer.line -/
/-- What the word number i adds. -/
def seg (i : Nat) (s : ByteArray) : List UInt8 := (if 0 < i ∧ s.size ≠ 0 then [32] else []) ++ s.data.toList
def segs : Nat → List ByteArray → List UInt8
  | _, [] => []
  | i, s :: r => seg i s ++ segs (i + 1) r
theorem segs_append (i : Nat) (l m : List ByteArray) : segs i (l ++ m) = segs i l ++ segs (i + l.length) m := by
  induction l generalizing i with
  | nil => simp [segs]
  | cons x l ih => rw [List.cons_append, segs, segs, ih, List.append_assoc, List.length_cons, Nat.add_assoc, Nat.add_comm 1]
theorem segs_take (l : List ByteArray) (k : Nat) (s : ByteArray) (h : l[k]? = some s) : segs 0 (l.take (k + 1)) = segs 0 (l.take k) ++ seg k s := by
  have hk : k < l.length := (List.getElem?_eq_some_iff.1 h).1
  rw [List.take_add_one, h, segs_append, List.length_take, Nat.min_eq_left (by omega), Nat.zero_add]
  simp [segs]
theorem segs_le (l : List ByteArray) (k : Nat) : (segs 0 (l.take k)).length ≤ (segs 0 l).length := by
  conv => rhs; rw [← List.take_append_drop k l, segs_append, List.length_append]
  omega
/-- A line's text. -/
def lineL (l : List ByteArray) : List UInt8 := segs 0 l ++ [10]
def wordCells (l : List ByteArray) : Array Value := (l.map Value.string).toArray
theorem wordCells_at (l : List ByteArray) (k : Nat) (s : ByteArray) (h : l[k]? = some s) {w : World} {g : Nat} (hg : w.heap[g]? = some (.cells (wordCells l) 9 (0, 0))) : w.cell? ⟨g, k, none⟩ = some (.string s) := by
  simp [World.cell?, hg, wordCells, h]
set_option maxRecDepth 100000 in
set_option maxHeartbeats 4000000 in
theorem bline_walk (B b g : Nat) (l : List UInt8) (ws : List ByteArray) (w : World) (h : IsB B b l w) (hg : w.heap[g]? = some (.cells (wordCells ws) 9 (0, 0))) (hgb : g ≠ b) (hlen : l.length + (lineL ws).length ≤ 140737488355328) (hn : ws.length ≤ 1000) (hBw : B ≤ w.heap.size) :
    Calls Tryd.prog 18 #[.pointer (some ⟨b, 0, none⟩), .slice (some ⟨g, 0, none⟩) ws.length ws.length] w fun e w' => e = .returned (.tuple #[]) ∧ IsB B b (l ++ lineL ws) w' ∧ Below B w w' ∧ OKept b w w' := by
  have H := Lib.hid h
  have HG := Lib.hid hg
  have hlen : l.length + ((segs 0 ws).length + 1) ≤ 140737488355328 := by unfold lineL at hlen; simpa using hlen
  have HL := Lib.hid hlen
  have hne : ∀ wr, OKept b w wr → wr.heap[g]? = some (.cells (wordCells ws) 9 (0, 0)) := fun wr ho => ho.cells HG.out hgb (by decide)
  have HN := Lib.hid hne
  clear h hg hlen hne
  go_enter Tryd.func18, Tryd.ntmps18
  go_wp2
  go_loopw [8] (fun i wr => ∃ k : Nat, k ≤ ws.length ∧ i = .int .i64 k ∧ Hid (IsB B b (l ++ segs 0 (ws.take k)) wr) ∧ Hid (Below B w wr) ∧ Hid (OKept b w wr)) (fun i _ => ws.length - (intOf i).toNat)
  case atStart => exact ⟨0, Nat.zero_le _, rfl, Lib.hid (by simpa [segs] using H.out), Lib.hid (Below.refl _ _), Lib.hid (Lib.OthersKept.refl _ _ _)⟩
  case round =>
    obtain ⟨k, hk, rfl, HB, HW, HO⟩ := hrel
    by_cases hlt : k < ws.length
    · obtain ⟨s, hs⟩ : ∃ s, ws[k]? = some s := ⟨_, List.getElem?_eq_getElem hlt⟩
      have hc := wordCells_at ws k s hs (HN.out _ HO.out)
      have hst := segs_take ws k s hs
      have hle := segs_le ws (k + 1)
      have hBr : B ≤ wr.heap.size := Nat.le_trans hBw HW.out.size
      have hL := HL.out
      have hsz : s.data.toList.length = s.size := Array.length_toList
      by_cases h0 : 0 < k
      · have q0 : decide ((0 : Int) < (k : Int)) = true := decide_eq_true (by omega)
        by_cases hs0 : s.size = 0
        · have e0 := size_nil hs0
          subst e0
          have e1 : seg k ByteArray.empty = [] := by simp [seg]
          rw [e1, List.append_nil] at hst
          have HWS := Lib.hid (writeS B b (l ++ segs 0 (ws.take k)) ByteArray.empty wr HB.out (by rw [List.length_append]; rw [hst] at hle; show _ + 0 ≤ _; omega) hBr)
          have HS := Lib.hid hst
          clear hst hle hL hs hsz hs0 e1
          go_wp2_with (go_at_call 41; (with_reducible refine HWS.out.mono ?_); rintro e w2 ⟨rfl, hb2, hbe, ho⟩; have HB2 := Lib.hid hb2; have HW2 := Lib.hid (HW.out.trans hbe); have HO2 := Lib.hid (HO.out.trans ho); clear hb2 hbe ho)
          go_roundw
          case rel => exact ⟨k + 1, by omega, by go_num, Lib.hid (by rw [HS.out]; simpa using HB2.out), HW2, HO2⟩
          case measure => simp [intOf]; omega
        · have e1 : seg k s = 32 :: s.data.toList := by simp [seg, h0, hs0]
          have q1 := size_pos hs0
          have q2 := list_pos hs0
          have hB1 := write32 B b (l ++ segs 0 (ws.take k)) wr HB.out (by rw [List.length_append]; rw [hst, e1] at hle; simp at hle; omega) hBr
          have HWB := Lib.hid hB1
          have HWS := Lib.hid (fun W hb hw => writeS B b (l ++ segs 0 (ws.take k) ++ [32]) s W hb (by rw [List.length_append, List.length_append]; rw [hst, e1] at hle; simp at hle ⊢; omega) hw)
          have HS := Lib.hid (show l ++ segs 0 (ws.take (k + 1)) = l ++ segs 0 (ws.take k) ++ [32] ++ s.data.toList by rw [hst, e1]; simp)
          clear hst hle hL hs hsz hs0 e1 hB1
          go_wp2_with (first | (go_at_call 40; (with_reducible refine HWB.out.mono ?_); rintro e w1 ⟨rfl, hb1, hbe1, ho1⟩; have HB1 := Lib.hid hb1; have HW1 := Lib.hid (HW.out.trans hbe1); have HO1 := Lib.hid (HO.out.trans ho1); have HZ1 := Lib.hid (Nat.le_trans hBr hbe1.size); clear hb1 hbe1 ho1) | (go_at_call 41; (with_reducible refine (HWS.out _ HB1.out HZ1.out).mono ?_); rintro e w2 ⟨rfl, hb2, hbe, ho⟩; have HB2 := Lib.hid hb2; have HW2 := Lib.hid (HW1.out.trans hbe); have HO2 := Lib.hid (HO1.out.trans ho); clear hb2 hbe ho))
          go_roundw
          case rel => exact ⟨k + 1, by omega, by go_num, Lib.hid (by rw [HS.out]; exact HB2.out), HW2, HO2⟩
          case measure => simp [intOf]; omega
      · obtain rfl : k = 0 := by omega
        have e1 : seg 0 s = s.data.toList := by simp [seg]
        have HWS := Lib.hid (writeS B b (l ++ segs 0 (ws.take 0)) s wr HB.out (by rw [List.length_append]; rw [hst, e1] at hle; simp at hle ⊢; simp [segs]; omega) hBr)
        have HS := Lib.hid (show l ++ segs 0 (ws.take (0 + 1)) = l ++ segs 0 (ws.take 0) ++ s.data.toList by rw [hst, e1]; simp)
        clear hst hle hL hs hsz e1
        go_wp2_with (go_at_call 41; (with_reducible refine HWS.out.mono ?_); rintro e w2 ⟨rfl, hb2, hbe, ho⟩; have HB2 := Lib.hid hb2; have HW2 := Lib.hid (HW.out.trans hbe); have HO2 := Lib.hid (HO.out.trans ho); clear hb2 hbe ho)
        go_roundw
        case rel => exact ⟨0 + 1, by omega, by go_num, Lib.hid (by rw [HS.out]; exact HB2.out), HW2, HO2⟩
        case measure => simp [intOf]; omega
    · obtain rfl : k = ws.length := by omega
      have hBr : B ≤ wr.heap.size := Nat.le_trans hBw HW.out.size
      have hb := HB.out
      rw [List.take_length] at hb
      have HWB := Lib.hid (write10 B b (l ++ segs 0 ws) wr hb (by rw [List.length_append]; have := HL.out; omega) hBr)
      clear hb
      go_wp2_with (go_at_call 40; (with_reducible refine HWB.out.mono ?_); rintro e w2 ⟨rfl, hb2, hbe, ho⟩; have HB2 := Lib.hid hb2; have HW2 := Lib.hid (HW.out.trans hbe); have HO2 := Lib.hid (HO.out.trans ho); clear hb2 hbe ho)
      go_end0
      exact ⟨rfl, by have := HB2.out; rwa [List.append_assoc] at this, HW2.out, HO2.out⟩
end Go.Proofs.YtdbjjbooalkkbaaDoor.P

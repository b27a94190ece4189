/- Package parse's closures, handed to slices.ContainsFunc; the keywords' places. -/
import Derived.Test.YtdbjjbooalkkbaaGreatDoorXParM
import Derived.Test.YtdbjjbooalkkbaaGreatDoorXStrE
namespace Go.Proofs.YtdbjjbooalkkbaaGreatDoor.P
open Go.Shelf Go.RowKit Go.Lib Go.Proofs.YtdbjjbooalkkbaaGreatDoorW.PrintWords

theorem pred_begin (a : ByteArray) (B : Nat) (w : World) (hB : B < w.heap.size) (hcell : w.cell? ⟨B, 0, none⟩ = some (.string a)) :
    PredBelow Tryz.prog 76 #[.pointer (some ⟨B, 0, none⟩)] (fun x => .agg (encQ x).toArray) (fun x => x.1.toList == a.toList) w := fun W x hb => by
  have hc : W.cell? ⟨B, 0, none⟩ = some (.string a) := (hb.cell (p := ⟨B, 0, none⟩) hB).trans hcell
  have hBW : B < W.heap.size := Nat.lt_of_lt_of_le hB hb.size
  have hne : B ≠ W.heap.size := by omega
  obtain ⟨x0, x1, x2, x3⟩ := x
  show Calls Tryz.prog 76 #[.agg #[.string x0, x1, x2, .string x3], .pointer (some ⟨B, 0, none⟩)] W _
  go_enter Tryz.func76, Tryz.ntmps76
  go_wp2
  all_goals (go_ret; exact ⟨by simp_all, hb.alloc hb.size _⟩)
theorem pred_parse (a : ByteArray) (B : Nat) (w : World) (hB : B < w.heap.size) (hcell : w.cell? ⟨B, 3, none⟩ = some (.string a)) :
    PredBelow Tryz.prog 24 #[.pointer (some ⟨B, 0, none⟩)] (fun x => .agg (encQ x).toArray) (fun x => x.1.toList == a.toList) w := fun W x hb => by
  have hc : W.cell? ⟨B, 3, none⟩ = some (.string a) := (hb.cell (p := ⟨B, 3, none⟩) hB).trans hcell
  have hBW : B < W.heap.size := Nat.lt_of_lt_of_le hB hb.size
  have hne : B ≠ W.heap.size := by omega
  obtain ⟨x0, x1, x2, x3⟩ := x
  show Calls Tryz.prog 24 #[.agg #[.string x0, x1, x2, .string x3], .pointer (some ⟨B, 0, none⟩)] W _
  go_enter Tryz.func24, Tryz.ntmps24
  go_wp2
  all_goals (go_ret; exact ⟨by simp_all, hb.alloc hb.size _⟩)
theorem has_begin {g : Nat} {cs : Array Value} {a : ByteArray} {A : Option Addr} {c : Nat} {l : List SR} {w : World} (hbx : Bx g 47 cs w) (hc : cs[0]? = some (.string a)) (hC : Kd.C kR w A l.length l) :
    Calls Tryz.prog 23 #[.slice A l.length c, .func (.func 76) #[] #[.pointer (some ⟨g, 0, none⟩)]] w fun e w' => e = .returned (.bool (hasLabel l a)) ∧ Below w.heap.size w w' := by
  have hx := cells_cell hbx.out hc
  exact contains_walk 76 (enters_of Tryz.func76 (by kernel_rfl) rfl) A c l a _ w hC (pred_begin a g w hx.1 hx.2)
theorem has_parse {g : Nat} {cs : Array Value} {a : ByteArray} {A : Option Addr} {c : Nat} {l : List SR} {w : World} (hbx : Bx g 47 cs w) (hc : cs[3]? = some (.string a)) (hC : Kd.C kR w A l.length l) :
    Calls Tryz.prog 23 #[.slice A l.length c, .func (.func 24) #[] #[.pointer (some ⟨g, 0, none⟩)]] w fun e w' => e = .returned (.bool (hasLabel l a)) ∧ Below w.heap.size w w' := by
  have hx := cells_cell hbx.out hc
  exact contains_walk 24 (enters_of Tryz.func24 (by kernel_rfl) rfl) A c l a _ w hC (pred_parse a g w hx.1 hx.2)
theorem indexC (x : ByteArray) (w : World) (hk : LaidKey w) : Calls Tryz.prog 79 #[.slice (some ⟨0, 0, none⟩) 4 4, .string x] w fun e w' => e = .returned (.int .i64 (Lib.idxOfS kwC0 x)) ∧ w' = w :=
  Tryz.slices_Index_string 0 0 4 4 kwC0 x w (by decide) (by decide) (fun j hj => by
    have : j = 0 ∨ j = 1 ∨ j = 2 ∨ j = 3 := by have : kwC0.length = 4 := rfl; omega
    rcases this with rfl | rfl | rfl | rfl
    · exact hk.a0
    · exact hk.a1
    · exact hk.a2
    · exact hk.a3)
theorem indexQ (x : ByteArray) (w : World) (hk : LaidKey w) : Calls Tryz.prog 79 #[.slice (some ⟨1, 0, none⟩) 4 4, .string x] w fun e w' => e = .returned (.int .i64 (Lib.idxOfS kwQ0 x)) ∧ w' = w :=
  Tryz.slices_Index_string 1 0 4 4 kwQ0 x w (by decide) (by decide) (fun j hj => by
    have : j = 0 ∨ j = 1 ∨ j = 2 ∨ j = 3 := by have : kwQ0.length = 4 := rfl; omega
    rcases this with rfl | rfl | rfl | rfl
    · exact hk.b0
    · exact hk.b1
    · exact hk.b2
    · exact hk.b3)
/-- The words of a line, where they lie. -/
theorem words_at {A : Option Addr} {ws : List ByteArray} {w : World} (h : Kd.string.C w A ws.length ws) (hn : 0 < ws.length) : ∃ wb wo, A = some ⟨wb, wo, none⟩ ∧ ∀ i, i < ws.length → w.cell? ⟨wb, wo + i, none⟩ = some (.string (ws.getD i ByteArray.empty)) := by
  obtain ⟨_, _, hc⟩ := h
  obtain ⟨ad, rfl, hget⟩ := hc hn
  have hall : ∀ i, i < ws.length → w.cell? (ad.add i) = some (.string (ws.getD i ByteArray.empty)) := fun i hi => by
    obtain ⟨c, _, hK, hcell⟩ := hget i _ (List.getElem?_eq_getElem hi)
    have hK : c = [Value.string ws[i]] := hK
    subst hK
    have h1 : w.cell? (ad.add (i * 1 + 0)) = some (Value.string ws[i]) := hcell 0 _ rfl
    rw [Nat.mul_one, Nat.add_zero] at h1
    rw [List.getD_eq_getElem?_getD, List.getElem?_eq_getElem hi]
    exact h1
  have hp := (addr_plain (hall 0 hn)).1
  have hs : ad = ⟨ad.block, ad.off, none⟩ := by
    have : ad.spot = none := by simpa [Addr.add] using hp
    cases ad; simp_all
  refine ⟨ad.block, ad.off, by rw [← hs], fun i hi => ?_⟩
  have h1 := hall i hi
  rw [hs, Addr.add_lit] at h1
  exact h1
/-- What a method's call leaves. -/
def pc (s : PSt) (vR vL vJ : Value) : Array Value := #[.int .i64 s.I, .int .i64 s.Q, .int .i64 s.M, vR, .bool s.sized, vL, vJ]
def PAt (B b : Nat) (s : PSt) (w0 w : World) : Prop := ∃ vR vL vJ, Stage B b 57 (pc s vR vL vJ) w0 vR s.rungs vL s.lines vJ s.jumps [] w
def MPost (B b : Nat) (w0 : World) (r : Int × PSt) (e : Ending) (w' : World) : Prop := e = .returned (.int .i64 r.1) ∧ Did B b w0 w' ∧ (r.1 = 0 → PAt B b r.2 w0 w')
theorem MPost.bad {B b : Nat} {w0 w' : World} {x : Int} {s : PSt} (hx : x ≠ 0) (hB : B ≤ w0.heap.size) (hb : Below w0.heap.size w0 w') : MPost B b w0 (x, s) (.returned (.int .i64 x)) w' := ⟨rfl, .of_below hb hB, fun h => absurd h hx⟩
end Go.Proofs.YtdbjjbooalkkbaaGreatDoor.P

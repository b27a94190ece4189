/- parse.Parse: the lines fail. -/
import Derived.Test.YtdbjjbooalkkbaaGreatDoorXLineB
set_option linter.unusedVariables false
set_option linter.unusedSimpArgs false
namespace Go.Proofs.YtdbjjbooalkkbaaGreatDoor.P
open Go.RowKit Go.Shelf Go.Proofs.YtdbjjbooalkkbaaGreatDoorW.PrintWords Go.Proofs.YtdbjjbooalkkbaaGreatDoorW.PrintLast Go.Proofs.YtdbjjbooalkkbaaGreatDoorW.PrintMore

def nilS : Value := .slice none 0 0
def PRet (H : Nat) (r : PRes) (w : World) (e : Ending) (w' : World) : Prop :=
  ∃ v3 v4, e = .returned (.tuple #[.agg #[.int .i64 r.1, .int .i64 r.2.1, .int .i64 r.2.2.1, v3], v4, .int .i64 r.2.2.2.2.2.1, .int .i64 r.2.2.2.2.2.2]) ∧ Kd.S kR 47 w' H (fun _ => True) v3 r.2.2.2.1 ∧ kI.R 3 w' H (fun _ => True) v4 r.2.2.2.2.1 ∧ Below H w w'
theorem S_nil (w : World) (B : Nat) : Kd.S kR 47 w B (fun _ => True) (.slice none 0 0) [] := ⟨fun _ => 0, Kd.R_nil _ _ _ _ _⟩
theorem four_put {g t : Nat} {cs : Array Value} {W : World} (h : Bx g t cs W) (hs : cs.size = 4) (a b c d : Value) :
    Bx g t #[a, b, c, d] ((((W.setCell ⟨g, 0, none⟩ a).setCell ⟨g, 1, none⟩ b).setCell ⟨g, 2, none⟩ c).setCell ⟨g, 3, none⟩ d) := by
  have h4 := (((h.put 0 a).put 1 b).put 2 c).put 3 d
  obtain ⟨l⟩ := cs
  match l, hs with
  | [x0, x1, x2, x3], _ => exact h4
theorem four_below {g : Nat} {w W : World} (h : Below w.heap.size w W) (hg : w.heap.size ≤ g) (a b c d : Value) :
    Below w.heap.size w ((((W.setCell ⟨g, 0, none⟩ a).setCell ⟨g, 1, none⟩ b).setCell ⟨g, 2, none⟩ c).setCell ⟨g, 3, none⟩ d) := (((h.setCell hg a).setCell hg b).setCell hg c).setCell hg d
theorem PRet.nil {w W : World} (n e : Int) (hb : Below w.heap.size w W) :
    PRet w.heap.size (bad n e) w (.returned (.tuple #[.agg #[.int .i64 0, .int .i64 0, .int .i64 0, .slice none 0 0], .slice none 0 0, .int .i64 n, .int .i64 e])) W :=
  ⟨.slice none 0 0, .slice none 0 0, rfl, S_nil _ _, Kd.R_nil _ _ _ _ _, hb⟩
set_option maxRecDepth 100000 in
set_option maxHeartbeats 4000000 in
theorem parse_err (t : ByteArray) (n e : Int) (he : e ≠ 0) (ls : List LN) (w : World) (hL : Aside0 (LaidW 9 w)) (h : lex_Lines.f t = some (ls, n, e)) :
    Calls Tryz.prog 6 #[.string t] w (PRet w.heap.size (bad n e) w) := by
  have ht : (e != 0) = true := by rw [bne_iff_ne]; exact he
  have hC := Lib.hid (fun (W : World) (hb : Below w.heap.size w W) => lex_Lines.calls t ls n e W (LaidW.below hL rfl hb) h)
  go_enter Tryz.func6, Tryz.ntmps6
  go_wp2_with (go_at_call 20; (with_reducible refine (hC.out _ (below_alloc (Below.refl _ _) _)).mono ?_); rintro e1 w1 ⟨v0, rfl, _, hb⟩; have hbx : Bx w.heap.size 25 #[.int .i64 0, .int .i64 0, .int .i64 0, .slice none 0 0] w1 := (Bx.new w _ _).on hb; have HB := Lib.hid (below_step (below_alloc (Below.refl w.heap.size w) (.cells #[.int .i64 0, .int .i64 0, .int .i64 0, .slice none 0 0] 25)) hb); have c0 := hbx.cell 0 (.int .i64 0) rfl; have c1 := hbx.cell 1 (.int .i64 0) rfl; have c2 := hbx.cell 2 (.int .i64 0) rfl; have c3 := hbx.cell 3 (.slice none 0 0) rfl; have fz := hbx.frozen; clear hb)
  have hb4 := four_put hbx rfl (.int .i64 0) (.int .i64 0) (.int .i64 0) (.slice none 0 0)
  have HB4 := Lib.hid (four_below HB.out (Nat.le_refl _) (.int .i64 0) (.int .i64 0) (.int .i64 0) (.slice none 0 0))
  clear c0 c1 c2 c3 fz HB
  generalize ((((w1.setCell ⟨w.heap.size, 0, none⟩ (.int .i64 0)).setCell ⟨w.heap.size, 1, none⟩ (.int .i64 0)).setCell ⟨w.heap.size, 2, none⟩ (.int .i64 0)).setCell ⟨w.heap.size, 3, none⟩ (.slice none 0 0)) = W4 at hb4 HB4 ⊢
  have c0 := hb4.cell 0 (.int .i64 0) rfl
  have c1 := hb4.cell 1 (.int .i64 0) rfl
  have c2 := hb4.cell 2 (.int .i64 0) rfl
  have c3 := hb4.cell 3 (.slice none 0 0) rfl
  refine bodyPost_ret (v := .tuple #[.agg #[.int .i64 0, .int .i64 0, .int .i64 0, .slice none 0 0], .slice none 0 0, .int .i64 n, .int .i64 e]) (by simp [results, Tryz.results6, go_sem, c0, c1, c2, c3]) rfl ?_
  exact PRet.nil n e HB4.out
end Go.Proofs.YtdbjjbooalkkbaaGreatDoor.P

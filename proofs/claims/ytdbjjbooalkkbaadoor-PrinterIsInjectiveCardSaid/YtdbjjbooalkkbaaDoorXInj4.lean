/- Merged by mergetop.py. -/
import Derived.Test.YtdbjjbooalkkbaaDoorXPrintC
import Derived.Test.YtdbjjbooalkkbaaDoorXLad
import Derived.Test.YtdbjjbooalkkbaaDoorPQ0
import Derived.Laws.BitsLemmas
import Derived.Test.YtdbjjbooalkkbaaDoorXInj0
import Derived.Test.YtdbjjbooalkkbaaDoorYX
import Derived.Test.YtdbjjbooalkkbaaDoorXSame
/- PrinterIsInjective: a ladder told as the walk needs it. -/
set_option linter.unusedVariables false
set_option linter.unusedSimpArgs false
namespace Go.Proofs.YtdbjjbooalkkbaaDoor.P
open Go.RowKit Go.Proofs.YtdbjjbooalkkbaaDoorW.PrintWords Go.Proofs.YtdbjjbooalkkbaaDoorW.PrintLast Go.Proofs.YtdbjjbooalkkbaaDoorW.PrintMore

abbrev SLd := S24
abbrev SRg := S28
abbrev rungV (r : SRg) (B1 : Option Addr) (d1 : Nat) (B2 : Option Addr) (d2 : Nat) : Value := .agg #[.string r.f0, .slice B1 r.f1.length d1, .slice B2 r.f2.length d2, .string r.f3]
abbrev rungC (r : SRg) (B1 : Option Addr) (d1 : Nat) (B2 : Option Addr) (d2 : Nat) : Array Value := #[.string r.f0, .slice B1 r.f1.length d1, .slice B2 r.f2.length d2, .string r.f3]
theorem large2 (I Q M : Int) (l : List SRg) (hn : l.length ≤ 9223372036854775807) (hm : ∀ r ∈ l, r.f1.length ≤ 9223372036854775807) : ∃ t, ∀ A c w, k28.C w A l.length l → l.length ≤ c →
    Calls Tryd.prog 7 #[.agg #[.int .i64 I, .int .i64 Q, .int .i64 M, .slice A l.length c]] w fun e w' => e = .returned (.int .i64 t) ∧ Below w.heap.size w w' := by
  obtain ⟨k, t, h⟩ := large_some I Q M l hn hm
  exact ⟨t, fun A c w hr hc => law11_TooLarge.calls k _ _ _ A c l t w hr hc h⟩
theorem print2 (I Q M : Int) (l : List SRg) (n : ByteArray) (e : Int) (hv : printP I Q M l = (n, e)) (A : Option Addr) (c : Nat) (w : World) (hr : k28.C w A l.length l) (hc : l.length ≤ c) (hL : Aside0 (LaidW 50 w)) :
    Calls Tryd.prog 6 #[.agg #[.int .i64 I, .int .i64 Q, .int .i64 M, .slice A l.length c]] w fun z w' => z = .returned (.tuple #[.string n, .int .i64 e]) ∧ Below w.heap.size w w' :=
  printer_Print.calls _ _ _ A c l n e w hr hc hL (by unfold printer_Print.f; rw [hv])
structure Row (W : World) (A : Option Addr) (c : Nat) (l : List SRg) : Prop where
  reads : k28.C W A l.length l
  room : l.length ≤ c
theorem Row.on {W W' : World} {A : Option Addr} {c : Nat} {l : List SRg} (h : Row W A c l) (hb : Below W.heap.size W W') : Row W' A c l := ⟨Kd.C_below h.reads hb, h.room⟩
theorem Blk.frozen {g t : Nat} {cs : Array Value} {w : World} (h : Blk g t cs w) (i : Nat) : w.frozen? ⟨g, i, none⟩ = false := blk_frozen h.out i
theorem printP_ok {I Q M : Int} {l : List SRg} {t : ByteArray} (h : printP I Q M l = (t, 0)) : (checkP I Q M l).2 = 0 ∧ (ladderT I Q M l).length ≤ 65536 ∧ t = ⟨(ladderT I Q M l).toArray⟩ := by
  unfold printP at h
  by_cases h1 : (checkP I Q M l).2 = 0
  · rw [if_pos h1] at h
    unfold printRes at h
    by_cases h2 : 65536 < (ladderT I Q M l).length
    · rw [if_pos h2] at h; cases h
    · rw [if_neg h2] at h
      cases h
      exact ⟨h1, by omega, rfl⟩
  · rw [if_neg h1] at h
    exact absurd (congrArg Prod.snd h) h1
theorem infoRg : (Tryd.prog.info? 28).map (fun i => (i.zero, i.size, i.bytes)) = some (some (.agg #[(.string ⟨#[]⟩), (.slice none 0 0), (.slice none 0 0), (.string ⟨#[]⟩)]), 4, 80) := by kernel_rfl
theorem undRg : Tryd.prog.underlying 22 = some (.slice 28) := by kernel_rfl
end Go.Proofs.YtdbjjbooalkkbaaDoor.P

/- PrinterIsInjective: the copy of a ladder, rung by rung: what each operation leaves. -/
set_option linter.unusedVariables false
set_option linter.unusedSimpArgs false
namespace Go.Proofs.YtdbjjbooalkkbaaDoor.P
open Go.RowKit Go.Proofs.YtdbjjbooalkkbaaDoorW.PrintWords Go.Proofs.YtdbjjbooalkkbaaDoorW.PrintLast Go.Proofs.YtdbjjbooalkkbaaDoorW.PrintMore

abbrev jR := k28
abbrev jC := k44
abbrev jQ := k47
abbrev tR : Nat := 28
abbrev tC : Nat := 44
abbrev tQ : Nat := 47
abbrev tL : Nat := 24
theorem ij_infoC : (Tryd.prog.info? 44).map (fun i => (i.zero, i.size, i.bytes)) = some (some (.agg #[(.int .i64 0), (.int .i64 0), (.int .i64 0), (.string ⟨#[]⟩), (.string ⟨#[]⟩)]), 5, 56) := by kernel_rfl
theorem ij_infoQ : (Tryd.prog.info? 47).map (fun i => (i.zero, i.size, i.bytes)) = some (some (.agg #[(.int .i64 0), (.int .i64 0), (.int .i64 0)]), 3, 24) := by kernel_rfl
theorem ij_undC : Tryd.prog.underlying 25 = some (.slice 44) := by kernel_rfl
theorem ij_undQ : Tryd.prog.underlying 26 = some (.slice 47) := by kernel_rfl
theorem neL : ∀ q, q ∈ tR :: jR.E → q ≠ tL := by
  intro q hq
  have : q ∈ [tR, tC, tQ] := hq
  rcases List.mem_cons.1 this with rfl | h
  · decide
  rcases List.mem_cons.1 h with rfl | h
  · decide
  rw [List.mem_singleton.1 h]
  decide
theorem con_M {w : World} {base : Nat} {ok : Nat → Prop} (x : S44) (c : List Value) (h : jC.K w x c) : jC.M w base ok x c := by
  obtain rfl := k44_open h
  exact k44_mkM w base ok x
theorem coil_M {w : World} {base : Nat} {ok : Nat → Prop} (x : S47) (c : List Value) (h : jQ.K w x c) : jQ.M w base ok x c := by
  obtain rfl := k47_open h
  exact k47_mkM w base ok x
theorem lit_R {α : Type} (d : Kd α) (e : Nat) {base : Nat} (w : World) (hb : base ≤ w.heap.size) : d.R e (w.alloc (.cells #[] e)) base (fun _ => True) (.slice (some ⟨w.heap.size, 0, none⟩) 0 0) [] := by
  refine ⟨fun _ _ => trivial, [], ?_, Reps.none _ _⟩
  have h2 := World.ownsRow_lit (base := base) (e := e) (size := d.sz) w #[] 0 hb (by simp [maxLen]) (by simp)
  simpa using h2
theorem below_grew {B : Nat} {w0 w w1 : World} {row : Option Nat} (h : Below B w0 w) (hB : B ≤ w.heap.size) (hg : w.grownBy w1 row) (hr : ∀ k, row = some k → B ≤ k) : Below B w0 w1 :=
  ⟨hg.os.trans h.os, hg.tape.trans h.tape, hg.output.trans h.output, Nat.le_trans h.size hg.size, fun k hk => (hg.block k (by omega) (fun e => absurd (hr k e.symm) (by omega))).trans (h.block k hk)⟩

/-- Under way in a round. -/
structure Sm (B H g rb : Nat) (w0 : World) (cl cr : Array Value) (v : Value) (xs : List SRg) (r : SRg) (e a f q : Option Value) (w : World) : Prop where
  bel : Below B w0 w
  le : H ≤ w.heap.size
  BH : B ≤ H
  S : Kd.S jR tR w B (fun k => k < H ∧ k ≠ rb) v xs
  E : ∀ u, e = some u → jC.R tC w H (fun _ => True) u []
  A : ∀ u, a = some u → jC.R tC w H (fun _ => True) u r.f1
  F : ∀ u, f = some u → jQ.R tQ w H (fun _ => True) u []
  Q : ∀ u, q = some u → jQ.R tQ w H (fun _ => True) u r.f2
  G : Blk g tL cl w
  gH : g < H
  R : Blk rb tR cr w
  rH : rb < H
section
variable {B H g rb : Nat} {w0 w w1 : World} {cl cr : Array Value} {xs : List SRg} {r : SRg} {e a f q : Option Value} {u v v1 : Value}
theorem Sm.on (h : Sm B H g rb w0 cl cr v xs r e a f q w) (hb : Below w.heap.size w w1) : Sm B H g rb w0 cl cr v xs r e a f q w1 :=
  ⟨h.bel.trans (hb.mono (Nat.le_trans h.BH h.le)), Nat.le_trans h.le hb.size, h.BH, Kd.S_below h.S hb, fun u hu => Kd.R_below (h.E u hu) hb, fun u hu => Kd.R_below (h.A u hu) hb, fun u hu => Kd.R_below (h.F u hu) hb, fun u hu => Kd.R_below (h.Q u hu) hb, h.G.on hb, h.gH, h.R.on hb, h.rH⟩
theorem Sm.drew (h : Sm B H g rb w0 cl cr v xs r e a f q w) : Sm B H g rb w0 cl cr v xs r e a f q w.drew := h.on (below_drew (Below.refl _ _))
theorem Sm.emptyC (h : Sm B H g rb w0 cl cr v xs r none a f q w) : Sm B H g rb w0 cl cr v xs r (some (.slice (some ⟨w.heap.size, 0, none⟩) 0 0)) a f q (w.alloc (.cells #[] tC)) := by
  have h1 := h.on (below_alloc (Below.refl _ _) (.cells #[] tC))
  exact ⟨h1.bel, h1.le, h1.BH, h1.S, fun u hu => by cases hu; exact lit_R jC tC w h.le, h1.A, h1.F, h1.Q, h1.G, h1.gH, h1.R, h1.rH⟩
theorem Sm.emptyQ (h : Sm B H g rb w0 cl cr v xs r e a none q w) : Sm B H g rb w0 cl cr v xs r e a (some (.slice (some ⟨w.heap.size, 0, none⟩) 0 0)) q (w.alloc (.cells #[] tQ)) := by
  have h1 := h.on (below_alloc (Below.refl _ _) (.cells #[] tQ))
  exact ⟨h1.bel, h1.le, h1.BH, h1.S, h1.E, h1.A, fun u hu => by cases hu; exact lit_R jQ tQ w h.le, h1.Q, h1.G, h1.gH, h1.R, h1.rH⟩
/-- A row of contacts or of coils has grown. -/
theorem R_other {α : Type} {d : Kd α} {t t' : Nat} {ys : List α} (ht : ∀ q, q ∈ t :: d.E → q ≠ t') (h : d.R t w H (fun _ => True) v ys) {row : Option Nat} (hrow : ∀ k, row = some k → ∃ cells, w.heap[k]? = some (.cells cells t' (0, 0))) (hg : w.grownBy w1 row) : d.R t w1 H (fun _ => True) v ys := by
  cases hr : row with
  | none => rw [hr] at hg; exact Kd.R_grown h hg (fun k _ => by simp)
  | some b =>
    obtain ⟨cells, hb⟩ := hrow b hr
    rw [hr] at hg
    exact Kd.R_mono (Kd.R_grown (Kd.R_types h hb ht) hg (fun k hk e => hk.2 (by injection e))) (fun _ _ => trivial)
theorem neCQ : ∀ q, q ∈ tC :: jC.E → q ≠ tQ := by
  intro q hq
  have : q ∈ [tC] := hq
  rw [List.mem_singleton.1 this]
  decide
theorem neQC : ∀ q, q ∈ tQ :: jQ.E → q ≠ tC := by
  intro q hq
  have : q ∈ [tQ] := hq
  rw [List.mem_singleton.1 this]
  decide
theorem Sm.conts (h : Sm B H g rb w0 cl cr v xs r (some u) none f q w) (hR : jC.R tC w1 H (fun _ => True) v1 r.f1) (hg : w.grownBy w1 u.ownBlock) : Sm B H g rb w0 cl cr v xs r none (some v1) f q w1 := by
  have hu := h.E u rfl
  have hrow := fun k (hk : u.ownBlock = some k) => Kd.R_base hu k hk
  refine ⟨below_grew h.bel (Nat.le_trans h.BH h.le) hg (fun k hk => Nat.le_trans h.BH (hrow k hk)), Nat.le_trans h.le hg.size, h.BH, Kd.S_grown h.S hg (fun k hk he => absurd (hrow k he.symm) (by omega)), fun u hu => (by cases hu), fun u hu => (by cases hu; exact hR),
    fun u2 hu2 => R_other neQC (h.F u2 hu2) (fun k hk => Kd.R_typed hu k hk) hg, fun u2 hu2 => R_other neQC (h.Q u2 hu2) (fun k hk => Kd.R_typed hu k hk) hg, ⟨(hg.block g h.G.lt (fun he => absurd (hrow g he.symm) (by have := h.gH; omega))).trans h.G.out⟩, h.gH, ⟨(hg.block rb h.R.lt (fun he => absurd (hrow rb he.symm) (by have := h.rH; omega))).trans h.R.out⟩, h.rH⟩
theorem Sm.coils (h : Sm B H g rb w0 cl cr v xs r e a (some u) none w) (hR : jQ.R tQ w1 H (fun _ => True) v1 r.f2) (hg : w.grownBy w1 u.ownBlock) : Sm B H g rb w0 cl cr v xs r e a none (some v1) w1 := by
  have hu := h.F u rfl
  have hrow := fun k (hk : u.ownBlock = some k) => Kd.R_base hu k hk
  refine ⟨below_grew h.bel (Nat.le_trans h.BH h.le) hg (fun k hk => Nat.le_trans h.BH (hrow k hk)), Nat.le_trans h.le hg.size, h.BH, Kd.S_grown h.S hg (fun k hk he => absurd (hrow k he.symm) (by omega)),
    fun u2 hu2 => R_other neCQ (h.E u2 hu2) (fun k hk => Kd.R_typed hu k hk) hg, fun u2 hu2 => R_other neCQ (h.A u2 hu2) (fun k hk => Kd.R_typed hu k hk) hg, fun u hu => (by cases hu), fun u hu => (by cases hu; exact hR), ⟨(hg.block g h.G.lt (fun he => absurd (hrow g he.symm) (by have := h.gH; omega))).trans h.G.out⟩, h.gH, ⟨(hg.block rb h.R.lt (fun he => absurd (hrow rb he.symm) (by have := h.rH; omega))).trans h.R.out⟩, h.rH⟩
/-- Behind the last append. -/
structure Sp (B g rb : Nat) (w0 : World) (cl cr : Array Value) (v : Value) (xs : List SRg) (w : World) : Prop where
  bel : Below B w0 w
  S : Kd.S jR tR w B (fun _ => True) v xs
  G : Blk g tL cl w
  R : Blk rb tR cr w

variable {ops : Array Oper} {o : Oper} {act : Act} {Qq : Exit → Act → World → Prop} {Kc : Act → World → Prop} {W : World}
theorem step_conts (hw : Region.wanted o (yielded ops act.tmps) = true) (s x : Operand) (ho : o.op = .call { callee := .builtin .append, args := #[s, x], argTypes := #[25, 25] })
    (A : Option Addr) (c : Nat) (hx : act.eval x = .slice A r.f1.length c) (hC : jC.C w0 A r.f1.length r.f1) (hm : r.f1.length ≤ 1000000) (hB : B = w0.heap.size ∨ w0.heap.size ≤ B) (hS : Sm B H g rb w0 cl cr v xs r (some u) none f q W) (hs : act.eval s = u)
    (h : ∀ A2 c2 w1, Sm B H g rb w0 cl cr v xs r none (some (.slice A2 r.f1.length c2)) f q w1 → Kc (act.put o.dst (.slice A2 r.f1.length c2)) w1) : if Region.wanted o (yielded ops act.tmps) = true then Oper.wp Tryd.prog o act W Kc Qq else Kc (act.put o.dst undef) W := by
  have hE := hS.E u rfl
  have hC1 : jC.C W A r.f1.length r.f1 := Kd.C_below hC (hS.bel.mono (by omega))
  refine Kd.R_append_rows_step jC (Rr := fun x cs => jC.K W x cs) (w0 := W) H hw s x 25 44 _ 56 ho ij_undC ij_infoC rfl (by decide) (by decide) u [] r.f1 A r.f1.length c (fun _ => True) (fun _ => False) hs hx hE hC1 (fun y cs hk => con_M y cs hk)
    (fun _ hk => hk.elim) (fun _ _ => trivial) (Below.refl _ _) hS.le (by rw [List.length_nil]; omega) (fun v1 w1 hR _ hg _ => ?_)
  rw [List.nil_append] at hR
  obtain ⟨A2, c2, rfl⟩ := Kd.R_slice hR
  exact h A2 c2 w1 (hS.conts hR hg)
theorem step_coils (hw : Region.wanted o (yielded ops act.tmps) = true) (s x : Operand) (ho : o.op = .call { callee := .builtin .append, args := #[s, x], argTypes := #[26, 26] })
    (A : Option Addr) (c : Nat) (hx : act.eval x = .slice A r.f2.length c) (hC : jQ.C w0 A r.f2.length r.f2) (hm : r.f2.length ≤ 1000000) (hB : B = w0.heap.size ∨ w0.heap.size ≤ B) (hS : Sm B H g rb w0 cl cr v xs r e a (some u) none W) (hs : act.eval s = u)
    (h : ∀ A2 c2 w1, Sm B H g rb w0 cl cr v xs r e a none (some (.slice A2 r.f2.length c2)) w1 → Kc (act.put o.dst (.slice A2 r.f2.length c2)) w1) : if Region.wanted o (yielded ops act.tmps) = true then Oper.wp Tryd.prog o act W Kc Qq else Kc (act.put o.dst undef) W := by
  have hE := hS.F u rfl
  have hC1 : jQ.C W A r.f2.length r.f2 := Kd.C_below hC (hS.bel.mono (by omega))
  refine Kd.R_append_rows_step jQ (Rr := fun x cs => jQ.K W x cs) (w0 := W) H hw s x 26 47 _ 24 ho ij_undQ ij_infoQ rfl (by decide) (by decide) u [] r.f2 A r.f2.length c (fun _ => True) (fun _ => False) hs hx hE hC1 (fun y cs hk => coil_M y cs hk)
    (fun _ hk => hk.elim) (fun _ _ => trivial) (Below.refl _ _) hS.le (by rw [List.length_nil]; omega) (fun v1 w1 hR _ hg _ => ?_)
  rw [List.nil_append] at hR
  obtain ⟨A2, c2, rfl⟩ := Kd.R_slice hR
  exact h A2 c2 w1 (hS.coils hR hg)
theorem step_push {va vq : Value} (hw : Region.wanted o (yielded ops act.tmps) = true) (s x : Operand) (ho : o.op = .call { callee := .builtin .append, args := #[s, x], argTypes := #[22, 22] })
    (hm : xs.length ≤ 1000000) (hS : Sm B H g rb w0 cl cr v xs r none (some va) none (some vq) W) (hs : act.eval s = v) (hx : act.eval x = .slice (some ⟨W.heap.size, 0, none⟩) 1 1)
    (h : ∀ A2 c2 w1, Sp B g rb w0 cl cr (.slice A2 (xs.length + 1) c2) (xs ++ [r]) w1 → Kc (act.put o.dst (.slice A2 (xs.length + 1) c2)) w1) :
    if Region.wanted o (yielded ops act.tmps) = true then Oper.wp Tryd.prog o act (W.alloc (.cells #[.string r.f0, va, vq, .string r.f3] 28)) Kc Qq else Kc (act.put o.dst undef) (W.alloc (.cells #[.string r.f0, va, vq, .string r.f3] 28)) := by
  have hM := k28_mkM W B (fun k => H ≤ k) r (Kd.R_mono (Kd.R_lower (Kd.R_bound (hS.A va rfl)) hS.BH) (fun _ hk => hk.2.1)) (Kd.R_mono (Kd.R_lower (Kd.R_bound (hS.Q vq rfl)) hS.BH) (fun _ hk => hk.2.1))
  have hlt : ∀ k, v.ownBlock = some k → k < H := fun k hk => by
    have := Kd.S_R hS.S
    exact (this.1 k hk).1
  refine Kd.S_append_step jR (w0 := w0) B hw s x 22 28 _ 80 ho undRg infoRg rfl (by decide) (by decide) v xs r [.string r.f0, va, vq, .string r.f3] (fun _ => True) (fun k => H ≤ k) hs hx hM
    (fun k hk => ⟨trivial, fun he => absurd (hlt k he.symm) (by omega)⟩) (fun _ _ => trivial) (Kd.S_mono hS.S (fun k hk => ⟨trivial, by omega⟩)) hS.bel (Nat.le_trans hS.BH hS.le) (by omega) (fun v1 w1 hS1 hb hg ha => ?_)
  obtain ⟨A2, c2, hv⟩ := Kd.S_slice hS1
  rw [List.length_append, List.length_singleton] at hv
  subst hv
  exact h A2 c2 w1 ⟨hb, hS1, ⟨(hg.block g hS.G.lt (Kd.R_ne (Kd.S_R hS.S) hS.G.out (by decide))).trans hS.G.out⟩, ⟨(hg.block rb hS.R.lt (fun he => ((Kd.S_R hS.S).1 rb he.symm).2 rfl)).trans hS.R.out⟩⟩
end
end Go.Proofs.YtdbjjbooalkkbaaDoor.P

/- PrinterIsInjective: one cell of a contact or of a coil of a copied ladder is written. -/
set_option linter.unusedVariables false
set_option linter.unusedSimpArgs false
namespace Go.Proofs.YtdbjjbooalkkbaaDoor.P
open Go.RowKit Go.Proofs.YtdbjjbooalkkbaaDoorW.PrintWords Go.Proofs.YtdbjjbooalkkbaaDoorW.PrintLast Go.Proofs.YtdbjjbooalkkbaaDoorW.PrintMore

def conL (c : S44) : List Value := [.int .i64 c.f0, .int .i64 c.f1.f0, .int .i64 c.f1.f1, .string c.f2, .string c.f3]
def coilL (c : S47) : List Value := [.int .i64 c.f0, .int .i64 c.f1.f0, .int .i64 c.f1.f1]
/-- What stands at element i's contacts, and what a write there leaves. -/
structure ConAt (B gb n cap : Nat) (xs : List SRg) (i : Nat) (r : SRg) (j : Nat) (cc : S44) (cb ccap : Nat) (w : World) : Prop where
  slot : w.cell? ⟨gb, i * 4 + 1, none⟩ = some (.slice (some ⟨cb, 0, none⟩) r.f1.length ccap)
  cell : ∀ p u, (conL cc)[p]? = some u → w.cell? ⟨cb, j * 5 + p, none⟩ = some u
  froz : ∀ p, w.frozen? ⟨cb, j * 5 + p, none⟩ = false
  base : B ≤ cb
  typ : ∃ cells, w.heap[cb]? = some (.cells cells tC (0, 0))
  back : ∀ (p : Nat) (u : Value) (cc' : S44), p < 5 → conL cc' = (conL cc).set p u → u.oneCell' = true → Kd.S jR tR (w.setCell ⟨cb, j * 5 + p, none⟩ u) B (fun _ => True) (.slice (some ⟨gb, 0, none⟩) n cap) (setCon xs i r j cc')
theorem set_split {α : Type} (l : List α) (p : Nat) (u : α) (hp : p < l.length) : l.take p ++ [u] ++ l.drop (p + 1) = l.set p u := by
  rw [List.set_eq_take_append_cons_drop, if_pos hp]
  simp
theorem con_copy {B gb n cap : Nat} {xs : List SRg} {i : Nat} {r : SRg} {j : Nat} {cc : S44} {w : World} (hS : Kd.S jR tR w B (fun _ => True) (.slice (some ⟨gb, 0, none⟩) n cap) xs) (hn : n = xs.length) (hi : xs[i]? = some r) (hj : r.f1[j]? = some cc) :
    ∃ cb ccap, ConAt B gb n cap xs i r j cc cb ccap w := by
  have hil := (List.getElem?_eq_some_iff.1 hi).1
  have hjl := (List.getElem?_eq_some_iff.1 hj).1
  obtain ⟨oki, c, hcl, hM, hcc, hoki, hback⟩ := Kd.S_borrow hS r (i : Int) (by omega) (by omega)
  have hgd : xs.getD (i : Int).toNat r = r := by rw [Int.toNat_natCast, List.getD_eq_getElem?_getD, hi]; rfl
  rw [hgd] at hM
  obtain ⟨v1, v2, rfl, h1, h2⟩ := k28_openM hM
  obtain ⟨cb, ccap, rfl, hB, hlt, cells, htc⟩ := Kd.R_form h1 (by omega)
  obtain ⟨c5, hl5, hM5, hcc5, hfr⟩ := Kd.R_elem h1 cc (j : Int) (by omega) (by omega)
  have hgj : r.f1.getD (j : Int).toNat cc = cc := by rw [Int.toNat_natCast, List.getD_eq_getElem?_getD, hj]; rfl
  rw [hgj] at hM5
  have e5 : c5 = conL cc := k44_open (jC.K_of_M hM5)
  subst e5
  refine ⟨cb, ccap, ?_, fun p u hu => by have := hcc5 p u hu; rwa [Int.toNat_natCast] at this, fun p => by have := hfr p; rwa [Int.toNat_natCast] at this, hB, ⟨cells, htc⟩, fun p u cc' hp he h1c => ?_⟩
  · have := hcc 1 _ rfl
    rw [Int.toNat_natCast] at this
    have e : (⟨gb, 0, none⟩ : Addr).add (i * 4 + 1) = ⟨gb, i * 4 + 1, none⟩ := by unfold Addr.add; split <;> simp_all
    rwa [show jR.sz = 4 from rfl, e] at this
  · obtain ⟨hR1, hg1⟩ := Kd.R_seg (okp := fun _ => False) h1 (j : Int) (by omega) (by omega) (c := conL cc) (seg := [u]) (j := p) hl5 hcc5 (by show p + 1 ≤ 5; omega) (x' := cc') (by rw [show [u].length = 1 from rfl, set_split _ p u (by show p < 5; exact hp), ← he]; exact k44_mkM _ _ _ cc') (fun _ hk => hk.elim)
    rw [Int.toNat_natCast] at hR1 hg1
    have hR2 := Kd.R_set h2 htc neQC (j * 5 + p) u
    have hb := hback (x' := { r with f1 := r.f1.set j cc' }) hg1 (fun k hk => by cases hk; exact h1.1 _ rfl) (by
      have := k28_mkM (w.setCell ⟨cb, j * 5 + p, none⟩ u) B oki { r with f1 := r.f1.set j cc' } (v1 := .slice (some ⟨cb, 0, none⟩) r.f1.length ccap) (v2 := v2) hR1 hR2
      exact this)
    exact hb
structure CoilAt (B gb n cap : Nat) (xs : List SRg) (i : Nat) (r : SRg) (j : Nat) (cc : S47) (cb ccap : Nat) (w : World) : Prop where
  slot : w.cell? ⟨gb, i * 4 + 2, none⟩ = some (.slice (some ⟨cb, 0, none⟩) r.f2.length ccap)
  cell : ∀ p u, (coilL cc)[p]? = some u → w.cell? ⟨cb, j * 3 + p, none⟩ = some u
  froz : ∀ p, w.frozen? ⟨cb, j * 3 + p, none⟩ = false
  base : B ≤ cb
  typ : ∃ cells, w.heap[cb]? = some (.cells cells tQ (0, 0))
  back : ∀ (p : Nat) (u : Value) (cc' : S47), p < 3 → coilL cc' = (coilL cc).set p u → u.oneCell' = true → Kd.S jR tR (w.setCell ⟨cb, j * 3 + p, none⟩ u) B (fun _ => True) (.slice (some ⟨gb, 0, none⟩) n cap) (setCoil xs i r j cc')
theorem coil_copy {B gb n cap : Nat} {xs : List SRg} {i : Nat} {r : SRg} {j : Nat} {cc : S47} {w : World} (hS : Kd.S jR tR w B (fun _ => True) (.slice (some ⟨gb, 0, none⟩) n cap) xs) (hn : n = xs.length) (hi : xs[i]? = some r) (hj : r.f2[j]? = some cc) :
    ∃ cb ccap, CoilAt B gb n cap xs i r j cc cb ccap w := by
  have hil := (List.getElem?_eq_some_iff.1 hi).1
  have hjl := (List.getElem?_eq_some_iff.1 hj).1
  obtain ⟨oki, c, hcl, hM, hcc, hoki, hback⟩ := Kd.S_borrow hS r (i : Int) (by omega) (by omega)
  have hgd : xs.getD (i : Int).toNat r = r := by rw [Int.toNat_natCast, List.getD_eq_getElem?_getD, hi]; rfl
  rw [hgd] at hM
  obtain ⟨v1, v2, rfl, h1, h2⟩ := k28_openM hM
  obtain ⟨cb, ccap, rfl, hB, hlt, cells, htc⟩ := Kd.R_form h2 (by omega)
  obtain ⟨c5, hl5, hM5, hcc5, hfr⟩ := Kd.R_elem h2 cc (j : Int) (by omega) (by omega)
  have hgj : r.f2.getD (j : Int).toNat cc = cc := by rw [Int.toNat_natCast, List.getD_eq_getElem?_getD, hj]; rfl
  rw [hgj] at hM5
  have e5 : c5 = coilL cc := k47_open (jQ.K_of_M hM5)
  subst e5
  refine ⟨cb, ccap, ?_, fun p u hu => by have := hcc5 p u hu; rwa [Int.toNat_natCast] at this, fun p => by have := hfr p; rwa [Int.toNat_natCast] at this, hB, ⟨cells, htc⟩, fun p u cc' hp he h1c => ?_⟩
  · have := hcc 2 _ rfl
    rw [Int.toNat_natCast] at this
    have e : (⟨gb, 0, none⟩ : Addr).add (i * 4 + 2) = ⟨gb, i * 4 + 2, none⟩ := by unfold Addr.add; split <;> simp_all
    rwa [show jR.sz = 4 from rfl, e] at this
  · obtain ⟨hR1, hg1⟩ := Kd.R_seg (okp := fun _ => False) h2 (j : Int) (by omega) (by omega) (c := coilL cc) (seg := [u]) (j := p) hl5 hcc5 (by show p + 1 ≤ 3; omega) (x' := cc') (by rw [show [u].length = 1 from rfl, set_split _ p u (by show p < 3; exact hp), ← he]; exact k47_mkM _ _ _ cc') (fun _ hk => hk.elim)
    rw [Int.toNat_natCast] at hR1 hg1
    have hR2 := Kd.R_set h1 htc neCQ (j * 3 + p) u
    have hb := hback (x' := { r with f2 := r.f2.set j cc' }) hg1 (fun k hk => by cases hk; exact h2.1 _ rfl) (by
      have := k28_mkM (w.setCell ⟨cb, j * 3 + p, none⟩ u) B oki { r with f2 := r.f2.set j cc' } (v1 := v1) (v2 := .slice (some ⟨cb, 0, none⟩) r.f2.length ccap) hR2 hR1
      exact this)
    exact hb
end Go.Proofs.YtdbjjbooalkkbaaDoor.P

/- PrinterIsInjective: what a change of the copy leaves. -/
set_option linter.unusedVariables false
set_option linter.unusedSimpArgs false
namespace Go.Proofs.YtdbjjbooalkkbaaDoor.P
open Go.RowKit Go.Proofs.YtdbjjbooalkkbaaDoorW.PrintWords Go.Proofs.YtdbjjbooalkkbaaDoorW.PrintLast Go.Proofs.YtdbjjbooalkkbaaDoorW.PrintMore

theorem blk_far' {g g' t i : Nat} {cs : Array Value} {w : World} {v : Value} (hne : g ≠ g') (h : Blk g t cs w) : Blk g t cs (w.setCell ⟨g', i, none⟩ v) := ⟨(Below.heap_setCell w ⟨g', i, none⟩ v g hne).trans h.out⟩
theorem cells4 {a t : Nat} {x0 x1 x2 x3 : Value} {w : World} (h : Blk a t #[x0, x1, x2, x3] w) : w.cell? ⟨a, 0, none⟩ = some x0 ∧ w.cell? ⟨a, 1, none⟩ = some x1 ∧ w.cell? ⟨a, 2, none⟩ = some x2 ∧ w.cell? ⟨a, 3, none⟩ = some x3 :=
  ⟨h.cell 0 _ rfl, h.cell 1 _ rfl, h.cell 2 _ rfl, h.cell 3 _ rfl⟩
/-- The copy under way. -/
structure Cp (B g : Nat) (w0 : World) (x : SLd) (k : Nat) (v : Value) (w : World) : Prop where
  bel : Below B w0 w
  gB : B ≤ g
  G : Blk g tL #[.int .i64 x.f0, .int .i64 x.f1, .int .i64 x.f2, v] w
  S : Kd.S jR tR w B (fun _ => True) v (x.f3.take k)
theorem Cp.next {B g rb : Nat} {w0 w : World} {x : SLd} {k : Nat} {v v1 : Value} {cr : Array Value} {r : SRg} (hr : x.f3[k]? = some r) (hg : B ≤ g) (h : Sp B g rb w0 #[.int .i64 x.f0, .int .i64 x.f1, .int .i64 x.f2, v] cr v1 (x.f3.take k ++ [r]) w) : Cp B g w0 x (k + 1) v1 (w.setCell ⟨g, 3, none⟩ v1) := by
  refine ⟨h.bel.setCell hg _, hg, ⟨?_⟩, ?_⟩
  · have := blk_set h.G.out 3 v1
    simpa using this
  · have := Kd.S_set h.S h.G.out neL 3 v1
    rwa [show x.f3.take k ++ [r] = x.f3.take (k + 1) by rw [List.take_add_one, hr]; rfl] at this
theorem Cp.start {B : Nat} {w0 : World} (x : SLd) (hB : w0.heap.size = B) : Cp B w0.heap.size w0 x 0 (.slice none 0 0) (w0.alloc (.cells #[.int .i64 x.f0, .int .i64 x.f1, .int .i64 x.f2, .slice none 0 0] tL)) :=
  ⟨by subst hB; exact below_alloc (Below.refl _ _) _, by omega, Blk.new _ _ _, Kd.S_nil _ _ _ _ _⟩
/-- A round begins: the rung is copied. -/
theorem Cp.round {B g : Nat} {w0 w : World} {x : SLd} {k : Nat} {v : Value} (h : Cp B g w0 x k v w) (hB : B ≤ w.heap.size) (cr : Array Value) (r : SRg) :
    Sm B (w.heap.size + 1) g w.heap.size w0 #[.int .i64 x.f0, .int .i64 x.f1, .int .i64 x.f2, v] cr v (x.f3.take k) r none none none none (w.alloc (.cells cr tR)) := by
  have hs : (w.alloc (.cells cr tR)).heap.size = w.heap.size + 1 := World.size_alloc _ _
  refine ⟨below_grew h.bel hB (World.grownBy_alloc w _ none) (fun k hk => by cases hk), by omega, by omega, Kd.S_alloc (Kd.S_mono (Kd.S_bound h.S) (fun k hk => ⟨by have := hk.2.2.1; omega, by have := hk.2.2.1; omega⟩)) _, fun u hu => (by cases hu), fun u hu => (by cases hu), fun u hu => (by cases hu), fun u hu => (by cases hu), h.G.alloc _, by have := h.G.lt; omega, Blk.new _ _ _, by omega⟩
/-- What the change leaves. -/
def Mod (w : World) (x : SLd) (g : Nat) (cx : Array Value) (wc : World) : Prop :=
  ∃ (I' : Int) (l' : List SRg) (A' : Option Addr) (c' : Nat), Hid (Since w wc) ∧ Hid (Blk w.heap.size tL cx wc) ∧ Hid (Blk g tL #[.int .i64 I', .int .i64 x.f1, .int .i64 x.f2, .slice A' l'.length c'] wc) ∧ Hid (Row wc A' c' l') ∧ Hid (¬ (x.f0 = I' ∧ x.f1 = x.f1 ∧ x.f2 = x.f2 ∧ x.f3 = l'))
theorem mod_nat' {a : Int} (h : 0 ≤ a) (n : Nat) (hn : 0 < n) : ∃ k : Nat, Int.tmod a (n : Int) = (k : Int) ∧ k < n := by
  obtain ⟨y, rfl⟩ := Int.eq_ofNat_of_zero_le h
  exact ⟨y % n, by rw [← Int.ofNat_tmod], Nat.mod_lt _ hn⟩
theorem rung_slots {B gb n cap i : Nat} {xs : List SRg} {r : SRg} {w : World} (hS : Kd.S jR tR w B (fun _ => True) (.slice (some ⟨gb, 0, none⟩) n cap) xs) (hn : n = xs.length) (hi : xs[i]? = some r) :
    ∃ A1 c1 A2 c2, w.cell? ⟨gb, i * 4 + 1, none⟩ = some (.slice A1 r.f1.length c1) ∧ w.cell? ⟨gb, i * 4 + 2, none⟩ = some (.slice A2 r.f2.length c2) := by
  have hil := (List.getElem?_eq_some_iff.1 hi).1
  obtain ⟨oki, c, hcl, hM, hcc, _, _⟩ := Kd.S_borrow hS r (i : Int) (by omega) (by omega)
  have hgd : xs.getD (i : Int).toNat r = r := by rw [Int.toNat_natCast, List.getD_eq_getElem?_getD, hi]; rfl
  rw [hgd] at hM
  obtain ⟨v1, v2, rfl, h1, h2⟩ := k28_openM hM
  obtain ⟨A1, c1, rfl⟩ := Kd.R_slice h1
  obtain ⟨A2, c2, rfl⟩ := Kd.R_slice h2
  have e : ∀ p : Nat, (⟨gb, 0, none⟩ : Addr).add (i * 4 + p) = ⟨gb, i * 4 + p, none⟩ := fun p => by unfold Addr.add; split <;> simp_all
  have c1' := hcc 1 _ rfl
  have c2' := hcc 2 _ rfl
  rw [Int.toNat_natCast, show jR.sz = 4 from rfl, e] at c1' c2'
  exact ⟨A1, c1, A2, c2, c1', c2'⟩
theorem row_of_S {B cap : Nat} {A0 : Option Addr} {xs : List SRg} {w : World} (hS : Kd.S jR tR w B (fun _ => True) (.slice A0 xs.length cap) xs) : Row w A0 cap xs := by
  obtain ⟨A, c, he, hl, hc⟩ := Kd.S_reads hS
  injection he with h1 h2 h3
  subst h1 h3
  exact ⟨hc, hl⟩
theorem mod_con {B g gb cap i j cb ccap p : Nat} {w wy : World} {x : SLd} {r : SRg} {cc cc' : S44} {cx : Array Value} {u : Value} (Sy : Since w wy) (Xy : Blk w.heap.size tL cx wy) (Gy : Blk g tL #[.int .i64 x.f0, .int .i64 x.f1, .int .i64 x.f2, .slice (some ⟨gb, 0, none⟩) x.f3.length cap] wy)
    (CB : ConAt B gb x.f3.length cap x.f3 i r j cc cb ccap wy) (hB : w.heap.size ≤ B) (hN : w.heap.size < B) (hp : p < 5) (he : conL cc' = (conL cc).set p u) (h1 : u.oneCell' = true) (hne : cc' ≠ cc) (hri : x.f3[i]? = some r) (hcj : r.f1[j]? = some cc) :
    Mod w x g cx (wy.setCell ⟨cb, j * 5 + p, none⟩ u) := by
  have hcb := CB.base
  obtain ⟨cells, hct⟩ := CB.typ
  have hg : g ≠ cb := fun e => by
    subst e
    rw [Gy.out] at hct
    injection hct with hct
    injection hct with _ hct
    exact absurd hct (by decide)
  have hS := CB.back p u cc' hp he h1
  have hl : (setCon x.f3 i r j cc').length = x.f3.length := List.length_set
  refine ⟨x.f0, setCon x.f3 i r j cc', some ⟨gb, 0, none⟩, cap, Lib.hid ⟨Sy.out.setCell (by show w.heap.size ≤ cb; omega) _⟩, Lib.hid (blk_far' (by omega) Xy), Lib.hid ?_, Lib.hid ?_, Lib.hid (fun h => setCon_ne hri hcj hne h.2.2.2)⟩
  · rw [hl]; exact blk_far' hg Gy
  · rw [← hl] at hS
    exact row_of_S hS
theorem mod_coil {B g gb cap i j cb ccap p : Nat} {w wy : World} {x : SLd} {r : SRg} {cc cc' : S47} {cx : Array Value} {u : Value} (Sy : Since w wy) (Xy : Blk w.heap.size tL cx wy) (Gy : Blk g tL #[.int .i64 x.f0, .int .i64 x.f1, .int .i64 x.f2, .slice (some ⟨gb, 0, none⟩) x.f3.length cap] wy)
    (CB : CoilAt B gb x.f3.length cap x.f3 i r j cc cb ccap wy) (hB : w.heap.size ≤ B) (hN : w.heap.size < B) (hp : p < 3) (he : coilL cc' = (coilL cc).set p u) (h1 : u.oneCell' = true) (hne : cc' ≠ cc) (hri : x.f3[i]? = some r) (hcj : r.f2[j]? = some cc) :
    Mod w x g cx (wy.setCell ⟨cb, j * 3 + p, none⟩ u) := by
  have hcb := CB.base
  obtain ⟨cells, hct⟩ := CB.typ
  have hg : g ≠ cb := fun e => by
    subst e
    rw [Gy.out] at hct
    injection hct with hct
    injection hct with _ hct
    exact absurd hct (by decide)
  have hS := CB.back p u cc' hp he h1
  have hl : (setCoil x.f3 i r j cc').length = x.f3.length := List.length_set
  refine ⟨x.f0, setCoil x.f3 i r j cc', some ⟨gb, 0, none⟩, cap, Lib.hid ⟨Sy.out.setCell (by show w.heap.size ≤ cb; omega) _⟩, Lib.hid (blk_far' (by omega) Xy), Lib.hid ?_, Lib.hid ?_, Lib.hid (fun h => setCoil_ne hri hcj hne h.2.2.2)⟩
  · rw [hl]; exact blk_far' hg Gy
  · rw [← hl] at hS
    exact row_of_S hS
theorem equal3 (x : SLd) (A : Option Addr) (c : Nat) (w u : World) (hx : Lad x A c w) (I' : Int) (l' : List SRg) (B : Option Addr) (d : Nat) (v : Bool) (hv : sameP x.f0 x.f1 x.f2 x.f3 I' x.f1 x.f2 l' = v) (hs : Since w u) (hR : Row u B d l') :
    Calls Tryd.prog 12 #[ladV x A c, .agg #[.int .i64 I', .int .i64 x.f1, .int .i64 x.f2, .slice B l'.length d]] u fun e w' => e = .returned (.bool v) ∧ Below u.heap.size u w' := by
  obtain ⟨k, hk⟩ := (equal_eq x.f0 x.f1 x.f2 x.f3 I' x.f1 x.f2 l' hx.n hx.m).one
  rw [hv] at hk
  exact printer_Equal.calls k _ _ _ A c x.f3 _ _ _ B d l' v u (hx.on hs).reads hx.room hR.reads hR.room hk
theorem other_l : (⟨#[111, 116, 104, 101, 114]⟩ : ByteArray).toList = [111, 116, 104, 101, 114] := by rw [ByteArray.toList_eq]
/-- The copy's rungs were changed at one place. -/
theorem mod_of {B g gb cap : Nat} {w wc : World} {x : SLd} {xs : List SRg} {cx : Array Value} (Sy : Since w wc) (Xy : Blk w.heap.size tL cx wc) (Gy : Blk g tL #[.int .i64 x.f0, .int .i64 x.f1, .int .i64 x.f2, .slice (some ⟨gb, 0, none⟩) x.f3.length cap] wc)
    (hS : Kd.S jR tR wc B (fun _ => True) (.slice (some ⟨gb, 0, none⟩) x.f3.length cap) xs) (hl : xs.length = x.f3.length) (hne : x.f3 ≠ xs) : Mod w x g cx wc := by
  rw [← hl] at Gy hS
  exact ⟨x.f0, xs, _, cap, Lib.hid Sy, Lib.hid Xy, Lib.hid Gy, Lib.hid (row_of_S hS), Lib.hid (fun h => hne h.2.2.2)⟩
theorem con_g {B g gb n cap i j cb ccap : Nat} {wy : World} {xs : List SRg} {r : SRg} {cc : S44} {cg : Array Value} (CB : ConAt B gb n cap xs i r j cc cb ccap wy) (Gy : Blk g tL cg wy) : g ≠ cb := fun e => by
  subst e
  obtain ⟨cells, hct⟩ := CB.typ
  rw [Gy.out] at hct
  injection hct with hct
  injection hct with _ hct
  exact absurd hct (by decide)
theorem con_on {B gb n cap i j cb ccap : Nat} {w w' : World} {xs : List SRg} {r : SRg} {cc : S44} (hS : Kd.S jR tR w B (fun _ => True) (.slice (some ⟨gb, 0, none⟩) n cap) xs) (hn : n = xs.length) (hi : xs[i]? = some r) (hj : r.f1[j]? = some cc) (C : ConAt B gb n cap xs i r j cc cb ccap w) (hb : Below w.heap.size w w') : ConAt B gb n cap xs i r j cc cb ccap w' := by
  obtain ⟨cb', ccap', C'⟩ := con_copy (Kd.S_below hS hb) hn hi hj
  have hsl := pw_cell_below hb C.slot
  rw [C'.slot] at hsl
  injection hsl with hsl
  injection hsl with hs1 hs2 hs3
  injection hs1 with hs1
  injection hs1 with hs1
  subst hs1 hs3
  exact C'
theorem set_get {xs : List SRg} {r : SRg} {i j : Nat} {cc cc1 : S44} (hi : xs[i]? = some r) (hj : r.f1[j]? = some cc) : (setCon xs i r j cc1)[i]? = some { r with f1 := r.f1.set j cc1 } ∧ ({ r with f1 := r.f1.set j cc1 } : SRg).f1[j]? = some cc1 := by
  constructor
  · unfold setCon
    rw [List.getElem?_set_self (List.getElem?_eq_some_iff.1 hi).1]
  · show (r.f1.set j cc1)[j]? = _
    rw [List.getElem?_set_self (List.getElem?_eq_some_iff.1 hj).1]
/-- One cell of it is written: there the next write finds it. -/
theorem con_next {B gb n cap i j cb ccap p : Nat} {w : World} {xs : List SRg} {r : SRg} {cc cc1 : S44} {u : Value} (hS : Kd.S jR tR w B (fun _ => True) (.slice (some ⟨gb, 0, none⟩) n cap) xs) (hn : n = xs.length) (hi : xs[i]? = some r) (hj : r.f1[j]? = some cc) (C : ConAt B gb n cap xs i r j cc cb ccap w) (hp : p < 5) (he : conL cc1 = (conL cc).set p u) (h1 : u.oneCell' = true) :
    ConAt B gb n cap (setCon xs i r j cc1) i { r with f1 := r.f1.set j cc1 } j cc1 cb ccap (w.setCell ⟨cb, j * 5 + p, none⟩ u) := by
  have hil := (List.getElem?_eq_some_iff.1 hi).1
  have hS1 := C.back p u cc1 hp he h1
  obtain ⟨e1, e2⟩ := set_get (cc1 := cc1) hi hj
  obtain ⟨cb', ccap', C'⟩ := con_copy hS1 (by rw [hn]; exact List.length_set.symm) e1 e2
  obtain ⟨g', cap', he', _, _, gcells, hgt⟩ := Kd.S_form hS (by omega)
  injection he' with he1
  injection he1 with he1
  injection he1 with he1
  subst he1
  have hne : gb ≠ cb := fun e => by
    subst e
    obtain ⟨cells, hct⟩ := C.typ
    rw [hgt] at hct
    injection hct with hct
    injection hct with _ hct
    exact absurd hct (by decide)
  have hsl := C'.slot
  rw [World.cell?_setCell_far _ _ _ _ (show cb ≠ gb from fun e => hne e.symm), C.slot] at hsl
  injection hsl with hsl
  injection hsl with hs1 hs2 hs3
  injection hs1 with hs1
  injection hs1 with hs1
  subst hs1 hs3
  exact C'
theorem setCon_two {xs : List SRg} {i j : Nat} {r : SRg} {c1 c2 : S44} : setCon (setCon xs i r j c1) i { r with f1 := r.f1.set j c1 } j c2 = setCon xs i r j c2 := by
  unfold setCon
  simp only [List.set_set]
theorem setCon_len {xs : List SRg} {i j : Nat} {r : SRg} {c1 : S44} : (setCon xs i r j c1).length = xs.length := List.length_set
/-! ### a drawn region by hand: two operations may come up; one of the last ones -/
section
variable {P : Program} {ops : Array Oper} {Q : Exit → Act → World → Prop} {md : Region.Mode} {S : World → Prop} {ds : List Nat}
theorem lastI_ {i : Nat} {N : Option Tmp} {oi : Oper} {fuel : Nat} {l : Array Bool} {a : Act} {w : World} (l' : Array Bool) (hi : ops[i]? = some oi) (hN : oi.dst = N) (hc : readyB md ops l l' i = true) (hd : i ∈ ds)
    (h : ∀ K : Act → World → Prop, Shut (∀ a' w', wpAnyLast P md ops Q S ds fuel l' a' w' → K a' w') → if Region.wanted oi (yielded ops a.tmps) = true then Oper.wp P oi a w K Q else K (a.put N undef) w) :
    wpAnyLast P md ops Q S ds (fuel + 1) l a w := by
  subst hN
  simp only [readyB, Bool.and_eq_true, beq_iff_eq] at hc
  obtain ⟨h1, h2⟩ := hc
  subst h2
  refine wpAnyLast_all h1 (by simp) (fun j hj => ?_)
  obtain rfl := List.mem_singleton.1 hj
  exact wpOp_step hi (fun K' hK => h K' (fun a w hW => hK a w ⟨fun hn => absurd hd hn, hW⟩))
theorem twoI_ {i j : Nat} {Ni Nj : Option Tmp} {oi oj : Oper} {fuel : Nat} {l : Array Bool} {a : Act} {w : World} (li lj : Array Bool) (hi : ops[i]? = some oi) (hj : ops[j]? = some oj) (hNi : oi.dst = Ni) (hNj : oj.dst = Nj)
    (hc : (Region.ready md ops l == [i, j] && l.setIfInBounds i true == li && l.setIfInBounds j true == lj) = true)
    (h1 : ∀ K : Act → World → Prop, Shut (∀ a' w', S w' → (S w' → wpAnyLast P md ops Q S ds fuel li a' w') → K a' w') → if Region.wanted oi (yielded ops a.tmps) = true then Oper.wp P oi a w K Q else K (a.put Ni undef) w)
    (h2 : ∀ K : Act → World → Prop, Shut (∀ a' w', S w' → (S w' → wpAnyLast P md ops Q S ds fuel lj a' w') → K a' w') → if Region.wanted oj (yielded ops a.tmps) = true then Oper.wp P oj a w K Q else K (a.put Nj undef) w) :
    wpAnyLast P md ops Q S ds (fuel + 1) l a w := by
  subst hNi
  subst hNj
  simp only [Bool.and_eq_true, beq_iff_eq] at hc
  obtain ⟨⟨h3, h4⟩, h5⟩ := hc
  subst h4
  subst h5
  refine wpAnyLast_all h3 (by simp) (fun k hk => ?_)
  rcases List.mem_cons.1 hk with rfl | hk
  · exact wpOp_step hi (fun K' hK => h1 K' (fun a w hS hW => hK a w ⟨fun _ _ => hS, hW hS⟩))
  · obtain rfl := List.mem_singleton.1 hk
    exact wpOp_step hj (fun K' hK => h2 K' (fun a w hS hW => hK a w ⟨fun _ _ => hS, hW hS⟩))
end
theorem Sm.S5 {B H g rb : Nat} {w0 w : World} {a0 a1 a2 c0 c1 c2 c3 u v : Value} {xs : List SRg} {r : SRg} {e a f q : Option Value} (h : Sm B H g rb w0 #[a0, a1, a2, u] #[c0, c1, c2, c3] v xs r e a f q w) :
    w.cell? ⟨rb, 0, none⟩ = some c0 ∧ w.cell? ⟨rb, 1, none⟩ = some c1 ∧ w.cell? ⟨rb, 2, none⟩ = some c2 ∧ w.cell? ⟨rb, 3, none⟩ = some c3 ∧ w.cell? ⟨g, 3, none⟩ = some u :=
  ⟨h.R.cell 0 _ rfl, h.R.cell 1 _ rfl, h.R.cell 2 _ rfl, h.R.cell 3 _ rfl, h.G.cell 3 _ rfl⟩
theorem s5_alloc {p0 p1 p2 p3 p4 : Addr} {c0 c1 c2 c3 u : Value} {w : World} {o : Obj} (h : w.cell? p0 = some c0 ∧ w.cell? p1 = some c1 ∧ w.cell? p2 = some c2 ∧ w.cell? p3 = some c3 ∧ w.cell? p4 = some u) :
    (w.alloc o).cell? p0 = some c0 ∧ (w.alloc o).cell? p1 = some c1 ∧ (w.alloc o).cell? p2 = some c2 ∧ (w.alloc o).cell? p3 = some c3 ∧ (w.alloc o).cell? p4 = some u :=
  have hb := below_alloc (Below.refl _ w) o
  ⟨pw_cell_below hb h.1, pw_cell_below hb h.2.1, pw_cell_below hb h.2.2.1, pw_cell_below hb h.2.2.2.1, pw_cell_below hb h.2.2.2.2⟩
variable {ops : Array Oper} {o : Oper} {rest : List Oper} {act : Act} {Qq : Exit → Act → World → Prop} {W : World}
theorem zero_push {B : Nat} {v : Value} {xs : List SRg} (hgd : o.guard = none) (s y : Operand) (ho : o.op = .call { callee := .builtin .append, args := #[s, y], argTypes := #[22, 22] })
    (hm : xs.length ≤ 1000000) (hS : Kd.S jR tR W B (fun _ => True) v xs) (hB : B ≤ W.heap.size) (hs : act.eval s = v) (hy : act.eval y = .slice (some ⟨W.heap.size, 0, none⟩) 1 1)
    (h : ∀ A2 c2 w1, Kd.S jR tR w1 B (fun _ => True) (.slice A2 (xs.length + 1) c2) (xs ++ [z28]) → Below B W w1 → W.grownBy w1 v.ownBlock → wpList Tryd.prog ops Qq rest (act.put o.dst (.slice A2 (xs.length + 1) c2)) w1) :
    wpList Tryd.prog ops Qq (o :: rest) act (W.alloc (.cells #[.string ⟨#[]⟩, .slice none 0 0, .slice none 0 0, .string ⟨#[]⟩] 28)) := by
  refine Kd.S_append jR (w0 := W) B hgd s y 22 28 _ 80 ho undRg infoRg rfl (by decide) (by decide) v xs z28 [.string ⟨#[]⟩, .slice none 0 0, .slice none 0 0, .string ⟨#[]⟩] (fun _ => True) (fun _ => False) hs hy
    (k28_mkM W B (fun _ => False) z28 (Kd.R_nil _ _ _ _ _) (Kd.R_nil _ _ _ _ _)) (fun _ hk => hk.elim) (fun _ _ => trivial) (Kd.S_mono hS (fun k hk => ⟨trivial, fun e => e⟩)) (Below.refl _ _) hB (by omega) (fun v1 w1 hS1 hb hg ha => ?_)
  obtain ⟨A2, c2, hv⟩ := Kd.S_slice hS1
  rw [List.length_append, List.length_singleton] at hv
  subst hv
  exact h A2 c2 w1 hS1 hb hg
/-- A rung was appended. -/
theorem mod_zero {B g gb c2 cap : Nat} {A2 : Option Addr} {w wz w1 : World} {x : SLd} {cx : Array Value} (Sz : Since w wz) (Xz : Blk w.heap.size tL cx wz) (Gz : Blk g tL #[.int .i64 x.f0, .int .i64 x.f1, .int .i64 x.f2, .slice (some ⟨gb, 0, none⟩) x.f3.length cap] wz)
    (hS0 : Kd.S jR tR wz B (fun _ => True) (.slice (some ⟨gb, 0, none⟩) x.f3.length cap) x.f3) (hS : Kd.S jR tR w1 B (fun _ => True) (.slice A2 (x.f3.length + 1) c2) (x.f3 ++ [z28])) (hb : Below B wz w1) (hg : wz.grownBy w1 (Value.slice (some ⟨gb, 0, none⟩) x.f3.length cap).ownBlock) (hB : w.heap.size ≤ B) (hN : w.heap.size < B) (hgB : B ≤ g) :
    Mod w x g cx (w1.setCell ⟨g, 3, none⟩ (.slice A2 (x.f3.length + 1) c2)) := by
  have G1 : Blk g tL #[.int .i64 x.f0, .int .i64 x.f1, .int .i64 x.f2, .slice (some ⟨gb, 0, none⟩) x.f3.length cap] w1 := ⟨(hg.block g Gz.lt (Kd.R_ne (Kd.S_R hS0) Gz.out (by decide))).trans Gz.out⟩
  have X1 : Blk w.heap.size tL cx w1 := ⟨(hb.block _ hN).trans Xz.out⟩
  have S1 : Since w w1 := ⟨Sz.out.trans (hb.mono hB)⟩
  have hl : (x.f3 ++ [z28]).length = x.f3.length + 1 := by simp
  refine ⟨x.f0, x.f3 ++ [z28], A2, c2, Lib.hid ⟨S1.out.setCell (by show w.heap.size ≤ g; omega) _⟩, Lib.hid (blk_far' (by omega) X1), Lib.hid ?_, Lib.hid ?_, Lib.hid (fun h => by have := congrArg List.length h.2.2.2; rw [hl] at this; omega)⟩
  · rw [hl]
    have := blk_set G1.out 3 (.slice A2 (x.f3.length + 1) c2)
    exact ⟨by simpa using this⟩
  · rw [← hl] at hS ⊢
    exact row_of_S (Kd.S_set hS G1.out neL 3 (.slice A2 (x.f3 ++ [z28]).length c2))
theorem zero_g {g gb cap : Nat} {B : Nat} {cg : Array Value} {wz w1 : World} {xs : List SRg} {n : Nat} (Gz : Blk g tL cg wz) (hS0 : Kd.S jR tR wz B (fun _ => True) (.slice (some ⟨gb, 0, none⟩) n cap) xs) (hg : wz.grownBy w1 (Value.slice (some ⟨gb, 0, none⟩) n cap).ownBlock) : Blk g tL cg w1 :=
  ⟨(hg.block g Gz.lt (Kd.R_ne (Kd.S_R hS0) Gz.out (by decide))).trans Gz.out⟩
end Go.Proofs.YtdbjjbooalkkbaaDoor.P

/- The parser's memory: the block of its struct, its three rows; what appends and stores do to them. -/
import Derived.Test.YtdbjjbooalkkbaaGreatDoorPQ0
import Derived.Maps.AppendAt
namespace Go.Proofs.YtdbjjbooalkkbaaGreatDoor.P
open Go.RowKit Go.Proofs.YtdbjjbooalkkbaaGreatDoorW.PrintWords Go.Proofs.YtdbjjbooalkkbaaGreatDoorW.PrintLast Go.Proofs.YtdbjjbooalkkbaaGreatDoorW.PrintMore

/-! ### a block -/
structure Bx (g t : Nat) (cs : Array Value) (w : World) : Prop where out : w.heap[g]? = some (.cells cs t (0, 0))
section
variable {g t : Nat} {cs : Array Value} {w w' : World}
theorem Bx.lt (h : Bx g t cs w) : g < w.heap.size := blk_lt h.out
theorem Bx.on (h : Bx g t cs w) (hb : Below w.heap.size w w') : Bx g t cs w' := ⟨blk_below h.out hb⟩
theorem Bx.alloc (h : Bx g t cs w) (o : Obj) : Bx g t cs (w.alloc o) := ⟨blk_alloc h.out o⟩
theorem Bx.drew (h : Bx g t cs w) : Bx g t cs w.drew := ⟨h.out⟩
theorem Bx.new (w : World) (t : Nat) (cs : Array Value) : Bx w.heap.size t cs (w.alloc (.cells cs t)) := ⟨heap_alloc_new w _⟩
theorem Bx.cell (h : Bx g t cs w) (i : Nat) (v : Value) (hi : cs[i]? = some v) : w.cell? ⟨g, i, none⟩ = some v := by rw [blk_cell h.out, hi]
theorem Bx.frozen (h : Bx g t cs w) (i : Nat) : w.frozen? ⟨g, i, none⟩ = false := blk_frozen h.out i
theorem Bx.put (h : Bx g t cs w) (i : Nat) (v : Value) : Bx g t (cs.setIfInBounds i v) (w.setCell ⟨g, i, none⟩ v) := ⟨blk_set h.out i v⟩
theorem Bx.far (h : Bx g t cs w) {p : Addr} (hp : g ≠ p.block) (v : Value) : Bx g t cs (w.setCell p v) := ⟨blk_far h.out hp v⟩
theorem Bx.grown (h : Bx g t cs w) {row : Option Nat} (hg : w.grownBy w' row) (hne : row ≠ some g) : Bx g t cs w' := ⟨blk_grown h.out hg (Ne.symm hne)⟩
end

/-! ### what a method leaves alone -/
/-- Blocks of these types may be the parser's rows. -/
def rowT (t : Nat) : Bool := t == 47 || t == 51 || t == 75 || t == 3
def noRow (o : Obj) : Prop := ∀ cs t r, o = .cells cs t r → rowT t = false
structure Did (B b : Nat) (w w' : World) : Prop where
  below : Below B w w'
  kept : ∀ k o, w.heap[k]? = some o → k ≠ b → noRow o → w'.heap[k]? = some o
section
variable {B b : Nat} {w w1 w2 : World}
theorem Did.refl (B b : Nat) (w : World) : Did B b w w := ⟨Below.refl _ _, fun _ _ h _ _ => h⟩
theorem Did.of_below (h : Below w.heap.size w w1) (hB : B ≤ w.heap.size) : Did B b w w1 := ⟨h.mono hB, fun _ _ hk _ _ => blk_below hk h⟩
theorem Did.trans (h : Did B b w w1) (k : Did B b w1 w2) : Did B b w w2 := ⟨h.below.trans k.below, fun i o hi hb hr => k.kept i o (h.kept i o hi hb hr) hb hr⟩
theorem Did.on (h : Did B b w w1) (k : Below w1.heap.size w1 w2) (hB : B ≤ w1.heap.size) : Did B b w w2 := h.trans (.of_below k hB)
theorem Did.put (h : Did B b w w1) (hB : B ≤ b) (j : Nat) (v : Value) : Did B b w (w1.setCell ⟨b, j, none⟩ v) :=
  h.trans ⟨(Below.refl _ _).setCell hB v, fun k _ hk hb _ => (Below.heap_setCell w1 ⟨b, j, none⟩ v k hb).trans hk⟩
/-- A row has been written. -/
theorem Did.row (h : Did B b w w1) {row : Option Nat} (hg : w1.grownBy w2 row) (hB : B ≤ w1.heap.size) (hrow : ∀ k, row = some k → B ≤ k ∧ ∃ cells t, w1.heap[k]? = some (.cells cells t (0, 0)) ∧ rowT t = true) : Did B b w w2 :=
  h.trans ⟨(Below.refl _ _).grown hg hB (fun k hk => (hrow k hk).1), fun k o hk _ hr => by
    by_cases he : row = some k
    · obtain ⟨_, cells, t, hc, ht⟩ := hrow k he
      rw [hc] at hk
      have := hr _ _ _ (Option.some.inj hk).symm
      rw [ht] at this
      cases this
    · exact blk_grown hk hg (Ne.symm he)⟩
/-- A cell of a row has been written. -/
theorem Did.cellRow (h : Did B b w w1) {g t : Nat} {cs : Array Value} (hb : Bx g t cs w1) (hg : B ≤ g) (ht : rowT t = true) (j : Nat) (v : Value) : Did B b w (w1.setCell ⟨g, j, none⟩ v) :=
  h.trans ⟨(Below.refl _ _).setCell hg v, fun k o hk _ hr => by
    by_cases he : k = g
    · subst he
      rw [hb.out] at hk
      have := hr _ _ _ (Option.some.inj hk).symm
      rw [ht] at this
      cases this
    · exact (Below.heap_setCell w1 ⟨g, j, none⟩ v k he).trans hk⟩
theorem Did.bx (h : Did B b w w1) {g t : Nat} {cs : Array Value} (hb : Bx g t cs w) (hne : g ≠ b) (ht : rowT t = false) : Bx g t cs w1 :=
  ⟨h.kept g _ hb.out hne (fun cs' t' r e => by cases e; exact ht)⟩
end

/-! ### append, the source row lying anywhere -/
section
variable {P : Program} {ops : Array Oper} {o : Oper} {a : Act} {Q : Exit → Act → World → Prop} {K : Act → World → Prop} {α : Type} {W : World}
theorem kd_R_app (d : Kd α) (base : Nat) (t ty e : TypeId) (z : Value) (bytes : Nat) (ht : P.underlying t = some (.slice e)) (hinfo : (P.info? e).map (fun i => (i.zero, i.size, i.bytes)) = some (some z, d.sz, bytes)) (hz : z.cells.size = d.sz) (hs0 : 0 < d.sz) (hb0 : 0 < bytes)
    (v : Value) (xs : List α) (p : α) (cs : List Value) (g te : Nat) (ok okp : Nat → Prop) (hg : W.heap[g]? = some (.cells cs.toArray te (0, 0))) (hp : d.M W base okp p cs) (hokp : ∀ k, okp k → ok k ∧ some k ≠ v.ownBlock) (hfresh : ∀ k, W.heap.size ≤ k → ok k)
    (HO : d.R e W base ok v xs) (hbase : base ≤ W.heap.size) (hl : (xs.length + 1) * bytes ≤ 140737488355328) :
    ∃ v1 w1, (Builtin.append_ #[t, t] ty #[v, .slice (some ⟨g, 0, none⟩) 1 1]).run P W = .ok v1 w1 ∧ d.R e w1 base ok v1 (xs ++ [p]) ∧ W.grownBy w1 v.ownBlock ∧ (v1.ownBlock = v.ownBlock ∨ v1.ownBlock = some W.heap.size) := by
  obtain ⟨h0, inner, hown, hr⟩ := HO
  obtain ⟨i0, hi, hzz⟩ := Option.map_eq_some_iff.1 hinfo
  simp only [Prod.mk.injEq] at hzz
  obtain ⟨hz0, hz1, hz2⟩ := hzz
  have hlen : xs.length + 1 ≤ 140737488355328 := Nat.le_trans (Nat.le_mul_of_pos_right _ hb0) hl
  obtain ⟨v1, w1, hrun, hown1, hg1, _, hat⟩ := run_append_own_at (P := P) W base t ty e i0 z d.sz bytes ht hi hz0 hz1 hz2 hz hs0 v xs.length inner hown ⟨g, 0, none⟩ 1 1 cs (by rw [d.K_len (d.K_of_M hp)]; simp)
    (by simpa using World.news_of_block (cs := cs.toArray) (t := te) (fr := (0, 0)) hg) (d.K_one (d.K_of_M hp)) (by simp only [maxLen]; omega) hl hbase
  exact ⟨v1, w1, hrun, Kd.R_appended h0 hr hp hokp hfresh hown1 hg1 (hat.imp id (fun e => ⟨_, e, Nat.le_refl _⟩)), hg1, hat⟩
theorem kd_S_app (d : Kd α) (base : Nat) (t ty e : TypeId) (z : Value) (bytes : Nat) (ht : P.underlying t = some (.slice e)) (hinfo : (P.info? e).map (fun i => (i.zero, i.size, i.bytes)) = some (some z, d.sz, bytes)) (hz : z.cells.size = d.sz) (hs0 : 0 < d.sz) (hb0 : 0 < bytes)
    (v : Value) (xs : List α) (p : α) (cs : List Value) (g te : Nat) (ok okp : Nat → Prop) (hg : W.heap[g]? = some (.cells cs.toArray te (0, 0))) (hp : d.M W base okp p cs) (hokp : ∀ k, okp k → ok k ∧ some k ≠ v.ownBlock) (hfresh : ∀ k, W.heap.size ≤ k → ok k)
    (HO : Kd.S d e W base (fun k => ok k ∧ ¬ okp k) v xs) (hbase : base ≤ W.heap.size) (hl : (xs.length + 1) * bytes ≤ 140737488355328) :
    ∃ v1 w1, (Builtin.append_ #[t, t] ty #[v, .slice (some ⟨g, 0, none⟩) 1 1]).run P W = .ok v1 w1 ∧ Kd.S d e w1 base ok v1 (xs ++ [p]) ∧ W.grownBy w1 v.ownBlock ∧ (v1.ownBlock = v.ownBlock ∨ v1.ownBlock = some W.heap.size) := by
  obtain ⟨f, hf, hR⟩ := Kd.S_tag HO xs.length okp (fun _ hk h2 => h2.2 hk)
  obtain ⟨v1, w1, h1, h2, h3, h4⟩ := kd_R_app (P := P) (Kd.tag f d) base t ty e z bytes ht hinfo hz hs0 hb0 v xs.zipIdx (p, xs.length) cs g te ok okp hg (d.M_mono (fun k hk => ⟨hk, hf k hk⟩) hp) hokp hfresh (Kd.R_mono hR (fun _ hk => hk.1)) hbase (by rw [List.length_zipIdx]; exact hl)
  rw [← Kd.zip_snoc] at h2
  exact ⟨v1, w1, h1, ⟨f, h2⟩, h3, h4⟩
theorem step_app {s x : Operand} {t : TypeId} {v u : Value} (hw : Region.wanted o (yielded ops a.tmps) = true) (ho : o.op = .call { callee := .builtin .append, args := #[s, x], argTypes := #[t, t] }) (hs : a.eval s = v) (hx : a.eval x = u)
    {v1 : Value} {w1 : World} (hr : (Builtin.append_ #[t, t] o.type #[v, u]).run P W = .ok v1 w1) (h : K (a.put o.dst v1) w1) : if Region.wanted o (yielded ops a.tmps) = true then Oper.wp P o a W K Q else K (a.put o.dst undef) W := by
  rw [if_pos hw]
  unfold Oper.wp execOp
  simp only [ho, resolve, invoke, builtin, Sem.run_bind, Sem.run_pure, Result.andThen_ok, List.map_toArray, List.map_cons, List.map_nil, hs, hx, hr]
  exact h
end
end Go.Proofs.YtdbjjbooalkkbaaGreatDoor.P

/- A row of rungs put together out of what came in and a rung more: what each operation leaves. -/
import Derived.Test.YtdbjjbooalkkbaaDoorXPApp
import Derived.Test.YtdbjjbooalkkbaaDoorXLad
import Derived.Test.YtdbjjbooalkkbaaDoorPQ0
import Derived.Deep.AppendLies
set_option linter.unusedVariables false
set_option linter.unusedSimpArgs false
namespace Go.Proofs.YtdbjjbooalkkbaaDoor.P
open Go.RowKit Go.Proofs.YtdbjjbooalkkbaaDoorW.PrintWords Go.Proofs.YtdbjjbooalkkbaaDoorW.PrintLast Go.Proofs.YtdbjjbooalkkbaaDoorW.PrintMore

/-! ### what came in, by its blocks -/
theorem C_foot {α : Type} {d : Kd α} {w : World} {A : Option Addr} {n : Nat} {xs : List α} (ok : Nat → Prop) (hok : ∀ k, k < w.heap.size → ok k) (hK : ∀ x c, d.K w x c → Kd.FK d w ok x c) (h : d.C w A n xs) : Kd.F d w ok A n xs := by
  intro W' hW
  obtain ⟨hl, hm, hn⟩ := h
  refine ⟨hl, hm, fun hp => ?_⟩
  obtain ⟨ad, rfl, hc⟩ := hn hp
  refine ⟨ad, rfl, fun j p hj => ?_⟩
  obtain ⟨c, hcl, hR, hcc⟩ := hc j p hj
  refine ⟨c, hcl, hK _ _ hR W' hW, fun i u hu => ?_⟩
  have h1 := hcc i u hu
  have h2 := World.block_lt_of_cell? w _ h1
  exact (World.cell?_of_block (w := w) (hW _ (hok _ h2) h2)).trans h1
theorem fk_con {w : World} {ok : Nat → Prop} (x : S44) (c : List Value) (h : k44.K w x c) : Kd.FK k44 w ok x c := fun W' _ => by
  obtain rfl := k44_open h
  exact k44_mk W' x
theorem fk_coil {w : World} {ok : Nat → Prop} (x : S47) (c : List Value) (h : k47.K w x c) : Kd.FK k47 w ok x c := fun W' _ => by
  obtain rfl := k47_open h
  exact k47_mk W' x
theorem fk_rung {w : World} (x : S28) (c : List Value) (h : k28.K w x c) : Kd.FK k28 w (fun k => k < w.heap.size) x c := by
  obtain ⟨A1, c1, A2, c2, rfl, l1, g1, l2, g2⟩ := k28_open h
  exact k28_mkF w _ x l1 (C_foot _ (fun _ h => h) fk_con g1) l2 (C_foot _ (fun _ h => h) fk_coil g2)
theorem f_rungs {w : World} {A : Option Addr} {n : Nat} {xs : List S28} (h : k28.C w A n xs) : Kd.F k28 w (fun k => k < w.heap.size) A n xs := C_foot _ (fun _ h => h) fk_rung h
theorem foot_on {α : Type} {d : Kd α} {w w' : World} {A : Option Addr} {n : Nat} {xs : List α} {B : Nat} (h : Kd.F d w (fun k => k < B) A n xs) (hb : Below B w w') (hB : B ≤ w.heap.size) : Kd.F d w' (fun k => k < B) A n xs := fun W' hW =>
  h W' (fun k hk hlt => (hW k hk (Nat.lt_of_lt_of_le hlt hb.size)).trans (hb.block k hk))
theorem foot_onK {α : Type} {d : Kd α} {w w' : World} {x : α} {c : List Value} {B : Nat} (h : Kd.FK d w (fun k => k < B) x c) (hb : Below B w w') (hB : B ≤ w.heap.size) : Kd.FK d w' (fun k => k < B) x c := fun W' hW =>
  h W' (fun k hk hlt => (hW k hk (Nat.lt_of_lt_of_le hlt hb.size)).trans (hb.block k hk))

/-! ### the region -/
def zL : Array Value := #[.int .i64 0, .int .i64 0, .int .i64 0, .slice none 0 0]
structure St (B : Nat) (w0 : World) (xs : List S28) (r : S28) (e a b : Option Value) (l : Option Nat) (w : World) : Prop where
  bel : Below B w0 w
  le : B ≤ w.heap.size
  E : ∀ v, e = some v → Kd.N k28 28 w B (fun k => l ≠ some k) v []
  A : ∀ v, a = some v → Kd.N k28 28 w B (fun k => l ≠ some k) v xs
  R : ∀ v, b = some v → Kd.N k28 28 w B (fun k => k < B ∨ some k = v.ownBlock) v [r]
  ne : ∀ u v, e = some u ∨ a = some u → b = some v → ∀ k, u.ownBlock = some k → v.ownBlock ≠ some k
  L : ∀ g, l = some g → B ≤ g ∧ Blk g 24 zL w
section
variable {B : Nat} {w0 w w1 : World} {xs : List S28} {r : S28} {e a b : Option Value} {l : Option Nat} {u v v1 : Value}
theorem St.new (w : World) (h : w.heap.size = B) : St B w xs r none none none none w :=
  ⟨Below.refl _ _, by omega, fun v h => (by cases h), fun v h => (by cases h), fun v h => (by cases h), fun u v h => (by rcases h with h | h <;> cases h), fun g h => (by cases h)⟩
theorem St.on (h : St B w0 xs r e a b l w) (hb : Below w.heap.size w w1) : St B w0 xs r e a b l w1 :=
  ⟨h.bel.trans (hb.mono h.le), Nat.le_trans h.le hb.size, fun v hv => Kd.N_below (h.E v hv) hb, fun v hv => Kd.N_below (h.A v hv) hb, fun v hv => Kd.N_below (h.R v hv) hb, h.ne, fun g hg => ⟨(h.L g hg).1, (h.L g hg).2.on hb⟩⟩
theorem St.drew (h : St B w0 xs r e a b l w) : St B w0 xs r e a b l w.drew := h.on (below_drew (Below.refl _ _))
theorem St.ladder (h : St B w0 xs r e a b none w) : St B w0 xs r e a b (some w.heap.size) (w.alloc (.cells zL 24)) := by
  have h1 := h.on (below_alloc (Below.refl _ _) (.cells zL 24))
  have hm : ∀ {v : Value} {ys : List S28}, Kd.N k28 28 w B (fun k => (none : Option Nat) ≠ some k) v ys → Kd.N k28 28 (w.alloc (.cells zL 24)) B (fun k => some w.heap.size ≠ some k) v ys := fun hN =>
    Kd.N_alloc (Kd.N_mono (Kd.N_bound hN) (fun k hk he => by have := hk.2; injection he with he; omega)) _
  exact ⟨h1.bel, h1.le, fun v hv => hm (h.E v hv), fun v hv => hm (h.A v hv), h1.R, h1.ne, fun g hg => by cases hg; exact ⟨h.le, Blk.new _ _ _⟩⟩
/-- The empty literal. -/
theorem St.empty (h : St B w0 xs r none a b l w) (hN : Kd.N k28 28 w1 B (fun k => l ≠ some k) v []) (hg : w.grownBy w1 none) (hb : Below B w0 w1) (ha : ∃ k, v.ownBlock = some k ∧ w.heap.size ≤ k) : St B w0 xs r (some v) a b l w1 := by
  have h1 := h.on (show Below w.heap.size w w1 from ⟨hg.os, hg.tape, hg.output, hg.size, fun k hk => hg.block k hk (by simp)⟩)
  refine ⟨h1.bel, h1.le, fun v hv => by cases hv; exact hN, h1.A, h1.R, fun u v2 hu hv k hk => ?_, h1.L⟩
  rcases hu with hu | hu
  · cases hu
    obtain ⟨k2, h2, h3⟩ := ha
    rw [hk] at h2
    cases h2
    intro he
    exact absurd (Kd.N_lt (h.R v2 hv) k he) (by omega)
  · exact h1.ne u v2 (.inr hu) hv k hk
/-- The literal of one rung. -/
theorem St.one (h : St B w0 xs r e a none l w) (hN : Kd.N k28 28 w1 B (fun k => k < B ∨ k = w.heap.size) v [r]) (hg : w.grownBy w1 none) (hb : Below B w0 w1) (ha : ∃ k, v.ownBlock = some k ∧ w.heap.size ≤ k) : St B w0 xs r e a (some v) l w1 := by
  have h1 := h.on (show Below w.heap.size w w1 from ⟨hg.os, hg.tape, hg.output, hg.size, fun k hk => hg.block k hk (by simp)⟩)
  obtain ⟨k2, h2, h3⟩ := ha
  have hk2 : k2 = w.heap.size := by
    rcases hN.1 k2 h2 with h5 | h'
    · have h4 := h.le; omega
    · exact h'
  have hN' : Kd.N k28 28 w1 B (fun k => k < B ∨ some k = v.ownBlock) v [r] := Kd.N_mono hN (fun k hk => hk.imp id (fun h => by rw [h2, hk2, h]))
  refine ⟨h1.bel, h1.le, h1.E, h1.A, fun v hv => by cases hv; exact hN', fun u v2 hu hv k hk => ?_, h1.L⟩
  cases hv
  rw [h2]
  intro he
  cases he
  rcases hu with hu | hu
  · exact absurd (Kd.N_lt (h.E u hu) k2 hk) (by omega)
  · exact absurd (Kd.N_lt (h.A u hu) k2 hk) (by omega)
theorem St.rows (h : St B w0 xs r (some u) none b l w) (hN : Kd.N k28 28 w1 B (fun k => l ≠ some k) v xs) (hg : w.grownBy w1 u.ownBlock) (hb : Below B w0 w1) (ha : v.ownBlock = u.ownBlock ∨ ∃ k, v.ownBlock = some k ∧ w.heap.size ≤ k) : St B w0 xs r none (some v) b l w1 := by
  have hu := h.E u rfl
  refine ⟨hb, Nat.le_trans h.le hg.size, fun v h => (by cases h), fun v hv => (by cases hv; exact hN), fun v2 hv => ?_, fun u2 v2 hu2 hv k hk => ?_, fun g hl => ?_⟩
  · refine Kd.N_grown (h.R v2 hv) hg (fun k hk he => ?_)
    rcases hk with hk | hk
    · exact absurd (Kd.N_base hu k he.symm) (by omega)
    · exact h.ne u v2 (.inl rfl) hv k he.symm hk.symm
  · rcases hu2 with hu2 | hu2
    · cases hu2
    · cases hu2
      rcases ha with ha | ⟨k2, h2, h3⟩
      · exact h.ne u v2 (.inl rfl) hv k (by rw [← ha]; exact hk)
      · rw [hk] at h2
        cases h2
        intro he
        exact absurd (Kd.N_lt (h.R v2 hv) k he) (by omega)
  · obtain ⟨h1, hc⟩ := h.L g hl
    exact ⟨h1, ⟨(hg.block g hc.lt (Kd.N_ne hu hc.out (by decide))).trans hc.out⟩⟩

/-- Behind the second append. -/
structure Fin (B : Nat) (w0 : World) (ys : List S28) (v : Value) (l : Option Nat) (w : World) : Prop where
  bel : Below B w0 w
  le : B ≤ w.heap.size
  V : Kd.N k28 28 w B (fun k => l ≠ some k) v ys
  L : ∀ g, l = some g → B ≤ g ∧ Blk g 24 zL w
theorem Fin.on {ys : List S28} (h : Fin B w0 ys v l w) (hb : Below w.heap.size w w1) : Fin B w0 ys v l w1 :=
  ⟨h.bel.trans (hb.mono h.le), Nat.le_trans h.le hb.size, Kd.N_below h.V hb, fun g hg => ⟨(h.L g hg).1, (h.L g hg).2.on hb⟩⟩
theorem St.last (h : St B w0 xs r none (some u) (some v) l w) (hN : Kd.N k28 28 w1 B (fun k => l ≠ some k) v1 (xs ++ [r])) (hg : w.grownBy w1 u.ownBlock) (hb : Below B w0 w1) : Fin B w0 (xs ++ [r]) v1 l w1 := by
  have hu := h.A u rfl
  refine ⟨hb, Nat.le_trans h.le hg.size, hN, fun g hl => ?_⟩
  obtain ⟨h1, hc⟩ := h.L g hl
  exact ⟨h1, ⟨(hg.block g hc.lt (Kd.N_ne hu hc.out (by decide))).trans hc.out⟩⟩
theorem own_below {w w1 : World} (hg : w.grownBy w1 none) : Below w.heap.size w w1 := ⟨hg.os, hg.tape, hg.output, hg.size, fun k hk => hg.block k hk (by simp)⟩

theorem lit_N {ok okp : Nat → Prop} {ys : List S28} {inner : List Value} (w : World) (hrep : Reps (Kd.FK k28 w okp) k28.sz ys inner) (hok : ∀ k, okp k → ok k) (hfresh : ok w.heap.size) (hbase : B ≤ w.heap.size) (hm : ys.length ≤ 9223372036854775807) :
    Kd.N k28 28 (w.alloc (.cells inner.toArray 28)) B ok (.slice (some ⟨w.heap.size, 0, none⟩) ys.length ys.length) ys := by
  have hr : (Kd.raw k28.sz).R 28 (w.alloc (.cells inner.toArray 28)) B (fun k => k = w.heap.size) (.slice (some ⟨w.heap.size, 0, none⟩) (Kd.chunks k28.sz ys.length inner).length (Kd.chunks k28.sz ys.length inner).length) (Kd.chunks k28.sz ys.length inner) := by
    have h2 := World.ownsRow_lit (base := B) (e := 28) (size := k28.sz) w inner.toArray ys.length hbase (by simpa [maxLen] using hm) (by simpa using hrep.1)
    refine ⟨fun k hk => by simpa [Value.ownBlock] using hk.symm, inner, ?_, ?_⟩
    · rw [Kd.chunks_length]
      have h3 : (w.alloc (.cells inner.toArray 28)).ownsRow B 28 k28.sz (.slice (some ⟨w.heap.size, 0, none⟩) ys.length ys.length) ys.length inner := by simpa using h2
      exact h3
    · exact Kd.reps_raw hrep (fun y c hk => ⟨k28.K_len (Kd.FK_now hk), k28.K_one (Kd.FK_now hk)⟩)
  rw [Kd.chunks_length] at hr
  exact Kd.N_made (okp := okp) hr (World.grownBy_alloc w _ none) ⟨w.heap.size, rfl, Nat.le_refl _⟩ (Kd.chunks_length _ _ _) (fun j y c hy hc => by rw [Kd.chunks_get hc]; exact hrep.2 j y hy) hok hfresh
theorem St.emptyA (h : St B w0 xs r none a b l w) : St B w0 xs r (some (.slice (some ⟨w.heap.size, 0, none⟩) 0 0)) a b l (w.alloc (.cells #[] 28)) :=
  h.empty (lit_N (ok := fun k => l ≠ some k) (okp := fun _ => False) (ys := []) (inner := []) w (Reps.none _ _) (fun _ hk => hk.elim) (fun e => absurd (h.L _ e).2.lt (Nat.lt_irrefl _)) h.le (by simp)) (World.grownBy_alloc w _ none) (h.bel.alloc h.le _) ⟨w.heap.size, rfl, Nat.le_refl _⟩
theorem St.oneA {cs : List Value} (hK : Kd.FK k28 w0 (fun k => k < B) r cs) (hB0 : B ≤ w0.heap.size) (h : St B w0 xs r e a none l w) : St B w0 xs r e a (some (.slice (some ⟨w.heap.size, 0, none⟩) 1 1)) l (w.alloc (.cells cs.toArray 28)) :=
  h.one (lit_N (ok := fun k => k < B ∨ k = w.heap.size) (okp := fun k => k < B) (ys := [r]) (inner := cs) w
    (by have := (Reps.none (Kd.FK k28 w (fun k => k < B)) k28.sz).snoc (foot_onK hK h.bel hB0) (k28.K_len (Kd.FK_now hK)); simpa using this) (fun _ hk => .inl hk) (.inr rfl) h.le (by simp))
    (World.grownBy_alloc w _ none) (h.bel.alloc h.le _) ⟨w.heap.size, rfl, Nat.le_refl _⟩
theorem Fin.ladder {ys : List S28} (h : Fin B w0 ys v none w) : Fin B w0 ys v (some w.heap.size) (w.alloc (.cells zL 24)) := by
  have h1 := h.on (below_alloc (Below.refl _ _) (.cells zL 24))
  exact ⟨h1.bel, h1.le, Kd.N_alloc (Kd.N_mono (Kd.N_bound h.V) (fun k hk he => by have := hk.2; injection he with he; omega)) _, fun g hg => by cases hg; exact ⟨h.le, Blk.new _ _ _⟩⟩
theorem Blk.frozen {g t : Nat} {cs : Array Value} (h : Blk g t cs w) (i : Nat) : w.frozen? ⟨g, i, none⟩ = false := blk_frozen h.out i

/-! ### at a step of the region -/
theorem infoRg : (Tryd.prog.info? 28).map (fun i => (i.zero, i.size, i.bytes)) = some (some (.agg #[(.string ⟨#[]⟩), (.slice none 0 0), (.slice none 0 0), (.string ⟨#[]⟩)]), 4, 80) := by kernel_rfl
theorem undRg : Tryd.prog.underlying 22 = some (.slice 28) := by kernel_rfl
variable {ops : Array Oper} {o : Oper} {act : Act} {Q : Exit → Act → World → Prop} {Kc : Act → World → Prop} {W : World}
theorem step_rows (hw : Region.wanted o (yielded ops act.tmps) = true) (s x : Operand) (ho : o.op = .call { callee := .builtin .append, args := #[s, x], argTypes := #[22, 22] })
    (A : Option Addr) (m c : Nat) (hx : act.eval x = .slice A m c) (hF : Kd.F k28 w0 (fun k => k < B) A m xs) (hm : m ≤ 1000000) (hB0 : B ≤ w0.heap.size) (hS : St B w0 xs r (some u) none b l W) (hs : act.eval s = u)
    (h : ∀ v w1, St B w0 xs r none (some v) b l w1 → Kc (act.put o.dst v) w1) : if Region.wanted o (yielded ops act.tmps) = true then Oper.wp Tryd.prog o act W Kc Q else Kc (act.put o.dst undef) W := by
  have hE := hS.E u rfl
  refine Kd.N_append_rows_step k28 (w0 := w0) B hw s x 22 28 _ 80 ho undRg infoRg rfl (by decide) (by decide) u [] xs A m c (fun k => l ≠ some k) (fun k => k < B) hs hx hE (foot_on hF hS.bel hB0)
    (fun k hk => ⟨fun e => absurd (hS.L _ e).1 (by omega), fun he => absurd (Kd.N_base hE k he.symm) (by omega)⟩) (fun k hk e => absurd (hS.L _ e).2.lt (by omega)) hS.bel hS.le (by rw [List.length_nil]; omega) (fun v w1 hN hb hg ha => h v w1 ?_)
  rw [List.nil_append] at hN
  exact hS.rows hN hg hb ha
theorem step_last (hw : Region.wanted o (yielded ops act.tmps) = true) (s x : Operand) (ho : o.op = .call { callee := .builtin .append, args := #[s, x], argTypes := #[22, 22] })
    (hm : xs.length ≤ 1000000) (hS : St B w0 xs r none (some u) (some v) l W) (hs : act.eval s = u) (hx : act.eval x = v)
    (h : ∀ A2 c2 w1, Fin B w0 (xs ++ [r]) (.slice A2 (xs.length + 1) c2) l w1 → Kc (act.put o.dst (.slice A2 (xs.length + 1) c2)) w1) : if Region.wanted o (yielded ops act.tmps) = true then Oper.wp Tryd.prog o act W Kc Q else Kc (act.put o.dst undef) W := by
  have hA := hS.A u rfl
  have hR := hS.R v rfl
  obtain ⟨A', c', hv⟩ := Kd.N_slice hR
  rw [hv] at hR
  have hF := Kd.N_F hR
  refine Kd.N_append_rows_step k28 (w0 := w0) B hw s x 22 28 _ 80 ho undRg infoRg rfl (by decide) (by decide) u xs [r] A' 1 c' (fun k => l ≠ some k) _ hs (hx.trans hv) hA hF
    (fun k hk => ⟨fun e => ?_, fun he => ?_⟩) (fun k hk e => absurd (hS.L _ e).2.lt (by omega)) hS.bel hS.le (by omega) (fun v2 w1 hN hb hg ha => ?_)
  rotate_left
  rotate_left
  · obtain ⟨A2, c2, rfl⟩ := Kd.N_slice hN
    rw [List.length_append, List.length_singleton] at hN ⊢
    exact h A2 c2 w1 (hS.last hN hg hb)
  · rcases hk with hk | hk
    · exact absurd (hS.L _ e).1 (by omega)
    · exact Kd.N_ne hR (hS.L _ e).2.out (by decide) hk
  rcases hk with hk | hk
  · exact absurd (Kd.N_base hA k he.symm) (by omega)
  · exact hS.ne u v (.inr rfl) rfl k he.symm (by rw [hv]; exact hk.symm)
/-- The ladder is written. -/
theorem put4 {g t : Nat} {cs : Array Value} {w : World} (h : Blk g t cs w) (hs : cs.size = 4) (a b c d : Value) :
    Blk g t #[a, b, c, d] ((((w.setCell ⟨g, 0, none⟩ a).setCell ⟨g, 1, none⟩ b).setCell ⟨g, 2, none⟩ c).setCell ⟨g, 3, none⟩ d) ∧ ∀ k, k ≠ g → ((((w.setCell ⟨g, 0, none⟩ a).setCell ⟨g, 1, none⟩ b).setCell ⟨g, 2, none⟩ c).setCell ⟨g, 3, none⟩ d).heap[k]? = w.heap[k]? := by
  have h1 : ∀ {cs : Array Value} {w : World}, Blk g t cs w → ∀ (i : Nat) (v : Value), Blk g t (cs.setIfInBounds i v) (w.setCell ⟨g, i, none⟩ v) := fun h i v => ⟨blk_set h.out i v⟩
  refine ⟨?_, fun k hk => ?_⟩
  · have := h1 (h1 (h1 (h1 h 0 a) 1 b) 2 c) 3 d
    match cs, hs with
    | ⟨[p, q, r, s]⟩, _ => simpa using this
  · rw [Below.heap_setCell _ _ _ _ hk, Below.heap_setCell _ _ _ _ hk, Below.heap_setCell _ _ _ _ hk, Below.heap_setCell _ _ _ _ hk]
end
end Go.Proofs.YtdbjjbooalkkbaaDoor.P

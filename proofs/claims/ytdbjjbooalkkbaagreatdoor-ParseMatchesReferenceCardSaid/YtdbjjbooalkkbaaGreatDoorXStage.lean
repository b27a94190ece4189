/- The parser's rows under way: what an append, a literal, a store leave. -/
import Derived.Test.YtdbjjbooalkkbaaGreatDoorXPar
namespace Go.Proofs.YtdbjjbooalkkbaaGreatDoor.P
open Go.RowKit Go.Proofs.YtdbjjbooalkkbaaGreatDoorW.PrintWords Go.Proofs.YtdbjjbooalkkbaaGreatDoorW.PrintLast Go.Proofs.YtdbjjbooalkkbaaGreatDoorW.PrintMore

theorem infoR : (Tryz.prog.info? 47).map (fun i => (i.zero, i.size, i.bytes)) = some (some (.agg #[(.string ⟨#[]⟩), (.slice none 0 0), (.slice none 0 0), (.string ⟨#[]⟩)]), 4, 80) := by kernel_rfl
theorem infoI : (Tryz.prog.info? 3).map (fun i => (i.zero, i.size, i.bytes)) = some (some (.int .i64 0), 1, 8) := by kernel_rfl
theorem infoC : (Tryz.prog.info? 51).map (fun i => (i.zero, i.size, i.bytes)) = some (some (.agg #[(.int .i64 0), (.int .i64 0), (.int .i64 0), (.string ⟨#[]⟩), (.string ⟨#[]⟩)]), 5, 56) := by kernel_rfl
theorem infoQ : (Tryz.prog.info? 75).map (fun i => (i.zero, i.size, i.bytes)) = some (some (.agg #[(.int .i64 0), (.int .i64 0), (.int .i64 0)]), 3, 24) := by kernel_rfl
theorem undR : Tryz.prog.underlying 23 = some (.slice 47) := by kernel_rfl
theorem undI : Tryz.prog.underlying 26 = some (.slice 3) := by kernel_rfl
theorem undC : Tryz.prog.underlying 44 = some (.slice 51) := by kernel_rfl
theorem undQ : Tryz.prog.underlying 45 = some (.slice 75) := by kernel_rfl
abbrev kR := k47
abbrev kC := k51
abbrev kQ := k75
abbrev SR := S47
abbrev SC := S51
abbrev SQ := S75
abbrev kI : Kd Int := Kd.int .i64
theorem eR : ∀ q, q ∈ 47 :: kR.E → q = 47 ∨ q = 51 ∨ q = 75 := by
  intro q hq
  have : q ∈ [47, 51, 75] := hq
  simpa using this
theorem neR {t : Nat} (h : rowT t = false) : ∀ q, q ∈ 47 :: kR.E → q ≠ t := by
  intro q hq he
  subst he
  rcases eR q hq with rfl | rfl | rfl <;> cases h
theorem neI {t : Nat} (h : t ≠ 3) : ∀ q, q ∈ 3 :: kI.E → q ≠ t := by
  intro q hq
  have : q ∈ [3] := hq
  rw [List.mem_singleton.1 this]
  exact Ne.symm h
theorem neI' {t : Nat} (h : rowT t = false) : ∀ q, q ∈ 3 :: kI.E → q ≠ t := neI (by rintro rfl; cases h)
theorem neRI : ∀ q, q ∈ 47 :: kR.E → q ≠ 3 := by
  intro q hq
  rcases eR q hq with rfl | rfl | rfl <;> decide

structure Stage (B b t : Nat) (cs : Array Value) (w0 : World) (vR : Value) (xs : List SR) (vL : Value) (ls : List Int) (vJ : Value) (js : List Int) (lits : List (Nat × Nat × Array Value)) (w : World) : Prop where
  bx : Bx b t cs w
  le : B ≤ b
  ty : rowT t = false
  did : Did B b w0 w
  R : Kd.S kR 47 w B (fun _ => True) vR xs
  L : kI.R 3 w B (fun _ => True) vL ls
  J : kI.R 3 w B (fun _ => True) vJ js
  ne : ∀ k, vL.ownBlock = some k → vJ.ownBlock ≠ some k
  lit : ∀ p ∈ lits, Bx p.1 p.2.1 p.2.2 w ∧ p.1 ≠ b ∧ vR.ownBlock ≠ some p.1 ∧ vL.ownBlock ≠ some p.1 ∧ vJ.ownBlock ≠ some p.1
section
variable {B b t : Nat} {cs : Array Value} {w0 w w1 : World} {vR vL vJ : Value} {xs : List SR} {ls js : List Int} {lits : List (Nat × Nat × Array Value)}
theorem Stage.base (h : Stage B b t cs w0 vR xs vL ls vJ js lits w) : B ≤ w.heap.size := Nat.le_trans h.le (Nat.le_of_lt h.bx.lt)
theorem Stage.on (h : Stage B b t cs w0 vR xs vL ls vJ js lits w) (hb : Below w.heap.size w w1) : Stage B b t cs w0 vR xs vL ls vJ js lits w1 :=
  ⟨h.bx.on hb, h.le, h.ty, h.did.on hb h.base, Kd.S_below h.R hb, Kd.R_below h.L hb, Kd.R_below h.J hb, h.ne, fun p hp => ⟨(h.lit p hp).1.on hb, (h.lit p hp).2⟩⟩
theorem Stage.alloc (h : Stage B b t cs w0 vR xs vL ls vJ js lits w) (o : Obj) : Stage B b t cs w0 vR xs vL ls vJ js lits (w.alloc o) := h.on (below_alloc (Below.refl _ _) o)
theorem Stage.drew (h : Stage B b t cs w0 vR xs vL ls vJ js lits w) : Stage B b t cs w0 vR xs vL ls vJ js lits w.drew := h.on (below_drew (Below.refl _ _))
theorem Stage.bare (h : Stage B b t cs w0 vR xs vL ls vJ js lits w) : Stage B b t cs w0 vR xs vL ls vJ js [] w := ⟨h.bx, h.le, h.ty, h.did, h.R, h.L, h.J, h.ne, fun _ hp => by cases hp⟩
theorem Stage.since (h : Stage B b t cs w0 vR xs vL ls vJ js lits w) : Stage B b t cs w vR xs vL ls vJ js lits w := ⟨h.bx, h.le, h.ty, .refl _ _ _, h.R, h.L, h.J, h.ne, h.lit⟩
theorem Stage.from (h : Stage B b t cs w vR xs vL ls vJ js lits w1) (hd : Did B b w0 w) : Stage B b t cs w0 vR xs vL ls vJ js lits w1 := ⟨h.bx, h.le, h.ty, hd.trans h.did, h.R, h.L, h.J, h.ne, h.lit⟩
/-- A literal is made. -/
theorem Stage.made (h : Stage B b t cs w0 vR xs vL ls vJ js lits w) (t' : Nat) (cs' : Array Value) : Stage B b t cs w0 vR xs vL ls vJ js ((w.heap.size, t', cs') :: lits) (w.alloc (.cells cs' t')) := by
  have h2 := h.alloc (.cells cs' t')
  refine ⟨h2.bx, h2.le, h2.ty, h2.did, h2.R, h2.L, h2.J, h2.ne, fun p hp => ?_⟩
  rcases List.mem_cons.1 hp with rfl | hp
  · exact ⟨Bx.new w t' cs', fun e => absurd h.bx.lt (by have : w.heap.size = b := e; omega), fun e => absurd (Kd.S_lt h.R _ e) (by simp), fun e => absurd (Kd.R_lt h.L _ e) (by simp), fun e => absurd (Kd.R_lt h.J _ e) (by simp)⟩
  · exact h2.lit p hp
/-- A cell of the parser's block is written. -/
theorem Stage.put (h : Stage B b t cs w0 vR xs vL ls vJ js lits w) (j : Nat) (v : Value) : Stage B b t (cs.setIfInBounds j v) w0 vR xs vL ls vJ js lits (w.setCell ⟨b, j, none⟩ v) :=
  ⟨h.bx.put j v, h.le, h.ty, h.did.put h.le j v, Kd.S_set h.R h.bx.out (neR h.ty) j v, Kd.R_set h.L h.bx.out (neI' h.ty) j v, Kd.R_set h.J h.bx.out (neI' h.ty) j v, h.ne,
    fun p hp => ⟨(h.lit p hp).1.far (p := ⟨b, j, none⟩) (h.lit p hp).2.1 v, (h.lit p hp).2⟩⟩
theorem fresh_ne {v v1 : Value} {n g : Nat} (hat : v1.ownBlock = v.ownBlock ∨ v1.ownBlock = some n) (h : v.ownBlock ≠ some g) (hg : g < n) : v1.ownBlock ≠ some g := by
  rcases hat with e | e
  · rw [e]; exact h
  · rw [e]; intro e2; injection e2 with e2; omega
theorem bx_typed {b t e : Nat} {cs : Array Value} {w : World} (h : Bx b t cs w) {v : Value} (hv : ∀ k, v.ownBlock = some k → ∃ cells, w.heap[k]? = some (.cells cells e (0, 0))) (hne : e ≠ t) : v.ownBlock ≠ some b := by
  intro he
  obtain ⟨cells, hc⟩ := hv b he
  rw [h.out] at hc
  injection hc with hc
  injection hc with _ hc
  exact hne hc.symm
theorem Stage.neB (h : Stage B b t cs w0 vR xs vL ls vJ js lits w) : vR.ownBlock ≠ some b ∧ vL.ownBlock ≠ some b ∧ vJ.ownBlock ≠ some b :=
  ⟨bx_typed h.bx (Kd.S_typed h.R) (neR h.ty _ List.mem_cons_self), bx_typed h.bx (Kd.R_typed h.L) (neI' h.ty _ List.mem_cons_self), bx_typed h.bx (Kd.R_typed h.J) (neI' h.ty _ List.mem_cons_self)⟩
def litR (l : ByteArray) : List Value := [.string l, .slice none 0 0, .slice none 0 0, .string ⟨#[]⟩]
/-- p.Rungs = append(p.Rungs, r) -/
theorem Stage.appR (h : Stage B b t cs w0 vR xs vL ls vJ js lits w) {g : Nat} {l : ByteArray} (hl : (g, 47, (litR l).toArray) ∈ lits) (hlen : xs.length ≤ 1000000) (ty : TypeId) :
    ∃ v1 w1, (Builtin.append_ #[23, 23] ty #[vR, .slice (some ⟨g, 0, none⟩) 1 1]).run Tryz.prog w = .ok v1 w1 ∧ Stage B b t cs w0 v1 (xs ++ [⟨l, [], [], ⟨#[]⟩⟩]) vL ls vJ js lits w1 := by
  obtain ⟨v1, w1, h1, h2, h3, h4⟩ := kd_S_app (P := Tryz.prog) kR B 23 ty 47 _ 80 undR infoR rfl (by decide) (by decide) vR xs (⟨l, [], [], ⟨#[]⟩⟩ : SR) (litR l) g 47 (fun _ => True) (fun _ => False) (h.lit _ hl).1.out
    (k47_mkM w B _ ⟨l, [], [], ⟨#[]⟩⟩ (Kd.R_nil _ _ _ _ _) (Kd.R_nil _ _ _ _ _)) (fun _ hk => hk.elim) (fun _ _ => trivial) (Kd.S_mono h.R (fun _ _ => ⟨trivial, fun hk => hk⟩)) h.base (by omega)
  have hty := Kd.S_typed h.R
  refine ⟨v1, w1, h1, h.bx.grown h3 h.neB.1, h.le, h.ty, h.did.row h3 h.base (fun k hk => ⟨Kd.S_base h.R k hk, by obtain ⟨c, hc⟩ := hty k hk; exact ⟨c, _, hc, by decide⟩⟩), h2, Kd.R_over' h.L hty (neI (by decide)) h3, Kd.R_over' h.J hty (neI (by decide)) h3, h.ne, fun p hp => ?_⟩
  obtain ⟨a1, a2, a3, a4, a5⟩ := h.lit p hp
  exact ⟨a1.grown h3 a3, a2, fresh_ne h4 a3 a1.lt, a4, a5⟩
theorem Stage.appL (h : Stage B b t cs w0 vR xs vL ls vJ js lits w) {g : Nat} {x : Int} (hl : (g, 3, #[Value.int .i64 x]) ∈ lits) (hlen : ls.length ≤ 1000000) (ty : TypeId) :
    ∃ v1 w1, (Builtin.append_ #[26, 26] ty #[vL, .slice (some ⟨g, 0, none⟩) 1 1]).run Tryz.prog w = .ok v1 w1 ∧ Stage B b t cs w0 vR xs v1 (ls ++ [x]) vJ js lits w1 := by
  obtain ⟨v1, w1, h1, h2, h3, h4⟩ := kd_R_app (P := Tryz.prog) kI B 26 ty 3 _ 8 undI infoI rfl (by decide) (by decide) vL ls x [.int .i64 x] g 3 (fun _ => True) (fun _ => False) (h.lit _ hl).1.out
    rfl (fun _ hk => hk.elim) (fun _ _ => trivial) h.L h.base (by omega)
  have hty := Kd.R_typed h.L
  refine ⟨v1, w1, h1, h.bx.grown h3 h.neB.2.1, h.le, h.ty, h.did.row h3 h.base (fun k hk => ⟨Kd.R_base h.L k hk, by obtain ⟨c, hc⟩ := hty k hk; exact ⟨c, _, hc, by decide⟩⟩), Kd.S_over' h.R hty neRI h3, h2,
    Kd.R_mono (Kd.R_grown (Kd.R_tight rfl h.J) h3 (fun k hk he => h.ne k he.symm hk.symm)) (fun _ _ => trivial), fun k hk => ?_, fun p hp => ?_⟩
  · rcases h4 with e | e
    · rw [e] at hk; exact h.ne k hk
    · rw [e] at hk; injection hk with hk; intro e2; have := Kd.R_lt h.J k e2; omega
  · obtain ⟨a1, a2, a3, a4, a5⟩ := h.lit p hp
    exact ⟨a1.grown h3 a4, a2, a3, fresh_ne h4 a4 a1.lt, a5⟩
theorem Stage.appJ (h : Stage B b t cs w0 vR xs vL ls vJ js lits w) {g : Nat} {x : Int} (hl : (g, 3, #[Value.int .i64 x]) ∈ lits) (hlen : js.length ≤ 1000000) (ty : TypeId) :
    ∃ v1 w1, (Builtin.append_ #[26, 26] ty #[vJ, .slice (some ⟨g, 0, none⟩) 1 1]).run Tryz.prog w = .ok v1 w1 ∧ Stage B b t cs w0 vR xs vL ls v1 (js ++ [x]) lits w1 := by
  obtain ⟨v1, w1, h1, h2, h3, h4⟩ := kd_R_app (P := Tryz.prog) kI B 26 ty 3 _ 8 undI infoI rfl (by decide) (by decide) vJ js x [.int .i64 x] g 3 (fun _ => True) (fun _ => False) (h.lit _ hl).1.out
    rfl (fun _ hk => hk.elim) (fun _ _ => trivial) h.J h.base (by omega)
  have hty := Kd.R_typed h.J
  refine ⟨v1, w1, h1, h.bx.grown h3 h.neB.2.2, h.le, h.ty, h.did.row h3 h.base (fun k hk => ⟨Kd.R_base h.J k hk, by obtain ⟨c, hc⟩ := hty k hk; exact ⟨c, _, hc, by decide⟩⟩), Kd.S_over' h.R hty neRI h3,
    Kd.R_mono (Kd.R_grown (Kd.R_tight rfl h.L) h3 (fun k hk he => h.ne k hk.symm he.symm)) (fun _ _ => trivial), h2, fun k hk => ?_, fun p hp => ?_⟩
  · rcases h4 with e | e
    · rw [e]; exact h.ne k hk
    · rw [e]; intro e2; injection e2 with e2; have := Kd.R_lt h.L k hk; omega
  · obtain ⟨a1, a2, a3, a4, a5⟩ := h.lit p hp
    exact ⟨a1.grown h3 a5, a2, a3, a4, fresh_ne h4 a5 a1.lt⟩
end
end Go.Proofs.YtdbjjbooalkkbaaGreatDoor.P

/- The parser's last rung: read, its rows appended to, its jump told. -/
import Derived.Test.YtdbjjbooalkkbaaGreatDoorXStage
namespace Go.Proofs.YtdbjjbooalkkbaaGreatDoor.P
open Go.RowKit Go.Proofs.YtdbjjbooalkkbaaGreatDoorW.PrintWords Go.Proofs.YtdbjjbooalkkbaaGreatDoorW.PrintLast Go.Proofs.YtdbjjbooalkkbaaGreatDoorW.PrintMore

def lastR (xs : List SR) : SR := xs.getD (xs.length - 1) z47
def setR (xs : List SR) (x : SR) : List SR := xs.set (xs.length - 1) x
/-- Where the last rung lies. -/
structure Lies (B : Nat) (vR : Value) (xs : List SR) (g : Nat) (v1 v2 : Value) (w : World) : Prop where
  bx : ∃ cs, Bx g 47 cs w
  le : B ≤ g
  val : ∃ cap, vR = .slice (some ⟨g, 0, none⟩) xs.length cap
  c0 : w.cell? ⟨g, (xs.length - 1) * 4, none⟩ = some (.string (lastR xs).f0)
  c1 : w.cell? ⟨g, (xs.length - 1) * 4 + 1, none⟩ = some v1
  c2 : w.cell? ⟨g, (xs.length - 1) * 4 + 2, none⟩ = some v2
  c3 : w.cell? ⟨g, (xs.length - 1) * 4 + 3, none⟩ = some (.string (lastR xs).f3)
  l1 : ∃ A c, v1 = .slice A (lastR xs).f1.length c
  l2 : ∃ A c, v2 = .slice A (lastR xs).f2.length c
section
variable {B b t g : Nat} {cs : Array Value} {w0 w w1 : World} {vR vL vJ v1 v2 : Value} {xs : List SR} {ls js : List Int} {lits : List (Nat × Nat × Array Value)}
theorem Lies.on (h : Lies B vR xs g v1 v2 w) (hb : Below w.heap.size w w1) : Lies B vR xs g v1 v2 w1 :=
  ⟨by obtain ⟨cs, hc⟩ := h.bx; exact ⟨cs, hc.on hb⟩, h.le, h.val, pw_cell_below hb h.c0, pw_cell_below hb h.c1, pw_cell_below hb h.c2, pw_cell_below hb h.c3, h.l1, h.l2⟩
theorem Lies.frozen (h : Lies B vR xs g v1 v2 w) (j : Nat) : w.frozen? ⟨g, j, none⟩ = false := by
  obtain ⟨cs, hc⟩ := h.bx
  exact hc.frozen j
theorem toNat_last (n : Nat) : ((n - 1 : Nat) : Int).toNat = n - 1 := by omega
/-- The last element, lent out. -/
theorem Stage.lend (h : Stage B b t cs w0 vR xs vL ls vJ js lits w) (hp : 0 < xs.length) : ∃ (g cap : Nat) (oki : Nat → Prop) (v1 v2 : Value), vR = .slice (some ⟨g, 0, none⟩) xs.length cap ∧ Lies B vR xs g v1 v2 w ∧
    kC.R 51 w B oki v1 (lastR xs).f1 ∧ kQ.R 75 w B oki v2 (lastR xs).f2 ∧ (∀ k, oki k → k ≠ g) ∧ Kd.H kR 47 w B (fun _ => True) (.slice (some ⟨g, 0, none⟩) xs.length cap) xs ((xs.length - 1 : Nat) : Int) oki [.string (lastR xs).f0, v1, v2, .string (lastR xs).f3] := by
  obtain ⟨g, cap, rfl, hg, hlt, cells, hc⟩ := Kd.S_form h.R hp
  obtain ⟨oki, c, hcl, hM, hcc, hfr, hoki, hH⟩ := Kd.S_elem h.R z47 ((xs.length - 1 : Nat) : Int) (by omega) (by omega)
  rw [toNat_last] at hM hcc hfr
  obtain ⟨v1, v2, rfl, h1, h2⟩ := k47_openM hM
  refine ⟨g, cap, oki, v1, v2, rfl, ⟨⟨cells, ⟨hc⟩⟩, hg, ⟨cap, rfl⟩, hcc 0 _ rfl, hcc 1 _ rfl, hcc 2 _ rfl, hcc 3 _ rfl, ?_, ?_⟩, h1, h2, fun k hk => (hoki k hk).2, hH⟩
  · obtain ⟨A, c, e, _⟩ := Kd.R_reads h1; exact ⟨A, c, e⟩
  · obtain ⟨A, c, e, _⟩ := Kd.R_reads h2; exact ⟨A, c, e⟩
theorem Stage.last (h : Stage B b t cs w0 vR xs vL ls vJ js lits w) (hp : 0 < xs.length) : ∃ g v1 v2, Lies B vR xs g v1 v2 w := by
  obtain ⟨g, cap, _, v1, v2, _, hl, _⟩ := h.lend hp
  exact ⟨g, v1, v2, hl⟩
theorem Lies.same {g' : Nat} {u1 u2 : Value} (h : Lies B vR xs g v1 v2 w) (k : Lies B vR xs g' u1 u2 w) : g = g' ∧ v1 = u1 ∧ v2 = u2 := by
  obtain ⟨c, e⟩ := h.val
  obtain ⟨c', e'⟩ := k.val
  rw [e] at e'
  injection e' with e' _ _
  injection e' with e'
  injection e' with e' _ _
  subst e'
  have h1 := k.c1
  have h2 := k.c2
  rw [h.c1] at h1
  rw [h.c2] at h2
  exact ⟨rfl, Option.some.inj h1, Option.some.inj h2⟩
/-- Behind what was done to a row inside the last rung: the rung's cell is written. -/
theorem Stage.back {w2 : World} {cap : Nat} {oki : Nat → Prop} {c : List Value} {x' : SR} {seg : List Value} {j : Nat} (h : Stage B b t cs w0 vR xs vL ls vJ js lits w) (hp : 0 < xs.length) (hv : vR = .slice (some ⟨g, 0, none⟩) xs.length cap) (hg : B ≤ g)
    (hcs : ∃ cs, Bx g 47 cs w) {row : Option Nat} {e : Nat} (hgr : w.grownBy w2 row) (hrow : ∀ k, row = some k → B ≤ k ∧ k ≠ g ∧ ∃ cells, w.heap[k]? = some (.cells cells e (0, 0))) (he : e = 51 ∨ e = 75)
    (hH : Kd.H kR 47 w2 B (fun _ => True) (.slice (some ⟨g, 0, none⟩) xs.length cap) xs ((xs.length - 1 : Nat) : Int) oki c) (hj : j + seg.length ≤ 4) (hM : kR.M w2 B oki x' (c.take j ++ seg ++ c.drop (j + seg.length))) (v : Value) (hseg : seg = [v]) :
    Stage B b t cs w0 vR (setR xs x') vL ls vJ js [] (w2.setCell ⟨g, (xs.length - 1) * 4 + j, none⟩ v) := by
  subst hseg
  obtain ⟨rc, hrc⟩ := hcs
  have hety : rowT e = true := by rcases he with rfl | rfl <;> decide
  have hlt := hrc.lt
  have hgb : g ≠ b := by
    rintro rfl
    have h1 := hrc.out
    rw [h.bx.out] at h1
    injection h1 with h1
    injection h1 with _ h1
    have := h.ty
    rw [h1] at this
    cases this
  have hne : ∀ k, row = some k → k ≠ b := by
    rintro k hk rfl
    obtain ⟨_, _, cells, hc⟩ := hrow k hk
    rw [h.bx.out] at hc
    injection hc with hc
    injection hc with _ hc
    have := h.ty
    rw [hc, hety] at this
    cases this
  have hbx2 : Bx b t cs w2 := h.bx.grown hgr (fun e => hne b e rfl)
  have hrc2 : Bx g 47 rc w2 := hrc.grown hgr (fun e => (hrow g e).2.1 rfl)
  have hei : e ≠ 3 := by rcases he with rfl | rfl <;> decide
  have hL2 : kI.R 3 w2 B (fun _ => True) vL ls := Kd.R_mono (Kd.R_grown (Kd.R_tight rfl h.L) hgr (fun k hk e2 => by
    obtain ⟨_, _, cells, hc⟩ := hrow k e2.symm
    obtain ⟨cells', hc'⟩ := Kd.R_typed h.L k hk.symm
    rw [hc] at hc'
    injection hc' with hc'
    injection hc' with _ hc'
    exact hei hc')) (fun _ _ => trivial)
  have hJ2 : kI.R 3 w2 B (fun _ => True) vJ js := Kd.R_mono (Kd.R_grown (Kd.R_tight rfl h.J) hgr (fun k hk e2 => by
    obtain ⟨_, _, cells, hc⟩ := hrow k e2.symm
    obtain ⟨cells', hc'⟩ := Kd.R_typed h.J k hk.symm
    rw [hc] at hc'
    injection hc' with hc'
    injection hc' with _ hc'
    exact hei hc')) (fun _ _ => trivial)
  obtain ⟨h2, h3⟩ := Kd.S_seg (d := kR) (okg := fun _ => False) (okp := oki) (Kd.H_mono hH (fun k _ => ⟨trivial, fun hk => hk⟩)) (by omega) (by omega) (seg := [v]) (j := j) hj hM (fun k hk => .inl hk) (fun _ hk => hk.elim)
  rw [toNat_last] at h2 h3
  have hw : w2.setCells g ((xs.length - 1) * kR.sz + j) [v] = w2.setCell ⟨g, (xs.length - 1) * 4 + j, none⟩ v := rfl
  rw [hw] at h2 h3
  exact ⟨hbx2.far (p := ⟨g, _, none⟩) (Ne.symm hgb) v, h.le, h.ty,
    (h.did.row hgr h.base (fun k hk => by obtain ⟨q1, _, cells, hc⟩ := hrow k hk; exact ⟨q1, cells, e, hc, hety⟩)).cellRow hrc2 hg (by decide) _ v, by rw [hv]; exact h2,
    Kd.R_set hL2 hrc2.out (neI (by decide)) _ v, Kd.R_set hJ2 hrc2.out (neI (by decide)) _ v, h.ne, fun _ hk => by cases hk⟩
def conV (p : SC) : List Value := [.int .i64 p.f0, .int .i64 p.f1.f0, .int .i64 p.f1.f1, .string p.f2, .string p.f3]
def coilV (p : SQ) : List Value := [.int .i64 p.f0, .int .i64 p.f1.f0, .int .i64 p.f1.f1]
/-- r.Contacts = append(r.Contacts, p) -/
theorem Stage.contact (h : Stage B b t cs w0 vR xs vL ls vJ js lits w) (hp : 0 < xs.length) (hl : Lies B vR xs g v1 v2 w) {g1 : Nat} {p : SC} (hlit : Bx g1 51 (conV p).toArray w) (hlen : (lastR xs).f1.length ≤ 1000000) (ty : TypeId) :
    ∃ u w1, (Builtin.append_ #[44, 44] ty #[v1, .slice (some ⟨g1, 0, none⟩) 1 1]).run Tryz.prog w = .ok u w1 ∧ w1.cell? ⟨g, (xs.length - 1) * 4 + 1, none⟩ = some v1 ∧ w1.frozen? ⟨g, (xs.length - 1) * 4 + 1, none⟩ = false ∧ (∃ A c, u = .slice A ((lastR xs).f1 ++ [p]).length c) ∧
      Stage B b t cs w0 vR (setR xs { lastR xs with f1 := (lastR xs).f1 ++ [p] }) vL ls vJ js [] (w1.setCell ⟨g, (xs.length - 1) * 4 + 1, none⟩ u) := by
  obtain ⟨g', cap, oki, u1, u2, hv, hl2, R1, R2, hoki, hH⟩ := h.lend hp
  obtain ⟨rfl, rfl, rfl⟩ := hl.same hl2
  have hlt : g < w.heap.size := by obtain ⟨cs, hc⟩ := hl.bx; exact hc.lt
  have hH' := Kd.H_widen hH
  obtain ⟨u, w1, a1, a2, a3, a4⟩ := kd_R_app (P := Tryz.prog) kC B 44 ty 51 _ 56 undC infoC rfl (by decide) (by decide) v1 (lastR xs).f1 p (conV p) g1 51 (fun k => oki k ∨ True ∧ w.heap.size ≤ k) (fun _ => False) hlit.out
    (k51_mkM w B _ p) (fun _ hk => hk.elim) (fun k hk => .inr ⟨trivial, hk⟩) (Kd.R_mono R1 (fun _ hk => .inl hk)) h.base (by omega)
  have hty := Kd.R_typed R1
  have hk1 : ∀ k, v1.ownBlock = some k → oki k := fun k hk => R1.1 k hk
  have R2' : kQ.R 75 w1 B oki v2 (lastR xs).f2 := Kd.R_over' R2 hty (by intro q hq; have : q ∈ [75] := hq; rw [List.mem_singleton.1 this]; decide) a3
  have hrow : ∀ k, v1.ownBlock = some k → B ≤ k ∧ k ≠ g ∧ ∃ cells, w.heap[k]? = some (.cells cells 51 (0, 0)) := fun k hk => ⟨Kd.R_base R1 k hk, hoki k (hk1 k hk), hty k hk⟩
  obtain ⟨rc, hrc⟩ := hl.bx
  have hrc1 := hrc.grown a3 (fun e => (hrow g e).2.1 rfl)
  refine ⟨u, w1, a1, ?_, hrc1.frozen _, Kd.R_slice a2, ?_⟩
  · exact (World.cell?_of_block (a3.block g hlt (fun e => (hrow g e.symm).2.1 rfl))).trans hl.c1
  · exact h.back hp hv hl.le ⟨rc, hrc⟩ a3 hrow (.inl rfl) (Kd.H_grown hH' a3 (fun k hk => .inl (hk1 k hk))) (seg := [u]) (j := 1) (by simp)
      (k47_mkM w1 B _ { lastR xs with f1 := (lastR xs).f1 ++ [p] } a2 (Kd.R_mono R2' (fun _ hk => .inl hk))) u rfl
/-- r.Coils = append(r.Coils, p) -/
theorem Stage.coil (h : Stage B b t cs w0 vR xs vL ls vJ js lits w) (hp : 0 < xs.length) (hl : Lies B vR xs g v1 v2 w) {g1 : Nat} {p : SQ} (hlit : Bx g1 75 (coilV p).toArray w) (hlen : (lastR xs).f2.length ≤ 1000000) (ty : TypeId) :
    ∃ u w1, (Builtin.append_ #[45, 45] ty #[v2, .slice (some ⟨g1, 0, none⟩) 1 1]).run Tryz.prog w = .ok u w1 ∧ w1.cell? ⟨g, (xs.length - 1) * 4 + 2, none⟩ = some v2 ∧ w1.frozen? ⟨g, (xs.length - 1) * 4 + 2, none⟩ = false ∧ (∃ A c, u = .slice A ((lastR xs).f2 ++ [p]).length c) ∧
      Stage B b t cs w0 vR (setR xs { lastR xs with f2 := (lastR xs).f2 ++ [p] }) vL ls vJ js [] (w1.setCell ⟨g, (xs.length - 1) * 4 + 2, none⟩ u) := by
  obtain ⟨g', cap, oki, u1, u2, hv, hl2, R1, R2, hoki, hH⟩ := h.lend hp
  obtain ⟨rfl, rfl, rfl⟩ := hl.same hl2
  have hlt : g < w.heap.size := by obtain ⟨cs, hc⟩ := hl.bx; exact hc.lt
  have hH' := Kd.H_widen hH
  obtain ⟨u, w1, a1, a2, a3, a4⟩ := kd_R_app (P := Tryz.prog) kQ B 45 ty 75 _ 24 undQ infoQ rfl (by decide) (by decide) v2 (lastR xs).f2 p (coilV p) g1 75 (fun k => oki k ∨ True ∧ w.heap.size ≤ k) (fun _ => False) hlit.out
    (k75_mkM w B _ p) (fun _ hk => hk.elim) (fun k hk => .inr ⟨trivial, hk⟩) (Kd.R_mono R2 (fun _ hk => .inl hk)) h.base (by omega)
  have hty := Kd.R_typed R2
  have hk1 : ∀ k, v2.ownBlock = some k → oki k := fun k hk => R2.1 k hk
  have R1' : kC.R 51 w1 B oki v1 (lastR xs).f1 := Kd.R_over' R1 hty (by intro q hq; have : q ∈ [51] := hq; rw [List.mem_singleton.1 this]; decide) a3
  have hrow : ∀ k, v2.ownBlock = some k → B ≤ k ∧ k ≠ g ∧ ∃ cells, w.heap[k]? = some (.cells cells 75 (0, 0)) := fun k hk => ⟨Kd.R_base R2 k hk, hoki k (hk1 k hk), hty k hk⟩
  obtain ⟨rc, hrc⟩ := hl.bx
  have hrc1 := hrc.grown a3 (fun e => (hrow g e).2.1 rfl)
  refine ⟨u, w1, a1, ?_, hrc1.frozen _, Kd.R_slice a2, ?_⟩
  · exact (World.cell?_of_block (a3.block g hlt (fun e => (hrow g e.symm).2.1 rfl))).trans hl.c2
  · exact h.back hp hv hl.le ⟨rc, hrc⟩ a3 hrow (.inr rfl) (Kd.H_grown hH' a3 (fun k hk => .inl (hk1 k hk))) (seg := [u]) (j := 2) (by simp)
      (k47_mkM w1 B _ { lastR xs with f2 := (lastR xs).f2 ++ [p] } (Kd.R_mono R1' (fun _ hk => .inl hk)) a2) u rfl
/-- r.Jump = s -/
theorem Stage.jump (h : Stage B b t cs w0 vR xs vL ls vJ js lits w) (hp : 0 < xs.length) (hl : Lies B vR xs g v1 v2 w) (s : ByteArray) :
    Stage B b t cs w0 vR (setR xs { lastR xs with f3 := s }) vL ls vJ js [] (w.setCell ⟨g, (xs.length - 1) * 4 + 3, none⟩ (.string s)) := by
  obtain ⟨g', cap, oki, u1, u2, hv, hl2, R1, R2, hoki, hH⟩ := h.lend hp
  obtain ⟨rfl, rfl, rfl⟩ := hl.same hl2
  exact h.back hp hv hl.le hl.bx (row := none) (e := 75) ⟨rfl, rfl, rfl, Nat.le_refl _, fun _ _ _ => rfl⟩ (fun k hk => by cases hk) (.inr rfl) hH (seg := [.string s]) (j := 3) (by simp)
      (k47_mkM w B _ { lastR xs with f3 := s } R1 R2) _ rfl
/-- p.jumps[len(p.jumps)-1] = x -/
theorem Stage.jumpN (h : Stage B b t cs w0 vR xs vL ls vJ js lits w) (hp : 0 < js.length) (x : Int) : ∃ g cap, vJ = .slice (some ⟨g, 0, none⟩) js.length cap ∧ (∃ u, w.cell? ⟨g, js.length - 1, none⟩ = some u) ∧ w.frozen? ⟨g, js.length - 1, none⟩ = false ∧
    Stage B b t cs w0 vR xs vL ls vJ (js.set (js.length - 1) x) [] (w.setCell ⟨g, js.length - 1, none⟩ (.int .i64 x)) := by
  obtain ⟨g, cap, rfl, hg, hlt, cells, hc⟩ := Kd.R_form h.J hp
  obtain ⟨c, hcl, hM, hcc, hfr⟩ := Kd.R_elem h.J 0 ((js.length - 1 : Nat) : Int) (by omega) (by omega)
  rw [toNat_last] at hM hcc hfr
  have hc1 : c.length = 1 := hcl
  obtain ⟨h2, h3⟩ := Kd.R_seg h.J ((js.length - 1 : Nat) : Int) (by omega) (by omega) (c := c) (seg := [.int .i64 x]) (j := 0) (x' := x) (okp := fun _ => False) hcl (by rw [toNat_last]; exact hcc) (by show 0 + 1 ≤ 1; omega) (by
    show c.take 0 ++ [Value.int .i64 x] ++ c.drop (0 + 1) = [Value.int .i64 x]
    rw [List.drop_of_length_le (by omega)]
    rfl) (fun _ hk => hk.elim)
  rw [toNat_last] at h2 h3
  have hw : w.setCells g ((js.length - 1) * kI.sz + 0) [.int .i64 x] = w.setCell ⟨g, js.length - 1, none⟩ (.int .i64 x) := by
    show w.setCell ⟨g, (js.length - 1) * 1 + 0, none⟩ _ = _
    rw [Nat.mul_one, Nat.add_zero]
  rw [hw] at h2 h3
  have hb : Bx g 3 cells w := ⟨hc⟩
  have hgb : b ≠ g := fun e => h.neB.2.2 (by rw [e]; simp [Value.ownBlock])
  have hgL : vL.ownBlock ≠ some g := fun e => h.ne g e (by simp [Value.ownBlock])
  refine ⟨g, cap, rfl, ?_, hb.frozen _, h.bx.far (p := ⟨g, _, none⟩) hgb _, h.le, h.ty, h.did.cellRow hb hg (by decide) _ _, Kd.S_set h.R hb.out neRI _ _,
    Kd.R_mono (Kd.R_far (Kd.R_tight rfl h.L) (p := ⟨g, js.length - 1, none⟩) (fun k hk e => hgL (by rw [← hk]; exact congrArg some e)) _) (fun _ _ => trivial), h2, h.ne, fun _ hk => by cases hk⟩
  have h4 := hcc 0 (c[0]'(by omega)) (List.getElem?_eq_getElem (by omega))
  exact ⟨_, by have e : (js.length - 1) * kI.sz + 0 = js.length - 1 := by show (js.length - 1) * 1 + 0 = _; omega
               rwa [e] at h4⟩
end
end Go.Proofs.YtdbjjbooalkkbaaGreatDoor.P

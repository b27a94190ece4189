/- What the rows of this seat share: one wrap that hands the contract the listed variables, the sizes and the world's shape; data that reads, as values of a kind. -/
import Derived.Test.YtdbjjbooalkkbaaGreatDoorYW
import Derived.Test.YtdbjjbooalkkbaaGreatDoorXLaid
import Derived.Handed
import Derived.HandedShaped
import Derived.LaidLaws
import Derived.LaidMore
import Derived.Lay
import Derived.OpenShut
import Derived.WideShapes
import Derived.Lib.LaidU8
import Derived.Lib.LaidTab
namespace Go.Proofs.YtdbjjbooalkkbaaGreatDoor.P
open Go.RowKit Go.Proofs.YtdbjjbooalkkbaaGreatDoorW.PrintWords Go.WideShapes

section
variable {H : Type} {enc : TypeId × Value → H}
theorem returns_full {a : Assume} {C : Checked} {os : Os} {f : FuncId} {fn : Func} {s : ChangeSpec} {conds : List PathCond} {apart fresh handsOn again : Bool} {X : World → Array Value → Prop}
    (hX : ∀ (w w' : World) (args : Array Value), w.heap = w'.heap → X w args → X w' args)
    (own : ownKnob C.prog.godebug = none) (started : os.Started) (noInit : C.prog.inits.idxOf? f = none) (hfn : C.prog.funcs[f]? = some fn)
    (witness : ∃ (w : World) (tape : Tape) (i : Input), w.os = os ∧ (w.forCall tape i).Shaped C.prog ∧ i.vars = [] ∧ Input.okWide C.prog (w.forCall tape i) .any w.heap.size f i ∧
      ((s.pre enc C.prog fn conds apart (w.forCall tape i).memory i.args ∧ X (w.forCall tape i).memory i.args) ∧ sizedMet enc C.prog fn (OpenSpec.ofChange s) apart (w.forCall tape i).memory i.args) ∧ a.holds C.prog (lone (Frame.enter C.prog f i.args .normal) [] (w.forCall tape i)))
    (contract : ∀ (W : World) (base : Nat) (args : Array Value) (ds gs : List (DataW H)) (before : List MemPlace),
      (∀ (j : Nat) t v, fn.params[j]? = some t → args[j]? = some v → Value.okWide C.prog W .any base t v) →
      DataW.Whole enc C.prog fn.params.toList s.vars apart W args.toList ds gs before →
      (DataW.weightsEach C.prog (fn.params.toList ++ s.plain.varTypes C.prog) (ds ++ gs)).all (· ≤ reachBytes) = true → X W args → W.ShapedOpen C.prog →
      Calls C.prog f args W fun e W' => ∃ v, e = .returned v ∧ s.post enc C.prog fn apart fresh handsOn again W args v W') :
    ReturnsInHanded a C os f .any (fun w args => (s.pre enc C.prog fn conds apart w args ∧ X w args) ∧ sizedMet enc C.prog fn (OpenSpec.ofChange s) apart w args) (s.post enc C.prog fn apart fresh handsOn again) := by
  refine returnsInHanded_of_calls own started noInit witness ?_
  intro w tape i _ hsh _ hok hpre _
  obtain ⟨_, _, _, fn', hfn', _, _, _, _, hval⟩ := hok
  have e : fn' = fn := Option.some.inj (hfn'.symm.trans hfn)
  subst e
  obtain ⟨⟨⟨ds, gs, before, hw, hc⟩, hx⟩, hz⟩ := hpre
  have hw' := DataW.Whole.of_heap (w' := w.forCall tape i) (by rfl) hw
  refine (contract (w.forCall tape i) w.heap.size i.args ds gs before hval hw' (hz.weights hw) (hX _ _ _ (by rfl) hx) hsh).mono fun e W' ⟨v, he, hp⟩ => ?_
  subst he
  exact ChangeSpec.post_blind hp
end

/-! Listed variables -/
theorem reads_of {P : Program} {w : World} {l : List (String × DataW Unit)} (hp : l.filter (fun x => x.2.handleName?.isSome) = []) (h : laidMetH P l w) (n : String) (d : DataW Unit) (hm : (n, d) ∈ l) : Lib.VarReads P w n d := by
  unfold laidMetH at h
  rw [hp] at h
  exact Lib.laidMet.reads h hm
theorem tab_of_reads {P : Program} {W : World} {name : String} {k : IntKind} {zs : List Int} {g : Nat} {t e : TypeId} {n : Nat}
    (hg : P.globalNamed name = some g) (hty : (P.globals[g]?).map (·.type) = some t) (ht : P.underlying t = some (.array n e)) (he : P.underlying e = some (.int k)) (hce : P.cellsOf e = 1) (hct : P.cellsOf t = n)
    (h : Lib.VarReads P W name (Lib.tabData k zs)) : Lib.TabIs P W name k zs := by
  obtain ⟨g', t', cs, fuel, p, hg', ht', hvar, hd⟩ := h
  obtain rfl := Option.some.inj (hg.symm.trans hg')
  obtain rfl := Option.some.inj (hty.symm.trans ht')
  unfold Lib.TabIs
  rw [hvar, ← Lib.cells_of_tab ht he hce hct hd]
/-- An interface variable that reads as a value of a type holds one. -/
theorem iface_of_reads {P : Program} {W : World} {name nm : String} {d : DataW Unit} {g : Nat} {t : TypeId} {ms : Array (String × TypeId)}
    (hg : P.globalNamed name = some g) (hty : (P.globals[g]?).map (·.type) = some t) (ht : P.underlying t = some (.interface ms)) (h : Lib.VarReads P W name (.iface nm d)) : ∃ tp p, W.var? P name = some #[.iface tp p] := by
  obtain ⟨g', t', cs, fuel, p, hg', ht', hvar, hd⟩ := h
  obtain rfl := Option.some.inj (hg.symm.trans hg')
  obtain rfl := Option.some.inj (hty.symm.trans ht')
  obtain ⟨l⟩ := cs
  cases fuel with
  | zero => simp [DataW.trod] at hd
  | succ fuel =>
    match l, hd with
    | [], hd => simp [DataW.trod, ht] at hd
    | c :: c2 :: r, hd => simp [DataW.trod, ht] at hd
    | [c], hd =>
      cases c with
      | iface u v => exact ⟨u, v, hvar⟩
      | _ => simp [DataW.trod, ht] at hd
/-- An array of strings, cell for cell. -/
theorem strs_of_reads {P : Program} {W : World} {name : String} {bs : List (List UInt8)} {g : Nat} {t e : TypeId} {n : Nat}
    (hg : P.globalNamed name = some g) (hty : (P.globals[g]?).map (·.type) = some t) (ht : P.underlying t = some (.array n e)) (he : P.underlying e = some .string) (hce : P.cellsOf e = 1)
    (h : Lib.VarReads P W name (.agg (bs.map fun b => .lit (.string b)))) (i : Nat) (hi : i < n) : W.cell? ⟨g, i, none⟩ = some (.string ⟨(bs.getD i []).toArray⟩) := by
  obtain ⟨g', t', cs, fuel, p, hg', ht', hvar, hd⟩ := h
  obtain rfl := Option.some.inj (hg.symm.trans hg')
  obtain rfl := Option.some.inj (hty.symm.trans ht')
  obtain ⟨f2, d, q, h1, h2⟩ := Lib.array_elem ht hd i hi
  rw [hce, Nat.mul_one] at h2
  rw [World.var?_cell hg hvar i]
  cases f2 with
  | zero => simp [DataW.trod] at h2
  | succ f2 =>
    have hlen : ((cs.toList.drop i).take 1) = [] ∨ ∃ c, ((cs.toList.drop i).take 1) = [c] := by
      cases hq : (cs.toList.drop i) with
      | nil => left; rfl
      | cons c r => right; exact ⟨c, rfl⟩
    rcases hlen with e0 | ⟨c, e0⟩
    · rw [e0] at h2; simp [DataW.trod, he] at h2
    · rw [e0] at h2
      have hc : cs[i]? = some c := by
        have : ((cs.toList.drop i).take 1)[0]? = some c := by rw [e0]; rfl
        simpa using this
      rw [hc]
      cases c with
      | string s =>
        simp only [DataW.trod, he] at h2
        split at h2
        · simp only [Option.some.injEq, Prod.mk.injEq] at h2
          obtain ⟨rfl, _⟩ := h2
          simp only [List.getElem?_map, Option.map_eq_some_iff] at h1
          obtain ⟨b, hb, hbe⟩ := h1
          have : b = s.data.toList := by simpa using hbe
          rw [List.getD_eq_getElem?_getD, hb, Option.getD_some, this]
        · cases h2
      | _ => simp [DataW.trod, he] at h2

/-! Data that reads, as a value of a kind -/
def Opens {α : Type} (P : Program) (T : TypeId) (d : Kd α) (good : α → Prop) : Prop :=
  ∀ {H : Type} (enc : TypeId × Value → H) (W : World) (sp : Nat → Bool) (held : Bool) (fuel : Nat) (cs : List Value) (y : DataW H × List MemPlace), DataW.trod enc P W 0 sp held fuel T cs = some y → ∃ x, d.K W x cs ∧ good x
theorem Opens.int {P : Program} {T : TypeId} {k : IntKind} (ht : P.underlying T = some (.int k)) : Opens P T (Kd.int k) (fun n => (Lit.int k n).wf = true) := by
  intro H enc W sp held fuel cs y h
  cases fuel with
  | zero => simp [DataW.trod] at h
  | succ fuel =>
    match cs, h with
    | [], h => simp [DataW.trod, ht] at h
    | c :: c2 :: r, h => simp [DataW.trod, ht] at h
    | [c], h =>
      cases c with
      | int k' n =>
        simp only [DataW.trod, ht] at h
        split at h
        · rename_i hk
          obtain ⟨rfl, hw⟩ := hk
          exact ⟨n, rfl, hw⟩
        · cases h
      | _ => simp [DataW.trod, ht] at h
theorem Opens.string {P : Program} {T : TypeId} (ht : P.underlying T = some .string) : Opens P T Kd.string (fun s => s.size ≤ maxLen) := by
  intro H enc W sp held fuel cs y h
  cases fuel with
  | zero => simp [DataW.trod] at h
  | succ fuel =>
    match cs, h with
    | [], h => simp [DataW.trod, ht] at h
    | c :: c2 :: r, h => simp [DataW.trod, ht] at h
    | [c], h =>
      cases c with
      | string s =>
        simp only [DataW.trod, ht] at h
        split at h
        · rename_i hk
          exact ⟨s, rfl, hk⟩
        · cases h
      | _ => simp [DataW.trod, ht] at h
/-- The fields from offset o on. -/
def OpensF {α : Type} (P : Program) (fs : List Field) (o : Nat) (d : Kd α) (good : α → Prop) : Prop :=
  ∀ {H : Type} (enc : TypeId × Value → H) (W : World) (sp : Nat → Bool) (held : Bool) (fuel : Nat) (cs : List Value) (xs : List (DataW H × List MemPlace)),
    (fs.mapM fun f => DataW.trod enc P W 0 sp held fuel f.type ((cs.drop f.offset).take (P.cellsOf f.type))) = some xs → ∃ x, d.K W x ((cs.drop o).take d.sz) ∧ good x
theorem OpensF.one {α : Type} {P : Program} {f : Field} {d : Kd α} {g : α → Prop} (hc : P.cellsOf f.type = d.sz) (h : Opens P f.type d g) : OpensF P [f] f.offset d g := by
  intro H enc W sp held fuel cs xs hx
  rw [List.mapM_cons] at hx
  obtain ⟨y, hy, _⟩ := Option.bind_eq_some_iff.mp hx
  rw [hc] at hy
  exact h enc W sp held fuel _ y hy
theorem OpensF.cons {α β : Type} {P : Program} {f : Field} {r : List Field} {a : Kd α} {b : Kd β} {ga : α → Prop} {gb : β → Prop} (hc : P.cellsOf f.type = a.sz) (h : Opens P f.type a ga) (hr : OpensF P r (f.offset + a.sz) b gb) :
    OpensF P (f :: r) f.offset (Kd.pair a b) (fun x => ga x.1 ∧ gb x.2) := by
  intro H enc W sp held fuel cs xs hx
  rw [List.mapM_cons] at hx
  obtain ⟨y, hy, hx⟩ := Option.bind_eq_some_iff.mp hx
  obtain ⟨ys, hys, _⟩ := Option.bind_eq_some_iff.mp hx
  rw [hc] at hy
  obtain ⟨x1, k1, g1⟩ := h enc W sp held fuel _ y hy
  obtain ⟨x2, k2, g2⟩ := hr enc W sp held fuel cs ys hys
  refine ⟨(x1, x2), ⟨_, _, ?_, k1, k2⟩, g1, g2⟩
  show List.take (a.sz + b.sz) (List.drop f.offset cs) = _
  rw [List.take_add, List.drop_drop]
theorem Opens.struct {α β : Type} {P : Program} {T : TypeId} {fs : Array Field} {d : Kd α} {g : α → Prop} {f : β → α} (mk : α → β) (hmk : ∀ x, f (mk x) = x) (ht : P.underlying T = some (.struct fs)) (hc : P.cellsOf T = d.sz) (h : OpensF P fs.toList 0 d g) : Opens P T (Kd.iso d f) (fun y => g (f y)) := by
  intro H enc W sp held fuel cs y hy
  cases fuel with
  | zero => simp [DataW.trod] at hy
  | succ fuel =>
    simp only [DataW.trod, ht] at hy
    split at hy
    · rename_i hl
      obtain ⟨xs, hx, _⟩ := Option.map_eq_some_iff.mp hy
      obtain ⟨x, k, gx⟩ := h enc W sp held fuel cs xs hx
      refine ⟨mk x, ?_, by show g (f (mk x)); rw [hmk]; exact gx⟩
      show d.K W (f (mk x)) cs
      rw [hmk]
      rw [List.drop_zero, List.take_of_length_le (by omega)] at k
      exact k
    · cases hy
end Go.Proofs.YtdbjjbooalkkbaaGreatDoor.P

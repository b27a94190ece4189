/- ParseDeclaredSizes: the parameter that is an array, and the walk with it. -/
import Derived.Test.YtdbjjbooalkkbaaDoorXDSize
import Derived.Test.YtdbjjbooalkkbaaDoorXRowY
set_option linter.unusedVariables false
namespace Go.Proofs.YtdbjjbooalkkbaaDoor.P
open Go.RowKit Go.Proofs.YtdbjjbooalkkbaaDoorW.PrintWords

structure SArr where
  (f0 f1 f2 : Int)
def kArr : Kd SArr := Kd.iso (Kd.pair (Kd.int .u16) (Kd.pair (Kd.int .u16) (Kd.int .u16))) (fun x : SArr => (x.f0, x.f1, x.f2))
theorem kArr_open {w : World} {x : SArr} {cs : List Value} (h : kArr.K w x cs) : cs = [.int .u16 x.f0, .int .u16 x.f1, .int .u16 x.f2] := by
  obtain ⟨_, _, rfl, rfl, _, _, rfl, rfl, rfl⟩ := h
  rfl
theorem okWide_array {P : Program} {W : World} {r : Reach} {base : Nat} {t : TypeId} {v : Value} {n : Nat} {e : TypeId} (ht : P.underlying t = some (.array n e)) (h : Value.okWide P W r base t v) : ∃ cs, v = .agg cs ∧ cs.size = P.cellsOf t := by
  simp only [Value.okWide, ht] at h
  obtain ⟨cs, h1, h2, _⟩ := h
  exact ⟨cs, h1, h2⟩
theorem three (cs : List Value) (h : cs.length = 3) : ∃ a b c, cs = [a, b, c] := by
  rcases cs with _ | ⟨a, _ | ⟨b, _ | ⟨c, _ | ⟨d, r⟩⟩⟩⟩
  · cases h
  · cases h
  · cases h
  · exact ⟨a, b, c, rfl⟩
  · simp at h
theorem opensArr : Opens Tryd.prog 51 kArr (fun y => (Lit.int .u16 y.f0).wf = true ∧ (Lit.int .u16 y.f1).wf = true ∧ (Lit.int .u16 y.f2).wf = true) := by
  intro H enc W sp held fuel cs y hy
  cases fuel with
  | zero => simp [DataW.trod] at hy
  | succ fuel =>
    have hc : Tryd.prog.cellsOf 51 = 3 := by kernel_rfl
    have hc1 : Tryd.prog.cellsOf 50 = 1 := by kernel_rfl
    simp only [DataW.trod, Tryd.underlying51] at hy
    split at hy
    · rename_i hl
      rw [hc] at hl
      obtain ⟨xs, hx, _⟩ := Option.map_eq_some_iff.mp hy
      rw [show List.range 3 = [0, 1, 2] from rfl, hc1] at hx
      simp only [List.mapM_cons, bind, Option.bind_eq_some_iff] at hx
      obtain ⟨y0, h0, _, ⟨y1, h1, _, ⟨y2, h2, _⟩, _⟩, _⟩ := hx
      obtain ⟨c0, c1, c2, rfl⟩ := three cs hl
      obtain ⟨a0, k0, g0⟩ := Opens.int Tryd.underlying50 enc W sp held fuel _ _ h0
      obtain ⟨a1, k1, g1⟩ := Opens.int Tryd.underlying50 enc W sp held fuel _ _ h1
      obtain ⟨a2, k2, g2⟩ := Opens.int Tryd.underlying50 enc W sp held fuel _ _ h2
      have e0 : c0 = .int .u16 a0 := by have : [c0] = [.int .u16 a0] := k0; simpa using this
      have e1 : c1 = .int .u16 a1 := by have : [c1] = [.int .u16 a1] := k1; simpa using this
      have e2 : c2 = .int .u16 a2 := by have : [c2] = [.int .u16 a2] := k2; simpa using this
      subst e0
      subst e1
      subst e2
      exact ⟨⟨a0, a1, a2⟩, ⟨_, _, rfl, rfl, _, _, rfl, rfl, rfl⟩, g0, g1, g2⟩
    · cases hy

theorem wf_u16' {a : Int} (h : (Lit.int .u16 a).wf = true) : 0 ≤ a ∧ a ≤ 65535 := by
  have h' : (decide ((0 : Int) ≤ a) && decide (a ≤ 65535)) = true := h
  simpa using h'
theorem mod_nat {a : Int} (h : 0 ≤ a) (n : Nat) (hn : 0 < n) : ∃ k : Nat, Int.tmod a (n : Int) = (k : Int) ∧ k < n := by
  obtain ⟨x, rfl⟩ := Int.eq_ofNat_of_zero_le h
  exact ⟨x % n, by rw [← Int.ofNat_tmod], Nat.mod_lt _ hn⟩
theorem ParseDeclaredSizes_walk (x0 : SArr) (a1 : Int) (w : World) (g0 : (Lit.int .u16 x0.f0).wf = true ∧ (Lit.int .u16 x0.f1).wf = true ∧ (Lit.int .u16 x0.f2).wf = true) (w1 : (Lit.int .u16 a1).wf = true) (hL : Aside0 (LaidW 63 w)) :
    Calls Tryd.prog 5 #[.agg #[.int .u16 x0.f0, .int .u16 x0.f1, .int .u16 x0.f2], .int .u16 a1] w fun e w' => e = .returned (.bool true) ∧ Below w.heap.size w w' := by
  obtain ⟨i, hi, hi3⟩ := mod_nat (wf_u16' g0.1).1 300 (by decide)
  obtain ⟨q, hq, hq3⟩ := mod_nat (wf_u16' g0.2.1).1 300 (by decide)
  obtain ⟨m, hm, hm3⟩ := mod_nat (wf_u16' g0.2.2).1 300 (by decide)
  obtain ⟨k, hk, hk3⟩ := mod_nat (wf_u16' w1).1 256 (by decide)
  exact ds_walk x0.f0 x0.f1 x0.f2 a1 i q m k w hL hi hq hm hk hi3 hq3 hm3 hk3
end Go.Proofs.YtdbjjbooalkkbaaDoor.P

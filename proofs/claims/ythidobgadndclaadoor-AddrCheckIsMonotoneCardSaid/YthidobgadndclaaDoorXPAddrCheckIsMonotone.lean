/- AddrCheckIsMonotone: the plain law, the parameters that are arrays, and the call of the law's function. -/
import Derived.Test.YthidobgadndclaaDoorXPAddrRoundTrip
import Derived.Test.YthidobgadndclaaDoorXRowA
import Derived.Test.YthidobgadndclaaDoorPM2
namespace Go.Proofs.YthidobgadndclaaDoor.P
open Go.RowKit Go.Proofs.YthidobgadndclaaDoorW.PrintWords

structure SArr where
  (f0 f1 f2 : Int)
def kArr : Kd SArr := Kd.iso (Kd.pair (Kd.int .u16) (Kd.pair (Kd.int .u16) (Kd.int .u16))) (fun x : SArr => (x.f0, x.f1, x.f2))
theorem kArr_open {w : World} {x : SArr} {cs : List Value} (h : kArr.K w x cs) : cs = [.int .u16 x.f0, .int .u16 x.f1, .int .u16 x.f2] := by
  obtain ⟨_, _, rfl, rfl, _, _, rfl, rfl, rfl⟩ := h
  rfl
theorem okWide_array {P : Program} {W : World} {r : Reach} {base : Nat} {t : TypeId} {v : Value} {n : Nat} {e : TypeId} (ht : P.underlying t = some (.array n e)) (h : Value.okWide P W r base t v) : ∃ cs, v = .agg cs ∧ cs.size = P.cellsOf t := by
  simp only [Value.okWide, ht] at h
  obtain ⟨cs, h1, h2, _⟩ := h
  exact ⟨cs, h1, h2⟩
theorem three (cs : List Value) (h : cs.length = 3) : ∃ a b c, cs = [a, b, c] := by
  rcases cs with _ | ⟨a, _ | ⟨b, _ | ⟨c, _ | ⟨d, r⟩⟩⟩⟩
  · cases h
  · cases h
  · cases h
  · exact ⟨a, b, c, rfl⟩
  · simp at h
theorem opensArr : Opens Tryd.prog 54 kArr (fun y => (Lit.int .u16 y.f0).wf = true ∧ (Lit.int .u16 y.f1).wf = true ∧ (Lit.int .u16 y.f2).wf = true) := by
  intro H enc W sp held fuel cs y hy
  cases fuel with
  | zero => simp [DataW.trod] at hy
  | succ fuel =>
    have hc : Tryd.prog.cellsOf 54 = 3 := by kernel_rfl
    have hc1 : Tryd.prog.cellsOf 52 = 1 := by kernel_rfl
    simp only [DataW.trod, Tryd.underlying54] at hy
    split at hy
    · rename_i hl
      rw [hc] at hl
      obtain ⟨xs, hx, _⟩ := Option.map_eq_some_iff.mp hy
      rw [show List.range 3 = [0, 1, 2] from rfl, hc1] at hx
      simp only [List.mapM_cons, bind, Option.bind_eq_some_iff] at hx
      obtain ⟨y0, h0, _, ⟨y1, h1, _, ⟨y2, h2, _⟩, _⟩, _⟩ := hx
      obtain ⟨c0, c1, c2, rfl⟩ := three cs hl
      obtain ⟨a0, k0, g0⟩ := Opens.int Tryd.underlying52 enc W sp held fuel _ _ h0
      obtain ⟨a1, k1, g1⟩ := Opens.int Tryd.underlying52 enc W sp held fuel _ _ h1
      obtain ⟨a2, k2, g2⟩ := Opens.int Tryd.underlying52 enc W sp held fuel _ _ h2
      have e0 : c0 = .int .u16 a0 := by have : [c0] = [.int .u16 a0] := k0; simpa using this
      have e1 : c1 = .int .u16 a1 := by have : [c1] = [.int .u16 a1] := k1; simpa using this
      have e2 : c2 = .int .u16 a2 := by have : [c2] = [.int .u16 a2] := k2; simpa using this
      subst e0
      subst e1
      subst e2
      exact ⟨⟨a0, a1, a2⟩, ⟨_, _, rfl, rfl, _, _, rfl, rfl, rfl⟩, g0, g1, g2⟩
    · cases hy

theorem check_eq (a b c d s n : Int) (h0 : 0 ≤ s) (h1 : s ≤ 2) (ha : 0 ≤ a ∧ a ≤ 131070) (hb : 0 ≤ b ∧ b ≤ 131070) (hc : 0 ≤ c ∧ c ≤ 131070) :
    addr_CheckAddr.f a b c d s n = some (if 0 ≤ n ∧ n < (if s = 0 then a else if s = 1 then b else c) then 0 else 3) := by
  unfold addr_CheckAddr.f
  rw [within_eq]
  simp only [Option.bind_some, decide_eq_true_eq]
  rw [if_pos ⟨h0, h1⟩, width_eq a b c d s h0 h1]
  simp only [Option.bind_some]
  have hw : ∃ v, (if s = 0 then a else if s = 1 then b else c) = v ∧ 0 ≤ v ∧ v ≤ 131070 := ⟨_, rfl, by split; omega; split <;> omega⟩
  obtain ⟨v, hv, v0, v1⟩ := hw
  rw [hv, wrap_id (by omega) (by omega), within_eq]
  simp only [Option.bind_some, decide_eq_true_eq]
  by_cases h2 : 0 ≤ n ∧ n ≤ v - 1
  · rw [if_pos h2, if_pos (by omega)]
  · rw [if_neg h2, if_neg (by omega)]
theorem mono_l0 (n : Int) (hn : 0 ≤ n ∧ n ≤ 65535) (a b c a' b' c' : Int) (ha : 0 ≤ a ∧ a ≤ 65535) (hb : 0 ≤ b ∧ b ≤ 65535) (hc : 0 ≤ c ∧ c ≤ 65535) (ha' : a ≤ a' ∧ a' ≤ 131070) (hb' : b ≤ b' ∧ b' ≤ 131070) (hc' : c ≤ c' ∧ c' ≤ 131070) (k : Nat) :
    ∀ (d : Nat) (s : Int), 0 ≤ s → s + d = 3 → M.law01_AddrCheckIsMonotone.l0 (k + d + 1) n s a b c 0 a' b' c' 0 = some true := by
  intro d
  induction d with
  | zero =>
    intro s h0 h1
    rw [M.law01_AddrCheckIsMonotone.l0, if_neg (by omega), alive01]
    rfl
  | succ d ih =>
    intro s h0 h1
    rw [M.law01_AddrCheckIsMonotone.l0, if_pos (by omega), wrap_id (x := n) (by omega) (by omega), wrap_id (x := s + 1) (by omega) (by omega), check_eq a b c 0 s n h0 (by omega) (by omega) (by omega) (by omega), check_eq a' b' c' 0 s n h0 (by omega) (by omega) (by omega) (by omega), width_eq a b c 0 s h0 (by omega)]
    simp only [Option.bind_some]
    have hr := ih (s + 1) (by omega) (by omega)
    rw [show k + d + 1 = k + (d + 1) from rfl] at hr
    have hw : ∃ v u, (if s = 0 then a else if s = 1 then b else c) = v ∧ (if s = 0 then a' else if s = 1 then b' else c') = u ∧ v ≤ u := ⟨_, _, rfl, rfl, by split; omega; split <;> omega⟩
    obtain ⟨v, u, hv, hu, hvu⟩ := hw
    rw [hv, hu]
    by_cases h : n < v
    · have e1 : (if 0 ≤ n ∧ n < v then (0 : Int) else 3) = 0 := if_pos ⟨hn.1, h⟩
      have e2 : (if 0 ≤ n ∧ n < u then (0 : Int) else 3) = 0 := if_pos ⟨hn.1, by omega⟩
      rw [e1, e2, if_neg (by simp [h]), if_pos rfl, if_pos rfl]
      exact hr
    · have e1 : (if 0 ≤ n ∧ n < v then (0 : Int) else 3) = 3 := if_neg (fun q => h q.2)
      rw [e1, if_neg (by simp [h]), if_neg (by decide)]
      exact hr
theorem AddrCheckIsMonotone_pure (a b c a' b' c' n : Int) (ha : 0 ≤ a ∧ a ≤ 65535) (hb : 0 ≤ b ∧ b ≤ 65535) (hc : 0 ≤ c ∧ c ≤ 65535) (ha' : 0 ≤ a' ∧ a' ≤ 65535) (hb' : 0 ≤ b' ∧ b' ≤ 65535) (hc' : 0 ≤ c' ∧ c' ≤ 65535) (hn : 0 ≤ n ∧ n ≤ 65535) :
    M.law01_AddrCheckIsMonotone.f 6 a b c a' b' c' n = some true := by
  have e : ∀ x : Int, 0 ≤ x ∧ x ≤ 65535 → wrap64 x = x := fun x h => wrap_id (by omega) (by omega)
  have e2 : ∀ x y : Int, 0 ≤ x ∧ x ≤ 65535 → 0 ≤ y ∧ y ≤ 65535 → wrap64 (x + y) = x + y := fun x y h g => wrap_id (by omega) (by omega)
  unfold M.law01_AddrCheckIsMonotone.f
  rw [e a ha, e b hb, e c hc, e a' ha', e b' hb', e c' hc', e2 a a' ha ha', e2 b b' hb hb', e2 c c' hc hc']
  exact mono_l0 n hn a b c (a + a') (b + b') (c + c') ha hb hc (by omega) (by omega) (by omega) 2 3 0 (by omega) (by omega)
theorem AddrCheckIsMonotone_walk (x0 x1 : SArr) (a2 : Int) (w : World) (g0 : (Lit.int .u16 x0.f0).wf = true ∧ (Lit.int .u16 x0.f1).wf = true ∧ (Lit.int .u16 x0.f2).wf = true) (g1 : (Lit.int .u16 x1.f0).wf = true ∧ (Lit.int .u16 x1.f1).wf = true ∧ (Lit.int .u16 x1.f2).wf = true) (w2 : (Lit.int .u16 a2).wf = true) (hL : Aside0 (LaidW 22 w)) :
    Calls Tryd.prog 10 #[.agg #[.int .u16 x0.f0, .int .u16 x0.f1, .int .u16 x0.f2], .agg #[.int .u16 x1.f0, .int .u16 x1.f1, .int .u16 x1.f2], .int .u16 a2] w fun e w' => e = .returned (.bool true) ∧ Below w.heap.size w w' :=
  M.law01_AddrCheckIsMonotone.calls 6 x0.f0 x0.f1 x0.f2 x1.f0 x1.f1 x1.f2 a2 true w hL
    (AddrCheckIsMonotone_pure _ _ _ _ _ _ _ (wf_u16 g0.1) (wf_u16 g0.2.1) (wf_u16 g0.2.2) (wf_u16 g1.1) (wf_u16 g1.2.1) (wf_u16 g1.2.2) (wf_u16 w2))
end Go.Proofs.YthidobgadndclaaDoor.P

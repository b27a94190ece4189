/- PrinterAppendRung, plainly: Check's index, the text, the edges of a ladder with one rung more. -/
import Derived.Test.YtdbjjbooalkkbaaDoorXPrintC
import Derived.Test.YtdbjjbooalkkbaaDoorXEdgeA
set_option linter.unusedVariables false
set_option linter.unusedSimpArgs false
namespace Go.Proofs.YtdbjjbooalkkbaaDoor.P
open Go.RowKit Go.Proofs.YtdbjjbooalkkbaaDoorW.PrintWords

theorem scanR_idx {I Q M : Int} {p : Int × Int} (l : List S28) : ∀ a i, scanR I Q M a l i = some p → 0 ≤ p.1 ∧ p.1 < ((i + l.length : Nat) : Int) := by
  induction l with
  | nil => intro a i h; cases h
  | cons r t ih =>
    intro a i h
    rw [scanR] at h
    by_cases h1 : rungP I Q M a r = 0
    · rw [if_pos h1] at h
      have := ih _ _ h
      rw [List.length_cons]
      omega
    · rw [if_neg h1] at h
      cases h
      rw [List.length_cons]
      exact ⟨by show (0 : Int) ≤ (i : Int); omega, by show (i : Int) < _; omega⟩
theorem scanJ_idx {p : Int × Int} (l : List S28) : ∀ i, scanJ l i = some p → 0 ≤ p.1 ∧ p.1 < ((i + l.length : Nat) : Int) := by
  induction l with
  | nil => intro i h; cases h
  | cons r t ih =>
    intro i h
    rw [scanJ] at h
    rw [List.length_cons]
    split at h
    · have := ih _ h; omega
    · split at h
      · have := ih _ h; omega
      · cases h
        exact ⟨by show (0 : Int) ≤ (i : Int); omega, by show (i : Int) < _; omega⟩
/-- The index that Check hands back. -/
theorem check_idx (I Q M : Int) (l : List S28) (n : Nat) (hl : l.length = n + 1) (h : (checkP I Q M l).2 ≠ 0) : 0 ≤ (checkP I Q M l).1 ∧ (checkP I Q M l).1 ≤ (n : Int) := by
  unfold checkP at h ⊢
  by_cases h1 : OkSize I Q M
  · rw [if_pos h1] at h ⊢
    by_cases h2 : 64 < l.length
    · rw [if_pos h2]; exact ⟨by decide, by show (0 : Int) ≤ n; omega⟩
    · rw [if_neg h2] at h ⊢
      cases h3 : scanR I Q M [] l 0 with
      | some p => have := scanR_idx l _ _ h3; simp only; omega
      | none =>
        rw [h3] at h
        cases h4 : scanJ l 0 with
        | some p => have := scanJ_idx l _ h4; simp only; omega
        | none => rw [h4] at h; exact absurd rfl h
  · rw [if_neg h1]; exact ⟨by decide, by show (0 : Int) ≤ n; omega⟩
theorem ladder_app (I Q M : Int) (l : List S28) (r : S28) : ladderT I Q M (l ++ [r]) = ladderT I Q M l ++ rungT r := by
  unfold ladderT rungsT
  simp
theorem printP_ok {I Q M : Int} {l : List S28} {t : ByteArray} (h : printP I Q M l = (t, 0)) : (checkP I Q M l).2 = 0 ∧ (ladderT I Q M l).length ≤ 65536 ∧ t = ⟨(ladderT I Q M l).toArray⟩ := by
  unfold printP at h
  by_cases h1 : (checkP I Q M l).2 = 0
  · rw [if_pos h1] at h
    unfold printRes at h
    by_cases h2 : 65536 < (ladderT I Q M l).length
    · rw [if_pos h2] at h; cases h
    · rw [if_neg h2] at h
      cases h
      exact ⟨h1, by omega, rfl⟩
  · rw [if_neg h1] at h
    exact absurd (congrArg Prod.snd h) h1
theorem printP_bad {I Q M : Int} {l : List S28} {u : ByteArray} {f : Int} (h : printP I Q M l = (u, f)) (hf : f ≠ 0) : u = ⟨#[]⟩ ∧ (((checkP I Q M l).2 = f) ∨ f = 7) := by
  unfold printP at h
  by_cases h1 : (checkP I Q M l).2 = 0
  · rw [if_pos h1] at h
    unfold printRes at h
    by_cases h2 : 65536 < (ladderT I Q M l).length
    · rw [if_pos h2] at h; cases h; exact ⟨rfl, .inr rfl⟩
    · rw [if_neg h2] at h
      cases h
      exact absurd rfl hf
  · rw [if_neg h1] at h
    cases h
    exact ⟨rfl, .inl rfl⟩
/-- What a refused ladder shows. -/
theorem app_bad {I Q M : Int} {l : List S28} {r : S28} {u : ByteArray} {f : Int} (h : printP I Q M (l ++ [r]) = (u, f)) (hf : f ≠ 0) :
    u = ⟨#[]⟩ ∧ (((checkP I Q M (l ++ [r])).2 = f ∧ 0 ≤ (checkP I Q M (l ++ [r])).1 ∧ (checkP I Q M (l ++ [r])).1 ≤ (l.length : Int)) ∨ f = 7) := by
  obtain ⟨h1, h2⟩ := printP_bad h hf
  refine ⟨h1, ?_⟩
  rcases h2 with h2 | h2
  · exact .inl ⟨h2, check_idx I Q M _ l.length (by simp) (by rw [h2]; exact hf)⟩
  · exact .inr h2
/-- What an accepted ladder shows. -/
theorem app_good {I Q M : Int} {l : List S28} {r : S28} {t u : ByteArray} (h0 : printP I Q M l = (t, 0)) (h : printP I Q M (l ++ [r]) = (u, 0)) :
    checkP I Q M (l ++ [r]) = ((l.length : Int) + 1, 0) ∧ t.data.toList <+: u.data.toList := by
  obtain ⟨h1, h2, h3⟩ := printP_ok h
  obtain ⟨_, _, h4⟩ := printP_ok h0
  refine ⟨?_, ?_⟩
  · rw [(check_ok h1).2.2.2.2]
    rw [List.length_append, List.length_singleton]
    simp
  · rw [h3, h4, ladder_app]
    exact ⟨rungT r, by simp⟩
def isEdge (c : S44) : Bool := decide (c.f0 = 2 ∨ c.f0 = 3)
def cntC (l : List S44) : Nat := l.countP isEdge
def cntR : List S28 → Nat
  | [] => 0
  | r :: t => cntC r.f1 + cntR t
theorem edgeC_cnt (l : List S44) : ∀ n : Nat, n + cntC l ≤ 9223372036854775807 → edgeC (n : Int) l = ((n + cntC l : Nat) : Int) := by
  induction l with
  | nil => intro n _; rfl
  | cons c r ih =>
    intro n h
    rw [edgeC]
    unfold cntC at h ⊢
    rw [List.countP_cons] at h ⊢
    by_cases h1 : c.f0 = 2 ∨ c.f0 = 3
    · have e : isEdge c = true := decide_eq_true h1
      rw [if_pos e] at h ⊢
      rw [if_pos h1, wrap_nat (by omega)]
      have := ih (n + 1) (by unfold cntC; omega)
      unfold cntC at this
      rw [this]
      omega
    · have e : isEdge c = false := decide_eq_false h1
      rw [e] at h ⊢
      rw [if_neg h1]
      have := ih n (by unfold cntC; simpa using h)
      unfold cntC at this
      rw [this]
      simp
theorem edgeR_cnt (l : List S28) : ∀ n : Nat, n + cntR l ≤ 9223372036854775807 → edgeR (n : Int) l = ((n + cntR l : Nat) : Int) := by
  induction l with
  | nil => intro n _; rfl
  | cons r t ih =>
    intro n h
    rw [cntR] at h ⊢
    rw [edgeR, edgeC_cnt r.f1 n (by omega), ih _ (by omega)]
    omega
theorem cntR_app (l m : List S28) : cntR (l ++ m) = cntR l + cntR m := by
  induction l with
  | nil => simp [cntR]
  | cons r t ih => rw [List.cons_append, cntR, cntR, ih]; omega
theorem cntR_le (l : List S28) (h : ∀ r ∈ l, r.f1.length ≤ 256) : cntR l ≤ l.length * 256 := by
  induction l with
  | nil => simp [cntR]
  | cons r t ih =>
    have h1 : cntC r.f1 ≤ r.f1.length := List.countP_le_length
    have h2 := h r (by simp)
    have h3 := ih (fun x hx => h x (by simp [hx]))
    rw [cntR, List.length_cons, Nat.succ_mul]
    omega
/-- The edges of an accepted ladder. -/
theorem app_edges {I Q M : Int} {l : List S28} {r : S28} (h : (checkP I Q M (l ++ [r])).2 = 0) :
    ∃ a b : Nat, a ≤ 20000 ∧ b ≤ 20000 ∧ edgeR 0 l = (a : Int) ∧ edgeR 0 [r] = (b : Int) ∧ edgeR 0 (l ++ [r]) = ((a + b : Nat) : Int) := by
  have h1 := check_rungs h
  have h2 := (check_ok h).2.1
  have h3 := cntR_le (l ++ [r]) (fun x hx => (h1 x hx).cons)
  rw [cntR_app] at h3
  have e1 := edgeR_cnt l 0 (by omega)
  have e2 := edgeR_cnt [r] 0 (by omega)
  have e3 := edgeR_cnt (l ++ [r]) 0 (by rw [cntR_app]; omega)
  rw [cntR_app] at e3
  refine ⟨cntR l, cntR [r], by omega, by omega, ?_, ?_, ?_⟩
  · simpa using e1
  · simpa using e2
  · simpa using e3
end Go.Proofs.YtdbjjbooalkkbaaDoor.P

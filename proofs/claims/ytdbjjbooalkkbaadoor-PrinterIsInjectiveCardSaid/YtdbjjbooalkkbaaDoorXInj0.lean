/- PrinterIsInjective, plainly: another ladder is not equal, and prints another text. -/
import Derived.Test.YtdbjjbooalkkbaaDoorXRound
import Derived.Test.YtdbjjbooalkkbaaDoorXSameA
import Derived.Lib.SlicesS
set_option linter.unusedVariables false
set_option linter.unusedSimpArgs false
namespace Go.Proofs.YtdbjjbooalkkbaaDoor.P
open Go.RowKit Go.Proofs.YtdbjjbooalkkbaaDoorW.PrintWords

theorem listEq_eq {α : Type} (eq : α → α → Bool) (he : ∀ a b, eq a b = true → a = b) : ∀ l m : List α, listEq eq l m = true → l = m
  | [], [], _ => rfl
  | [], _ :: _, h => by cases h
  | _ :: _, [], h => by cases h
  | a :: l, b :: m, h => by
    rw [listEq, Bool.and_eq_true] at h
    rw [he a b h.1, listEq_eq eq he l m h.2]
theorem bytes_eq {a b : ByteArray} (h : (a.toList == b.toList) = true) : a = b := (Lib.bytes_beq_iff a b).1 h
theorem conEq_eq (a b : S44) (h : conEq a b = true) : a = b := by
  unfold conEq at h
  simp only [Bool.and_eq_true, beq_iff_eq] at h
  obtain ⟨h1, ⟨h2, h3⟩, h4, h5⟩ := h
  obtain ⟨a0, ⟨a1, a2⟩, a3, a4⟩ := a
  obtain ⟨b0, ⟨b1, b2⟩, b3, b4⟩ := b
  simp only at h1 h2 h3 h4 h5
  rw [h1, h2, h3, bytes_eq (beq_iff_eq.2 h4), bytes_eq (beq_iff_eq.2 h5)]
theorem coilEq_eq (a b : S47) (h : coilEq a b = true) : a = b := by
  unfold coilEq at h
  simp only [Bool.and_eq_true, beq_iff_eq] at h
  obtain ⟨h1, h2, h3⟩ := h
  obtain ⟨a0, ⟨a1, a2⟩⟩ := a
  obtain ⟨b0, ⟨b1, b2⟩⟩ := b
  simp only at h1 h2 h3
  rw [h1, h2, h3]
theorem rungEq_eq (a b : SR) (h : rungEq a b = true) : a = b := by
  unfold rungEq at h
  simp only [Bool.and_eq_true] at h
  obtain ⟨h1, h2, h3, h4⟩ := h
  obtain ⟨a0, a1, a2, a3⟩ := a
  obtain ⟨b0, b1, b2, b3⟩ := b
  obtain rfl : a0 = b0 := bytes_eq h1
  obtain rfl : a3 = b3 := bytes_eq h2
  obtain rfl : a1 = b1 := listEq_eq _ conEq_eq _ _ h3
  obtain rfl : a2 = b2 := listEq_eq _ coilEq_eq _ _ h4
  rfl
theorem sameP_eq {I Q M I' Q' M' : Int} {l l' : List SR} (h : sameP I Q M l I' Q' M' l' = true) : I = I' ∧ Q = Q' ∧ M = M' ∧ l = l' := by
  unfold sameP at h
  simp only [Bool.and_eq_true, beq_iff_eq] at h
  exact ⟨h.1.1, h.1.2.1, h.1.2.2, listEq_eq _ rungEq_eq _ _ h.2⟩
theorem printI_ok {I Q M : Int} {l : List SR} {t : ByteArray} (h : printP I Q M l = (t, 0)) : (checkP I Q M l).2 = 0 ∧ (ladderT I Q M l).length ≤ 65536 ∧ t.data.toList = ladderT I Q M l := by
  unfold printP at h
  by_cases h1 : (checkP I Q M l).2 = 0
  · rw [if_pos h1] at h
    unfold printRes at h
    by_cases h2 : 65536 < (ladderT I Q M l).length
    · rw [if_pos h2] at h; cases h
    · rw [if_neg h2] at h
      cases h
      exact ⟨h1, by omega, by simp⟩
  · rw [if_neg h1] at h
    exact absurd (congrArg Prod.snd h) h1
theorem print_inj {I Q M I' Q' M' : Int} {l l' : List SR} {t : ByteArray} (h : printP I Q M l = (t, 0)) (h' : printP I' Q' M' l' = (t, 0)) : I = I' ∧ Q = Q' ∧ M = M' ∧ l = l' := by
  obtain ⟨h1, h2, h3⟩ := printI_ok h
  obtain ⟨h4, h5, h6⟩ := printI_ok h'
  obtain ⟨ls, _, e1⟩ := round_law h1 h2
  obtain ⟨ls', _, e2⟩ := round_law h4 h5
  rw [← h3] at e1
  rw [← h6, e1] at e2
  injection e2 with a1 e2
  injection e2 with a2 e2
  injection e2 with a3 e2
  injection e2 with a4 e2
  exact ⟨a1, a2, a3, a4⟩
theorem printI_bad {I Q M : Int} {l : List SR} {u : ByteArray} {f : Int} (h : printP I Q M l = (u, f)) (hf : f ≠ 0) : u = ⟨#[]⟩ := by
  unfold printP at h
  by_cases h1 : (checkP I Q M l).2 = 0
  · rw [if_pos h1] at h
    unfold printRes at h
    by_cases h2 : 65536 < (ladderT I Q M l).length
    · rw [if_pos h2] at h; cases h; rfl
    · rw [if_neg h2] at h
      cases h
      exact absurd rfl hf
  · rw [if_neg h1] at h
    cases h
    rfl
/-- What the law shows of another ladder. -/
theorem inj_law {I Q M I' Q' M' : Int} {l l' : List SR} {t u : ByteArray} {f : Int} (h : printP I Q M l = (t, 0)) (h' : printP I' Q' M' l' = (u, f)) (hne : ¬ (I = I' ∧ Q = Q' ∧ M = M' ∧ l = l')) :
    sameP I Q M l I' Q' M' l' = false ∧ (f ≠ 0 → u = ⟨#[]⟩) ∧ (f = 0 → (u.toList == t.toList) = false) := by
  refine ⟨?_, fun hf => printI_bad h' hf, fun hf => ?_⟩
  · cases hs : sameP I Q M l I' Q' M' l' with
    | false => rfl
    | true => exact absurd (sameP_eq hs) hne
  · subst hf
    cases hs : (u.toList == t.toList) with
    | false => rfl
    | true =>
      have := bytes_eq hs
      subst this
      exact absurd (print_inj h h') hne
/-! ### the five ways -/
def setCon (l : List SR) (i : Nat) (r : SR) (j : Nat) (c : S44) : List SR := l.set i { r with f1 := r.f1.set j c }
def setCoil (l : List SR) (i : Nat) (r : SR) (j : Nat) (c : S47) : List SR := l.set i { r with f2 := r.f2.set j c }
theorem setCon_ne {l : List SR} {i : Nat} {r : SR} {j : Nat} {c c' : S44} (hr : l[i]? = some r) (hc : r.f1[j]? = some c) (hne : c' ≠ c) : l ≠ setCon l i r j c' := fun e => by
  have hi := (List.getElem?_eq_some_iff.1 hr).1
  have hj := (List.getElem?_eq_some_iff.1 hc).1
  have h1 : l[i]? = some { r with f1 := r.f1.set j c' } := by
    conv => lhs; rw [e]
    unfold setCon
    rw [List.getElem?_set_self hi]
  rw [hr] at h1
  injection h1 with h1
  have h2 : r.f1[j]? = some c' := by
    conv => lhs; rw [h1]
    rw [List.getElem?_set_self hj]
  rw [hc] at h2
  injection h2 with h2
  exact hne h2.symm
theorem setCoil_ne {l : List SR} {i : Nat} {r : SR} {j : Nat} {c c' : S47} (hr : l[i]? = some r) (hc : r.f2[j]? = some c) (hne : c' ≠ c) : l ≠ setCoil l i r j c' := fun e => by
  have hi := (List.getElem?_eq_some_iff.1 hr).1
  have hj := (List.getElem?_eq_some_iff.1 hc).1
  have h1 : l[i]? = some { r with f2 := r.f2.set j c' } := by
    conv => lhs; rw [e]
    unfold setCoil
    rw [List.getElem?_set_self hi]
  rw [hr] at h1
  injection h1 with h1
  have h2 : r.f2[j]? = some c' := by
    conv => lhs; rw [h1]
    rw [List.getElem?_set_self hj]
  rw [hc] at h2
  injection h2 with h2
  exact hne h2.symm
theorem kind_next {k : Int} (h0 : 0 ≤ k) (h4 : k < 4) : Int.tmod (k + 1) 4 ≠ k ∧ 0 ≤ Int.tmod (k + 1) 4 ∧ Int.tmod (k + 1) 4 < 4 := by
  rcases kind4 h0 h4 with rfl | rfl | rfl | rfl <;> decide
theorem size_next {n : Int} (h0 : 0 ≤ n) (h1 : n ≤ 256) : Int.tmod (n + 1) 300 ≠ n := by
  rw [Int.tmod_eq_emod_of_nonneg (by omega)]
  omega
end Go.Proofs.YtdbjjbooalkkbaaDoor.P

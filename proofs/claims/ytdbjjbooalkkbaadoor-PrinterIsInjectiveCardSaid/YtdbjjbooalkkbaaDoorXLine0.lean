/- A line of words put together by blanks: its words. -/
import Derived.Test.YtdbjjbooalkkbaaDoorXLexG
namespace Go.Proofs.YtdbjjbooalkkbaaDoor.P

def okW (b : UInt8) : Prop := 33 ≤ b.toNat ∧ b.toNat ≤ 126 ∧ b ≠ 59
theorem okW_plain {b : UInt8} (h : okW b) : isPlain b = true := decide_eq_true (.inr ⟨by have := h.1; omega, h.2.1⟩)
theorem okW_sp {b : UInt8} (h : okW b) : Lib.isSp b = false := by
  rw [isSp_plain b (okW_plain h), decide_eq_false (by have := h.1; omega), decide_eq_false (by have := h.1; omega)]
  rfl
/-- The words of a line. -/
theorem line_of (ws : List (List UInt8)) (h : ∀ x ∈ ws, x ≠ [] ∧ ∀ b ∈ x, okW b) :
    segWords (Lib.join ws [32]) = ws.map mkB ∧ segPlain (Lib.join ws [32]) = true ∧ ∀ b ∈ Lib.join ws [32], b ≠ 10 := by
  have hb : ∀ b ∈ Lib.join ws [32], b = 32 ∨ okW b := fun b hb => by
    rcases join_mem ws [32] b hb with h1 | ⟨x, hx, h1⟩
    · exact .inl (List.mem_singleton.1 h1)
    · exact .inr ((h x hx).2 b h1)
  have ha : ahead (Lib.join ws [32]) = Lib.join ws [32] := ahead_none _ (fun b hm => by
    rcases hb b hm with rfl | h1
    · decide
    · exact h1.2.2)
  refine ⟨?_, ?_, ?_⟩
  · unfold segWords
    have := fields_join ws [] (fun x hx => ⟨(h x hx).1, fun b hm => okW_sp ((h x hx).2 b hm)⟩) (fun b hm => by cases hm)
    rw [List.append_nil] at this
    rw [ha, this]
  · unfold segPlain
    rw [ha, List.all_eq_true]
    intro b hm
    rcases hb b hm with rfl | h1
    · decide
    · exact okW_plain h1
  · intro b hm e
    subst e
    rcases hb 10 hm with h1 | h1
    · exact absurd h1 (by decide)
    · exact absurd h1.1 (by decide)
end Go.Proofs.YtdbjjbooalkkbaaDoor.P

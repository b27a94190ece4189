/- With rounds enough. -/
import Derived.Test.YtdbjjbooalkkbaaDoorPQ0
namespace Go.Proofs.YtdbjjbooalkkbaaDoor.P
open Go.RowKit Go.Proofs.YtdbjjbooalkkbaaDoorW.PrintWords

/-- With rounds enough the answer is v. -/
def Evn {α : Type} (f : Nat → Option α) (v : α) : Prop := ∃ K, ∀ k, K ≤ k → f k = some v
theorem Evn.const {α : Type} (v : α) : Evn (fun _ => some v) v := ⟨0, fun _ _ => rfl⟩
theorem Evn.step {α : Type} {f g : Nat → Option α} {v : α} (h : Evn g v) (hs : ∀ k, f (k + 1) = g k) : Evn f v := by
  obtain ⟨K, h⟩ := h
  refine ⟨K + 1, fun k hk => ?_⟩
  obtain ⟨k, rfl⟩ : ∃ m, k = m + 1 := ⟨k - 1, by omega⟩
  rw [hs]
  exact h k (by omega)
theorem Evn.same {α : Type} {f g : Nat → Option α} {v : α} (h : Evn g v) (hs : ∀ k, f k = g k) : Evn f v := by
  obtain ⟨K, h⟩ := h
  exact ⟨K, fun k hk => (hs k).trans (h k hk)⟩
theorem Evn.bind {α β : Type} {f : Nat → Option α} {v : α} {g : Nat → α → Option β} {u : β} (h : Evn f v) (hg : Evn (fun k => g k v) u) : Evn (fun k => (f k).bind (g k)) u := by
  obtain ⟨K, h⟩ := h
  obtain ⟨L, hg⟩ := hg
  exact ⟨K + L, fun k hk => by show (f k).bind (g k) = some u; rw [h k (by omega), Option.bind_some]; exact hg k (by omega)⟩
theorem Evn.at2 {α β : Type} {f : Nat → Option α} {g : Nat → Option β} {u : α} {v : β} (h : Evn f u) (hg : Evn g v) : ∃ k, f k = some u ∧ g k = some v := by
  obtain ⟨K, h⟩ := h
  obtain ⟨L, hg⟩ := hg
  exact ⟨K + L, h _ (by omega), hg _ (by omega)⟩
theorem Evn.one {α : Type} {f : Nat → Option α} {u : α} (h : Evn f u) : ∃ k, f k = some u := by
  obtain ⟨K, h⟩ := h
  exact ⟨K, h _ (Nat.le_refl _)⟩
end Go.Proofs.YtdbjjbooalkkbaaDoor.P

/- addr.CheckAddr, CheckSize, plainly. -/
import Derived.Test.YtdbjjbooalkkbaaGreatDoorPQ9
namespace Go.Proofs.YtdbjjbooalkkbaaGreatDoor.P
open Go.RowKit Go.Proofs.YtdbjjbooalkkbaaGreatDoorW.PrintWords

theorem wrap_nat {i : Nat} (h : i < 9223372036854775807) : wrap64 ((i : Int) + 1) = ((i + 1 : Nat) : Int) := by unfold wrap64; omega
def widthP (I Q M s : Int) : Int := if s = 0 then I else if s = 1 then Q else if s = 2 then M else 0
def addrP (I Q M s n : Int) : Int := if 0 ≤ s ∧ s ≤ 2 then (if 0 ≤ n ∧ n < widthP I Q M s then 0 else 3) else 8
def OkSize (I Q M : Int) : Prop := (0 ≤ I ∧ I ≤ 256) ∧ (0 ≤ Q ∧ Q ≤ 256) ∧ (0 ≤ M ∧ M ≤ 256)
instance (I Q M : Int) : Decidable (OkSize I Q M) := by unfold OkSize; infer_instance
theorem within_eq (a b : Int) : addr_within.f a b = some (decide (0 ≤ a ∧ a ≤ b)) := by
  unfold addr_within.f
  by_cases h : a ≥ 0
  · rw [if_pos h]
    congr 1
    exact decide_eq_decide.mpr ⟨fun h2 => ⟨h, h2⟩, fun h2 => h2.2⟩
  · rw [if_neg h, decide_eq_false (fun h2 => h h2.1)]
theorem width_eq (I Q M E s : Int) : addr_Width.f I Q M E s = some (widthP I Q M s) := by
  unfold addr_Width.f widthP
  repeat' split
  all_goals rfl
theorem widthP_le {I Q M : Int} (h : OkSize I Q M) (s : Int) : 0 ≤ widthP I Q M s ∧ widthP I Q M s ≤ 256 := by
  obtain ⟨h1, h2, h3⟩ := h
  unfold widthP
  repeat' split
  all_goals omega
theorem size_eq (I Q M : Int) : addr_CheckSize.f I Q M 0 = some (if OkSize I Q M then 0 else 3) := by
  unfold addr_CheckSize.f
  simp only [within_eq, Option.bind_some]
  unfold OkSize
  by_cases h1 : 0 ≤ I ∧ I ≤ 256
  · by_cases h2 : 0 ≤ Q ∧ Q ≤ 256
    · by_cases h3 : 0 ≤ M ∧ M ≤ 256
      · simp [h1, h2, h3]
      · simp [h1, h2, h3]
    · simp [h1, h2]
  · simp [h1]
theorem addr_eq {I Q M : Int} (hs : OkSize I Q M) (s n : Int) : addr_CheckAddr.f I Q M 0 s n = some (addrP I Q M s n) := by
  unfold addr_CheckAddr.f addrP
  have hw := widthP_le hs s
  have hwr : wrap64 (widthP I Q M s - 1) = widthP I Q M s - 1 := by unfold wrap64; omega
  simp only [within_eq, width_eq, Option.bind_some, hwr]
  by_cases h1 : 0 ≤ s ∧ s ≤ 2
  · rw [if_pos (decide_eq_true h1), if_pos h1]
    by_cases h2 : 0 ≤ n ∧ n < widthP I Q M s
    · rw [if_pos h2, if_pos (decide_eq_true ⟨h2.1, by omega⟩)]
    · rw [if_neg h2, if_neg (by rw [decide_eq_true_eq]; omega)]
  · rw [if_neg (by rw [decide_eq_true_eq]; exact h1), if_neg h1]
end Go.Proofs.YtdbjjbooalkkbaaGreatDoor.P

/- Empty or not: a string's tests. -/
import Derived.Test.YtdbjjbooalkkbaaGreatDoorXPlain
namespace Go.Proofs.YtdbjjbooalkkbaaGreatDoor.P

theorem size_pos {s : ByteArray} (h : s.size ≠ 0) : ¬ s = ByteArray.empty := by
  rintro rfl
  exact h rfl
theorem list_pos {s : ByteArray} (h : s.size ≠ 0) : s.toList.isEmpty = false := by
  rw [List.isEmpty_eq_false_iff]
  intro e
  have : s.toList.length = s.size := by rw [ByteArray.toList_eq]; exact Array.length_toList
  rw [e] at this
  exact h this.symm
theorem size_nil {s : ByteArray} (h : s.size = 0) : s = ByteArray.empty := by
  apply ByteArray.ext
  exact Array.eq_empty_of_size_eq_zero h
theorem list_nil {s : ByteArray} (h : s.size = 0) : s.toList.isEmpty = true := by rw [List.isEmpty_iff, ByteArray.toList_eq, size_nil h]; rfl
end Go.Proofs.YtdbjjbooalkkbaaGreatDoor.P

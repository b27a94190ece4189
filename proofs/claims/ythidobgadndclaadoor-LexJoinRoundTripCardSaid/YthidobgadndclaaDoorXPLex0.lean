/- What package lex's laws share: the chapter's example holds; joined words; the lines of a text. -/
import Derived.Test.YthidobgadndclaaDoorXLinesG
import Derived.Test.YthidobgadndclaaDoorXDec
import Derived.Test.YthidobgadndclaaDoorXStrings
import Derived.Test.YthidobgadndclaaDoorXName
import Derived.Test.YthidobgadndclaaDoorXJoin
import Derived.Test.YthidobgadndclaaDoorXAlive
namespace Go.Proofs.YthidobgadndclaaDoor.P
open Go.RowKit Go.Proofs.YthidobgadndclaaDoorW.PrintWords

theorem alive09 : law09_alive.f = some true := rfl
theorem cutAt_len (c : UInt8) (t : List UInt8) : ∀ l ∈ cutAt c t, l.length ≤ t.length := by
  induction t with
  | nil => intro l hl; simp [cutAt] at hl; rw [hl]; exact Nat.le_refl _
  | cons b r ih =>
    intro l hl
    rw [cutAt] at hl
    rw [List.length_cons]
    split at hl
    · rcases List.mem_cons.mp hl with rfl | hl
      · exact Nat.zero_le _
      · have := ih l hl; omega
    · rw [← cutAt_split] at ih
      rcases List.mem_cons.mp hl with rfl | hl
      · have := ih _ List.mem_cons_self; rw [List.length_cons]; omega
      · have := ih l (List.mem_cons_of_mem _ hl); omega
theorem collect_mem {segs : List (List UInt8)} : ∀ {i : Nat} {p : Int × List ByteArray}, p ∈ collect i segs → ∃ l ∈ segs, p.2 = segWords l ∧ segWords l ≠ [] := by
  induction segs with
  | nil => intro i p hp; cases hp
  | cons l r ih =>
    intro i p hp
    rw [collect] at hp
    split at hp
    · obtain ⟨m, hm, h1, h2⟩ := ih hp
      exact ⟨m, List.mem_cons_of_mem _ hm, h1, h2⟩
    · rename_i hne
      rcases List.mem_cons.mp hp with rfl | hp
      · exact ⟨l, List.mem_cons_self, rfl, hne⟩
      · obtain ⟨m, hm, h1, h2⟩ := ih hp
        exact ⟨m, List.mem_cons_of_mem _ hm, h1, h2⟩
theorem lens_le (M : Nat) : ∀ ws : List (List UInt8), (∀ x ∈ ws, x.length ≤ M) → Lib.lens ws ≤ ws.length * M
  | [], _ => Nat.zero_le _
  | x :: r, h => by
    have h1 := lens_le M r (fun y hy => h y (List.mem_cons_of_mem _ hy))
    have h2 := h x List.mem_cons_self
    unfold Lib.lens at h1 ⊢
    rw [List.map_cons, List.sum_cons, List.length_cons, Nat.succ_mul]
    omega
theorem join_le (M : Nat) (sep : List UInt8) (ws : List (List UInt8)) (h : ∀ x ∈ ws, x.length ≤ M) : (Lib.join ws sep).length ≤ sep.length * ws.length + ws.length * M := by
  cases ws with
  | nil => exact Nat.zero_le _
  | cons x r =>
    rw [Lib.join_length]
    have := lens_le M (x :: r) h
    have h2 : sep.length * r.length ≤ sep.length * (x :: r).length := Nat.mul_le_mul_left _ (by simp)
    omega
theorem segWords_bound (l : List UInt8) : (segWords l).length ≤ l.length ∧ ∀ x ∈ segWords l, x.data.toList.length ≤ l.length := by
  have hp := (ahead_prefix l).length_le
  refine ⟨?_, fun x hx => ?_⟩
  · unfold segWords
    rw [List.length_map, Lib.fields_length]
    have := cntF_size (ahead l) true
    omega
  · unfold segWords at hx
    obtain ⟨y, hy, rfl⟩ := List.mem_map.mp hx
    rw [mkB_data]
    have h : ∀ (l cur : List UInt8), ∀ x ∈ Lib.fieldsGo cur l, x.length ≤ cur.length + l.length := by
      intro l
      induction l with
      | nil =>
        intro cur x hx
        rw [Lib.fieldsGo] at hx
        split at hx
        · cases hx
        · rw [List.mem_singleton] at hx; rw [hx]; exact Nat.le_refl _
      | cons b r ih =>
        intro cur x hx
        rw [List.length_cons]
        rw [Lib.fieldsGo] at hx
        split at hx
        · split at hx
          · have := ih [] x hx; simp at this; omega
          · rcases List.mem_cons.mp hx with rfl | hx
            · omega
            · have := ih [] x hx; simp at this; omega
        · have := ih (cur ++ [b]) x hx; simp at this; omega
    have := h (ahead l) [] y hy
    simp at this
    omega
/-- The words of a line of a text that is not too long, joined. -/
theorem join_words (l : List UInt8) (hl : l.length ≤ 1000000) (sep : ByteArray) (hs : sep.size ≤ 10) : strings_Join.f (segWords l) sep = some ⟨(Lib.join ((segWords l).map (·.data.toList)) sep.data.toList).toArray⟩ := by
  obtain ⟨h1, h2⟩ := segWords_bound l
  have h3 := join_le 1000000 sep.data.toList ((segWords l).map (·.data.toList)) (fun x hx => by
    obtain ⟨y, hy, rfl⟩ := List.mem_map.mp hx
    have := h2 y hy
    omega)
  rw [List.length_map] at h3
  have hs2 : sep.data.toList.length ≤ 10 := by rw [← size_list]; exact hs
  have h4 : sep.data.toList.length * (segWords l).length ≤ 10 * 1000000 := Nat.mul_le_mul hs2 (by omega)
  have h5 : (segWords l).length * 1000000 ≤ 1000000 * 1000000 := Nat.mul_le_mul_right _ (by omega)
  unfold strings_Join.f
  rw [if_pos ⟨by omega, by omega⟩]
theorem rd_toS (G : List (Int × List ByteArray)) (i : Nat) (h : i < G.length) : rd_T32 (G.map toS) (i : Int) = toS G[i] := by
  unfold rd_T32
  rw [Int.toNat_natCast, List.getD_eq_getElem?_getD, List.getElem?_map, List.getElem?_eq_getElem h]
  rfl
end Go.Proofs.YthidobgadndclaaDoor.P

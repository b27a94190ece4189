/- parse.Parse: what a call of it hands back. -/
import Derived.Test.YtdbjjbooalkkbaaGreatDoorXParA1
set_option linter.unusedVariables false
namespace Go.Proofs.YtdbjjbooalkkbaaGreatDoor.P
open Go.RowKit Go.Shelf Go.Proofs.YtdbjjbooalkkbaaGreatDoorW.PrintWords

theorem fieldsGo_len (l : List UInt8) : ∀ cur : List UInt8, ∀ x ∈ Lib.fieldsGo cur l, x.length ≤ cur.length + l.length := by
  induction l with
  | nil =>
    intro cur x hx
    rw [Lib.fieldsGo] at hx
    split at hx
    · cases hx
    · rw [List.mem_singleton] at hx
      subst hx
      exact Nat.le_refl _
  | cons c r ih =>
    intro cur x hx
    rw [Lib.fieldsGo] at hx
    rw [List.length_cons]
    split at hx
    · split at hx
      · have := ih [] x hx
        simp only [List.length_nil] at this
        omega
      · rcases List.mem_cons.mp hx with rfl | hx
        · omega
        · have := ih [] x hx
          simp only [List.length_nil] at this
          omega
    · have := ih (cur ++ [c]) x hx
      rw [List.length_append, List.length_singleton] at this
      omega
theorem cut_len (c : UInt8) (t : List UInt8) : ∀ l ∈ cutAt c t, l.length ≤ t.length := by
  induction t with
  | nil => intro l hl; simp [cutAt] at hl; rw [hl]; exact Nat.le_refl _
  | cons b r ih =>
    intro l hl
    rw [cutAt] at hl
    rw [List.length_cons]
    split at hl
    · rcases List.mem_cons.mp hl with rfl | hl
      · exact Nat.zero_le _
      · have := ih l hl; omega
    · rw [← cutAt_split] at ih
      rcases List.mem_cons.mp hl with rfl | hl
      · have := ih _ List.mem_cons_self; rw [List.length_cons]; omega
      · have := ih l (List.mem_cons_of_mem _ hl); omega
theorem col_mem {segs : List (List UInt8)} : ∀ {i : Nat} {p : Int × List ByteArray}, p ∈ collect i segs → ∃ l ∈ segs, p.2 = segWords l ∧ segWords l ≠ [] := by
  induction segs with
  | nil => intro i p hp; cases hp
  | cons l r ih =>
    intro i p hp
    rw [collect] at hp
    split at hp
    · obtain ⟨m, hm, h1, h2⟩ := ih hp
      exact ⟨m, List.mem_cons_of_mem _ hm, h1, h2⟩
    · rename_i hne
      rcases List.mem_cons.mp hp with rfl | hp
      · exact ⟨l, List.mem_cons_self, rfl, hne⟩
      · obtain ⟨m, hm, h1, h2⟩ := ih hp
        exact ⟨m, List.mem_cons_of_mem _ hm, h1, h2⟩
theorem segA_len (l : List UInt8) : ∀ x ∈ segWords l, x.size ≤ l.length := by
  intro x hx
  unfold segWords at hx
  obtain ⟨y, hy, rfl⟩ := List.mem_map.1 hx
  rw [mkB_size]
  have h1 := fieldsGo_len (ahead l) [] y hy
  have h2 := (ahead_prefix l).length_le
  simp only [List.length_nil] at h1
  omega
theorem lines_words {t : ByteArray} {ls : List LN} {n e : Int} (h : lex_Lines.f t = some (ls, n, e)) : ∀ l ∈ ls, 0 < l.f1.length ∧ ∀ x ∈ l.f1, x.size ≤ 65536 := by
  by_cases hs : 65536 < t.size
  · rw [lex_Lines_big t hs] at h
    cases h
    intro l hl
    cases hl
  · rw [lex_Lines_eq t (by omega)] at h
    injection h with h
    injection h with h _
    subst h
    unfold linesG
    intro l hl
    cases hb : firstBad 0 (cutAt 10 t.data.toList) with
    | some k => rw [hb] at hl; cases hl
    | none =>
      rw [hb] at hl
      obtain ⟨p, hp, rfl⟩ := List.mem_map.1 hl
      obtain ⟨m, hm, h1, h2⟩ := col_mem hp
      refine ⟨?_, fun x hx => ?_⟩
      · show 0 < p.2.length
        rw [h1]
        exact List.length_pos_iff.2 h2
      · have hx : x ∈ p.2 := hx
        rw [h1] at hx
        have h3 := segA_len m x hx
        have h4 := cut_len 10 t.data.toList m hm
        have h5 : t.size = t.data.toList.length := by show t.data.size = _; simp
        omega
theorem parse_Parse.calls (a0 : ByteArray) (r0 r1 r2 : Int) (r3 : List S47) (r4 : List Int) (r5 r6 : Int) (w : World) (hL : Aside0 (LaidW 47 w)) (h : parse_Parse.f a0 = some (r0, r1, r2, r3, r4, r5, r6)) :
    Calls Tryz.prog 6 #[.string a0] w fun e w' => ∃ v3 v4 : Value, e = .returned (.tuple #[.agg #[.int .i64 r0, .int .i64 r1, .int .i64 r2, v3], v4, .int .i64 r5, .int .i64 r6]) ∧ Kd.S k47 47 w' w.heap.size (fun _ => True) v3 r3 ∧ Kd.R (Kd.int .i64) 3 w' w.heap.size (fun _ => True) v4 r4 ∧ Below w.heap.size w w' := by
  unfold parse_Parse.f at h
  cases hl : lex_Lines.f a0 with
  | none => rw [hl] at h; cases h
  | some q =>
    obtain ⟨ls, n, e⟩ := q
    rw [hl] at h
    simp only at h
    by_cases he : e = 0
    · subst he
      rw [if_pos rfl] at h
      have h := Option.some.inj h
      have hw := parse_main a0 n ls (lines_words hl) w hL hl
      rw [h] at hw
      exact hw
    · rw [if_neg he] at h
      have h := Option.some.inj h
      have hw := parse_err a0 n e he ls w (LaidW.below hL rfl (Below.refl _ _)) hl
      unfold bad at hw
      rw [h] at hw
      exact hw
end Go.Proofs.YtdbjjbooalkkbaaGreatDoor.P

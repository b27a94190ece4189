/- Plain lists of bytes: the lines of a text and their words; joined words. -/
import Derived.Test.YtdbjjbooalkkbaaGreatDoorXLex
import Derived.Lib.Join
namespace Go.Proofs.YtdbjjbooalkkbaaGreatDoor.P
open Go

/-! ### lines -/
def mkB (l : List UInt8) : ByteArray := ⟨l.toArray⟩
theorem mkB_list (s : ByteArray) : mkB s.data.toList = s := by cases s; simp [mkB]
theorem mkB_data (l : List UInt8) : (mkB l).data.toList = l := by simp [mkB]
theorem mkB_size (l : List UInt8) : (mkB l).size = l.length := by show l.toArray.size = _; simp
/-- A line without its comment: is it plain? its words. -/
def segPlain (l : List UInt8) : Bool := (ahead l).all isPlain
def segWords (l : List UInt8) : List ByteArray := (Lib.fields (ahead l)).map mkB
/-- The first line (counted from i) that is not plain. -/
def firstBad : Nat → List (List UInt8) → Option Nat
  | _, [] => none
  | i, l :: r => if segPlain l = true then firstBad (i + 1) r else some i
def collect : Nat → List (List UInt8) → List (Int × List ByteArray)
  | _, [] => []
  | i, l :: r => if segWords l = [] then collect (i + 1) r else ((i : Int) + 1, segWords l) :: collect (i + 1) r
/-- What Lines hands back of a text cut at its newlines. -/
def linesG (segs : List (List UInt8)) : List (Int × List ByteArray) × Int × Int :=
  match firstBad 0 segs with
  | some k => ([], (k : Int) + 1, 6)
  | none => (collect 0 segs, 0, 0)
theorem collect_append (a b : List (List UInt8)) : ∀ i, collect i (a ++ b) = collect i a ++ collect (i + a.length) b := by
  induction a with
  | nil => intro i; rfl
  | cons l r ih =>
    intro i
    rw [List.cons_append, collect, collect, ih (i + 1), List.length_cons, show i + 1 + r.length = i + (r.length + 1) by omega]
    split <;> rfl
theorem firstBad_none {segs : List (List UInt8)} : ∀ {i : Nat}, firstBad i segs = none ↔ ∀ l ∈ segs, segPlain l = true := by
  induction segs with
  | nil => intro i; simp [firstBad]
  | cons l r ih =>
    intro i
    rw [firstBad]
    split
    · rename_i h
      rw [ih]
      simp [h]
    · rename_i h
      simp [h]
theorem collect_shift (a : List (List UInt8)) (d : Nat) : ∀ i, collect (i + d) a = (collect i a).map (fun p => (p.1 + (d : Int), p.2)) := by
  induction a with
  | nil => intro i; rfl
  | cons l r ih =>
    intro i
    rw [collect, collect, show i + d + 1 = (i + 1) + d by omega, ih (i + 1)]
    split
    · rfl
    · rw [List.map_cons]
      congr 1
      congr 1
      omega
theorem ahead_prefix (l : List UInt8) : ahead l <+: l := List.takeWhile_prefix _
theorem ahead_none (l : List UInt8) (h : ∀ b ∈ l, b ≠ 59) : ahead l = l := by
  unfold ahead
  induction l with
  | nil => rfl
  | cons b r ih =>
    rw [List.takeWhile_cons, if_pos (by simpa using h b List.mem_cons_self), ih (fun c hc => h c (List.mem_cons_of_mem _ hc))]
theorem ahead_at (l r : List UInt8) (h : ∀ b ∈ l, b ≠ 59) : ahead (l ++ 59 :: r) = l := by
  unfold ahead
  induction l with
  | nil => rfl
  | cons b t ih =>
    rw [List.cons_append, List.takeWhile_cons, if_pos (by simpa using h b List.mem_cons_self), ih (fun c hc => h c (List.mem_cons_of_mem _ hc))]
theorem cutAt_none (c : UInt8) (l : List UInt8) (h : ∀ b ∈ l, b ≠ c) : cutAt c l = [l] := by
  induction l with
  | nil => rfl
  | cons b r ih => rw [cutAt, if_neg (h b List.mem_cons_self), ih (fun d hd => h d (List.mem_cons_of_mem _ hd))]; rfl
/-- A text behind a line. -/
theorem cutAt_at (c : UInt8) (l r : List UInt8) (h : ∀ b ∈ l, b ≠ c) : cutAt c (l ++ c :: r) = l :: cutAt c r := by
  induction l with
  | nil => rw [List.nil_append, cutAt, if_pos rfl]
  | cons b t ih => rw [List.cons_append, cutAt, if_neg (h b List.mem_cons_self), ih (fun d hd => h d (List.mem_cons_of_mem _ hd))]; rfl
/-- Two texts joined by the byte. -/
theorem cutAt_two (c : UInt8) (a b : List UInt8) : cutAt c (a ++ c :: b) = cutAt c a ++ cutAt c b := by
  induction a with
  | nil =>
    rw [List.nil_append]
    show cutAt c (c :: b) = [] :: cutAt c b
    rw [cutAt, if_pos rfl]
  | cons x t ih =>
    rw [List.cons_append, cutAt, ih]
    by_cases h : x = c
    · rw [if_pos h, cutAt, if_pos h]; rfl
    · rw [if_neg h, cutAt, if_neg h, ← cutAt_split c t]
      simp
theorem cutAt_free (c : UInt8) (l : List UInt8) : ∀ x ∈ cutAt c l, ∀ b ∈ x, b ≠ c := by
  induction l with
  | nil => intro x hx; simp [cutAt] at hx; subst hx; simp
  | cons b r ih =>
    intro x hx
    rw [cutAt] at hx
    split at hx
    · rcases List.mem_cons.mp hx with rfl | hx
      · simp
      · exact ih x hx
    · rename_i hb
      rw [← cutAt_split c r] at ih
      rcases List.mem_cons.mp hx with rfl | hx
      · intro d hd
        rcases List.mem_cons.mp hd with rfl | hd
        · exact hb
        · exact ih _ List.mem_cons_self d hd
      · exact ih x (List.mem_cons_of_mem _ hx)

/-! ### words -/
theorem isSp_plain (b : UInt8) (h : isPlain b = true) : Lib.isSp b = (decide (b.toNat = 32) || decide (b.toNat = 9)) := by
  have hp : b.toNat = 9 ∨ 32 ≤ b.toNat ∧ b.toNat ≤ 126 := of_decide_eq_true h
  have h2 : ∀ n : Fin 256, (n.val = 9 ∨ 32 ≤ n.val ∧ n.val ≤ 126) → Lib.isSp (UInt8.ofNat n.val) = (decide (n.val = 32) || decide (n.val = 9)) := by decide +kernel
  have := h2 ⟨b.toNat, b.toNat_lt⟩ hp
  simpa using this
/-- The words of a list of bytes hold no white space and are not empty. -/
theorem fieldsGo_free (l : List UInt8) : ∀ cur : List UInt8, (∀ b ∈ cur, Lib.isSp b = false) → ∀ x ∈ Lib.fieldsGo cur l, x ≠ [] ∧ ∀ b ∈ x, Lib.isSp b = false := by
  induction l with
  | nil =>
    intro cur hc x hx
    rw [Lib.fieldsGo] at hx
    split at hx
    · cases hx
    · rename_i hne
      rw [List.mem_singleton] at hx
      subst hx
      exact ⟨by simpa using hne, hc⟩
  | cons b r ih =>
    intro cur hc x hx
    rw [Lib.fieldsGo] at hx
    split at hx
    · split at hx
      · exact ih [] (by simp) x hx
      · rename_i hne
        rcases List.mem_cons.mp hx with rfl | hx
        · exact ⟨by simpa using hne, hc⟩
        · exact ih [] (by simp) x hx
    · rename_i hb
      refine ih (cur ++ [b]) (fun d hd => ?_) x hx
      rcases List.mem_append.mp hd with hd | hd
      · exact hc d hd
      · rw [List.mem_singleton.mp hd]; simpa using hb
theorem fields_free (l : List UInt8) : ∀ x ∈ Lib.fields l, x ≠ [] ∧ ∀ b ∈ x, Lib.isSp b = false := fieldsGo_free l [] (by simp)
theorem fieldsGo_mem (l : List UInt8) : ∀ cur : List UInt8, ∀ x ∈ Lib.fieldsGo cur l, ∀ b ∈ x, b ∈ cur ∨ b ∈ l := by
  induction l with
  | nil =>
    intro cur x hx b hb
    rw [Lib.fieldsGo] at hx
    split at hx
    · cases hx
    · rw [List.mem_singleton] at hx
      subst hx
      exact .inl hb
  | cons c r ih =>
    intro cur x hx b hb
    rw [Lib.fieldsGo] at hx
    split at hx
    · split at hx
      · rcases ih [] x hx b hb with h | h
        · cases h
        · exact .inr (List.mem_cons_of_mem _ h)
      · rcases List.mem_cons.mp hx with rfl | hx
        · exact .inl hb
        · rcases ih [] x hx b hb with h | h
          · cases h
          · exact .inr (List.mem_cons_of_mem _ h)
    · rcases ih (cur ++ [c]) x hx b hb with h | h
      · rcases List.mem_append.mp h with h | h
        · exact .inl h
        · rw [List.mem_singleton.mp h]; exact .inr List.mem_cons_self
      · exact .inr (List.mem_cons_of_mem _ h)
theorem fields_mem (l : List UInt8) : ∀ x ∈ Lib.fields l, ∀ b ∈ x, b ∈ l := fun x hx b hb => by
  rcases fieldsGo_mem l [] x hx b hb with h | h
  · cases h
  · exact h
theorem fieldsGo_word (x l cur : List UInt8) (h : ∀ b ∈ x, Lib.isSp b = false) : Lib.fieldsGo cur (x ++ l) = Lib.fieldsGo (cur ++ x) l := by
  induction x generalizing cur with
  | nil => simp
  | cons b r ih =>
    rw [List.cons_append, Lib.fieldsGo_more cur b _ (h b List.mem_cons_self), ih _ (fun d hd => h d (List.mem_cons_of_mem _ hd))]
    simp
/-- The words of joined words (with white space behind them) are the words. -/
theorem fields_join (ws : List (List UInt8)) (t : List UInt8) (h : ∀ x ∈ ws, x ≠ [] ∧ ∀ b ∈ x, Lib.isSp b = false) (ht : ∀ b ∈ t, Lib.isSp b = true) : Lib.fields (Lib.join ws [32] ++ t) = ws := by
  have h32 : Lib.isSp 32 = true := by decide
  have hend : ∀ t : List UInt8, (∀ b ∈ t, Lib.isSp b = true) → Lib.fieldsGo [] t = [] := by
    intro t
    induction t with
    | nil => intro _; rfl
    | cons b r ih => intro ht; rw [Lib.fieldsGo_sp b r (ht b List.mem_cons_self), ih (fun d hd => ht d (List.mem_cons_of_mem _ hd))]
  have hlast : ∀ cur : List UInt8, cur ≠ [] → Lib.fieldsGo cur t = [cur] := by
    intro cur hc
    cases t with
    | nil => cases cur with
      | nil => exact absurd rfl hc
      | cons b r => rfl
    | cons b r => rw [Lib.fieldsGo_end cur b r (ht b List.mem_cons_self) hc, hend r (fun d hd => ht d (List.mem_cons_of_mem _ hd))]
  have tail : ∀ (r : List (List UInt8)) (cur : List UInt8), cur ≠ [] → (∀ x ∈ r, x ≠ [] ∧ ∀ b ∈ x, Lib.isSp b = false) → Lib.fieldsGo cur (Lib.joinTail [32] r ++ t) = cur :: r := by
    intro r
    induction r with
    | nil => intro cur hc _; exact hlast cur hc
    | cons x r ih =>
      intro cur hc hr
      have e : Lib.joinTail [32] (x :: r) ++ t = 32 :: (x ++ (Lib.joinTail [32] r ++ t)) := by simp [Lib.joinTail]
      rw [e, Lib.fieldsGo_end cur 32 _ h32 hc, fieldsGo_word x _ [] (hr x List.mem_cons_self).2, List.nil_append, ih x (hr x List.mem_cons_self).1 (fun y hy => hr y (List.mem_cons_of_mem _ hy))]
  cases ws with
  | nil => rw [Lib.join_nil, List.nil_append]; exact hend t ht
  | cons x r =>
    rw [Lib.join_cons, List.append_assoc]
    unfold Lib.fields
    rw [fieldsGo_word x _ [] (h x List.mem_cons_self).2, List.nil_append]
    exact tail r x (h x List.mem_cons_self).1 (fun y hy => h y (List.mem_cons_of_mem _ hy))
theorem join_mem (ws : List (List UInt8)) (sep : List UInt8) : ∀ b ∈ Lib.join ws sep, b ∈ sep ∨ ∃ x ∈ ws, b ∈ x := by
  cases ws with
  | nil => intro b hb; cases hb
  | cons x r =>
    intro b hb
    rw [Lib.join_cons] at hb
    rcases List.mem_append.mp hb with hb | hb
    · exact .inr ⟨x, List.mem_cons_self, hb⟩
    · unfold Lib.joinTail at hb
      obtain ⟨y, hy, hb⟩ := List.mem_flatten.mp hb
      obtain ⟨z, hz, rfl⟩ := List.mem_map.mp hy
      rcases List.mem_append.mp hb with hb | hb
      · exact .inl hb
      · exact .inr ⟨z, List.mem_cons_of_mem _ hz, hb⟩
end Go.Proofs.YtdbjjbooalkkbaaGreatDoor.P

/- ParseFirstError, plainly: a refused line behind a text that came through is reported with its number. -/
import Derived.Test.YtmcmpjkfdkogiaaGreatDoorPQ0
import Derived.Test.YtmcmpjkfdkogiaaGreatDoorXRep
import Derived.Test.YtmcmpjkfdkogiaaGreatDoorXParT
import Derived.Test.YtmcmpjkfdkogiaaGreatDoorXAlive10
import Derived.Test.YtmcmpjkfdkogiaaGreatDoorXStrings
set_option linter.unusedVariables false
set_option linter.unusedSimpArgs false
namespace Go.Proofs.YtmcmpjkfdkogiaaGreatDoor.P
open Go.RowKit Go.Proofs.YtmcmpjkfdkogiaaGreatDoorW.PrintWords

theorem app_list (s t : ByteArray) : (s ++ t).data.toList = s.data.toList ++ t.data.toList := by rw [ByteArray.data_append, Array.toList_append]
def badL : Nat → List UInt8
  | 0 => [119, 104, 97, 116]
  | 1 => [115, 105, 122, 101, 32, 49, 32, 49, 32, 49]
  | 2 => [114, 117, 110, 103, 32, 49]
  | 3 => [110, 111]
  | 4 => [111, 117, 116]
  | 5 => [106, 117, 109, 112]
  | 6 => [114, 117, 110, 103, 32, 97, 32, 98]
  | _ => [115, 101, 116]
def badW : Nat → List ByteArray
  | 0 => [⟨#[119, 104, 97, 116]⟩]
  | 1 => [⟨#[115, 105, 122, 101]⟩, ⟨#[49]⟩, ⟨#[49]⟩, ⟨#[49]⟩]
  | 2 => [⟨#[114, 117, 110, 103]⟩, ⟨#[49]⟩]
  | 3 => [⟨#[110, 111]⟩]
  | 4 => [⟨#[111, 117, 116]⟩]
  | 5 => [⟨#[106, 117, 109, 112]⟩]
  | 6 => [⟨#[114, 117, 110, 103]⟩, ⟨#[97]⟩, ⟨#[98]⟩]
  | _ => [⟨#[115, 101, 116]⟩]
def badE (j : Nat) (sized : Bool) : Int := if j = 0 then 8 else if j = 1 then 9 else if j = 2 then (if sized = true then 6 else 11) else 6
theorem badE_ne (j : Nat) (sized : Bool) : badE j sized ≠ 0 := by
  unfold badE
  repeat' split
  all_goals decide
theorem cases8 {p : Nat → Prop} (h0 : p 0) (h1 : p 1) (h2 : p 2) (h3 : p 3) (h4 : p 4) (h5 : p 5) (h6 : p 6) (h7 : p 7) {j : Nat} (hj : j < 8) : p j := by
  have : j = 0 ∨ j = 1 ∨ j = 2 ∨ j = 3 ∨ j = 4 ∨ j = 5 ∨ j = 6 ∨ j = 7 := by omega
  rcases this with rfl | rfl | rfl | rfl | rfl | rfl | rfl | rfl <;> assumption
theorem bad_cut {j : Nat} (hj : j < 8) : cutAt 10 (badL j) = [badL j] ∧ segPlain (badL j) = true ∧ (badL j).length ≤ 20 ∧ (∀ b ∈ badL j, b ≠ 10) :=
  cases8 (p := fun j => cutAt 10 (badL j) = [badL j] ∧ segPlain (badL j) = true ∧ (badL j).length ≤ 20 ∧ (∀ b ∈ badL j, b ≠ 10)) (by decide) (by decide) (by decide) (by decide) (by decide) (by decide) (by decide) (by decide) hj
theorem bad_words {j : Nat} (hj : j < 8) : segWords (badL j) = badW j ∧ badW j ≠ [] :=
  cases8 (p := fun j => segWords (badL j) = badW j ∧ badW j ≠ []) ⟨rfl, by simp [badW]⟩ ⟨rfl, by simp [badW]⟩ ⟨rfl, by simp [badW]⟩ ⟨rfl, by simp [badW]⟩ ⟨rfl, by simp [badW]⟩ ⟨rfl, by simp [badW]⟩ ⟨rfl, by simp [badW]⟩ ⟨rfl, by simp [badW]⟩ hj
theorem bad_err {j : Nat} (hj : j < 8) (s : PSt) (n : Int) (h : j = 1 → s.sized = true) : (lineP s ⟨n, badW j⟩).1 = badE j s.sized := by
  revert h
  refine cases8 (p := fun j => (j = 1 → s.sized = true) → (lineP s ⟨n, badW j⟩).1 = badE j s.sized) ?_ ?_ ?_ ?_ ?_ ?_ ?_ ?_ hj
  · intro _; rfl
  · intro h
    have h := h rfl
    show (sizeP s ⟨n, badW 1⟩).1 = _
    unfold sizeP badE
    rw [if_pos h]
    rfl
  · intro _
    unfold badE
    cases hs : s.sized with
    | true =>
      show (guardP 1 2 true false s ⟨n, badW 2⟩ (beginP s ⟨n, badW 2⟩)).1 = 6
      have e : guardP 1 2 true false s ⟨n, badW 2⟩ (beginP s ⟨n, badW 2⟩) = beginP s ⟨n, badW 2⟩ := by simp [guardP, badW, hs]
      rw [e]
      rfl
    | false =>
      show (guardP 1 2 true false s ⟨n, badW 2⟩ (beginP s ⟨n, badW 2⟩)).1 = 11
      simp [guardP, badW, hs]
  · intro _; rfl
  · intro _; rfl
  · intro _; rfl
  · intro _; rfl
  · intro _; rfl
theorem cutAt_mem {c : UInt8} (t : List UInt8) : ∀ l ∈ cutAt c t, ∀ b ∈ l, b ∈ t := by
  induction t with
  | nil => intro l hl b hb; simp [cutAt] at hl; subst hl; exact hb
  | cons a r ih =>
    intro l hl b hb
    rw [cutAt] at hl
    split at hl
    · rcases List.mem_cons.mp hl with rfl | hl
      · cases hb
      · exact List.mem_cons_of_mem _ (ih l hl b hb)
    · rw [← cutAt_split] at ih
      rcases List.mem_cons.mp hl with rfl | hl
      · rcases List.mem_cons.mp hb with rfl | hb
        · exact List.mem_cons_self
        · exact List.mem_cons_of_mem _ (ih _ List.mem_cons_self b hb)
      · exact List.mem_cons_of_mem _ (ih l (List.mem_cons_of_mem _ hl) b hb)
/-- A printable byte, or a newline. -/
def okB (b : UInt8) : Prop := b.toNat = 10 ∨ 32 ≤ b.toNat ∧ b.toNat ≤ 126
theorem ok_plain {r : List UInt8} (h : ∀ b ∈ r, okB b) : ∀ l ∈ cutAt 10 r, segPlain l = true := by
  intro l hl
  unfold segPlain
  rw [List.all_eq_true]
  intro b hb
  have hb2 := (ahead_prefix l).subset hb
  have h10 := cutAt_free 10 r l hl b hb2
  have hm := cutAt_mem r l hl b hb2
  rcases h b hm with h1 | h1
  · exact absurd (by apply UInt8.toNat_inj.1; exact h1) h10
  · exact decide_eq_true (.inr h1)
theorem first_law (t r : List UInt8) (j : Nat) (hj : j < 8) (ht : t.length ≤ 3000) (hr : r.length ≤ 100)
    (he : (parseT t).2.2.2.2.2.2 = 0 ∨ (parseT t).2.2.2.2.2.2 = 5 ∨ (parseT t).2.2.2.2.2.2 = 15) (h1 : j = 1 → (parseT t).2.2.2.2.2.2 ≠ 5) (hok : ∀ b ∈ r, okB b) :
    ∃ e : Int, e ≠ 0 ∧ parseT (t ++ 10 :: badL j) = bad ((t.count 10 : Int) + 2) e ∧ parseT (t ++ 10 :: (badL j ++ 10 :: r)) = bad ((t.count 10 : Int) + 2) e := by
  obtain ⟨_, hp, hrun, hsz⟩ := parseT_through he
  obtain ⟨hc, hbp, hbl, hfree⟩ := bad_cut hj
  obtain ⟨hw, hne⟩ := bad_words hj
  have hcount := count_cutAt 10 t
  have hE : ∀ n, (lineP (runP s0 (linesN t)).2.2 ⟨n, badW j⟩).1 = badE j (runP s0 (linesN t)).2.2.sized := fun n => bad_err hj _ n (fun h => hsz (h1 h))
  refine ⟨badE j (runP s0 (linesN t)).2.2.sized, badE_ne _ _, ?_, ?_⟩
  · rw [parse_then t (badL j) (badW j) [] (by simp; omega) hp (by rw [hc]; intro l hl; rw [List.mem_singleton.1 hl]; exact hbp) hrun ⟨_, hc, hw⟩ hne _ (badE_ne _ _) hE, hcount]
    congr 1
  · have hc2 : cutAt 10 (badL j ++ 10 :: r) = badL j :: cutAt 10 r := cutAt_at 10 _ _ hfree
    rw [parse_then t (badL j ++ 10 :: r) (badW j) (cutAt 10 r) (by simp; omega) hp (by
      rw [hc2]
      intro l hl
      rcases List.mem_cons.1 hl with rfl | hl
      · exact hbp
      · exact ok_plain hok l hl) hrun ⟨_, hc2, hw⟩ hne _ (badE_ne _ _) hE, hcount]
    congr 1
end Go.Proofs.YtmcmpjkfdkogiaaGreatDoor.P

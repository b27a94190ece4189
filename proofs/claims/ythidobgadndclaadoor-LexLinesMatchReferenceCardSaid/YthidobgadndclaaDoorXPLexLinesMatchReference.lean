/- LexLinesMatchReference, the plain law: for every text, Lines returns the same lines or the same error as the reference. -/
import Derived.Test.YthidobgadndclaaDoorXPLex0
import Derived.Test.YthidobgadndclaaDoorXLRef
import Derived.Test.YthidobgadndclaaDoorPL4
namespace Go.Proofs.YthidobgadndclaaDoor.P
open Go.RowKit Go.Proofs.YthidobgadndclaaDoorW.PrintWords

def toR (p : Int × List ByteArray) : S33 := ⟨p.1, p.2⟩
theorem rd_toR (G : List (Int × List ByteArray)) (i : Nat) (h : i < G.length) : rd_T33 (G.map toR) (i : Int) = toR G[i] := by
  unfold rd_T33
  rw [Int.toNat_natCast, List.getD_eq_getElem?_getD, List.getElem?_map, List.getElem?_eq_getElem h]
  rfl
theorem lm_loop (G : List (Int × List ByteArray)) (hG : G.length ≤ 1000000) (hJ : ∀ p ∈ G, ∃ t, strings_Join.f p.2 (⟨#[10]⟩ : ByteArray) = some t) (d : Nat) : ∀ k i : Nat, i + d = G.length → d + 1 ≤ k →
    law09_LexLinesMatchReference.l0 k (G.map toS) (G.map toR) (G.length : Int) (i : Int) = some true := by
  induction d with
  | zero =>
    intro k i hi hk
    obtain ⟨k, rfl⟩ : ∃ m, k = m + 1 := ⟨k - 1, by omega⟩
    rw [law09_LexLinesMatchReference.l0, if_neg (by omega), alive09]
    rfl
  | succ d ih =>
    intro k i hi hk
    obtain ⟨k, rfl⟩ : ∃ m, k = m + 1 := ⟨k - 1, by omega⟩
    have hlt : i < G.length := by omega
    have hw : wrap64 ((i : Int) + 1) = ((i + 1 : Nat) : Int) := by rw [wrap_id (by omega) (by omega)]; omega
    obtain ⟨t, ht⟩ := hJ _ (List.getElem_mem hlt)
    rw [law09_LexLinesMatchReference.l0, if_pos (by omega), if_pos (by omega), if_pos (by rw [List.length_map]; omega), if_pos (by rw [List.length_map]; omega), rd_toS G i hlt, rd_toR G i hlt]
    rw [show (toS G[i]).f0 = (toR G[i]).f0 from rfl, if_pos rfl, show (toS G[i]).f1 = G[i].2 from rfl, show (toR G[i]).f1 = G[i].2 from rfl, ht, hw]
    simp only [Option.bind_some, if_true]
    exact ih k (i + 1) (by omega) (by omega)
theorem pure_LexLinesMatchReference : law09_LexLinesMatchReference.Pure := by
  intro a0 _
  have hsz := size_list a0
  unfold law09_LexLinesMatchReference.f
  by_cases h7 : (a0.size : Int) > 70000
  · refine ⟨0, ?_⟩
    rw [if_pos h7, alive09]
    rfl
  · refine ⟨6000000, ?_⟩
    rw [if_neg h7]
    by_cases h6 : a0.size ≤ 65536
    · rw [lex_Lines_eq a0 h6, ref_lines a0 h6]
      obtain ⟨G, hG⟩ : ∃ G, G = linesG (cutAt 10 a0.data.toList) := ⟨_, rfl⟩
      rw [← hG]
      simp only [Option.bind_some, if_true]
      have hl : G.1.length ≤ 1000000 ∧ ∀ p ∈ G.1, ∃ l ∈ cutAt 10 a0.data.toList, p.2 = segWords l := by
        rw [hG]
        unfold linesG
        cases firstBad 0 (cutAt 10 a0.data.toList) with
        | some k => exact ⟨by simp, fun p hp => by cases hp⟩
        | none =>
          refine ⟨?_, fun p hp => ?_⟩
          · have h1 : ∀ (segs : List (List UInt8)) (i : Nat), (collect i segs).length ≤ segs.length := by
              intro segs
              induction segs with
              | nil => intro i; exact Nat.le_refl _
              | cons l r ih =>
                intro i
                rw [collect]
                have := ih (i + 1)
                split
                · rw [List.length_cons]; omega
                · rw [List.length_cons, List.length_cons]; omega
            have h2 := h1 (cutAt 10 a0.data.toList) 0
            have h3 := count_cutAt 10 a0.data.toList
            have h4 : a0.data.toList.count 10 ≤ a0.data.toList.length := List.count_le_length
            show (collect 0 _).length ≤ _
            omega
          · obtain ⟨l, hm, h1, _⟩ := collect_mem hp
            exact ⟨l, hm, h1⟩
      rw [List.length_map, List.length_map]
      have hb : ((G.1.length : Int) != (G.1.length : Int)) = false := by simp
      rw [hb]
      show law09_LexLinesMatchReference.j0 (5999999 + 1) _ _ false = _
      rw [law09_LexLinesMatchReference.j0, if_neg (by decide), List.length_map]
      refine lm_loop G.1 hl.1 (fun p hp => ?_) G.1.length 5999999 0 (by omega) (by omega)
      obtain ⟨l, hm, e⟩ := hl.2 p hp
      have hle := cutAt_len 10 _ l hm
      exact ⟨_, by rw [e]; exact join_words l (by omega) _ (by decide)⟩
    · rw [lex_Lines_big a0 (by omega), ref_lines_big a0 (by omega)]
      simp only [Option.bind_some, if_true]
      show law09_LexLinesMatchReference.j0 (5999999 + 1) _ _ ((([] : List S32).length : Int) != (([] : List S33).length : Int)) = _
      rw [show ((([] : List S32).length : Int) != (([] : List S33).length : Int)) = false from rfl, law09_LexLinesMatchReference.j0, if_neg (by decide)]
      exact lm_loop [] (by simp) (fun p hp => by cases hp) 0 5999999 0 rfl (by omega)
theorem LexLinesMatchReference_walk (a0 : ByteArray) (w : World) (w0 : a0.size ≤ 140737488351232) (hL : Aside0 (LaidW 9 w)) :
    Calls Tryd.prog 3 #[.string a0] w fun e w' => e = .returned (.bool true) ∧ Below w.heap.size w w' := law09_LexLinesMatchReference.walk pure_LexLinesMatchReference a0 w w0 hL
end Go.Proofs.YthidobgadndclaaDoor.P

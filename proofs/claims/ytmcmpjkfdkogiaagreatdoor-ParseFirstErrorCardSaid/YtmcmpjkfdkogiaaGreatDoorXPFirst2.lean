/- ParseFirstError: the printed law's pure statement. -/
import Derived.Test.YtmcmpjkfdkogiaaGreatDoorPQ4
import Derived.Test.YtmcmpjkfdkogiaaGreatDoorXPFirst
set_option linter.unusedVariables false
set_option linter.unusedSimpArgs false
namespace Go.Proofs.YtmcmpjkfdkogiaaGreatDoor.P
open Go.RowKit Go.Proofs.YtmcmpjkfdkogiaaGreatDoorW.PrintWords

theorem wf8 {x : Int} (h : (Lit.int .u8 x).wf = true) : 0 ≤ x ∧ x ≤ 255 := by
  simp only [Lit.wf, Bool.and_eq_true, decide_eq_true_eq] at h
  exact h
theorem alive_some : law10_alive.f = some true := rfl
def okI (i : Int) : Prop := i = 10 ∨ 32 ≤ i ∧ i ≤ 126
/-- The loop over the bytes behind. -/
theorem first_loop (x1 : Int) (x2 : ByteArray) (x10 x11 x15 x16 x19 x20 : Int) (hs : x2.size ≤ 100) (hg : (∀ j : Nat, j < x2.size → okI (bt x2 j)) → ∀ m, law10_ParseFirstError.j3 (m + 1) x11 x15 x16 x19 x20 (if x10 = 5 then ((Int.tmod x1 8) == 1) else false) = some true) :
    ∀ d i : Nat, i + d = x2.size → (∀ j : Nat, j < i → okI (bt x2 j)) → law10_ParseFirstError.l0 (d + 2) x1 x2 x10 x11 x15 x16 x19 x20 (x2.size : Int) (i : Int) = some true := by
  intro d
  induction d with
  | zero =>
    intro i hi hj
    have hj3 := hg (fun j h => hj j (by omega)) 0
    rw [law10_ParseFirstError.l0, if_neg (by omega)]
    by_cases h5 : x10 = 5
    · rw [if_pos h5] at hj3 ⊢; exact hj3
    · rw [if_neg h5] at hj3 ⊢; exact hj3
  | succ d ih =>
    intro i hi hj
    have hw : wrap64 ((i : Int) + 1) = ((i + 1 : Nat) : Int) := by unfold wrap64; omega
    have next : okI (bt x2 i) → law10_ParseFirstError.l0 (d + 2) x1 x2 x10 x11 x15 x16 x19 x20 (x2.size : Int) (wrap64 ((i : Int) + 1)) = some true := fun hb => by
      rw [hw]
      exact ih (i + 1) (by omega) (fun j h => by
        by_cases e : j = i
        · rw [e]; exact hb
        · exact hj j (by omega))
    rw [law10_ParseFirstError.l0, if_pos (by omega), if_pos (by omega), if_pos (by omega)]
    by_cases h10 : bt x2 i = 10
    · rw [if_pos h10]
      exact next (.inl h10)
    · rw [if_neg h10]
      by_cases h32 : bt x2 i < 32
      · rw [if_pos h32]; rfl
      · rw [if_neg h32]
        by_cases h126 : bt x2 i > 126
        · rw [if_pos h126]; rfl
        · rw [if_neg h126]
          exact next (.inr ⟨by omega, by omega⟩)
theorem ok_bytes {x2 : ByteArray} (h : ∀ j : Nat, j < x2.size → okI (bt x2 j)) : ∀ b ∈ x2.data.toList, okB b := by
  intro b hb
  obtain ⟨j, hj, rfl⟩ := List.getElem_of_mem hb
  have hj2 : j < x2.size := by rw [size_len]; exact hj
  have h1 := h j hj2
  have h2 := bt_at x2 (j : Int) (by rw [Int.toNat_natCast]; exact hj2)
  rw [← h2] at h1
  have e : x2[(j : Int).toNat]'(by rw [Int.toNat_natCast]; exact hj2) = x2.data.toList[j] := by
    simp only [Int.toNat_natCast]
    rw [Array.getElem_toList]
    rfl
  rw [e] at h1
  rcases h1 with h1 | h1
  · exact .inl (by omega)
  · exact .inr ⟨by omega, by omega⟩
def badsB : List ByteArray := [(⟨#[119, 104, 97, 116]⟩ : ByteArray), (⟨#[115, 105, 122, 101, 32, 49, 32, 49, 32, 49]⟩ : ByteArray), (⟨#[114, 117, 110, 103, 32, 49]⟩ : ByteArray), (⟨#[110, 111]⟩ : ByteArray), (⟨#[111, 117, 116]⟩ : ByteArray), (⟨#[106, 117, 109, 112]⟩ : ByteArray), (⟨#[114, 117, 110, 103, 32, 97, 32, 98]⟩ : ByteArray), (⟨#[115, 101, 116]⟩ : ByteArray)]
theorem bads_at {j : Nat} (hj : j < 8) : (rdOf ByteArray.empty badsB (j : Int)).data.toList = badL j :=
  cases8 (p := fun j => (rdOf ByteArray.empty badsB (j : Int)).data.toList = badL j) rfl rfl rfl rfl rfl rfl rfl rfl hj
theorem law10_ParseFirstError.pure : law10_ParseFirstError.Pure := by
  intro a0 a1 a2 h0 h1 h2
  refine ⟨a2.size + 4, ?_⟩
  unfold law10_ParseFirstError.f
  by_cases hl : (a0.size : Int) > 3000
  · rw [if_pos hl]
    rfl
  rw [if_neg hl]
  by_cases hl2 : (a2.size : Int) > 100
  · rw [decide_eq_true hl2]
    rfl
  rw [decide_eq_false hl2]
  have hwf : 0 ≤ a1 ∧ a1 ≤ 255 := wf8 h1
  have htm := Int.tmod_eq_emod_of_nonneg (b := 8) hwf.1
  obtain ⟨j, hj, hj8⟩ : ∃ j : Nat, Int.tmod a1 8 = (j : Int) ∧ j < 8 := ⟨(Int.tmod a1 8).toNat, by omega, by omega⟩
  have hL := size_len a0
  have hbj := bads_at hj8
  generalize hB : rdOf ByteArray.empty badsB (j : Int) = B at hbj
  have hbl : B.size ≤ 20 := by rw [size_len, hbj]; exact (bad_cut hj8).2.2.1
  have hrep : strings_ReplaceAll.f a2 (⟨#[1]⟩ : ByteArray) (⟨#[]⟩ : ByteArray) = some ⟨(rep1 1 [] a2.data.toList).toArray⟩ := by
    unfold strings_ReplaceAll.f
    have hc : Lib.countB a2 (⟨#[1]⟩ : ByteArray) ≤ 1000000 := by
      have := Lib.count_le a2.data.toList [1]
      have e : Lib.countB a2 (⟨#[1]⟩ : ByteArray) = Lib.count a2.data.toList [1] := rfl
      have := size_len a2
      omega
    rw [if_pos ⟨by omega, by decide, by decide, hc⟩]
    have e := replaceAll_one 1 [] a2.data.toList (by decide)
    show some (⟨(Lib.replaceAll a2.data.toList [1] []).toArray⟩ : ByteArray) = _
    rw [e]
  have hrl : (rep1 1 [] a2.data.toList).length ≤ a2.data.toList.length := rep1_le 1 a2.data.toList
  have hs2 := size_len a2
  generalize hR : (⟨(rep1 1 [] a2.data.toList).toArray⟩ : ByteArray) = R at hrep
  have hRl : R.data.toList = rep1 1 [] a2.data.toList := by rw [← hR]
  have hRs : R.size ≤ 100 := by rw [size_len, hRl]; omega
  have hcnt : strings_Count.f a0 (⟨#[10]⟩ : ByteArray) = some ((a0.data.toList.count 10 : Nat) : Int) := rfl
  have hcl : a0.data.toList.count 10 ≤ a0.data.toList.length := List.count_le_length
  have z1 : (a0 ++ (⟨#[10]⟩ : ByteArray)).size = a0.size + 1 := ByteArray.size_append
  have z2 : ((a0 ++ (⟨#[10]⟩ : ByteArray)) ++ B).size = a0.size + 1 + B.size := by rw [ByteArray.size_append, z1]
  have z3 : (((a0 ++ (⟨#[10]⟩ : ByteArray)) ++ B) ++ (⟨#[10]⟩ : ByteArray)).size = a0.size + 1 + B.size + 1 := by rw [ByteArray.size_append, z2]; rfl
  have hw2 : wrap64 (((a0.data.toList.count 10 : Nat) : Int) + 2) = ((a0.data.toList.count 10 : Nat) : Int) + 2 := by unfold wrap64; omega
  have hy : (8 : Int) = (badsB.length : Int) := rfl
  rw [law10_ParseFirstError.j0, if_neg (by decide), parse_eq, Option.bind_some, hcnt, Option.bind_some]
  simp only [hj]
  show ((some badsB).bind fun y115 => _) = some true
  rw [Option.bind_some]
  simp only [hB]
  rw [if_pos (show (0 : Int) ≤ (j : Int) by omega), if_pos (show ((j : Int) < (badsB.length : Int)) by omega), if_pos (by omega), if_pos (by omega), parse_eq, Option.bind_some, if_pos (by omega), hrep, Option.bind_some, if_pos (by omega), parse_eq, Option.bind_some, hw2]
  have l1 : ((a0 ++ (⟨#[10]⟩ : ByteArray)) ++ B).data.toList = a0.data.toList ++ 10 :: badL j := by rw [app_list, app_list, hbj]; simp
  have l2 : ((((a0 ++ (⟨#[10]⟩ : ByteArray)) ++ B) ++ (⟨#[10]⟩ : ByteArray)) ++ R).data.toList = a0.data.toList ++ 10 :: (badL j ++ 10 :: rep1 1 [] a2.data.toList) := by rw [app_list, app_list, l1, hRl]; simp
  rw [l1, l2]
  have main : ((parseT a0.data.toList).2.2.2.2.2.2 = 0 ∨ (parseT a0.data.toList).2.2.2.2.2.2 = 5 ∨ (parseT a0.data.toList).2.2.2.2.2.2 = 15) →
      law10_ParseFirstError.j1 (a2.size + 3) a1 a2 (parseT a0.data.toList).2.2.2.2.2.2 (((a0.data.toList.count 10 : Nat) : Int) + 2) (parseT (a0.data.toList ++ 10 :: badL j)).2.2.2.2.2.1 (parseT (a0.data.toList ++ 10 :: badL j)).2.2.2.2.2.2
        (parseT (a0.data.toList ++ 10 :: (badL j ++ 10 :: rep1 1 [] a2.data.toList))).2.2.2.2.2.1 (parseT (a0.data.toList ++ 10 :: (badL j ++ 10 :: rep1 1 [] a2.data.toList))).2.2.2.2.2.2 false = some true := fun he => by
    rw [law10_ParseFirstError.j1, if_neg (by decide)]
    refine first_loop a1 a2 _ _ _ _ _ _ (by omega) (fun hall m => ?_) a2.size 0 (by omega) (fun j h => absurd h (Nat.not_lt_zero _))
    have hok := ok_bytes hall
    have hno : rep1 1 [] a2.data.toList = a2.data.toList := rep1_none 1 [] _ (fun b hb e => by
      subst e
      rcases hok 1 hb with h | h
      · exact absurd h (by decide)
      · exact absurd h.1 (by decide))
    rw [hno, hj]
    by_cases h51 : (parseT a0.data.toList).2.2.2.2.2.2 = 5 ∧ j = 1
    · rw [if_pos h51.1, h51.2, law10_ParseFirstError.j3]
      rfl
    · have hflag : (if (parseT a0.data.toList).2.2.2.2.2.2 = 5 then ((j : Int) == 1) else false) = false := by
        by_cases h5 : (parseT a0.data.toList).2.2.2.2.2.2 = 5
        · rw [if_pos h5, beq_eq_false_iff_ne]
          intro h
          exact h51 ⟨h5, by omega⟩
        · rw [if_neg h5]
      rw [hflag]
      obtain ⟨e, he0, e1, e2⟩ := first_law a0.data.toList a2.data.toList j hj8 (by omega) (by omega) he (fun h h5 => h51 ⟨h5, h⟩) hok
      rw [e1, e2, law10_ParseFirstError.j3, if_neg (by decide), alive_some, Option.bind_some, if_pos rfl]
      unfold bad
      simp only
      rw [if_neg he0]
      simp
  by_cases e0 : (parseT a0.data.toList).2.2.2.2.2.2 = 0
  · rw [if_pos e0]
    exact main (.inl e0)
  rw [if_neg e0]
  by_cases e5 : (parseT a0.data.toList).2.2.2.2.2.2 = 5
  · rw [if_pos e5]
    exact main (.inr (.inl e5))
  rw [if_neg e5]
  by_cases e15 : (parseT a0.data.toList).2.2.2.2.2.2 = 15
  · have := main (.inr (.inr e15))
    have hb : ((parseT a0.data.toList).2.2.2.2.2.2 != 15) = false := by rw [e15]; rfl
    rw [hb]
    exact this
  · have hb : ((parseT a0.data.toList).2.2.2.2.2.2 != 15) = true := by rw [bne_iff_ne]; exact e15
    rw [hb, law10_ParseFirstError.j1, if_pos rfl]
    rfl
end Go.Proofs.YtmcmpjkfdkogiaaGreatDoor.P

/- ParseJumpTargets: the printed law's pure statement, and the walk. -/
import Derived.Test.YtmcmpjkfdkogiaaDoorPQ2
import Derived.Test.YtmcmpjkfdkogiaaDoorXPJump
import Derived.Test.YtmcmpjkfdkogiaaDoorXAlive10
import Derived.Test.YtmcmpjkfdkogiaaDoorXItoa
set_option linter.unusedVariables false
set_option linter.unusedSimpArgs false
namespace Go.Proofs.YtmcmpjkfdkogiaaDoor.P
open Go.RowKit Go.Proofs.YtmcmpjkfdkogiaaDoorW.PrintWords

theorem wf8j {x : Int} (h : (Lit.int .u8 x).wf = true) : 0 ≤ x ∧ x ≤ 255 := by
  simp only [Lit.wf, Bool.and_eq_true, decide_eq_true_eq] at h
  exact h
theorem itoa_some (x : Nat) (h : x < 100) : strconv_Itoa.f (x : Int) = some (mkB (dig2 x)) := by
  rw [← itoa_dig2 x h]
  unfold strconv_Itoa.f
  rw [if_pos ⟨by omega, by omega⟩]
  rfl
theorem dig_le : ∀ x, x < 21 → (dig2 x).length ≤ 2 := by decide
theorem appJ (s t : ByteArray) : (s ++ t).data.toList = s.data.toList ++ t.data.toList := by rw [ByteArray.data_append, Array.toList_append]
theorem text_snoc (i j : Nat) : ∀ d x, tailText i j x (d + 1) = tailText i j x d ++ blockText i j (x + d)
  | 0, x => by rw [tailText, tailText, tailText, Nat.add_zero, List.append_nil, List.nil_append]
  | d + 1, x => by
    rw [tailText, text_snoc i j d (x + 1), tailText, List.append_assoc, show x + 1 + d = x + (d + 1) by omega]
/-- The end of the law: the text is parsed. -/
theorem jump_end (m k i j : Nat) (hk : k ≤ 20) (hik : i < k) (hj : j ≤ k) (T : ByteArray) (hT : T.data.toList = szL ++ 10 :: tailText i j 0 k) :
    law10_ParseJumpTargets.l0 (m + 2) (k : Int) (i : Int) (j : Int) T ((2 * i + 4 : Nat) : Int) (k : Int) (k : Int) = some true := by
  have hl := jump_law i j k hk hik hj
  rw [law10_ParseJumpTargets.l0, if_neg (by omega), parse_eq, Option.bind_some, hT]
  by_cases hc : i < j ∧ j < k
  · rw [if_pos hc] at hl
    obtain ⟨ls, hl⟩ := hl
    rw [hl, if_pos (show (j : Int) > (i : Int) by omega), decide_eq_true (show (j : Int) < (k : Int) by omega), law10_ParseJumpTargets.j1, if_pos rfl]
    have hr : rd_T40 ((List.range k).map (R i j)) (i : Int) = R i j i := by
      unfold rd_T40
      rw [List.getD_eq_getElem?_getD, Int.toNat_natCast, List.getElem?_map, List.getElem?_range hik]
      rfl
    have hlen : (((List.range k).map (R i j)).length : Int) = (k : Int) := by rw [List.length_map, List.length_range]
    have hs : (mkB (dig2 j)).size ≤ 2 := by rw [mkB_size]; exact dig_le j (by omega)
    show (some true).bind _ = some true
    rw [Option.bind_some, if_pos rfl]
    simp only
    rw [if_pos trivial, if_pos trivial, hlen, if_pos rfl, if_pos (by omega), if_pos (by omega), itoa_some j (by omega), Option.bind_some, if_pos (by omega), hr]
    have e : (R i j i).f3.toList = ((⟨#[97]⟩ : ByteArray) ++ mkB (dig2 j)).toList := by
      have h1 : (R i j i).f3 = labB j := by unfold R; rw [if_pos rfl]
      rw [h1, lab_toList, ByteArray.toList_eq, appJ, mkB_data]
      rfl
    rw [e]
    simp
  · rw [if_neg hc] at hl
    rw [hl]
    have hj1 : law10_ParseJumpTargets.j1 (m + 1) (k : Int) (i : Int) (j : Int) ((2 * i + 4 : Nat) : Int) ((2 * i + 4 : Nat) : Int) 15 false 0 0 0 [] = some true := by
      rw [law10_ParseJumpTargets.j1, if_neg (by decide)]
      show (some true).bind _ = some true
      rw [Option.bind_some, if_pos rfl, if_pos rfl, if_pos rfl]
      rfl
    by_cases h1 : (j : Int) > (i : Int)
    · rw [if_pos h1, decide_eq_false (show ¬ (j : Int) < (k : Int) by omega)]
      exact hj1
    · rw [if_neg h1]
      exact hj1
theorem jump_loop (k i j : Nat) (hk : k ≤ 20) (hik : i < k) (hj : j ≤ k) : ∀ (d x : Nat) (T : ByteArray) (ln : Int), x + d = k → T.data.toList = szL ++ 10 :: tailText i j 0 x → (i < x → ln = ((2 * i + 4 : Nat) : Int)) →
    law10_ParseJumpTargets.l0 (d + 2) (k : Int) (i : Int) (j : Int) T ln (k : Int) (x : Int) = some true
  | 0, x, T, ln, hx, hT, hln => by
    obtain rfl : x = k := by omega
    rw [hln hik]
    exact jump_end 0 x i j hk hik hj T hT
  | d + 1, x, T, ln, hx, hT, hln => by
    have hw : wrap64 ((x : Int) + 1) = ((x + 1 : Nat) : Int) := by unfold wrap64; omega
    have hw2 : wrap64 ((wrap64 (1 + (wrap64 (2 * (wrap64 ((x : Int) + 1)))))) + 1) = ((2 * x + 4 : Nat) : Int) := by unfold wrap64; omega
    have hsT : T.size ≤ 1000 := by
      rw [size_len, hT, List.length_append, List.length_cons]
      have := tail_len i j (by omega) x 0 (by omega)
      have : szL.length = 10 := rfl
      omega
    have hs1 : (mkB (dig2 x)).size ≤ 2 := by rw [mkB_size]; exact dig_le x (by omega)
    have hs2 : (mkB (dig2 j)).size ≤ 2 := by rw [mkB_size]; exact dig_le j (by omega)
    have z1 : ((⟨#[114, 117, 110, 103, 32, 97]⟩ : ByteArray) ++ mkB (dig2 x)).size = 6 + (mkB (dig2 x)).size := ByteArray.size_append
    have z2 : (((⟨#[114, 117, 110, 103, 32, 97]⟩ : ByteArray) ++ mkB (dig2 x)) ++ (⟨#[10, 110, 111, 32, 73, 48, 32, 76, 32, 82, 10]⟩ : ByteArray)).size = 6 + (mkB (dig2 x)).size + 11 := by rw [ByteArray.size_append, z1]; rfl
    have z3 : ((⟨#[106, 117, 109, 112, 32, 97]⟩ : ByteArray) ++ mkB (dig2 j)).size = 6 + (mkB (dig2 j)).size := ByteArray.size_append
    have z4 : (((⟨#[106, 117, 109, 112, 32, 97]⟩ : ByteArray) ++ mkB (dig2 j)) ++ (⟨#[10]⟩ : ByteArray)).size = 6 + (mkB (dig2 j)).size + 1 := by rw [ByteArray.size_append, z3]; rfl
    have z5 : (T ++ (((⟨#[114, 117, 110, 103, 32, 97]⟩ : ByteArray) ++ mkB (dig2 x)) ++ (⟨#[10, 110, 111, 32, 73, 48, 32, 76, 32, 82, 10]⟩ : ByteArray))).size = T.size + (6 + (mkB (dig2 x)).size + 11) := by rw [ByteArray.size_append, z2]
    have t1 : (T ++ (((⟨#[114, 117, 110, 103, 32, 97]⟩ : ByteArray) ++ mkB (dig2 x)) ++ (⟨#[10, 110, 111, 32, 73, 48, 32, 76, 32, 82, 10]⟩ : ByteArray))).data.toList = szL ++ 10 :: (tailText i j 0 x ++ (rungT x ++ 10 :: (conL ++ [10]))) := by
      rw [appJ, appJ, appJ, hT, mkB_data]
      simp [rungT, labT, conL]
    rw [law10_ParseJumpTargets.l0, if_pos (by omega), itoa_some x (by omega), Option.bind_some, if_pos (by omega), if_pos (by omega), if_pos (by omega)]
    by_cases hxi : x = i
    · rw [if_pos (show (x : Int) = (i : Int) by omega), itoa_some j (by omega), Option.bind_some, if_pos (by omega), if_pos (by omega), if_pos (by omega), hw2, hw]
      refine jump_loop k i j hk hik hj d (x + 1) _ _ (by omega) ?_ (fun _ => by rw [hxi])
      rw [appJ, t1, appJ, appJ, mkB_data, text_snoc i j x 0, Nat.zero_add]
      simp [blockText, hxi, jumpT, labT]
    · rw [if_neg (show ¬ (x : Int) = (i : Int) by omega), hw]
      refine jump_loop k i j hk hik hj d (x + 1) _ _ (by omega) ?_ (fun h => hln (by omega))
      rw [t1, text_snoc i j x 0, Nat.zero_add]
      simp [blockText, hxi]
theorem law10_ParseJumpTargets.pure : law10_ParseJumpTargets.Pure := by
  intro a0 a1 a2 h0 h1 h2
  have w0 := wf8j h0
  have w1 := wf8j h1
  have w2 := wf8j h2
  have m0 := Int.tmod_eq_emod_of_nonneg (b := 20) w0.1
  obtain ⟨k, hk, hk20, hk0⟩ : ∃ k : Nat, wrap64 (1 + (wrap64 (Int.tmod a0 20))) = (k : Int) ∧ k ≤ 20 ∧ 0 < k := ⟨(1 + Int.tmod a0 20).toNat, by rw [m0]; unfold wrap64; omega, by omega, by omega⟩
  have ew1 : wrap64 a1 = a1 := by unfold wrap64; omega
  have ew2 : wrap64 a2 = a2 := by unfold wrap64; omega
  have ek : wrap64 ((k : Int) + 1) = ((k + 1 : Nat) : Int) := by unfold wrap64; omega
  have m1 := Int.tmod_eq_emod_of_nonneg (b := (k : Int)) w1.1
  have m2 := Int.tmod_eq_emod_of_nonneg (b := ((k + 1 : Nat) : Int)) w2.1
  have r1 : 0 ≤ a1 % (k : Int) ∧ a1 % (k : Int) < (k : Int) := ⟨Int.emod_nonneg _ (by omega), Int.emod_lt_of_pos _ (by omega)⟩
  have r2 : 0 ≤ a2 % ((k + 1 : Nat) : Int) ∧ a2 % ((k + 1 : Nat) : Int) < ((k + 1 : Nat) : Int) := ⟨Int.emod_nonneg _ (by omega), Int.emod_lt_of_pos _ (by omega)⟩
  obtain ⟨i, hi⟩ : ∃ i : Nat, a1 % (k : Int) = (i : Int) := ⟨(a1 % (k : Int)).toNat, by omega⟩
  obtain ⟨j, hj⟩ : ∃ j : Nat, a2 % ((k + 1 : Nat) : Int) = (j : Int) := ⟨(a2 % ((k + 1 : Nat) : Int)).toNat, by omega⟩
  refine ⟨k + 2, ?_⟩
  unfold law10_ParseJumpTargets.f
  rw [hk, ek, if_neg (by omega), if_neg (by omega), ew1, ew2, m1, m2, hi, hj]
  exact jump_loop k i j hk20 (by omega) (by omega) k 0 _ 0 (by omega) rfl (fun h => absurd h (Nat.not_lt_zero _))
theorem ParseJumpTargets_walk (a0 a1 a2 : Int) (w : World) (w0 : (Lit.int .u8 a0).wf = true) (w1 : (Lit.int .u8 a1).wf = true) (w2 : (Lit.int .u8 a2).wf = true) (hL : Aside0 (LaidW 63 w)) :
    Calls Tryd.prog 7 #[.int .u8 a0, .int .u8 a1, .int .u8 a2] w fun e w' => e = .returned (.bool true) ∧ Below w.heap.size w w' :=
  law10_ParseJumpTargets.walk law10_ParseJumpTargets.pure a0 a1 a2 w w0 w1 w2 hL
end Go.Proofs.YtmcmpjkfdkogiaaDoor.P

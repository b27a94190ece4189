/- LexTextLimit, the plain law: Lines accepts the longest permitted text and rejects a text with one more byte. -/
import Derived.Test.YthidobgadndclaaDoorXPLex0
import Derived.Test.YthidobgadndclaaDoorPL9
namespace Go.Proofs.YthidobgadndclaaDoor.P
open Go.RowKit Go.Proofs.YthidobgadndclaaDoorW.PrintWords

theorem wf_u8b {x : Int} (h : (Lit.int .u8 x).wf = true) : 0 ≤ x ∧ x ≤ 255 := by
  have h' : (decide ((0 : Int) ≤ x) && decide (x ≤ 255)) = true := h
  simpa using h'
theorem repeat_a (n : Nat) : Lib.repeatL [97] n = List.replicate n (97 : UInt8) := by
  induction n with
  | zero => rfl
  | succ n ih => rw [Lib.repeatL, ih]; rfl
theorem lines_a (n : Nat) (h : 0 < n) : linesG (cutAt 10 (List.replicate n (97 : UInt8))) = ([(1, [mkB (List.replicate n 97)])], 0, 0) := by
  have hm : ∀ b ∈ List.replicate n (97 : UInt8), b = 97 := fun b hb => (List.mem_replicate.mp hb).2
  have h1 : cutAt 10 (List.replicate n (97 : UInt8)) = [List.replicate n 97] := cutAt_none 10 _ (fun b hb => by rw [hm b hb]; decide)
  have h2 : ahead (List.replicate n (97 : UInt8)) = List.replicate n 97 := ahead_none _ (fun b hb => by rw [hm b hb]; decide)
  have h3 : Lib.fields (List.replicate n (97 : UInt8)) = [List.replicate n 97] := by
    have h4 := fieldsGo_word (List.replicate n 97) [] [] (fun b hb => by rw [hm b hb]; decide)
    rw [List.append_nil, List.nil_append] at h4
    unfold Lib.fields
    rw [h4, Lib.fieldsGo]
    cases n with
    | zero => exact absurd h (by decide)
    | succ n => rfl
  have hw : segWords (List.replicate n (97 : UInt8)) = [mkB (List.replicate n 97)] := by unfold segWords; rw [h2, h3]; rfl
  have hp : segPlain (List.replicate n (97 : UInt8)) = true := by
    unfold segPlain
    rw [h2, List.all_eq_true]
    intro b hb
    rw [hm b hb]
    decide
  unfold linesG
  rw [h1, firstBad, if_pos hp, firstBad, collect, hw, if_neg (by simp), collect]
  rfl
theorem pure_LexTextLimit : law09_LexTextLimit.Pure := by
  intro a0 w0
  obtain ⟨g0, g1⟩ := wf_u8b w0
  have hm : wrap64 (Int.tmod a0 3) = Int.tmod a0 3 := by
    have h1 := Int.tmod_nonneg 3 g0
    have h2 := Int.tmod_lt_of_pos a0 (show (0 : Int) < 3 by decide)
    exact wrap_id (by omega) (by omega)
  have h1 := Int.tmod_nonneg 3 g0
  have h2 := Int.tmod_lt_of_pos a0 (show (0 : Int) < 3 by decide)
  have hn : wrap64 (65535 + Int.tmod a0 3) = 65535 + Int.tmod a0 3 := wrap_id (by omega) (by omega)
  unfold law09_LexTextLimit.f
  rw [hm, hn]
  obtain ⟨n, hnn⟩ : ∃ n : Nat, 65535 + Int.tmod a0 3 = (n : Int) := ⟨(65535 + Int.tmod a0 3).toNat, by omega⟩
  rw [hnn]
  have hr : strings_Repeat.f (⟨#[97]⟩ : ByteArray) (n : Int) = some (mkB (List.replicate n 97)) := by
    unfold strings_Repeat.f
    rw [if_pos ⟨by omega, by omega, by decide⟩, Int.toNat_natCast]
    show some (mkB (Lib.repeatL [97] n)) = _
    rw [repeat_a]
  have hsz : (mkB (List.replicate n (97 : UInt8))).size = n := by rw [mkB_size, List.length_replicate]
  rw [hr, alive09]
  simp only [Option.bind_some]
  by_cases hb : n ≤ 65536
  · rw [lex_Lines_eq _ (by omega), mkB_data, lines_a n (by omega)]
    simp only [Option.bind_some]
    rw [if_neg (by omega)]
    simp [rd_T32, rdOf, toS, hsz]
  · rw [lex_Lines_big _ (by omega)]
    simp only [Option.bind_some]
    rw [if_pos (by omega)]
    rfl
theorem LexTextLimit_walk (a0 : Int) (w : World) (w0 : (Lit.int .u8 a0).wf = true) (hL : Aside0 (LaidW 9 w)) :
    Calls Tryd.prog 7 #[.int .u8 a0] w fun e w' => e = .returned (.bool true) ∧ Below w.heap.size w w' := law09_LexTextLimit.walk pure_LexTextLimit a0 w w0 hL
end Go.Proofs.YthidobgadndclaaDoor.P

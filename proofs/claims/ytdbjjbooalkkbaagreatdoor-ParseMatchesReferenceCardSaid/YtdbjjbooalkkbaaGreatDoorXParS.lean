/- The parser's method size. -/
import Derived.Test.YtdbjjbooalkkbaaGreatDoorXParQ
set_option linter.unusedVariables false
set_option linter.unusedSimpArgs false
namespace Go.Proofs.YtdbjjbooalkkbaaGreatDoor.P
open Go.RowKit Go.Shelf Go.Proofs.YtdbjjbooalkkbaaGreatDoorW.PrintWords Go.Proofs.YtdbjjbooalkkbaaGreatDoorW.PrintLast Go.Proofs.YtdbjjbooalkkbaaGreatDoorW.PrintMore

def numW (l : LN) (i : Nat) : Int × Int := number (wd l i).data.toList 256
def skP (s : PSt) (l : LN) : Nat → PSt
  | 0 => s
  | 1 => { s with I := (numW l 1).1 }
  | 2 => { s with I := (numW l 1).1, Q := (numW l 2).1 }
  | _ => { s with I := (numW l 1).1, Q := (numW l 2).1, M := (numW l 3).1 }
def oldV (s : PSt) (l : LN) : Nat → Int
  | 0 => s.I
  | 1 => s.Q
  | _ => s.M
theorem MPost.bad' {B b : Nat} {w0 w' : World} {x : Int} {s : PSt} (hx : x ≠ 0) (hd : Did B b w0 w') : MPost B b w0 (x, s) (.returned (.int .i64 x)) w' := ⟨rfl, hd, fun h => absurd h hx⟩
theorem sizeP_num (s : PSt) (l : LN) (hs : s.sized = false) : sizeP s l =
    if (numW l 1).2 ≠ 0 then ((numW l 1).2, s) else if (numW l 2).2 ≠ 0 then ((numW l 2).2, s) else if (numW l 3).2 ≠ 0 then ((numW l 3).2, s) else (0, { skP s l 3 with sized := true }) := by
  unfold sizeP
  rw [hs, if_neg (by decide)]
  rfl

set_option maxRecDepth 100000 in
set_option maxHeartbeats 8000000 in
theorem size_walk {B b : Nat} (s : PSt) (l : LN) (A : Option Addr) (c : Nat) (vR vL vJ : Value) (w : World) (St : Stage B b 57 (pc s vR vL vJ) w vR s.rungs vL s.lines vJ s.jumps [] w)
    (hC : Kd.string.C w A l.f1.length l.f1) (hn : l.f1.length = 4) (hz : ∀ x ∈ l.f1, x.size ≤ 65536) (hlow : ∀ wb wo, A = some ⟨wb, wo, none⟩ → wb < B) (hL : ∀ W, Below B w W → Aside0 (LaidW 4 W)) :
    Calls Tryz.prog 48 #[.pointer (some ⟨b, 0, none⟩), .agg #[.int .i64 l.f0, .slice A l.f1.length c]] w (MPost B b w (sizeP s l)) := by
  obtain ⟨wb, wo, rfl, hw⟩ := words_at hC (by omega)
  have hw : ∀ i, i < l.f1.length → w.cell? ⟨wb, wo + i, none⟩ = some (.string (wd l i)) := hw
  have hwb := hlow wb wo rfl
  have hbx : b ≠ w.heap.size := Nat.ne_of_lt St.bx.lt
  have hbl := Lib.hid St.bx.lt
  have kb4 : (w.alloc (Obj.cells #[.int .i64 l.f0, .slice (some ⟨wb, wo, none⟩) 4 c] 61)).cell? ⟨b, 4, none⟩ = some (.bool s.sized) := (St.bx.alloc _).cell 4 _ rfl
  have HF := Lib.hid (fun W (hb : Below B w W) => And.intro ((hb.cell (p := ⟨wb, wo + 1, none⟩) hwb).trans (hw 1 (by omega))) (And.intro ((hb.cell (p := ⟨wb, wo + 2, none⟩) hwb).trans (hw 2 (by omega))) ((hb.cell (p := ⟨wb, wo + 3, none⟩) hwb).trans (hw 3 (by omega)))))
  have hzi : ∀ i, i < 4 → (wd l i).size ≤ 281474976710656 := fun i hi => by
    have h1 := hz (wd l i) (by unfold wd; rw [List.getD_eq_getElem?_getD, List.getElem?_eq_getElem (by omega)]; exact List.getElem_mem _)
    omega
  have HN := Lib.hid (fun i (hi : i < 4) W (hb : Below B w W) => lex_Number.calls (wd l i) 256 (numW l i).1 (numW l i).2 W (hL W hb) (by unfold lex_Number.f; rw [if_pos (hzi i hi)]; rfl))
  have HST := Lib.hid St
  have HB := Lib.hid St.base
  have B0 := Lib.hid (Below.refl w.heap.size w)
  rw [hn]
  clear hC hw hwb hlow hz hzi hL
  by_cases hs : s.sized = true
  case pos =>
    unfold sizeP
    rw [if_pos hs]
    rw [hs] at kb4
    clear St
    go_enter Tryz.func48, Tryz.ntmps48
    go_wp2
    go_ret
    exact MPost.bad (by decide) HB.out (below_alloc B0.out _)
  case neg =>
  have hs : s.sized = false := by simpa using hs
  have hR := sizeP_num s l hs
  obtain ⟨R, eR⟩ : ∃ R, R = sizeP s l := ⟨_, rfl⟩
  rw [← eR] at hR ⊢
  have HR := Lib.hid hR
  rw [hs] at kb4
  have HS0 := Lib.hid (St.alloc (Obj.cells #[.int .i64 l.f0, .slice (some ⟨wb, wo, none⟩) 4 c] 61))
  have LB0 := Lib.hid (Bx.new w 61 #[.int .i64 l.f0, .slice (some ⟨wb, wo, none⟩) 4 c])
  clear St hR eR
  go_enter Tryz.func48, Tryz.ntmps48
  go_wp2
  go_region_held3 (fun w' => w'.cell? ⟨b, 4, none⟩ = some (.bool false)) (go_keep) (fail)
  go_wp2
  go_loopw [27] (fun i wr => ∃ k : Nat, k ≤ 3 ∧ i = .int .i64 k ∧ Hid (∀ j, 1 ≤ j → j ≤ k → (numW l j).2 = 0) ∧ Hid (Stage B b 57 (pc (skP s l k) vR vL vJ) w vR s.rungs vL s.lines vJ s.jumps [] wr) ∧ Hid (Bx w.heap.size 61 #[.int .i64 l.f0, .slice (some ⟨wb, wo, none⟩) 4 c] wr) ∧
      Hid (Bx (w.heap.size + 1) 129 #[.pointer (some ⟨b, 0, none⟩), .pointer (some ⟨b, 1, none⟩), .pointer (some ⟨b, 2, none⟩)] wr)) (fun i _ => 3 - (intOf i).toNat)
  case atStart =>
    refine ⟨0, by omega, rfl, Lib.hid (fun j h1 h2 => by omega), Lib.hid ((HS0.out.alloc _).drew), Lib.hid ((LB0.out.alloc _).drew), Lib.hid ?_⟩
    have := (Bx.new (w.alloc (Obj.cells #[.int .i64 l.f0, .slice (some ⟨wb, wo, none⟩) 4 c] 61)) 129 #[.pointer (some ⟨b, 0, none⟩), .pointer (some ⟨b, 1, none⟩), .pointer (some ⟨b, 2, none⟩)]).drew
    rwa [show (w.alloc (Obj.cells #[.int .i64 l.f0, .slice (some ⟨wb, wo, none⟩) 4 c] 61)).heap.size = w.heap.size + 1 by simp] at this
  case round =>
    clear kb4
    obtain ⟨k, hk, rfl, HK, HSt, HLb, HAr⟩ := hrel
    by_cases h3 : k = 3
    · subst h3
      have hR : R = (0, { skP s l 3 with sized := true }) := by
        rw [HR.out, if_neg (by have := HK.out 1 (by omega) (by omega); omega), if_neg (by have := HK.out 2 (by omega) (by omega); omega), if_neg (by have := HK.out 3 (by omega) (by omega); omega)]
      subst hR
      have c4 := HSt.out.bx.cell 4 (.bool s.sized) rfl
      have fz := HSt.out.bx.frozen 4
      have HE := Lib.hid (HSt.out.put 4 (.bool true))
      clear HR HK
      go_wp2
      go_ret
      exact ⟨rfl, HE.out.did, fun _ => ⟨_, _, _, HE.out⟩⟩
    · have c1 := HLb.out.cell 1 (.slice (some ⟨wb, wo, none⟩) 4 c) rfl
      obtain ⟨x1, x2, x3⟩ := HF.out _ HSt.out.did.below
      have a0 := HAr.out.cell 0 (.pointer (some ⟨b, 0, none⟩)) rfl
      have a1 := HAr.out.cell 1 (.pointer (some ⟨b, 1, none⟩)) rfl
      have a2 := HAr.out.cell 2 (.pointer (some ⟨b, 2, none⟩)) rfl
      have hk3 : k = 0 ∨ k = 1 ∨ k = 2 := by omega
      rcases hk3 with rfl | rfl | rfl
      all_goals
        go_upto_if 43 with (go_at_call 75; first
          | ((with_reducible refine (HN.out 1 (by omega) _ HSt.out.did.below).mono ?_); rintro e w4 ⟨rfl, hb⟩; have HSt4 := Lib.hid (HSt.out.on hb); have HLb4 := Lib.hid (HLb.out.on hb); have HAr4 := Lib.hid (HAr.out.on hb); clear hb)
          | ((with_reducible refine (HN.out 2 (by omega) _ HSt.out.did.below).mono ?_); rintro e w4 ⟨rfl, hb⟩; have HSt4 := Lib.hid (HSt.out.on hb); have HLb4 := Lib.hid (HLb.out.on hb); have HAr4 := Lib.hid (HAr.out.on hb); clear hb)
          | ((with_reducible refine (HN.out 3 (by omega) _ HSt.out.did.below).mono ?_); rintro e w4 ⟨rfl, hb⟩; have HSt4 := Lib.hid (HSt.out.on hb); have HLb4 := Lib.hid (HLb.out.on hb); have HAr4 := Lib.hid (HAr.out.on hb); clear hb))
      · by_cases ht : (numW l 1).2 = 0
        · have ht' : ((numW l 1).2 == 0) = true := by rw [ht]; rfl
          have d0 := HSt4.out.bx.cell 0 (.int .i64 (oldV s l 0)) rfl
          have f0 := HSt4.out.bx.frozen 0
          have HSt5 := Lib.hid (HSt4.out.put 0 (.int .i64 (numW l 1).1))
          have HLb5 := Lib.hid (HLb4.out.far (p := ⟨b, 0, none⟩) (Ne.symm hbx) (.int .i64 (numW l 1).1))
          have HAr5 := Lib.hid (HAr4.out.far (p := ⟨b, 0, none⟩) (by have := hbl.out; show w.heap.size + 1 ≠ b; omega) (.int .i64 (numW l 1).1))
          go_wp2
          go_roundw
          case rel => exact ⟨1, by omega, rfl, Lib.hid (fun j h1 h2 => if hj : j = 1 then hj ▸ ht else HK.out j h1 (by omega)), HSt5, HLb5, HAr5⟩
          case measure => simp [intOf]
        · have ht' : ((numW l 1).2 == 0) = false := by rw [beq_eq_false_iff_ne]; exact ht
          have hR : R = ((numW l 1).2, s) := by
            rw [HR.out]
            exact if_pos ht
          subst hR
          go_wp2
          go_ret
          exact MPost.bad' ht HSt4.out.did
      · by_cases ht : (numW l 2).2 = 0
        · have ht' : ((numW l 2).2 == 0) = true := by rw [ht]; rfl
          have d0 := HSt4.out.bx.cell 1 (.int .i64 (oldV s l 1)) rfl
          have f0 := HSt4.out.bx.frozen 1
          have HSt5 := Lib.hid (HSt4.out.put 1 (.int .i64 (numW l 2).1))
          have HLb5 := Lib.hid (HLb4.out.far (p := ⟨b, 1, none⟩) (Ne.symm hbx) (.int .i64 (numW l 2).1))
          have HAr5 := Lib.hid (HAr4.out.far (p := ⟨b, 1, none⟩) (by have := hbl.out; show w.heap.size + 1 ≠ b; omega) (.int .i64 (numW l 2).1))
          go_wp2
          go_roundw
          case rel => exact ⟨2, by omega, rfl, Lib.hid (fun j h1 h2 => if hj : j = 2 then hj ▸ ht else HK.out j h1 (by omega)), HSt5, HLb5, HAr5⟩
          case measure => simp [intOf]
        · have ht' : ((numW l 2).2 == 0) = false := by rw [beq_eq_false_iff_ne]; exact ht
          have hR : R = ((numW l 2).2, s) := by
            rw [HR.out]
            rw [if_neg (by have := HK.out 1 (by omega) (by omega); omega)]; exact if_pos ht
          subst hR
          go_wp2
          go_ret
          exact MPost.bad' ht HSt4.out.did
      · by_cases ht : (numW l 3).2 = 0
        · have ht' : ((numW l 3).2 == 0) = true := by rw [ht]; rfl
          have d0 := HSt4.out.bx.cell 2 (.int .i64 (oldV s l 2)) rfl
          have f0 := HSt4.out.bx.frozen 2
          have HSt5 := Lib.hid (HSt4.out.put 2 (.int .i64 (numW l 3).1))
          have HLb5 := Lib.hid (HLb4.out.far (p := ⟨b, 2, none⟩) (Ne.symm hbx) (.int .i64 (numW l 3).1))
          have HAr5 := Lib.hid (HAr4.out.far (p := ⟨b, 2, none⟩) (by have := hbl.out; show w.heap.size + 1 ≠ b; omega) (.int .i64 (numW l 3).1))
          go_wp2
          go_roundw
          case rel => exact ⟨3, by omega, rfl, Lib.hid (fun j h1 h2 => if hj : j = 3 then hj ▸ ht else HK.out j h1 (by omega)), HSt5, HLb5, HAr5⟩
          case measure => simp [intOf]
        · have ht' : ((numW l 3).2 == 0) = false := by rw [beq_eq_false_iff_ne]; exact ht
          have hR : R = ((numW l 3).2, s) := by
            rw [HR.out]
            rw [if_neg (by have := HK.out 1 (by omega) (by omega); omega)]; rw [if_neg (by have := HK.out 2 (by omega) (by omega); omega)]; exact if_pos ht
          subst hR
          go_wp2
          go_ret
          exact MPost.bad' ht HSt4.out.did
end Go.Proofs.YtdbjjbooalkkbaaGreatDoor.P

/- lex.Number: the number that a word denotes, or an error code. -/
import Derived.Test.YtdbjjbooalkkbaaGreatDoorXParse
namespace Go.Proofs.YtdbjjbooalkkbaaGreatDoor.P
open Go.RowKit Go.Proofs.YtdbjjbooalkkbaaGreatDoorW.PrintWords

theorem num_most (t : ByteArray) (m : Int) (w : World) (h : m < 0 ∨ 0 ≤ m ∧ 1000000 < m) : Calls Tryz.prog 75 #[.string t, .int .i64 m] w fun e w' => e = .returned (.tuple #[.int .i64 0, .int .i64 2]) ∧ Below w.heap.size w w' := by
  rcases h with h | ⟨h0, h⟩
  all_goals
    go_enter Tryz.func75, Tryz.ntmps75
    go_wp2
    exact bodyPost_ret (v := .tuple #[.int .i64 0, .int .i64 2]) (by simp [results, Tryz.results75, go_sem]) rfl ⟨rfl, Below.refl _ _⟩
theorem num_empty (t : ByteArray) (m : Int) (w : World) (h0 : 0 ≤ m) (h1 : m ≤ 1000000) (hne : t.toList = []) : Calls Tryz.prog 75 #[.string t, .int .i64 m] w fun e w' => e = .returned (.tuple #[.int .i64 0, .int .i64 6]) ∧ Below w.heap.size w w' := by
  go_enter Tryz.func75, Tryz.ntmps75
  go_wp2
  exact bodyPost_ret (v := .tuple #[.int .i64 0, .int .i64 6]) (by simp [results, Tryz.results75, go_sem]) rfl ⟨rfl, Below.refl _ _⟩
set_option maxHeartbeats 1000000 in
theorem num_trim (t : ByteArray) (m : Int) (w : World) (h0 : 0 ≤ m) (h1 : m ≤ 1000000) (hne : t.toList.isEmpty = false) (hs : t.size ≤ 281474976710656) (hdig : t.data.toList.all isDig = false) : Calls Tryz.prog 75 #[.string t, .int .i64 m] w fun e w' => e = .returned (.tuple #[.int .i64 0, .int .i64 6]) ∧ Below w.heap.size w w' := by
  have HT := Lib.hid (trim_more _ hs hdig)
  clear hs hdig
  go_enter Tryz.func75, Tryz.ntmps75
  go_wp2_with fail
  refine (HT.out _).mono ?_
  rintro e w1 ⟨r, rfl, hr, hb⟩
  have HB := Lib.hid hb
  clear hb
  go_wp2_with fail
  exact bodyPost_ret (v := .tuple #[.int .i64 0, .int .i64 6]) (by simp [results, Tryz.results75, go_sem]) rfl ⟨rfl, by repeat (first | exact HB.out | apply pw_below_drewN | exact Below.refl _ _)⟩
set_option maxHeartbeats 1000000 in
theorem num_zero (t : ByteArray) (m : Int) (w : World) (h0 : 0 ≤ m) (h1 : m ≤ 1000000) (hne : t.toList.isEmpty = false) (hs : t.size ≤ 281474976710656) (hdig : t.data.toList.all isDig = true) (ha : (1 : Int) < ((t.size : Nat) : Int)) (h48 : ∀ h, (((t[0]'h).toNat : Int) == 48) = true) : Calls Tryz.prog 75 #[.string t, .int .i64 m] w fun e w' => e = .returned (.tuple #[.int .i64 0, .int .i64 6]) ∧ Below w.heap.size w w' := by
  have HT := Lib.hid (trim_zero _ hs hdig)
  clear hs hdig
  go_enter Tryz.func75, Tryz.ntmps75
  go_wp2_with fail
  refine (HT.out _).mono ?_
  rintro e w1 ⟨rfl, hb⟩
  have HB := Lib.hid hb
  clear hb
  go_wp2_with fail
  exact bodyPost_ret (v := .tuple #[.int .i64 0, .int .i64 6]) (by simp [results, Tryz.results75, go_sem]) rfl ⟨rfl, by repeat (first | exact HB.out | apply pw_below_drewN | exact Below.refl _ _)⟩
set_option maxHeartbeats 2000000 in
theorem num_ok (t : ByteArray) (m : Int) (w : World) (h0 : 0 ≤ m) (h1 : m ≤ 1000000) (hne : t.toList.isEmpty = false) (hs : t.size ≤ 281474976710656) (hdig : t.data.toList.all isDig = true) (v : Int) (hv : v ≤ m) (hat : Lib.atoiAll t.data.toList = .ok v) (hab : (1 : Int) < ((t.size : Nat) : Int) ∧ (∀ h, (((t[0]'h).toNat : Int) == 48) = false) ∨ ((t.size : Nat) : Int) ≤ 1) : Calls Tryz.prog 75 #[.string t, .int .i64 m] w fun e w' => e = .returned (.tuple #[.int .i64 v, .int .i64 0]) ∧ Below w.heap.size w w' := by
  have HT := Lib.hid (trim_zero _ hs hdig)
  have HA := Lib.hid (fun W => atoi_ok _ hs v hat W)
  clear hs hdig hat
  rcases hab with ⟨ha, h48⟩ | ha
  all_goals
    go_enter Tryz.func75, Tryz.ntmps75
    go_wp2_with fail
    refine (HT.out _).mono ?_
    rintro e w1 ⟨rfl, hb⟩
    have HB := Lib.hid hb
    clear hb
    go_wp2_with fail
    refine (HA.out _).mono ?_
    rintro e w2 ⟨rfl, hb⟩
    replace HB := Lib.hid (below_step HB.out hb)
    clear hb
    go_wp2_with fail
    exact bodyPost_ret (v := .tuple #[.int .i64 v, .int .i64 0]) (by simp [results, Tryz.results75, go_sem]) rfl ⟨rfl, by repeat (first | exact HB.out | apply pw_below_drewN | exact Below.refl _ _)⟩
set_option maxHeartbeats 2000000 in
theorem num_big (t : ByteArray) (m : Int) (w : World) (h0 : 0 ≤ m) (h1 : m ≤ 1000000) (hne : t.toList.isEmpty = false) (hs : t.size ≤ 281474976710656) (hdig : t.data.toList.all isDig = true) (v : Int) (hv : m < v) (hat : Lib.atoiAll t.data.toList = .ok v) (hab : (1 : Int) < ((t.size : Nat) : Int) ∧ (∀ h, (((t[0]'h).toNat : Int) == 48) = false) ∨ ((t.size : Nat) : Int) ≤ 1) : Calls Tryz.prog 75 #[.string t, .int .i64 m] w fun e w' => e = .returned (.tuple #[.int .i64 0, .int .i64 3]) ∧ Below w.heap.size w w' := by
  have HT := Lib.hid (trim_zero _ hs hdig)
  have HA := Lib.hid (fun W => atoi_ok _ hs v hat W)
  clear hs hdig hat
  rcases hab with ⟨ha, h48⟩ | ha
  all_goals
    go_enter Tryz.func75, Tryz.ntmps75
    go_wp2_with fail
    refine (HT.out _).mono ?_
    rintro e w1 ⟨rfl, hb⟩
    have HB := Lib.hid hb
    clear hb
    go_wp2_with fail
    refine (HA.out _).mono ?_
    rintro e w2 ⟨rfl, hb⟩
    replace HB := Lib.hid (below_step HB.out hb)
    clear hb
    go_wp2_with fail
    exact bodyPost_ret (v := .tuple #[.int .i64 0, .int .i64 3]) (by simp [results, Tryz.results75, go_sem]) rfl ⟨rfl, by repeat (first | exact HB.out | apply pw_below_drewN | exact Below.refl _ _)⟩
set_option maxHeartbeats 2000000 in
theorem num_range (t : ByteArray) (m : Int) (w : World) (h0 : 0 ≤ m) (h1 : m ≤ 1000000) (hne : t.toList.isEmpty = false) (hs : t.size ≤ 281474976710656) (hdig : t.data.toList.all isDig = true) (hr : LaidRange w) (hat : Lib.atoiAll t.data.toList = .range) (hab : (1 : Int) < ((t.size : Nat) : Int) ∧ (∀ h, (((t[0]'h).toNat : Int) == 48) = false) ∨ ((t.size : Nat) : Int) ≤ 1) : Calls Tryz.prog 75 #[.string t, .int .i64 m] w fun e w' => e = .returned (.tuple #[.int .i64 0, .int .i64 3]) ∧ Below w.heap.size w w' := by
  have HT := Lib.hid (trim_zero _ hs hdig)
  have HA := Lib.hid (fun W h => atoi_range _ hs hat W h)
  have HR := Lib.hid hr
  clear hr
  clear hs hdig hat
  rcases hab with ⟨ha, h48⟩ | ha
  all_goals
    go_enter Tryz.func75, Tryz.ntmps75
    go_wp2_with fail
    refine (HT.out _).mono ?_
    rintro e w1 ⟨rfl, hb⟩
    have HB := Lib.hid hb
    clear hb
    go_wp2_with fail
    refine (HA.out _ (HR.out.on HB.out)).mono ?_
    rintro e w2 ⟨N, rfl, hb⟩
    replace HB := Lib.hid (below_step HB.out hb)
    clear hb
    go_wp2_with fail
    exact bodyPost_ret (v := .tuple #[.int .i64 0, .int .i64 3]) (by simp [results, Tryz.results75, go_sem]) rfl ⟨rfl, by repeat (first | exact HB.out | apply pw_below_drewN | exact Below.refl _ _)⟩
/-- lex.Number, as the printed texts ask for it. -/
theorem lex_Number.calls (a0 : ByteArray) (a1 : Int) (r1 r2 : Int) (w : World) (hL : Aside0 (LaidW 4 w)) (h : lex_Number.f a0 a1 = some (r1, r2)) :
    Calls Tryz.prog 75 #[.string a0, .int .i64 a1] w fun e w' => e = .returned (.tuple #[.int .i64 r1, .int .i64 r2]) ∧ Below w.heap.size w w' := by
  have hr := hL.out.range rfl
  unfold lex_Number.f at h
  split at h
  case isFalse => cases h
  case isTrue hs =>
  have h := Option.some.inj h
  unfold number at h
  by_cases hm : a1 < 0 ∨ 1000000 < a1
  · rw [if_pos hm] at h
    cases h
    exact num_most a0 a1 w (by omega)
  · rw [if_neg hm] at h
    have h0 : 0 ≤ a1 := by omega
    have h1 : a1 ≤ 1000000 := by omega
    have hsz : a0.size = a0.data.toList.length := by rw [Array.length_toList]; rfl
    cases hd : a0.data.toList with
    | nil =>
      rw [hd] at h
      rw [show isNum [] = false from rfl, if_neg (by simp)] at h
      cases h
      exact num_empty a0 a1 w h0 h1 (by rw [ByteArray.toList_eq, hd])
    | cons c r =>
      have hne : a0.toList.isEmpty = false := by rw [ByteArray.toList_eq, hd]; rfl
      have hc : ∀ q : 0 < a0.size, a0[0]'q = c := by
        intro q
        have : a0.data.toList[0]'(by omega) = c := by simp [hd]
        show a0.data[0] = c
        simpa using this
      have h48 : c = 48 → ∀ q : 0 < a0.size, (((a0[0]'q).toNat : Int) == 48) = true := by
        intro e q
        rw [hc q, e]
        rfl
      have hn48 : c ≠ 48 → ∀ q : 0 < a0.size, (((a0[0]'q).toNat : Int) == 48) = false := by
        intro e q
        rw [hc q, beq_eq_false_iff_ne]
        intro e2
        exact e (UInt8.toNat_inj.mp (by show c.toNat = 48; omega))
      by_cases hall : (c :: r).all isDig = true
      · by_cases hz : r ≠ [] ∧ c = 48
        · have hnum : isNum (c :: r) = false := by
            unfold isNum
            have hl : ¬ (c :: r).length ≤ 1 := by
              have := List.length_pos_iff.mpr hz.1
              rw [List.length_cons]
              omega
            rw [decide_eq_false hl, hz.2]
            simp
          rw [hd, hnum, if_neg (by simp)] at h
          cases h
          have hl := List.length_pos_iff.mpr hz.1
          exact num_zero a0 a1 w h0 h1 hne hs (by rw [hd]; exact hall) (by rw [hsz, hd, List.length_cons]; omega) (h48 hz.2)
        · have hab : (1 : Int) < ((a0.size : Nat) : Int) ∧ (∀ q, (((a0[0]'q).toNat : Int) == 48) = false) ∨ ((a0.size : Nat) : Int) ≤ 1 := by
            by_cases hr0 : r = []
            · right; rw [hsz, hd, hr0]; simp
            · have hl := List.length_pos_iff.mpr hr0
              left
              exact ⟨by rw [hsz, hd, List.length_cons]; omega, hn48 (fun e => hz ⟨hr0, e⟩)⟩
          have hnum : isNum (c :: r) = true := by
            unfold isNum
            rw [hall]
            by_cases hr0 : r = []
            · simp [hr0]
            · have : c ≠ 48 := fun e => hz ⟨hr0, e⟩
              simp [this]
          have hat := atoi_dig (c :: r) (by simp) hall
          have hdig : a0.data.toList.all isDig = true := by rw [hd]; exact hall
          rw [hd, hnum, if_pos rfl] at h
          rw [← hd] at hat h
          by_cases hv : decVal a0.data.toList < 9223372036854775808
          · rw [if_pos hv] at hat
            by_cases hm2 : (decVal a0.data.toList : Int) ≤ a1
            · rw [if_pos hm2] at h
              cases h
              exact num_ok a0 a1 w h0 h1 hne hs hdig _ hm2 hat hab
            · rw [if_neg hm2] at h
              cases h
              exact num_big a0 a1 w h0 h1 hne hs hdig _ (by omega) hat hab
          · rw [if_neg hv] at hat
            rw [if_neg (by omega)] at h
            cases h
            exact num_range a0 a1 w h0 h1 hne hs hdig hr hat hab
      · have hnum : isNum (c :: r) = false := by
          unfold isNum
          rw [Bool.eq_false_iff.mpr hall]
          simp
        rw [hd, hnum, if_neg (by simp)] at h
        cases h
        exact num_trim a0 a1 w h0 h1 hne hs (by rw [hd]; exact Bool.eq_false_iff.mpr hall)
end Go.Proofs.YtdbjjbooalkkbaaGreatDoor.P

/- addr.Parse: called in a world whose tables are laid, it returns the address that the text denotes, or an error code. -/
import Derived.Test.YtdbjjbooalkkbaaGreatDoorXAddr
import Derived.Shelf.Strings.SlTrimAscii
namespace Go.Proofs.YtdbjjbooalkkbaaGreatDoor.P
open Go.RowKit Go.Proofs.YtdbjjbooalkkbaaGreatDoorW.PrintWords

set_option maxHeartbeats 1000000 in
theorem parse_empty (t : ByteArray) (w : World) (he : t.toList = []) : Calls Tryz.prog 93 #[.string t] w fun e w' => e = .returned (.tuple #[.agg #[.int .i64 0, .int .i64 0], .int .i64 6]) ∧ Below w.heap.size w w' := by
  go_enter Tryz.func93, Tryz.ntmps93
  go_wp2
  exact bodyPost_ret (v := .tuple #[.agg #[.int .i64 0, .int .i64 0], .int .i64 6]) (by simp [results, Tryz.results93, go_sem]) rfl ⟨rfl, (Below.refl _ _).alloc (Nat.le_refl _) _⟩

def lets : List ByteArray := [⟨#[73]⟩, ⟨#[81]⟩, ⟨#[77]⟩]
theorem idx_any (x : ByteArray) (W : World) (hl : LaidLetters W) : Calls Tryz.prog 79 #[.slice (some ⟨2, 0, none⟩) 3 3, .string x] W fun e w' => e = .returned (.int .i64 (Lib.idxOfS lets x)) ∧ w' = W :=
  (Tryz.slices_Index_string 2 0 3 3 lets x W (by decide) (by decide) (fun j hj => by
    have h3 : j = 0 ∨ j = 1 ∨ j = 2 := by have : j < 3 := hj; omega
    rcases h3 with rfl | rfl | rfl
    · exact hl.c0
    · exact hl.c1
    · exact hl.c2)).mono fun e w' ⟨he, hw⟩ => ⟨he, hw⟩
/-- The letter's place, in whatever later world. -/
theorem idx_at (t : ByteArray) (sp : Int) (w : World) (hl : LaidLetters w) (h : Lib.idxOfS lets (t.extract 0 1) = sp) (o : Obj) (k : Nat) :
    Calls Tryz.prog 79 #[.slice (some ⟨2, 0, none⟩) 3 3, .string (t.extract 0 1)] ((w.alloc o).drewN k) fun e w' => e = .returned (.int .i64 sp) ∧ w' = (w.alloc o).drewN k := by
  rw [← h]
  exact idx_any _ _ (hl.on (pw_below_drewN ((Below.refl _ _).alloc (Nat.le_refl _) _) _))

theorem ret_ad {s n e s' n' e' : Int} (hs : s = s') (hn : n = n') (he : e = e') : Ending.returned (.tuple #[.agg #[.int .i64 s, .int .i64 n], .int .i64 e]) = .returned (.tuple #[.agg #[.int .i64 s', .int .i64 n'], .int .i64 e']) := by rw [hs, hn, he]

theorem below_two (w : World) (o : Obj) (k : Nat) (u v : Value) : Below w.heap.size w ((((w.alloc o).drewN k).setCell ⟨w.heap.size, 0, none⟩ u).setCell ⟨w.heap.size, 1, none⟩ v) :=
  below_set (below_set (pw_below_drewN (below_alloc (Below.refl _ _) o) k) (Nat.le_refl _)) (Nat.le_refl _)
/-- What stands behind a call: the result's box, and all that was. -/
structure Boxy (w : World) (t : TypeId) (W : World) : Prop where
  box : W.heap[w.heap.size]? = some (.cells #[.int .i64 0, .int .i64 0] t (0, 0))
  on : Below w.heap.size w W
theorem Boxy.start (w : World) (t : TypeId) (k : Nat) : Boxy w t ((w.alloc (.cells #[.int .i64 0, .int .i64 0] t)).drewN k) := ⟨blk_drewN (blk_new _ _) _, pw_below_drewN (below_alloc (Below.refl _ _) _) k⟩
theorem Boxy.next {w W W2 : World} {t : TypeId} (h : Boxy w t W) (hb : Below W.heap.size W W2) : Boxy w t W2 := ⟨blk_below h.box hb, below_step h.on hb⟩
theorem Boxy.c0 {w W : World} {t : TypeId} (h : Boxy w t W) : W.cell? ⟨w.heap.size, 0, none⟩ = some (.int .i64 0) := blk_cell h.box 0
theorem Boxy.c1 {w W : World} {t : TypeId} (h : Boxy w t W) : W.cell? ⟨w.heap.size, 1, none⟩ = some (.int .i64 0) := blk_cell h.box 1
theorem Boxy.s0 {w W : World} {t : TypeId} (h : Boxy w t W) (u : Value) : (W.setCell ⟨w.heap.size, 0, none⟩ u).cell? ⟨w.heap.size, 0, none⟩ = some u := blk_cell (blk_set h.box 0 u) 0
theorem Boxy.s1 {w W : World} {t : TypeId} (h : Boxy w t W) (u v : Value) : ((W.setCell ⟨w.heap.size, 0, none⟩ u).setCell ⟨w.heap.size, 1, none⟩ v).cell? ⟨w.heap.size, 1, none⟩ = some v := blk_cell (blk_set (blk_set h.box 0 u) 1 v) 1
theorem Boxy.set {w W : World} {t : TypeId} (h : Boxy w t W) (u v : Value) : Below w.heap.size w ((W.setCell ⟨w.heap.size, 0, none⟩ u).setCell ⟨w.heap.size, 1, none⟩ v) := below_set (below_set h.on (Nat.le_refl _)) (Nat.le_refl _)

theorem trim_any (s : ByteArray) (hs : s.size ≤ 281474976710656) (W : World) :
    Calls Tryz.prog 91 #[.string s, .string ⟨#[48, 49, 50, 51, 52, 53, 54, 55, 56, 57]⟩] W fun e w' => e = .returned (.string ⟨(Lib.trimS s.data.toList digs).toArray⟩) ∧ Below W.heap.size W w' :=
  Any.strings_Trim_laid Tryz.lays160 (by kernel_rfl) s ⟨#[48, 49, 50, 51, 52, 53, 54, 55, 56, 57]⟩ W (by omega) (by decide) (ascii_of_all (by decide))
theorem trim_zero (s : ByteArray) (hs : s.size ≤ 281474976710656) (h : s.data.toList.all isDig = true) (W : World) :
    Calls Tryz.prog 91 #[.string s, .string ⟨#[48, 49, 50, 51, 52, 53, 54, 55, 56, 57]⟩] W fun e w' => e = .returned (.string ⟨#[]⟩) ∧ Below W.heap.size W w' := by
  have := trim_any s hs W
  rwa [(trim_digs _).mpr h] at this
theorem toList_empty (l : List UInt8) : (⟨l.toArray⟩ : ByteArray).toList = l := by
  rw [ByteArray.toList_eq]
theorem trim_more (s : ByteArray) (hs : s.size ≤ 281474976710656) (h : s.data.toList.all isDig = false) (W : World) :
    Calls Tryz.prog 91 #[.string s, .string ⟨#[48, 49, 50, 51, 52, 53, 54, 55, 56, 57]⟩] W fun e w' => ∃ r : ByteArray, e = .returned (.string r) ∧ r.toList.isEmpty = false ∧ Below W.heap.size W w' :=
  (trim_any s hs W).mono fun e w' ⟨he, hb⟩ => ⟨_, he, by
    rw [toList_empty]
    cases hc : Lib.trimS s.data.toList digs with
    | nil => rw [trim_digs, h] at hc; cases hc
    | cons => rfl, hb⟩

set_option maxHeartbeats 1000000 in
theorem parse_bad1 (t : ByteArray) (w : World) (h1 : 1 ≤ t.size) (hne : t.toList.isEmpty = false) (hl : LaidLetters w) (hi : Lib.idxOfS lets (t.extract 0 1) = -1) : Calls Tryz.prog 93 #[.string t] w fun e w' => e = .returned (.tuple #[.agg #[.int .i64 0, .int .i64 0], .int .i64 6]) ∧ Below w.heap.size w w' := by
  have HL := Lib.hid (idx_at t (-1) w hl hi)
  clear hl hi
  go_enter Tryz.func93, Tryz.ntmps93
  go_wp2_with fail
  go_quiet ((go_at_call 79; exact Calls.quiet_of_same (HL.out _ _)))
  go_wp2_with fail
  exact bodyPost_ret (v := .tuple #[.agg #[.int .i64 0, .int .i64 0], .int .i64 6]) (by simp [results, Tryz.results93, go_sem]) rfl ⟨rfl, below_two _ _ _ _ _⟩
set_option maxHeartbeats 1000000 in
theorem parse_bad2 (t : ByteArray) (sp : Int) (h0 : 0 ≤ sp) (w : World) (h1 : 1 ≤ t.size) (hne : t.toList.isEmpty = false) (hd : (t.extract 1 t.size).toList = []) (hl : LaidLetters w) (hi : Lib.idxOfS lets (t.extract 0 1) = sp) : Calls Tryz.prog 93 #[.string t] w fun e w' => e = .returned (.tuple #[.agg #[.int .i64 0, .int .i64 0], .int .i64 6]) ∧ Below w.heap.size w w' := by
  have HL := Lib.hid (idx_at t sp w hl hi)
  clear hl hi
  go_enter Tryz.func93, Tryz.ntmps93
  go_wp2_with fail
  go_quiet ((go_at_call 79; exact Calls.quiet_of_same (HL.out _ _)))
  go_wp2_with fail
  exact bodyPost_ret (v := .tuple #[.agg #[.int .i64 0, .int .i64 0], .int .i64 6]) (by simp [results, Tryz.results93, go_sem]) rfl ⟨rfl, below_two _ _ _ _ _⟩
set_option maxHeartbeats 1000000 in
theorem parse_bad3 (t : ByteArray) (sp : Int) (h0 : 0 ≤ sp) (w : World) (h1 : 1 ≤ t.size) (hne : t.toList.isEmpty = false) (hd : (t.extract 1 t.size).toList.isEmpty = false) (hs : (t.extract 1 t.size).size ≤ 281474976710656)
    (hdig : (t.extract 1 t.size).data.toList.all isDig = false) (hl : LaidLetters w) (hi : Lib.idxOfS lets (t.extract 0 1) = sp) : Calls Tryz.prog 93 #[.string t] w fun e w' => e = .returned (.tuple #[.agg #[.int .i64 0, .int .i64 0], .int .i64 6]) ∧ Below w.heap.size w w' := by
  have HL := Lib.hid (idx_at t sp w hl hi)
  have HT := Lib.hid (trim_more _ hs hdig)
  clear hl hi hs hdig
  go_enter Tryz.func93, Tryz.ntmps93
  go_wp2_with fail
  go_quiet ((go_at_call 79; exact Calls.quiet_of_same (HL.out _ _)))
  go_wp2_with fail
  have HB := (Boxy.start w 49 nq)
  refine (HT.out _).mono ?_
  rintro e w1 ⟨r, rfl, hr, hb⟩
  replace HB := HB.next hb
  have c0 := HB.c0
  have c1 := HB.c1
  have s0 := HB.s0
  have s1 := HB.s1
  have f0 := blk_frozen HB.box 0
  have f1 := blk_frozen HB.box 1
  clear hb
  have HB' := Lib.hid HB
  clear HB
  go_wp2_with fail
  exact bodyPost_ret (v := .tuple #[.agg #[.int .i64 0, .int .i64 0], .int .i64 6]) (by simp [results, Tryz.results93, go_sem, s0, s1]) rfl ⟨rfl, HB'.out.set _ _⟩
set_option maxHeartbeats 1000000 in
theorem parse_bad4 (t : ByteArray) (sp : Int) (h0 : 0 ≤ sp) (w : World) (h1 : 1 ≤ t.size) (hne : t.toList.isEmpty = false) (hd : (t.extract 1 t.size).toList.isEmpty = false) (hs : (t.extract 1 t.size).size ≤ 281474976710656)
    (hdig : (t.extract 1 t.size).data.toList.all isDig = true) (hl : LaidLetters w) (hi : Lib.idxOfS lets (t.extract 0 1) = sp)
    (ha : (1 : Int) < ((t.size - 1 : Nat) : Int)) (h48 : ∀ h, ((((t.extract 1 t.size)[0]'h).toNat : Int) == 48) = true) : Calls Tryz.prog 93 #[.string t] w fun e w' => e = .returned (.tuple #[.agg #[.int .i64 0, .int .i64 0], .int .i64 6]) ∧ Below w.heap.size w w' := by
  have HL := Lib.hid (idx_at t sp w hl hi)
  have HT := Lib.hid (trim_zero _ hs hdig)
  clear hl hi hs hdig
  go_enter Tryz.func93, Tryz.ntmps93
  go_wp2_with fail
  go_quiet ((go_at_call 79; exact Calls.quiet_of_same (HL.out _ _)))
  go_wp2_with fail
  have HB := (Boxy.start w 49 nq)
  refine (HT.out _).mono ?_
  rintro e w1 ⟨rfl, hb⟩
  replace HB := HB.next hb
  have c0 := HB.c0
  have c1 := HB.c1
  have s0 := HB.s0
  have s1 := HB.s1
  have f0 := blk_frozen HB.box 0
  have f1 := blk_frozen HB.box 1
  clear hb
  have HB' := Lib.hid HB
  clear HB
  go_wp2_with fail
  exact bodyPost_ret (v := .tuple #[.agg #[.int .i64 0, .int .i64 0], .int .i64 6]) (by simp [results, Tryz.results93, go_sem, s0, s1]) rfl ⟨rfl, HB'.out.set _ _⟩

theorem atoi_ok (s : ByteArray) (hs : s.size ≤ 281474976710656) (v : Int) (h : Lib.atoiAll s.data.toList = .ok v) (W : World) :
    Calls Tryz.prog 92 #[.string s] W fun e w' => e = .returned (.tuple #[.int .i64 v, .nilIface]) ∧ Below W.heap.size W w' :=
  (Tryz.strconv_Atoi_ok s (by omega) v h W).mono fun e w' ⟨he, hw⟩ => ⟨he, by
    rcases hw with rfl | ⟨t, rfl⟩
    · exact Below.refl _ _
    · exact bytes_below (Below.refl _ _) (Nat.le_refl _) _ _⟩
theorem atoi_range (s : ByteArray) (hs : s.size ≤ 281474976710656) (h : Lib.atoiAll s.data.toList = .range) (W : World) (hr : LaidRange W) :
    Calls Tryz.prog 92 #[.string s] W fun e w' => ∃ N, e = .returned (.tuple #[.int .i64 (Lib.atoiSat s.data.toList), .iface 201 (.pointer (some ⟨N, 0, none⟩))]) ∧ Below W.heap.size W w' := by
  obtain ⟨tp, p, hv⟩ := hr
  exact (Tryz.strconv_Atoi_range_var s hs h tp p W hv).mono fun e w' ⟨N, he, _, _, hb⟩ => ⟨N, he, hb⟩
set_option maxHeartbeats 2000000 in
theorem parse_ok (t : ByteArray) (sp : Int) (h0 : 0 ≤ sp) (w : World) (h1 : 1 ≤ t.size) (hne : t.toList.isEmpty = false) (hd : (t.extract 1 t.size).toList.isEmpty = false) (hs : (t.extract 1 t.size).size ≤ 281474976710656)
    (hdig : (t.extract 1 t.size).data.toList.all isDig = true) (hl : LaidLetters w) (hi : Lib.idxOfS lets (t.extract 0 1) = sp) (v : Int) (hv : v < 256) (hat : Lib.atoiAll (t.extract 1 t.size).data.toList = .ok v)
    (hab : (1 : Int) < ((t.size - 1 : Nat) : Int) ∧ (∀ h, ((((t.extract 1 t.size)[0]'h).toNat : Int) == 48) = false) ∨ ((t.size - 1 : Nat) : Int) ≤ 1) : Calls Tryz.prog 93 #[.string t] w fun e w' => e = .returned (.tuple #[.agg #[.int .i64 sp, .int .i64 v], .int .i64 0]) ∧ Below w.heap.size w w' := by
  have HL := Lib.hid (idx_at t sp w hl hi)
  have HT := Lib.hid (trim_zero _ hs hdig)
  have HA := Lib.hid (fun W => atoi_ok _ hs v hat W)
  clear hl hi hs hdig hat
  rcases hab with ⟨ha, h48⟩ | ha
  all_goals
    go_enter Tryz.func93, Tryz.ntmps93
    go_wp2_with fail
    go_quiet ((go_at_call 79; exact Calls.quiet_of_same (HL.out _ _)))
    go_wp2_with fail
    have HB := (Boxy.start w 49 nq)
    refine (HT.out _).mono ?_
    rintro e w1 ⟨rfl, hb⟩
    replace HB := HB.next hb
    clear hb
    go_wp2_with fail
    refine (HA.out _).mono ?_
    rintro e w2 ⟨rfl, hb⟩
    replace HB := HB.next hb
    have c0 := HB.c0
    have c1 := HB.c1
    have s0 := HB.s0
    have s1 := HB.s1
    have f0 := blk_frozen HB.box 0
    have f1 := blk_frozen HB.box 1
    clear hb
    have HB' := Lib.hid HB
    clear HB
    go_wp2_with fail
    exact bodyPost_ret (v := .tuple #[.agg #[.int .i64 sp, .int .i64 v], .int .i64 0]) (by simp [results, Tryz.results93, go_sem, s0, s1]) rfl ⟨rfl, HB'.out.set _ _⟩

set_option maxHeartbeats 2000000 in
theorem parse_big (t : ByteArray) (sp : Int) (h0 : 0 ≤ sp) (w : World) (h1 : 1 ≤ t.size) (hne : t.toList.isEmpty = false) (hd : (t.extract 1 t.size).toList.isEmpty = false) (hs : (t.extract 1 t.size).size ≤ 281474976710656)
    (hdig : (t.extract 1 t.size).data.toList.all isDig = true) (hl : LaidLetters w) (hi : Lib.idxOfS lets (t.extract 0 1) = sp) (v : Int) (hv : 256 ≤ v) (hat : Lib.atoiAll (t.extract 1 t.size).data.toList = .ok v)
    (hab : (1 : Int) < ((t.size - 1 : Nat) : Int) ∧ (∀ h, ((((t.extract 1 t.size)[0]'h).toNat : Int) == 48) = false) ∨ ((t.size - 1 : Nat) : Int) ≤ 1) : Calls Tryz.prog 93 #[.string t] w fun e w' => e = .returned (.tuple #[.agg #[.int .i64 0, .int .i64 0], .int .i64 3]) ∧ Below w.heap.size w w' := by
  have HL := Lib.hid (idx_at t sp w hl hi)
  have HT := Lib.hid (trim_zero _ hs hdig)
  have HA := Lib.hid (fun W => atoi_ok _ hs v hat W)
  clear hl hi hs hdig hat
  rcases hab with ⟨ha, h48⟩ | ha
  all_goals
    go_enter Tryz.func93, Tryz.ntmps93
    go_wp2_with fail
    go_quiet ((go_at_call 79; exact Calls.quiet_of_same (HL.out _ _)))
    go_wp2_with fail
    have HB := (Boxy.start w 49 nq)
    refine (HT.out _).mono ?_
    rintro e w1 ⟨rfl, hb⟩
    replace HB := HB.next hb
    clear hb
    go_wp2_with fail
    refine (HA.out _).mono ?_
    rintro e w2 ⟨rfl, hb⟩
    replace HB := HB.next hb
    have c0 := HB.c0
    have c1 := HB.c1
    have s0 := HB.s0
    have s1 := HB.s1
    have f0 := blk_frozen HB.box 0
    have f1 := blk_frozen HB.box 1
    clear hb
    have HB' := Lib.hid HB
    clear HB
    go_wp2_with fail
    exact bodyPost_ret (v := .tuple #[.agg #[.int .i64 0, .int .i64 0], .int .i64 3]) (by simp [results, Tryz.results93, go_sem, s0, s1]) rfl ⟨rfl, HB'.out.set _ _⟩

set_option maxHeartbeats 2000000 in
theorem parse_range (t : ByteArray) (sp : Int) (h0 : 0 ≤ sp) (w : World) (h1 : 1 ≤ t.size) (hne : t.toList.isEmpty = false) (hd : (t.extract 1 t.size).toList.isEmpty = false) (hs : (t.extract 1 t.size).size ≤ 281474976710656)
    (hdig : (t.extract 1 t.size).data.toList.all isDig = true) (hl : LaidLetters w) (hi : Lib.idxOfS lets (t.extract 0 1) = sp) (hr : LaidRange w) (hat : Lib.atoiAll (t.extract 1 t.size).data.toList = .range)
    (hab : (1 : Int) < ((t.size - 1 : Nat) : Int) ∧ (∀ h, ((((t.extract 1 t.size)[0]'h).toNat : Int) == 48) = false) ∨ ((t.size - 1 : Nat) : Int) ≤ 1) : Calls Tryz.prog 93 #[.string t] w fun e w' => e = .returned (.tuple #[.agg #[.int .i64 0, .int .i64 0], .int .i64 3]) ∧ Below w.heap.size w w' := by
  have HL := Lib.hid (idx_at t sp w hl hi)
  have HT := Lib.hid (trim_zero _ hs hdig)
  have HA := Lib.hid (fun W h => atoi_range _ hs hat W h)
  have HR := Lib.hid hr
  clear hr
  clear hl hi hs hdig hat
  rcases hab with ⟨ha, h48⟩ | ha
  all_goals
    go_enter Tryz.func93, Tryz.ntmps93
    go_wp2_with fail
    go_quiet ((go_at_call 79; exact Calls.quiet_of_same (HL.out _ _)))
    go_wp2_with fail
    have HB := (Boxy.start w 49 nq)
    refine (HT.out _).mono ?_
    rintro e w1 ⟨rfl, hb⟩
    replace HB := HB.next hb
    clear hb
    go_wp2_with fail
    refine (HA.out _ (HR.out.on HB.on)).mono ?_
    rintro e w2 ⟨N, rfl, hb⟩
    replace HB := HB.next hb
    have c0 := HB.c0
    have c1 := HB.c1
    have s0 := HB.s0
    have s1 := HB.s1
    have f0 := blk_frozen HB.box 0
    have f1 := blk_frozen HB.box 1
    clear hb
    have HB' := Lib.hid HB
    clear HB
    go_wp2_with fail
    exact bodyPost_ret (v := .tuple #[.agg #[.int .i64 0, .int .i64 0], .int .i64 3]) (by simp [results, Tryz.results93, go_sem, s0, s1]) rfl ⟨rfl, HB'.out.set _ _⟩

theorem mk_inj {a b : UInt8} : ((⟨#[a]⟩ : ByteArray) = ⟨#[b]⟩) ↔ a = b := by
  constructor
  · intro h; injection h with h; simpa using h
  · rintro rfl; rfl
theorem idx_letter (c : UInt8) : Lib.idxOfS lets ⟨#[c]⟩ = match spaceOf c with | some sp => sp | none => -1 := by
  have e : ∀ b : UInt8, ((⟨#[b]⟩ : ByteArray) = ⟨#[c]⟩) = (c = b) := fun b => propext (mk_inj.trans eq_comm)
  unfold Lib.idxOfS lets Lib.idxFromS Lib.idxFromS Lib.idxFromS Lib.idxFromS spaceOf
  simp only [e]
  split
  · simp
  · split
    · simp
    · split <;> simp
theorem extract_one (t : ByteArray) (c : UInt8) (ds : List UInt8) (h : t.data.toList = c :: ds) : t.extract 0 1 = ⟨#[c]⟩ := by
  apply ByteArray.ext
  rw [ByteArray.data_extract]
  apply Array.ext'
  rw [Array.toList_extract, h]
  rfl
theorem extract_rest (t : ByteArray) (c : UInt8) (ds : List UInt8) (h : t.data.toList = c :: ds) : (t.extract 1 t.size).data.toList = ds := by
  have hs : t.size = ds.length + 1 := by
    have : t.data.toList.length = ds.length + 1 := by rw [h]; rfl
    rwa [Array.length_toList] at this
  rw [ByteArray.data_extract, Array.toList_extract, h, hs]
  simp [List.extract]
theorem spaceOf_nonneg {c : UInt8} {sp : Int} (h : spaceOf c = some sp) : 0 ≤ sp := by
  unfold spaceOf at h
  split at h
  · cases h; decide
  · split at h
    · cases h; decide
    · split at h
      · cases h; decide
      · cases h
/-- addr.Parse, as the printed texts ask for it. -/
theorem addr_Parse.calls (a0 : ByteArray) (r1 r2 r3 : Int) (w : World) (hL : Aside0 (LaidW 6 w)) (h : addr_Parse.f a0 = some (r1, r2, r3)) :
    Calls Tryz.prog 93 #[.string a0] w fun e w' => e = .returned (.tuple #[.agg #[.int .i64 r1, .int .i64 r2], .int .i64 r3]) ∧ Below w.heap.size w w' := by
  have hl := hL.out.letters rfl
  have hr := hL.out.range rfl
  unfold addr_Parse.f at h
  split at h
  case isFalse => cases h
  case isTrue hsz =>
  have h := Option.some.inj h
  cases hd : a0.data.toList with
  | nil =>
    rw [hd] at h
    cases h
    exact parse_empty a0 w (by rw [ByteArray.toList_eq, hd])
  | cons c ds =>
    rw [hd] at h
    have hs : a0.size = ds.length + 1 := by
      have : a0.data.toList.length = ds.length + 1 := by rw [hd]; rfl
      rwa [Array.length_toList] at this
    have h1 : 1 ≤ a0.size := by omega
    have hne : a0.toList.isEmpty = false := by rw [ByteArray.toList_eq, hd]; rfl
    have hx := extract_one a0 c ds hd
    have hy := extract_rest a0 c ds hd
    have hi := idx_letter c
    rw [← hx] at hi
    unfold parseAddr at h
    simp only at h
    have hs2 : (a0.extract 1 a0.size).size ≤ 281474976710656 := by
      have : (a0.extract 1 a0.size).data.toList.length = ds.length := by rw [hy]
      rw [Array.length_toList] at this
      have h2 : (a0.extract 1 a0.size).size = ds.length := this
      omega
    cases hsp : spaceOf c with
    | none =>
      rw [hsp] at h hi
      cases h
      exact parse_bad1 a0 w h1 hne hl hi
    | some sp =>
      rw [hsp] at h hi
      simp only at h hi
      have h0 := spaceOf_nonneg hsp
      by_cases hde : ds = []
      · subst hde
        have : isNum [] = false := rfl
        rw [this, if_neg (by simp)] at h
        cases h
        exact parse_bad2 a0 sp h0 w h1 hne (by rw [ByteArray.toList_eq, hy]) hl hi
      · have hdn : (a0.extract 1 a0.size).toList.isEmpty = false := by rw [ByteArray.toList_eq, hy]; simpa using hde
        by_cases hall : ds.all isDig = true
        · have hall' : (a0.extract 1 a0.size).data.toList.all isDig = true := by rw [hy]; exact hall
          have hat := atoi_dig ds hde hall
          rw [← hy] at hat
          have hlen : ((a0.size - 1 : Nat) : Int) = ds.length := by omega
          have h48 : ∀ hh, (((a0.extract 1 a0.size)[0]'hh).toNat : Int) = ((ds.head hde).toNat : Int) := by
            intro hh
            have : ((a0.extract 1 a0.size)[0]'hh) = ds.head hde := by
              have e1 : ((a0.extract 1 a0.size)[0]'hh) = (a0.extract 1 a0.size).data.toList[0]'(by rw [hy]; exact List.length_pos_iff.mpr hde) := by
                rw [Array.getElem_toList]; rfl
              rw [e1]
              simp only [hy]
              exact List.getElem_zero_eq_head ..
            rw [this]
          by_cases hbad : 1 < ds.length ∧ (ds.head hde).toNat = 48
          · have hn : isNum ds = false := by
              unfold isNum
              have e2 : ds.head? = some 48 := by
                rw [List.head?_eq_some_head hde]
                congr 1
                exact UInt8.toNat_inj.mp (by rw [hbad.2]; rfl)
              have : ¬ ds.length ≤ 1 := by omega
              simp [hall, e2, this]
            rw [hn, if_neg (by simp)] at h
            cases h
            exact parse_bad4 a0 sp h0 w h1 hne hdn hs2 hall' hl hi (by omega) (fun hh => by rw [h48 hh, hbad.2]; rfl)
          · have hn : isNum ds = true := by
              unfold isNum
              have e3 : ds.isEmpty = false := by simpa using hde
              simp only [e3, hall, Bool.not_false, Bool.true_and, Bool.or_eq_true, decide_eq_true_eq]
              by_cases hl1 : ds.length ≤ 1
              · exact .inl hl1
              · right
                rw [List.head?_eq_some_head hde]
                intro e
                apply hbad
                refine ⟨by omega, ?_⟩
                rw [Option.some.inj e]
                rfl
            have hab : (1 : Int) < ((a0.size - 1 : Nat) : Int) ∧ (∀ hh, ((((a0.extract 1 a0.size)[0]'hh).toNat : Int) == 48) = false) ∨ ((a0.size - 1 : Nat) : Int) ≤ 1 := by
              by_cases hl1 : ds.length ≤ 1
              · right; omega
              · left
                refine ⟨by omega, fun hh => ?_⟩
                rw [h48 hh, beq_eq_false_iff_ne]
                intro e
                exact hbad ⟨by omega, by omega⟩
            rw [hn, if_pos rfl] at h
            rw [hy] at hat
            by_cases hv : decVal ds < 256
            · rw [if_pos hv] at h
              cases h
              rw [if_pos (by omega), ← hy] at hat
              exact parse_ok a0 _ h0 w h1 hne hdn hs2 hall' hl hi (decVal ds : Int) (by omega) (by rw [hat, hy]) hab
            · rw [if_neg hv] at h
              cases h
              by_cases hb : decVal ds < 9223372036854775808
              · rw [if_pos hb, ← hy] at hat
                exact parse_big a0 sp h0 w h1 hne hdn hs2 hall' hl hi (decVal ds : Int) (by omega) (by rw [hat, hy]) hab
              · rw [if_neg hb, ← hy] at hat
                exact parse_range a0 sp h0 w h1 hne hdn hs2 hall' hl hi hr hat hab
        · have hn : isNum ds = false := by
            unfold isNum
            simp [Bool.eq_false_iff.mpr hall]
          rw [hn, if_neg (by simp)] at h
          cases h
          exact parse_bad3 a0 sp h0 w h1 hne hdn hs2 (by rw [hy]; exact Bool.eq_false_iff.mpr hall) hl hi
end Go.Proofs.YtdbjjbooalkkbaaGreatDoor.P

/- The reference's Print: of a ladder that its Check accepts, the canonical text, or that it is too long. -/
import Derived.Test.YtmcmpjkfdkogiaaDoorXRefSpec
import Derived.Test.YtmcmpjkfdkogiaaDoorXPrintC
import Derived.Test.YtmcmpjkfdkogiaaDoorPQ12
import Derived.Test.YtmcmpjkfdkogiaaDoorPQ13
namespace Go.Proofs.YtmcmpjkfdkogiaaDoor.P
open Go.RowKit Go.Shelf Go.Proofs.YtmcmpjkfdkogiaaDoorW.PrintWords

theorem decimal_call (n : Int) (h0 : 0 ≤ n) (h1 : n ≤ 256) (w : World) :
    Calls Tryd.prog 37 #[.int .i64 n] w fun e w' => e = .returned (.string (itoaB n)) ∧ Below w.heap.size w w' := by
  obtain ⟨m, rfl⟩ : ∃ m : Nat, n = m := ⟨n.toNat, by omega⟩
  refine ref01_Decimal.calls 1000 (m : Int) (itoaB m) w ?_
  rw [ref_decimal m (by omega) 1000 (by omega)]
  unfold itoaB
  rw [itoa_nat _ (by omega)]
  rfl
theorem rformat_call (s n : Int) (w : World) : Calls Tryd.prog 39 #[.agg #[.int .i64 s, .int .i64 n]] w fun e w' => e = .returned (.string (fmtB s n)) ∧ Below w.heap.size w w' := by
  refine ref01_Format.calls 1000 s n (fmtB s n) w ?_
  rw [ref_format s n 1000 (by omega)]
  rfl
set_option maxHeartbeats 1000000 in
theorem rkwC_walk (w : World) : Calls Tryd.prog 38 #[] w fun e w' => (∃ h, e = .returned (.slice (some ⟨h, 0, none⟩) 4 4) ∧ ∀ j, j < 4 → w'.cell? ⟨h, j, none⟩ = some (.string (kwC.getD j ByteArray.empty))) ∧ Below w.heap.size w w' := by
  go_enter Tryd.func38, Tryd.ntmps38
  go_wp2
  go_ret
  refine ⟨⟨_, rfl, fun j hj => ?_⟩, below_alloc (Below.refl _ _) _⟩
  have h := Blk.new w 9 (wordCells kwC)
  exact wordCells_at kwC j (kwC.getD j ByteArray.empty) (by rw [List.getD_eq_getElem?_getD, List.getElem?_eq_getElem (by exact hj)]; rfl) h.out
set_option maxHeartbeats 1000000 in
theorem rkwQ_walk (w : World) : Calls Tryd.prog 40 #[] w fun e w' => (∃ h, e = .returned (.slice (some ⟨h, 0, none⟩) 4 4) ∧ ∀ j, j < 4 → w'.cell? ⟨h, j, none⟩ = some (.string (kwQ.getD j ByteArray.empty))) ∧ Below w.heap.size w w' := by
  go_enter Tryd.func40, Tryd.ntmps40
  go_wp2
  go_ret
  refine ⟨⟨_, rfl, fun j hj => ?_⟩, below_alloc (Below.refl _ _) _⟩
  have h := Blk.new w 9 (wordCells kwQ)
  exact wordCells_at kwQ j (kwQ.getD j ByteArray.empty) (by rw [List.getD_eq_getElem?_getD, List.getElem?_eq_getElem (by exact hj)]; rfl) h.out

theorem rprint_bad (k : Nat) (I Q M : Int) (A : Option Addr) (c : Nat) (l : List S40) (n e : Int) (w : World) (hr : Kd.C k40 w A l.length l) (hc : l.length ≤ c) (h : ref11_Check.f k I Q M l = some (n, e)) (he : e ≠ 0) :
    Calls Tryd.prog 14 #[.agg #[.int .i64 I, .int .i64 Q, .int .i64 M, .slice A l.length c]] w fun x w' => x = .returned (.tuple #[.string ⟨#[]⟩, .int .i64 e]) ∧ Below w.heap.size w w' := by
  have HC := Lib.hid (fun o => ref11_Check.calls k I Q M A c l n e (w.alloc o) (Kd.C_below hr (below_alloc (Below.refl _ _) o)) hc h)
  have he' : (e != 0) = true := by rw [bne_iff_ne]; exact he
  have he2 : decide (e = 0) = false := decide_eq_false he
  clear hr h
  go_enter Tryd.func14, Tryd.ntmps14
  go_wp2_with (go_at_call 12; (with_reducible refine (HC.out _).mono ?_); rintro x w1 ⟨rfl, hb⟩; have HB := Lib.hid hb; clear hb)
  go_ret2
  exact ⟨rfl, below_then (below_alloc (Below.refl _ _) _) (by simp) HB.out⟩

theorem bytes_app (a b : ByteArray) : (a ++ b).data.toList = a.data.toList ++ b.data.toList := by rw [ByteArray.data_append, Array.toList_append]
theorem bytes_size (a : ByteArray) : a.size = a.data.toList.length := by rw [Array.length_toList]; rfl
theorem seg_some (i : Nat) (s : ByteArray) (hi : 0 < i) (hs : s.size ≠ 0) : seg i s = 32 :: s.data.toList := by unfold seg; rw [if_pos ⟨hi, hs⟩]; rfl
theorem name_pos {s : ByteArray} (h : nameB s = true) : s.size ≠ 0 := by
  intro e
  rw [bytes_size] at e
  unfold nameB at h
  rw [List.eq_nil_of_length_eq_zero e] at h
  cases h
theorem itoaB_pos (n : Int) (h : 0 ≤ n) : (itoaB n).size ≠ 0 := by
  rw [bytes_size]
  show (Lib.itoa n).length ≠ 0
  rw [itoa_nat n h, Lib.decDigits]
  split <;> simp
theorem fmtB_pos {I Q M s n : Int} (hs : OkSize I Q M) (h : addrP I Q M s n = 0) : (fmtB s n).size ≠ 0 := by
  unfold addrP at h
  have hw := widthP_le hs s
  by_cases h1 : 0 ≤ s ∧ s ≤ 2
  · rw [if_pos h1] at h
    by_cases h2 : 0 ≤ n ∧ n < widthP I Q M s
    · unfold fmtB
      rw [if_pos ⟨h1.1, h1.2, h2.1, by omega⟩, bytes_size]
      simp
    · rw [if_neg h2] at h; exact absurd h (by decide)
  · rw [if_neg h1] at h; exact absurd h (by decide)
theorem rsize_text {I Q M : Int} (h1 : 0 ≤ I) (h2 : 0 ≤ Q) (h3 : 0 ≤ M) : (((((((⟨#[115, 105, 122, 101, 32]⟩ : ByteArray) ++ itoaB I) ++ (⟨#[32]⟩ : ByteArray)) ++ itoaB Q) ++ (⟨#[32]⟩ : ByteArray)) ++ itoaB M) ++ (⟨#[10]⟩ : ByteArray)).data.toList = sizeT I Q M := by
  unfold sizeT lineL
  simp only [segs, bytes_app, seg_some _ _ (Nat.lt_add_left 0 (Nat.lt_succ_self 0)) (itoaB_pos I h1), seg_some (0 + 1 + 1) _ (by decide) (itoaB_pos Q h2), seg_some (0 + 1 + 1 + 1) _ (by decide) (itoaB_pos M h3)]
  simp [seg, wSize]
theorem rcon_text {I Q M : Int} (hs : OkSize I Q M) (x : S50) (h : ConOk I Q M x) (T : ByteArray) : ((((((((T ++ kwC.getD x.f0.toNat ByteArray.empty) ++ (⟨#[32]⟩ : ByteArray)) ++ fmtB x.f1.f0 x.f1.f1) ++ (⟨#[32]⟩ : ByteArray)) ++ x.f2) ++ (⟨#[32]⟩ : ByteArray)) ++ x.f3) ++ (⟨#[10]⟩ : ByteArray)).data.toList = T.data.toList ++ lineL (conWords x) := by
  unfold lineL conWords
  simp only [segs, bytes_app, seg_some (0 + 1) _ (by decide) (fmtB_pos hs h.addr), seg_some (0 + 1 + 1) _ (by decide) (name_pos h.src), seg_some (0 + 1 + 1 + 1) _ (by decide) (name_pos h.dst)]
  simp [seg]
theorem rcoil_text {I Q M : Int} (hs : OkSize I Q M) (x : S53) (h : CoilOk I Q M x) (T : ByteArray) : ((((T ++ kwQ.getD x.f0.toNat ByteArray.empty) ++ (⟨#[32]⟩ : ByteArray)) ++ fmtB x.f1.f0 x.f1.f1) ++ (⟨#[10]⟩ : ByteArray)).data.toList = T.data.toList ++ lineL (coilWords x) := by
  unfold lineL coilWords
  simp only [segs, bytes_app, seg_some (0 + 1) _ (by decide) (fmtB_pos hs h.addr)]
  simp [seg]
theorem rlabel_text (T a : ByteArray) (h : a.size ≠ 0) : ((((T ++ (⟨#[114, 117, 110, 103]⟩ : ByteArray)) ++ (⟨#[32]⟩ : ByteArray)) ++ a) ++ (⟨#[10]⟩ : ByteArray)).data.toList = T.data.toList ++ lineL [wRung, a] := by
  unfold lineL
  simp only [segs, bytes_app, seg_some (0 + 1) _ (by decide) h]
  simp [seg, wRung]
theorem rlabel_none (T a : ByteArray) (h : a.size = 0) : ((T ++ (⟨#[114, 117, 110, 103]⟩ : ByteArray)) ++ (⟨#[10]⟩ : ByteArray)).data.toList = T.data.toList ++ lineL [wRung, a] := by
  have := size_nil h
  subst this
  unfold lineL
  simp only [segs, bytes_app]
  simp [seg, wRung]
theorem rjump_text (T a : ByteArray) (h : a.size ≠ 0) : (((T ++ (⟨#[106, 117, 109, 112, 32]⟩ : ByteArray)) ++ a) ++ (⟨#[10]⟩ : ByteArray)).data.toList = T.data.toList ++ lineL [wJump, a] := by
  unfold lineL
  simp only [segs, bytes_app, seg_some (0 + 1) _ (by decide) h]
  simp [seg, wJump]
end Go.Proofs.YtmcmpjkfdkogiaaDoor.P

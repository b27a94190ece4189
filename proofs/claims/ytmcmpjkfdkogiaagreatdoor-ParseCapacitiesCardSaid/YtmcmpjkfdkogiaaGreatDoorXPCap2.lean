/- ParseCapacities: the printed law's pure statement. -/
import Derived.Test.YtmcmpjkfdkogiaaGreatDoorPQ11
import Derived.Test.YtmcmpjkfdkogiaaGreatDoorXPCap
import Derived.Test.YtmcmpjkfdkogiaaGreatDoorXAlive10
import Derived.Test.YtmcmpjkfdkogiaaGreatDoorXStrings
set_option linter.unusedVariables false
set_option linter.unusedSimpArgs false
namespace Go.Proofs.YtmcmpjkfdkogiaaGreatDoor.P
open Go.RowKit Go.Proofs.YtmcmpjkfdkogiaaGreatDoorW.PrintWords

theorem wf16 {x : Int} (h : (Lit.int .u16 x).wf = true) : 0 ≤ x ∧ x ≤ 65535 := by
  simp only [Lit.wf, Bool.and_eq_true, decide_eq_true_eq] at h
  exact h
theorem app_list' (s t : ByteArray) : (s ++ t).data.toList = s.data.toList ++ t.data.toList := by rw [ByteArray.data_append, Array.toList_append]
def capY : List S41 := [(⟨64, (⟨#[114, 117, 110, 103, 10]⟩ : ByteArray)⟩ : S41), (⟨256, (⟨#[110, 111, 32, 73, 48, 32, 76, 32, 82, 10]⟩ : ByteArray)⟩ : S41), (⟨16, (⟨#[111, 117, 116, 32, 81, 48, 10]⟩ : ByteArray)⟩ : S41)]
theorem rep_some (B : ByteArray) (k : Nat) (hk : k ≤ 1000) (hB : B.size ≤ 1000) : strings_Repeat.f B (k : Int) = some ⟨(Lib.repeatL B.data.toList k).toArray⟩ := by
  unfold strings_Repeat.f
  rw [if_pos ⟨by omega, by omega, hB⟩, Int.toNat_natCast]
theorem rep_size (B : ByteArray) (k : Nat) : (⟨(Lib.repeatL B.data.toList k).toArray⟩ : ByteArray).size = k * B.size := by
  rw [size_len, size_len B]
  show (Lib.repeatL B.data.toList k).toArray.toList.length = _
  rw [List.toList_toArray, Lib.repeatL_length]
section
variable {m k : Nat} {x0 x3 x7 x18 x19 most : Int} {x6 B : ByteArray} {Y : List S41} {L : List UInt8}
theorem j1_no (hk : k ≤ 1000) (hB : B.size ≤ 20) (h6 : x6.size ≤ 100) (hm : (k : Int) > most) (hT : x6.data.toList ++ Lib.repeatL B.data.toList k = L) {nx ln : Int} (hnx : wrap64 (x19 + 1) = nx) (hln : wrap64 ((wrap64 (x7 + most)) + 1) = ln) (hp : parseT L = bad ln 10) :
    law10_ParseCapacities.j1 (m + 1) x0 x3 (k : Int) x6 x7 Y x18 x19 most B = law10_ParseCapacities.l0 m x0 Y x18 nx := by
  subst hnx hln
  have hs := rep_size B k
  have hb : k * B.size ≤ 1000 * 20 := Nat.mul_le_mul hk hB
  have hd : (x6 ++ (⟨(Lib.repeatL B.data.toList k).toArray⟩ : ByteArray)).data.toList = L := by rw [app_list']; exact hT
  rw [law10_ParseCapacities.j1, rep_some B k hk (by omega), Option.bind_some, if_pos (by omega), parse_eq, Option.bind_some, if_pos hm, hd, hp]
  unfold bad
  simp
theorem j1_yes {n : Nat} (hk : k ≤ 1000) (hB : B.size ≤ 20) (h6 : x6.size ≤ 100) (hm : (k : Int) ≤ most) (hT : x6.data.toList ++ Lib.repeatL B.data.toList k = L) {nx : Int} (hnx : wrap64 (x19 + 1) = nx) (hp : Yes n k (parseT L)) (h3 : x3 = (n : Int)) (hn : n < 3) :
    law10_ParseCapacities.j1 (m + 2) x0 x3 (k : Int) x6 x7 Y x18 x19 most B = law10_ParseCapacities.l0 m x0 Y x18 nx := by
  subst hnx
  have hs := rep_size B k
  have hb : k * B.size ≤ 1000 * 20 := Nat.mul_le_mul hk hB
  have hd : (x6 ++ (⟨(Lib.repeatL B.data.toList k).toArray⟩ : ByteArray)).data.toList = L := by rw [app_list']; exact hT
  obtain ⟨e0, e1, x, xs, e2, q0, q1, q2⟩ := hp
  rw [law10_ParseCapacities.j1, rep_some B k hk (by omega), Option.bind_some, if_pos (by omega), parse_eq, Option.bind_some, if_neg (by omega), hd, if_pos e0, if_pos e1, e2]
  have h0 : (((x :: xs).length : Int) == 0) = false := by rw [beq_eq_false_iff_ne, List.length_cons]; omega
  rw [h0, law10_ParseCapacities.j2, if_neg (by decide), if_pos (by rw [List.length_cons]; omega), Option.bind_some, h3]
  have hr : rd_T47 (x :: xs) 0 = x := rfl
  rw [hr, if_pos (by omega), if_pos (by show ((n : Int) < 3); omega)]
  have hv : rd [((x :: xs).length : Int), (x.f1.length : Int), (x.f2.length : Int)] (n : Int) = (k : Int) := by
    have : n = 0 ∨ n = 1 ∨ n = 2 := by omega
    rcases this with rfl | rfl | rfl
    · show ((x :: xs).length : Int) = _; rw [q0 rfl]
    · show (x.f1.length : Int) = _; rw [q1 rfl]
    · show (x.f2.length : Int) = _; rw [q2 rfl]
  rw [if_pos hv]
end
theorem wk (c : Int) (d : Nat) (a0 : Int) (hd : Int.tmod a0 3 = (d : Int)) (h : d < 3) (h0 : 0 ≤ c) (h1 : c ≤ 1000) (hc : 1 ≤ c) : wrap64 ((wrap64 (c - 1)) + (wrap64 (Int.tmod a0 3))) = ((c.toNat - 1 + d : Nat) : Int) := by
  rw [hd]
  unfold wrap64
  omega
theorem L3 (m : Nat) (a0 : Int) : law10_ParseCapacities.l0 (m + 1) a0 capY 3 3 = some true := by
  rw [law10_ParseCapacities.l0, if_neg (by decide)]
  rfl
theorem L2 (m : Nat) (a0 : Int) (d : Nat) (hd : Int.tmod a0 3 = (d : Int)) (h : d < 3) : law10_ParseCapacities.l0 (m + 4) a0 capY 3 2 = some true := by
  rw [law10_ParseCapacities.l0, if_pos (by decide), if_pos (by decide), if_pos (by decide), if_pos (by decide), if_pos (by decide)]
  have e : rd_T41 capY 2 = ⟨16, ⟨#[111, 117, 116, 32, 81, 48, 10]⟩⟩ := rfl
  rw [e, wk 16 d a0 hd h (by decide) (by decide) (by decide)]
  show law10_ParseCapacities.j1 (m + 3) a0 2 ((15 + d : Nat) : Int) ((⟨#[115, 105, 122, 101, 32, 49, 32, 49, 32, 48, 10]⟩ : ByteArray) ++ (⟨#[114, 117, 110, 103, 10]⟩ : ByteArray)) 2 capY 3 2 16 ⟨#[111, 117, 116, 32, 81, 48, 10]⟩ = some true
  by_cases hk : 16 < 15 + d
  · exact (j1_no (m := m + 2) (k := 15 + d) (L := sizeL ++ 10 :: (rungL ++ 10 :: Lib.repeatL (outL ++ [10]) (15 + d))) (by omega) (by decide) (by decide) (by omega) rfl (by unfold wrap64; omega) (by unfold wrap64; omega) (cap2_no _ hk (by omega))).trans (L3 (m + 1) a0)
  · exact (j1_yes (m := m + 1) (k := 15 + d) (n := 2) (L := sizeL ++ 10 :: (rungL ++ 10 :: Lib.repeatL (outL ++ [10]) (15 + d))) (by omega) (by decide) (by decide) (by omega) rfl (by unfold wrap64; omega) (cap2_yes _ (by omega) (by omega)) rfl (by decide)).trans (L3 m a0)
theorem L1 (m : Nat) (a0 : Int) (d : Nat) (hd : Int.tmod a0 3 = (d : Int)) (h : d < 3) : law10_ParseCapacities.l0 (m + 7) a0 capY 3 1 = some true := by
  rw [law10_ParseCapacities.l0, if_pos (by decide), if_pos (by decide), if_pos (by decide), if_pos (by decide), if_pos (by decide)]
  have e : rd_T41 capY 1 = ⟨256, ⟨#[110, 111, 32, 73, 48, 32, 76, 32, 82, 10]⟩⟩ := rfl
  rw [e, wk 256 d a0 hd h (by decide) (by decide) (by decide)]
  show law10_ParseCapacities.j1 (m + 6) a0 1 ((255 + d : Nat) : Int) ((⟨#[115, 105, 122, 101, 32, 49, 32, 49, 32, 48, 10]⟩ : ByteArray) ++ (⟨#[114, 117, 110, 103, 10]⟩ : ByteArray)) 2 capY 3 1 256 ⟨#[110, 111, 32, 73, 48, 32, 76, 32, 82, 10]⟩ = some true
  by_cases hk : 256 < 255 + d
  · exact (j1_no (m := m + 5) (k := 255 + d) (L := sizeL ++ 10 :: (rungL ++ 10 :: Lib.repeatL (conL ++ [10]) (255 + d))) (by omega) (by decide) (by decide) (by omega) rfl (by unfold wrap64; omega) (by unfold wrap64; omega) (cap1_no _ hk (by omega))).trans (L2 (m + 1) a0 d hd h)
  · exact (j1_yes (m := m + 4) (k := 255 + d) (n := 1) (L := sizeL ++ 10 :: (rungL ++ 10 :: Lib.repeatL (conL ++ [10]) (255 + d))) (by omega) (by decide) (by decide) (by omega) rfl (by unfold wrap64; omega) (cap1_yes _ (by omega) (by omega)) rfl (by decide)).trans (L2 m a0 d hd h)
theorem L0 (m : Nat) (a0 : Int) (d : Nat) (hd : Int.tmod a0 3 = (d : Int)) (h : d < 3) : law10_ParseCapacities.l0 (m + 10) a0 capY 3 0 = some true := by
  rw [law10_ParseCapacities.l0, if_pos (by decide), if_pos (by decide), if_pos (by decide), if_neg (by decide)]
  have e : rd_T41 capY 0 = ⟨64, ⟨#[114, 117, 110, 103, 10]⟩⟩ := rfl
  rw [e, wk 64 d a0 hd h (by decide) (by decide) (by decide)]
  show law10_ParseCapacities.j1 (m + 9) a0 0 ((63 + d : Nat) : Int) (⟨#[115, 105, 122, 101, 32, 49, 32, 49, 32, 48, 10]⟩ : ByteArray) 1 capY 3 0 64 ⟨#[114, 117, 110, 103, 10]⟩ = some true
  by_cases hk : 64 < 63 + d
  · exact (j1_no (m := m + 8) (k := 63 + d) (L := sizeL ++ 10 :: Lib.repeatL (rungL ++ [10]) (63 + d)) (by omega) (by decide) (by decide) (by omega) rfl (by unfold wrap64; omega) (by unfold wrap64; omega) (cap0_no _ hk (by omega))).trans (L1 (m + 1) a0 d hd h)
  · exact (j1_yes (m := m + 7) (k := 63 + d) (n := 0) (L := sizeL ++ 10 :: Lib.repeatL (rungL ++ [10]) (63 + d)) (by omega) (by decide) (by decide) (by omega) rfl (by unfold wrap64; omega) (cap0_yes _ (by omega) (by omega)) rfl (by decide)).trans (L1 m a0 d hd h)
theorem law10_ParseCapacities.pure : law10_ParseCapacities.Pure := by
  intro a0 h0
  have hw := wf16 h0
  have htm := Int.tmod_eq_emod_of_nonneg (b := 3) hw.1
  obtain ⟨d, hd, h⟩ : ∃ d : Nat, Int.tmod a0 3 = (d : Int) ∧ d < 3 := ⟨(Int.tmod a0 3).toNat, by omega, by omega⟩
  exact ⟨10, L0 0 a0 d hd h⟩
theorem ParseCapacities_walk (a0 : Int) (w : World) (w0 : (Lit.int .u16 a0).wf = true) (hL : Aside0 (LaidW 47 w)) :
    Calls Tryz.prog 5 #[.int .u16 a0] w fun e w' => e = .returned (.bool true) ∧ Below w.heap.size w w' :=
  law10_ParseCapacities.walk law10_ParseCapacities.pure a0 w w0 hL
end Go.Proofs.YtmcmpjkfdkogiaaGreatDoor.P

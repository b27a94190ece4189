/- AddrParseDigits: the plain law, and the call of the law's function. -/
import Derived.Test.YthidobgadndclaaDoorXPA0
import Derived.Test.YthidobgadndclaaDoorPA6
namespace Go.Proofs.YthidobgadndclaaDoor.P
open Go.RowKit Go.Proofs.YthidobgadndclaaDoorW.PrintWords

theorem str_one (c : Int) (u : UInt8) (h : (u.toNat : Int) = c) : strOfNums [c] = ⟨[u].toArray⟩ := by
  unfold strOfNums
  subst h
  simp
theorem digits_len (m : Nat) (h : m < 1000) : (Lib.decDigits m).length ≤ 3 := dec_len m h
theorem parse_of (l : List UInt8) (h : l.length ≤ 1000) : addr_Parse.f ⟨l.toArray⟩ = some (parseAddr l) := by
  unfold addr_Parse.f
  rw [if_pos (by rw [size_mk]; omega)]
theorem letter_space {s : Int} (h0 : 0 ≤ s) (h1 : s ≤ 2) : spaceOf (letterB s) = some s := by
  have hs : s = 0 ∨ s = 1 ∨ s = 2 := by omega
  rcases hs with rfl | rfl | rfl <;> rfl
theorem parse_first (s : Int) (h0 : 0 ≤ s) (h1 : s ≤ 2) (m : Nat) (hm : m < 256) (c : UInt8) :
    (parseAddr (letterB s :: (Lib.decDigits m ++ [c]))).2.2 ≠ 0 ∨
      (48 ≤ c.toNat ∧ c.toNat ≤ 57 ∧ 1 ≤ m ∧ parseAddr (letterB s :: (Lib.decDigits m ++ [c])) = (s, 10 * (m : Int) + c.toNat - 48, 0)) := by
  unfold parseAddr
  simp only [letter_space h0 h1]
  by_cases hn : isNum (Lib.decDigits m ++ [c]) = true
  · rw [if_pos hn]
    by_cases hv : decVal (Lib.decDigits m ++ [c]) < 256
    · rw [if_pos hv]
      right
      have hc : isDig c = true := by
        have h2 : (Lib.decDigits m ++ [c]).all isDig = true := by
          unfold isNum at hn
          simp only [Bool.and_eq_true] at hn
          exact hn.1.2
        rw [List.all_append, Bool.and_eq_true] at h2
        simpa using h2.2
      have hc' : 48 ≤ c.toNat ∧ c.toNat ≤ 57 := of_decide_eq_true hc
      have h1m : 1 ≤ m := by
        rcases Nat.eq_zero_or_pos m with h | h
        · subst h
          rw [decDigits_one 0 (by decide)] at hn
          obtain ⟨_, _, h3⟩ := isNum_cons.mp hn
          rcases h3 with h3 | h3
          · cases h3
          · exact absurd rfl h3
        · exact h
      refine ⟨hc'.1, hc'.2, h1m, ?_⟩
      rw [decVal_snoc, (decDigits_spec m).1]
      congr 1
      congr 1
      omega
    · rw [if_neg hv]
      left
      decide
  · rw [if_neg hn]
    left
    decide
theorem parse_second (m : Nat) (hm : m < 256) (c : UInt8) :
    ((parseAddr (c :: Lib.decDigits m)).2.2 == 0) = (c == 73 || c == 81 || c == 77) := by
  unfold parseAddr spaceOf
  by_cases h1 : c = 73
  · subst h1
    simp only [if_true, isNum_digits, (decDigits_spec m).1, if_pos hm]
    rfl
  · by_cases h2 : c = 81
    · subst h2
      simp only [isNum_digits, (decDigits_spec m).1, if_pos hm]
      rfl
    · by_cases h3 : c = 77
      · subst h3
        simp only [isNum_digits, (decDigits_spec m).1, if_pos hm]
        rfl
      · simp only [if_neg h1, if_neg h2, if_neg h3]
        simp [h1, h2, h3]
theorem AddrParseDigits_pure : law01_AddrParseDigits.Pure := by
  intro x y hx hy
  have hx' := wf_u16 hx
  have hy' := wf_u8 hy
  obtain ⟨c, hc⟩ : ∃ c : UInt8, (c.toNat : Int) = y := ⟨UInt8.ofNat y.toNat, by rw [UInt8.toNat_ofNat']; omega⟩
  refine ⟨6, ?_⟩
  have e1 : wrap64 x = x := wrap_id (by omega) (by omega)
  have e2 : wrap64 y = y := wrap_id (by omega) (by omega)
  unfold law01_AddrParseDigits.f
  simp only [e1, e2]
  rw [Int.tdiv_eq_ediv_of_nonneg hx'.1, Int.tmod_eq_emod_of_nonneg hx'.1]
  have e3 : wrap64 (x / 256) = x / 256 := wrap_id (by omega) (by omega)
  rw [e3, Int.tmod_eq_emod_of_nonneg (by omega)]
  obtain ⟨s, hs⟩ : ∃ s, s = x / 256 % 3 := ⟨_, rfl⟩
  obtain ⟨m, hm⟩ : ∃ m : Nat, (m : Int) = x % 256 := ⟨(x % 256).toNat, by omega⟩
  rw [← hs, ← hm]
  have bs : 0 ≤ s ∧ s ≤ 2 := by omega
  have bm : m < 256 := by omega
  clear hs hm e1 e2 e3 hx hx'
  have f1 : addr_Format.f s m = some ⟨(letterB s :: Lib.decDigits m).toArray⟩ := by unfold addr_Format.f; rw [if_pos ⟨bs.1, bs.2, by omega, by omega⟩, itoa_nat _ (by omega)]; rfl
  have hlen := digits_len m (by omega)
  have hlen1 : 1 ≤ (Lib.decDigits m).length := List.length_pos_iff.mpr (decDigits_ne m)
  rw [f1]
  simp only [Option.bind_some]
  rw [str_one y c hc]
  have happ : (⟨(letterB s :: Lib.decDigits m).toArray⟩ : ByteArray) ++ ⟨[c].toArray⟩ = ⟨(letterB s :: (Lib.decDigits m ++ [c])).toArray⟩ := by apply ByteArray.ext; simp
  rw [happ, size_mk, size_mk, if_pos (by simp; omega), parse_of _ (by simp; omega)]
  simp only [Option.bind_some]
  rw [if_neg (by simp; omega)]
  have hext : (⟨(letterB s :: Lib.decDigits m).toArray⟩ : ByteArray).extract 1 (letterB s :: Lib.decDigits m).length = ⟨(Lib.decDigits m).toArray⟩ := by
    apply ByteArray.ext
    rw [ByteArray.data_extract]
    apply Array.ext'
    simp [List.extract]
  have hj : law01_AddrParseDigits.j0 6 y ⟨(letterB s :: Lib.decDigits m).toArray⟩ false = some true := by
    rw [show (6 : Nat) = 5 + 1 from rfl, law01_AddrParseDigits.j0, if_neg (by simp)]
    simp only [Option.bind_some]
    rw [size_mk, hext, str_one y c hc, size_mk, size_mk, if_pos (by simp; omega), if_pos (by simp; omega)]
    have happ2 : (⟨[c].toArray⟩ : ByteArray) ++ ⟨(Lib.decDigits m).toArray⟩ = ⟨(c :: Lib.decDigits m).toArray⟩ := by apply ByteArray.ext; simp
    rw [happ2, parse_of _ (by simp; omega), alive01]
    simp only [Option.bind_some, if_true]
    rw [parse_second m bm c]
    have hcy : ∀ (k : Nat), k < 256 → ((y = (k : Int)) ↔ c = UInt8.ofNat k) := by
      intro k hk
      rw [← hc, ← UInt8.toNat_inj, UInt8.toNat_ofNat']
      omega
    by_cases h1 : y = 73
    · rw [if_pos h1]
      have := (hcy 73 (by decide)).mp h1
      subst this
      rfl
    · rw [if_neg h1]
      by_cases h2 : y = 81
      · rw [if_pos h2]
        have := (hcy 81 (by decide)).mp h2
        subst this
        rfl
      · rw [if_neg h2]
        have n1 : ¬ c = 73 := fun e => h1 ((hcy 73 (by decide)).mpr e)
        have n2 : ¬ c = 81 := fun e => h2 ((hcy 81 (by decide)).mpr e)
        by_cases h3 : y = 77
        · have := (hcy 77 (by decide)).mp h3
          subst this
          rw [h3]
          rfl
        · have n3 : ¬ c = 77 := fun e => h3 ((hcy 77 (by decide)).mpr e)
          rw [beq_eq_false_iff_ne.mpr n1, beq_eq_false_iff_ne.mpr n2, beq_eq_false_iff_ne.mpr n3, beq_eq_false_iff_ne.mpr h3]
          rfl
  rcases parse_first s bs.1 bs.2 m bm c with he | ⟨h48, h57, h1m, hp⟩
  · rw [if_neg he]
    exact hj
  · rw [hp]
    simp only [if_true]
    rw [if_neg (by omega), if_neg (by omega), if_neg (by simp; omega), wrap_id (x := 10 * (m : Int)) (by omega) (by omega), wrap_id (x := 10 * (m : Int) + y) (by omega) (by omega), wrap_id (x := 10 * (m : Int) + y - 48) (by omega) (by omega), if_pos (by omega), bne_self_eq_false]
    exact hj
theorem AddrParseDigits_walk (a0 a1 : Int) (w : World) (w0 : (Lit.int .u16 a0).wf = true) (w1 : (Lit.int .u8 a1).wf = true) (hL : Aside0 (LaidW 22 w)) :
    Calls Tryd.prog 9 #[.int .u16 a0, .int .u8 a1] w fun e w' => e = .returned (.bool true) ∧ Below w.heap.size w w' :=
  law01_AddrParseDigits.walk AddrParseDigits_pure a0 a1 w w0 w1 hL
end Go.Proofs.YthidobgadndclaaDoor.P

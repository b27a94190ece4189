/- AddrRoundTrip: the plain law, and the call of the law's function. -/
import Derived.Test.YthidobgadndclaaDoorXPA0
import Derived.Test.YthidobgadndclaaDoorXRowA
import Derived.Test.YthidobgadndclaaDoorPA8
namespace Go.Proofs.YthidobgadndclaaDoor.P
open Go.RowKit Go.Proofs.YthidobgadndclaaDoorW.PrintWords

structure SSize where
  (f0 f1 f2 f3 : Int)
def kSize : Kd SSize := Kd.iso (Kd.pair (Kd.int .i64) (Kd.pair (Kd.int .i64) (Kd.pair (Kd.int .i64) (Kd.int .i64)))) (fun x : SSize => (x.f0, x.f1, x.f2, x.f3))
theorem kSize_open {w : World} {x : SSize} {cs : List Value} (h : kSize.K w x cs) : cs = [.int .i64 x.f0, .int .i64 x.f1, .int .i64 x.f2, .int .i64 x.f3] := by
  obtain ⟨_, _, rfl, rfl, _, _, rfl, rfl, _, _, rfl, rfl, rfl⟩ := h
  rfl
theorem opensSize : Opens Tryd.prog 56 kSize (fun y => (Lit.int .i64 y.f0).wf = true ∧ (Lit.int .i64 y.f1).wf = true ∧ (Lit.int .i64 y.f2).wf = true ∧ (Lit.int .i64 y.f3).wf = true) :=
  Opens.struct (P := Tryd.prog) (fun x : Int × Int × Int × Int => (⟨x.1, x.2.1, x.2.2.1, x.2.2.2⟩ : SSize)) (fun _ => rfl) Tryd.underlying56 (by kernel_rfl)
    (OpensF.cons (by kernel_rfl) (Opens.int Tryd.underlying3) (OpensF.cons (by kernel_rfl) (Opens.int Tryd.underlying3) (OpensF.cons (by kernel_rfl) (Opens.int Tryd.underlying3) (OpensF.one (by kernel_rfl) (Opens.int Tryd.underlying3)))))

theorem within_eq (a b : Int) : addr_within.f a b = some (decide (0 ≤ a ∧ a ≤ b)) := by
  unfold addr_within.f
  by_cases h : a ≥ 0
  · rw [if_pos h]; congr 1; rw [decide_eq_decide]; omega
  · rw [if_neg h]; congr 1; symm; rw [decide_eq_false_iff_not]; omega
theorem size_eq (a b c d : Int) : addr_CheckSize.f a b c d = some (if (0 ≤ d ∧ d ≤ 16384) ∧ (0 ≤ a ∧ a ≤ 256) ∧ (0 ≤ b ∧ b ≤ 256) ∧ (0 ≤ c ∧ c ≤ 256) then 0 else 3) := by
  unfold addr_CheckSize.f
  rw [within_eq, within_eq, within_eq, within_eq]
  simp only [Option.bind_some, decide_eq_true_eq]
  by_cases h1 : 0 ≤ d ∧ d ≤ 16384 <;> by_cases h2 : 0 ≤ a ∧ a ≤ 256 <;> by_cases h3 : 0 ≤ b ∧ b ≤ 256 <;> by_cases h4 : 0 ≤ c ∧ c ≤ 256 <;> simp only [h1, h2, h3, h4, and_self, and_true, and_false, if_true, if_false]
theorem width_eq (a b c d s : Int) (h0 : 0 ≤ s) (h1 : s ≤ 2) : addr_Width.f a b c d s = some (if s = 0 then a else if s = 1 then b else c) := by
  unfold addr_Width.f
  have hs : s = 0 ∨ s = 1 ∨ s = 2 := by omega
  rcases hs with rfl | rfl | rfl <;> rfl
theorem check_range (a b c d s n : Int) (hs : (0 ≤ d ∧ d ≤ 16384) ∧ (0 ≤ a ∧ a ≤ 256) ∧ (0 ≤ b ∧ b ≤ 256) ∧ (0 ≤ c ∧ c ≤ 256)) :
    ∃ e, addr_CheckAddr.f a b c d s n = some e ∧ (e = 0 → 0 ≤ s ∧ s ≤ 2 ∧ 0 ≤ n ∧ n ≤ 255) := by
  obtain ⟨_, ha, hb, hc⟩ := hs
  unfold addr_CheckAddr.f
  rw [within_eq]
  simp only [Option.bind_some, decide_eq_true_eq]
  by_cases h : 0 ≤ s ∧ s ≤ 2
  · rw [if_pos h, width_eq a b c d s h.1 h.2]
    simp only [Option.bind_some]
    have hw : ∃ v, (if s = 0 then a else if s = 1 then b else c) = v ∧ 0 ≤ v ∧ v ≤ 256 := ⟨_, rfl, by split; omega; split <;> omega⟩
    obtain ⟨v, hv, v0, v1⟩ := hw
    rw [hv, wrap_id (by omega) (by omega), within_eq]
    simp only [Option.bind_some, decide_eq_true_eq]
    by_cases h2 : 0 ≤ n ∧ n ≤ v - 1
    · exact ⟨0, if_pos h2, fun _ => ⟨h.1, h.2, h2.1, by omega⟩⟩
    · exact ⟨3, if_neg h2, fun e => absurd e (by decide)⟩
  · exact ⟨8, if_neg h, fun e => absurd e (by decide)⟩
theorem letter_space3 {s : Int} (h0 : 0 ≤ s) (h1 : s ≤ 2) : spaceOf (letterB s) = some s := by
  have hs : s = 0 ∨ s = 1 ∨ s = 2 := by omega
  rcases hs with rfl | rfl | rfl <;> rfl
theorem space_letter {c : UInt8} {s : Int} (h : spaceOf c = some s) : 0 ≤ s ∧ s ≤ 2 ∧ letterB s = c := by
  unfold spaceOf at h
  by_cases h1 : c = 73
  · rw [if_pos h1] at h
    obtain rfl := Option.some.inj h
    exact ⟨by decide, by decide, h1.symm⟩
  · rw [if_neg h1] at h
    by_cases h2 : c = 81
    · rw [if_pos h2] at h
      obtain rfl := Option.some.inj h
      exact ⟨by decide, by decide, h2.symm⟩
    · rw [if_neg h2] at h
      by_cases h3 : c = 77
      · rw [if_pos h3] at h
        obtain rfl := Option.some.inj h
        exact ⟨by decide, by decide, h3.symm⟩
      · rw [if_neg h3] at h
        cases h
theorem parse_digits (s : Int) (m : Nat) (h0 : 0 ≤ s) (h1 : s ≤ 2) (hm : m < 256) : parseAddr (letterB s :: Lib.decDigits m) = (s, (m : Int), 0) := by
  unfold parseAddr
  simp only [letter_space3 h0 h1, isNum_digits, (decDigits_spec m).1, if_true, if_pos hm]
theorem parse_cases (l : List UInt8) : (∃ s m, 0 ≤ s ∧ s ≤ 2 ∧ m < 256 ∧ l = letterB s :: Lib.decDigits m) ∨ ∃ e, e ≠ 0 ∧ parseAddr l = (0, 0, e) := by
  cases l with
  | nil => exact .inr ⟨6, by decide, rfl⟩
  | cons c ds =>
    unfold parseAddr
    cases hsp : spaceOf c with
    | none => exact .inr ⟨6, by decide, by simp only [hsp]⟩
    | some s =>
      obtain ⟨h0, h1, hl⟩ := space_letter hsp
      simp only [hsp]
      by_cases hn : isNum ds = true
      · by_cases hv : decVal ds < 256
        · exact .inl ⟨s, decVal ds, h0, h1, hv, by rw [hl, digits_val ds hn]⟩
        · exact .inr ⟨3, by decide, by rw [if_pos hn, if_neg hv]⟩
      · exact .inr ⟨6, by decide, by rw [if_neg hn]⟩
theorem format_digits (s : Int) (m : Nat) (h0 : 0 ≤ s) (h1 : s ≤ 2) (hm : m < 256) : addr_Format.f s m = some ⟨(letterB s :: Lib.decDigits m).toArray⟩ := by
  unfold addr_Format.f; rw [if_pos ⟨h0, h1, by omega, by omega⟩, itoa_nat _ (by omega)]; rfl
theorem round_j1 (k : Nat) (x : ByteArray) (hx : x.size ≤ 1000) : law01_AddrRoundTrip.j1 (k + 1) x = some true := by
  have hp : addr_Parse.f x = some (parseAddr x.data.toList) := by unfold addr_Parse.f; rw [if_pos (by omega)]
  rw [law01_AddrRoundTrip.j1, hp, alive01]
  simp only [Option.bind_some]
  rcases parse_cases x.data.toList with ⟨s, m, h0, h1, hm, hl⟩ | ⟨e, he, hl⟩
  · rw [hl, parse_digits s m h0 h1 hm]
    simp only [if_true, format_digits s m h0 h1 hm, Option.bind_some]
    rw [toList_mk, ByteArray.toList_eq, hl, beq_self_eq_true]
  · rw [hl]
    simp only [if_neg he, if_true]
    rfl
theorem round_j0 (k : Nat) (x : ByteArray) (hx : x.size ≤ 1000) (s n : Int) : ∀ t, addr_Format.f s n = some t → law01_AddrRoundTrip.j0 (k + 2) x t false s n = some true := by
  intro t ht
  rw [law01_AddrRoundTrip.j0, if_neg (by simp)]
  by_cases hr : 0 ≤ s ∧ s ≤ 2 ∧ 0 ≤ n ∧ n ≤ 255
  · obtain ⟨m, rfl⟩ : ∃ m : Nat, n = m := ⟨n.toNat, by omega⟩
    rw [format_digits s m hr.1 hr.2.1 (by omega)] at ht
    obtain rfl := (Option.some.inj ht).symm
    have hlen := dec_len m (by omega)
    have hp : addr_Parse.f ⟨(letterB s :: Lib.decDigits m).toArray⟩ = some (parseAddr (letterB s :: Lib.decDigits m)) := by unfold addr_Parse.f; rw [if_pos (by rw [size_mk, List.length_cons]; omega)]
    rw [toList_mk, if_neg (by simp), hp, parse_digits s m hr.1 hr.2.1 (by omega), round_j1 k x hx]
    simp
  · unfold addr_Format.f at ht
    rw [if_neg hr] at ht
    obtain rfl := (Option.some.inj ht).symm
    rw [if_pos (toList_mk []), round_j1 k x hx]
theorem AddrRoundTrip_pure (a b c d s n : Int) (x : ByteArray) : law01_AddrRoundTrip.f 4 a b c d s n x = some true := by
  unfold law01_AddrRoundTrip.f
  by_cases hx : (x.size : Int) > 1000
  · rw [if_pos hx, alive01]; rfl
  · rw [if_neg hx]
    obtain ⟨t, ht⟩ : ∃ t, addr_Format.f s n = some t := ⟨_, rfl⟩
    have hj := round_j0 2 x (by omega) s n t ht
    rw [ht]
    simp only [Option.bind_some]
    by_cases he : t.toList = []
    · rw [if_pos he, size_eq]
      simp only [Option.bind_some]
      by_cases hs : (0 ≤ d ∧ d ≤ 16384) ∧ (0 ≤ a ∧ a ≤ 256) ∧ (0 ≤ b ∧ b ≤ 256) ∧ (0 ≤ c ∧ c ≤ 256)
      · rw [if_pos hs, if_pos rfl]
        obtain ⟨e, h1, h2⟩ := check_range a b c d s n hs
        rw [h1]
        simp only [Option.bind_some]
        by_cases h0 : e = 0
        · obtain hr := h2 h0
          unfold addr_Format.f at ht
          rw [if_pos hr] at ht
          obtain rfl := (Option.some.inj ht).symm
          rw [toList_mk] at he
          cases he
        · rw [beq_eq_false_iff_ne.mpr h0]
          exact hj
      · rw [if_neg hs, if_neg (by decide)]
        exact hj
    · rw [if_neg he]
      exact hj
theorem AddrRoundTrip_walk (x0 : SSize) (x1 : S45) (a2 : ByteArray) (w : World) (_ : (Lit.int .i64 x0.f0).wf = true ∧ (Lit.int .i64 x0.f1).wf = true ∧ (Lit.int .i64 x0.f2).wf = true ∧ (Lit.int .i64 x0.f3).wf = true) (_ : (Lit.int .i64 x1.f0).wf = true ∧ (Lit.int .i64 x1.f1).wf = true) (_ : a2.size ≤ 140737488351232) (hL : Aside0 (LaidW 22 w)) :
    Calls Tryd.prog 11 #[.agg #[.int .i64 x0.f0, .int .i64 x0.f1, .int .i64 x0.f2, .int .i64 x0.f3], .agg #[.int .i64 x1.f0, .int .i64 x1.f1], .string a2] w fun e w' => e = .returned (.bool true) ∧ Below w.heap.size w w' :=
  law01_AddrRoundTrip.calls 4 x0.f0 x0.f1 x0.f2 x0.f3 x1.f0 x1.f1 a2 true w hL (AddrRoundTrip_pure _ _ _ _ _ _ _)
end Go.Proofs.YthidobgadndclaaDoor.P

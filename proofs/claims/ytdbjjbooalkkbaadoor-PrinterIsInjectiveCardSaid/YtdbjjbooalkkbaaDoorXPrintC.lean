/- printer.Print, as the printed texts ask for it. -/
import Derived.Test.YtdbjjbooalkkbaaDoorXPrintW
import Derived.Test.YtdbjjbooalkkbaaDoorXSpec
namespace Go.Proofs.YtdbjjbooalkkbaaDoor.P
open Go.RowKit Go.Proofs.YtdbjjbooalkkbaaDoorW.PrintWords

theorem scanR_ne {I Q M : Int} {p : Int × Int} (l : List S28) : ∀ a i, scanR I Q M a l i = some p → p.2 ≠ 0 := by
  induction l with
  | nil => intro a i h; cases h
  | cons r t ih =>
    intro a i h
    rw [scanR] at h
    by_cases h1 : rungP I Q M a r = 0
    · rw [if_pos h1] at h; exact ih _ _ h
    · rw [if_neg h1] at h; cases h; exact h1
theorem scanJ_ne {p : Int × Int} (l : List S28) : ∀ i, scanJ l i = some p → p.2 ≠ 0 := by
  induction l with
  | nil => intro i h; cases h
  | cons r t ih =>
    intro i h
    rw [scanJ] at h
    split at h
    · exact ih _ h
    · split at h
      · exact ih _ h
      · cases h; show (15 : Int) ≠ 0; decide
/-- What Check's 0 says. -/
theorem check_ok {I Q M : Int} {l : List S28} (h : (checkP I Q M l).2 = 0) : OkSize I Q M ∧ l.length ≤ 64 ∧ scanR I Q M [] l 0 = none ∧ scanJ l 0 = none ∧ checkP I Q M l = ((l.length : Int), 0) := by
  unfold checkP at h ⊢
  by_cases h1 : OkSize I Q M
  · rw [if_pos h1] at h ⊢
    by_cases h2 : 64 < l.length
    · rw [if_pos h2] at h; exact absurd h (by decide)
    · rw [if_neg h2] at h ⊢
      cases h3 : scanR I Q M [] l 0 with
      | some p => rw [h3] at h; exact absurd h (scanR_ne l _ _ h3)
      | none =>
        rw [h3] at h
        cases h4 : scanJ l 0 with
        | some p => rw [h4] at h; exact absurd h (scanJ_ne l _ h4)
        | none => exact ⟨h1, by omega, rfl, rfl, rfl⟩
  · rw [if_neg h1] at h; exact absurd h (by decide)
theorem scanR_all {I Q M : Int} (l : List S28) : ∀ a i, scanR I Q M a l i = none → ∀ r ∈ l, ∃ b, rungP I Q M b r = 0 := by
  induction l with
  | nil => intro a i _ r hr; cases hr
  | cons x t ih =>
    intro a i h r hr
    rw [scanR] at h
    by_cases h1 : rungP I Q M a x = 0
    · rw [if_pos h1] at h
      rcases List.mem_cons.mp hr with rfl | hr
      · exact ⟨a, h1⟩
      · exact ih _ _ h r hr
    · rw [if_neg h1] at h; cases h
theorem name_len {s : ByteArray} (h : nameB s = true) : s.size ≤ 16 := by
  unfold nameB isName at h
  have hs : s.size = s.data.toList.length := by rw [Array.length_toList]; rfl
  rw [hs]
  cases e : s.data.toList with
  | nil => simp
  | cons c r =>
    rw [e] at h
    simp only [Bool.and_eq_true, decide_eq_true_eq] at h
    rw [List.length_cons]
    omega
theorem nil_len {s : ByteArray} (h : s.toList = ([] : List UInt8)) : s.size = 0 := by
  rw [ByteArray.toList_eq] at h
  have hs : s.size = s.data.toList.length := by rw [Array.length_toList]; rfl
  rw [hs, h]; rfl
structure ConOk (I Q M : Int) (c : S44) : Prop where
  k0 : 0 ≤ c.f0
  k4 : c.f0 < 4
  addr : addrP I Q M c.f1.f0 c.f1.f1 = 0
  src : nameB c.f2 = true
  dst : nameB c.f3 = true
structure CoilOk (I Q M : Int) (c : S47) : Prop where
  k0 : 0 ≤ c.f0
  k4 : c.f0 < 4
  addr : addrP I Q M c.f1.f0 c.f1.f1 = 0
  out : c.f1.f0 ≠ 0
structure RungOk (I Q M : Int) (r : S28) : Prop where
  label : r.f0.toList = ([] : List UInt8) ∨ nameB r.f0 = true
  jump : r.f3.toList = ([] : List UInt8) ∨ nameB r.f3 = true
  cons : r.f1.length ≤ 256
  coils : r.f2.length ≤ 16
  con : ∀ c ∈ r.f1, ConOk I Q M c
  coil : ∀ c ∈ r.f2, CoilOk I Q M c
theorem partP_ok {I Q M k s n : Int} (h : partP I Q M k s n = 0) : 0 ≤ k ∧ k < 4 ∧ addrP I Q M s n = 0 := by
  unfold partP at h
  split at h
  · exact absurd h (by decide)
  · exact ⟨by omega, by omega, h⟩
theorem consP_ok {I Q M : Int} (l : List S44) (h : consP I Q M l = 0) : ∀ c ∈ l, ConOk I Q M c := by
  induction l with
  | nil => intro c hc; cases hc
  | cons x t ih =>
    intro c hc
    rw [consP] at h
    by_cases h1 : partP I Q M x.f0 x.f1.f0 x.f1.f1 = 0
    · rw [if_pos h1] at h
      by_cases h2 : nameB x.f2 = true
      · rw [if_pos h2] at h
        by_cases h3 : nameB x.f3 = true
        · rw [if_pos h3] at h
          rcases List.mem_cons.mp hc with rfl | hc
          · have := partP_ok h1
            exact ⟨this.1, this.2.1, this.2.2, h2, h3⟩
          · exact ih h c hc
        · rw [if_neg h3] at h; exact absurd h (by decide)
      · rw [if_neg h2] at h; exact absurd h (by decide)
    · rw [if_neg h1] at h; exact absurd h h1
theorem coilsP_ok {I Q M : Int} (l : List S47) (h : coilsP I Q M l = 0) : ∀ c ∈ l, CoilOk I Q M c := by
  induction l with
  | nil => intro c hc; cases hc
  | cons x t ih =>
    intro c hc
    rw [coilsP] at h
    by_cases h1 : partP I Q M x.f0 x.f1.f0 x.f1.f1 = 0
    · rw [if_pos h1] at h
      by_cases h2 : x.f1.f0 = 0
      · rw [if_pos h2] at h; exact absurd h (by decide)
      · rw [if_neg h2] at h
        rcases List.mem_cons.mp hc with rfl | hc
        · have := partP_ok h1
          exact ⟨this.1, this.2.1, this.2.2, h2⟩
        · exact ih h c hc
    · rw [if_neg h1] at h; exact absurd h h1
theorem rungP_ok {I Q M : Int} {a : List S28} {r : S28} (h : rungP I Q M a r = 0) : RungOk I Q M r := by
  have hb : bodyP I Q M r = 0 → r.f1.length ≤ 256 ∧ r.f2.length ≤ 16 ∧ consP I Q M r.f1 = 0 ∧ coilsP I Q M r.f2 = 0 ∧ (r.f3.toList = ([] : List UInt8) ∨ nameB r.f3 = true) := by
    intro h
    unfold bodyP restP tailP jumpPr at h
    by_cases h1 : 256 < r.f1.length
    · rw [if_pos h1] at h; exact absurd h (by decide)
    · rw [if_neg h1] at h
      by_cases h2 : consP I Q M r.f1 = 0
      · rw [if_pos h2] at h
        by_cases h3 : 16 < r.f2.length
        · rw [if_pos h3] at h; exact absurd h (by decide)
        · rw [if_neg h3] at h
          by_cases h4 : coilsP I Q M r.f2 = 0
          · rw [if_pos h4] at h
            refine ⟨by omega, by omega, h2, h4, ?_⟩
            by_cases h5 : r.f3.toList = ([] : List UInt8)
            · exact .inl h5
            · rw [if_neg h5] at h
              by_cases h6 : nameB r.f3 = true
              · exact .inr h6
              · rw [if_neg h6] at h; exact absurd h (by decide)
          · rw [if_neg h4] at h; exact absurd h h4
      · rw [if_neg h2] at h; exact absurd h h2
  unfold rungP at h
  by_cases h0 : r.f0.toList = ([] : List UInt8)
  · rw [if_pos h0] at h
    obtain ⟨h1, h2, h3, h4, h5⟩ := hb h
    exact ⟨.inl h0, h5, h1, h2, consP_ok _ h3, coilsP_ok _ h4⟩
  · rw [if_neg h0] at h
    by_cases h6 : nameB r.f0 = true
    · rw [if_pos h6] at h
      by_cases h7 : hasLabel a r.f0 = true
      · rw [if_pos h7] at h; exact absurd h (by decide)
      · rw [if_neg h7] at h
        obtain ⟨h1, h2, h3, h4, h5⟩ := hb h
        exact ⟨.inr h6, h5, h1, h2, consP_ok _ h3, coilsP_ok _ h4⟩
    · rw [if_neg h6] at h; exact absurd h (by decide)
theorem check_rungs {I Q M : Int} {l : List S28} (h : (checkP I Q M l).2 = 0) : ∀ r ∈ l, RungOk I Q M r := fun r hr => by
  obtain ⟨b, hb⟩ := scanR_all l _ _ (check_ok h).2.2.1 r hr
  exact rungP_ok hb
theorem small_of {s : ByteArray} (h : s.toList = ([] : List UInt8) ∨ nameB s = true) : s.size ≤ 16 := by
  rcases h with h | h
  · rw [nil_len h]; omega
  · exact name_len h
theorem tame_of {I Q M : Int} {l : List S28} (h : (checkP I Q M l).2 = 0) : Tame I Q M l := by
  obtain ⟨h1, h2, _⟩ := check_ok h
  have hr := check_rungs h
  exact ⟨h1.1, h1.2.1, h1.2.2, h2, fun r hm => small_of (hr r hm).label, fun r hm => small_of (hr r hm).jump, fun r hm => (hr r hm).cons, fun r hm => (hr r hm).coils,
    fun r hm c hc => ⟨((hr r hm).con c hc).k0, ((hr r hm).con c hc).k4, name_len ((hr r hm).con c hc).src, name_len ((hr r hm).con c hc).dst⟩, fun r hm c hc => ⟨((hr r hm).coil c hc).k0, ((hr r hm).coil c hc).k4⟩⟩
def printP (I Q M : Int) (l : List S28) : ByteArray × Int := if (checkP I Q M l).2 = 0 then printRes I Q M l else (⟨#[]⟩, (checkP I Q M l).2)
def printer_Print.f (I Q M : Int) (l : List S28) : Option (ByteArray × Int) := some (printP I Q M l)
theorem printer_Print.calls (a0_0 : Int) (a0_1 : Int) (a0_2 : Int) (A0_3 : Option Addr) (c0_3 : Nat) (l0_3 : List S28) (r1 : ByteArray) (r2 : Int) (w : World) (hr0_3 : Kd.C k28 w A0_3 l0_3.length l0_3) (hc0_3 : l0_3.length ≤ c0_3) (hL : Aside0 (LaidW 50 w)) (h : printer_Print.f a0_0 a0_1 a0_2 l0_3 = some (r1, r2)) :
    Calls Tryd.prog 6 #[.agg #[.int .i64 a0_0, .int .i64 a0_1, .int .i64 a0_2, .slice A0_3 l0_3.length c0_3]] w fun e w' => e = .returned (.tuple #[.string r1, .int .i64 r2]) ∧ Below w.heap.size w w' := by
  have h := Option.some.inj h
  unfold printP at h
  have hc := check_eq a0_0 a0_1 a0_2 l0_3
  by_cases h0 : (checkP a0_0 a0_1 a0_2 l0_3).2 = 0
  · rw [if_pos h0] at h
    rw [show checkP a0_0 a0_1 a0_2 l0_3 = ((checkP a0_0 a0_1 a0_2 l0_3).1, 0) from Prod.ext rfl h0] at hc
    have := print_ok 1000 a0_0 a0_1 a0_2 A0_3 c0_3 l0_3 _ w hr0_3 hc0_3 hc (tame_of h0) hL
    rwa [h] at this
  · rw [if_neg h0] at h
    cases h
    exact print_bad 1000 a0_0 a0_1 a0_2 A0_3 c0_3 l0_3 _ _ w hr0_3 hc0_3 hc h0
end Go.Proofs.YtdbjjbooalkkbaaDoor.P

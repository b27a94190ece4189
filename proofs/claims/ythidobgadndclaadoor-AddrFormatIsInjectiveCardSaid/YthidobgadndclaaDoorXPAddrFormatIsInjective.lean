/- AddrFormatIsInjective: the plain law, and the call of the law's function. -/
import Derived.Test.YthidobgadndclaaDoorXPA0
import Derived.Test.YthidobgadndclaaDoorPA12
namespace Go.Proofs.YthidobgadndclaaDoor.P
open Go.RowKit Go.Proofs.YthidobgadndclaaDoorW.PrintWords

theorem AddrFormatIsInjective_pure : law01_AddrFormatIsInjective.Pure := by
  intro x y hx hy
  have hx' : 0 ≤ x ∧ x ≤ 65535 := wf_u16 hx
  have hy' : 0 ≤ y ∧ y ≤ 65535 := wf_u16 hy
  refine ⟨6, ?_⟩
  have e1 : wrap64 x = x := wrap_id (by omega) (by omega)
  have e2 : wrap64 y = y := wrap_id (by omega) (by omega)
  unfold law01_AddrFormatIsInjective.f
  simp only [e1, e2]
  rw [Int.tdiv_eq_ediv_of_nonneg hx'.1, Int.tdiv_eq_ediv_of_nonneg hy'.1, Int.tmod_eq_emod_of_nonneg hx'.1, Int.tmod_eq_emod_of_nonneg hy'.1]
  have e3 : wrap64 (x / 256) = x / 256 := wrap_id (by omega) (by omega)
  have e4 : wrap64 (y / 256) = y / 256 := wrap_id (by omega) (by omega)
  rw [e3, e4, Int.tmod_eq_emod_of_nonneg (by omega), Int.tmod_eq_emod_of_nonneg (by omega)]
  obtain ⟨s, hs⟩ : ∃ s, s = x / 256 % 3 := ⟨_, rfl⟩
  obtain ⟨t, ht⟩ : ∃ t, t = y / 256 % 3 := ⟨_, rfl⟩
  obtain ⟨m, hm⟩ : ∃ m, m = x % 256 := ⟨_, rfl⟩
  obtain ⟨n, hn⟩ : ∃ n, n = y % 256 := ⟨_, rfl⟩
  rw [← hs, ← ht, ← hm, ← hn]
  have bs : 0 ≤ s ∧ s ≤ 2 := by omega
  have bt : 0 ≤ t ∧ t ≤ 2 := by omega
  have bm : 0 ≤ m ∧ m ≤ 255 := by omega
  have bn : 0 ≤ n ∧ n ≤ 255 := by omega
  clear hs ht hm hn e1 e2 e3 e4 hx hy hx' hy'
  have f1 : addr_Format.f s m = some ⟨(letterB s :: Lib.itoa m).toArray⟩ := by unfold addr_Format.f; rw [if_pos ⟨bs.1, bs.2, bm.1, bm.2⟩]
  have f2 : addr_Format.f t n = some ⟨(letterB t :: Lib.itoa n).toArray⟩ := by unfold addr_Format.f; rw [if_pos ⟨bt.1, bt.2, bn.1, bn.2⟩]
  rw [f1, f2]
  simp only [Option.bind_some]
  rw [toList_mk, toList_mk, if_neg (by simp), if_neg (by simp)]
  have he : (letterB s :: Lib.itoa m == letterB t :: Lib.itoa n) = (s == t && (m == n)) := by
    rw [Bool.eq_iff_iff]
    simp only [beq_iff_eq, Bool.and_eq_true, List.cons.injEq]
    constructor
    · rintro ⟨h1, h2⟩
      exact ⟨letter_inj bs.1 bs.2 bt.1 bt.2 h1, itoa_inj bm.1 bn.1 h2⟩
    · rintro ⟨rfl, rfl⟩
      exact ⟨rfl, rfl⟩
  rw [he]
  rw [show (6 : Nat) = 5 + 1 from rfl, law01_AddrFormatIsInjective.j0, if_neg (by simp), alive01]
  simp only [Option.bind_some, if_true]
  rw [show (5 : Nat) = 2 + 3 from rfl, addr_cmp 2]
  simp only [Option.bind_some]
  rw [wrap_id (x := s * 256) (by omega) (by omega), wrap_id (x := t * 256) (by omega) (by omega), wrap_id (x := s * 256 + m) (by omega) (by omega), wrap_id (x := t * 256 + n) (by omega) (by omega)]
  have c1 : (decide ((if cmpI s t = 0 then cmpI m n else cmpI s t) < 0) == decide (s * 256 + m < t * 256 + n)) = true := by
    rw [beq_iff_eq, decide_eq_decide]
    unfold cmpI
    repeat' split
    all_goals omega
  have c2 : (decide ((if cmpI s t = 0 then cmpI m n else cmpI s t) > 0) == decide (s * 256 + m > t * 256 + n)) = true := by
    rw [beq_iff_eq, decide_eq_decide]
    unfold cmpI
    repeat' split
    all_goals omega
  rw [if_pos c1, c2]

theorem AddrFormatIsInjective_walk (a0 a1 : Int) (w : World) (w0 : (Lit.int .u16 a0).wf = true) (w1 : (Lit.int .u16 a1).wf = true) (hL : Aside0 (LaidW 22 w)) :
    Calls Tryd.prog 13 #[.int .u16 a0, .int .u16 a1] w fun e w' => e = .returned (.bool true) ∧ Below w.heap.size w w' :=
  law01_AddrFormatIsInjective.walk AddrFormatIsInjective_pure a0 a1 w w0 w1 hL
end Go.Proofs.YthidobgadndclaaDoor.P

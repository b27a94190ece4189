/- AddrCompareIsTotalOrder: the plain law, and the call of the law's function. -/
import Derived.Test.YthidobgadndclaaDoorXPA0
import Derived.Test.YthidobgadndclaaDoorXRowA
import Derived.Test.YthidobgadndclaaDoorPA11
import Derived.Test.YthidobgadndclaaDoorPA10
namespace Go.Proofs.YthidobgadndclaaDoor.P
open Go.RowKit Go.Proofs.YthidobgadndclaaDoorW.PrintWords

def lexI (a b c d : Int) : Int := if cmpI a c = 0 then cmpI b d else cmpI a c
theorem lexI_cases (a b c d : Int) : (lexI a b c d = -1 ∧ (a < c ∨ a = c ∧ b < d)) ∨ (lexI a b c d = 0 ∧ a = c ∧ b = d) ∨ (lexI a b c d = 1 ∧ (c < a ∨ a = c ∧ d < b)) := by
  unfold lexI cmpI
  repeat' split
  all_goals omega
theorem ref_compare (a b c d : Int) : ref01_Compare.f 6 a b c d = some (lexI a b c d) := by
  have h1 : ∀ v : Bool, v = true → ref01_Compare.j0 6 v a b c d = some (-1) := by
    intro v hv
    subst hv
    rw [ref01_Compare.j0]
    simp
  have h2 : ∀ v : Bool, v = false → ref01_Compare.j0 6 v a b c d = some (if a = c ∧ b = d then 0 else 1) := by
    intro v hv
    subst hv
    rw [ref01_Compare.j0]
    by_cases e1 : a = c <;> by_cases e2 : b = d <;> simp [e1, e2]
  unfold ref01_Compare.f
  rcases lexI_cases a b c d with ⟨h, h3 | h3⟩ | ⟨h, h3⟩ | ⟨h, h3⟩
  · rw [h, if_pos h3, h1 _ rfl]
  · rw [h, if_neg (by omega), if_pos h3.1, h1 _ (decide_eq_true h3.2)]
  · rw [h, if_neg (by omega), if_pos h3.1, h2 _ (decide_eq_false (by omega)), if_pos h3]
  · rw [h, if_neg (by omega)]
    by_cases e : a = c
    · rw [if_pos e, h2 _ (decide_eq_false (by omega)), if_neg (by omega)]
    · rw [if_neg e, h2 _ rfl, if_neg (by omega)]
theorem AddrCompareIsTotalOrder_pure (a b c d e f : Int) : law01_AddrCompareIsTotalOrder.f 6 a b c d e f = some true := by
  unfold law01_AddrCompareIsTotalOrder.f
  rw [show (6 : Nat) = 3 + 3 from rfl, addr_cmp, addr_cmp, addr_cmp, addr_cmp, show (3 : Nat) + 3 = 6 from rfl, ref_compare, alive01]
  have l1 := lexI_cases a b c d
  have l2 := lexI_cases c d e f
  have l3 := lexI_cases a b e f
  have l4 := lexI_cases c d a b
  have hxe : (a == c && b == d) = decide (a = c ∧ b = d) := by by_cases e1 : a = c <;> by_cases e2 : b = d <;> simp [e1, e2]
  rw [hxe]
  simp only [Option.bind_some]
  rw [show (if cmpI a c = 0 then cmpI b d else cmpI a c) = lexI a b c d from rfl, show (if cmpI c e = 0 then cmpI d f else cmpI c e) = lexI c d e f from rfl, show (if cmpI a e = 0 then cmpI b f else cmpI a e) = lexI a b e f from rfl, show (if cmpI c a = 0 then cmpI d b else cmpI c a) = lexI c d a b from rfl]
  generalize lexI a b c d = x at *
  generalize lexI c d e f = y at *
  generalize lexI a b e f = z at *
  generalize lexI c d a b = u at *
  have hu : wrap64 (-u) = -u := wrap_id (by omega) (by omega)
  have hxz : ((x == 0) != decide (a = c ∧ b = d)) = false := by
    rw [bne_eq_false_iff_eq, Bool.eq_iff_iff, beq_iff_eq, decide_eq_true_eq]
    omega
  rw [hu, hxz, if_pos (by omega), if_neg (by omega), if_neg (by omega), if_neg (by simp), if_pos rfl, if_pos trivial]
  by_cases h1 : x > 0
  · rw [if_pos h1]
  · rw [if_neg h1]
    by_cases h2 : y > 0
    · rw [if_pos h2]
    · rw [if_neg h2, if_pos (by omega)]
      by_cases h3 : x = 0
      · rw [if_pos h3]
        congr 1
        rw [beq_iff_eq, Bool.eq_iff_iff, beq_iff_eq, beq_iff_eq]
        omega
      · rw [if_neg h3]
        congr 1
        rw [beq_iff_eq, beq_eq_false_iff_ne]
        omega
theorem AddrCompareIsTotalOrder_walk (x0 x1 x2 : S45) (w : World) (_ : (Lit.int .i64 x0.f0).wf = true ∧ (Lit.int .i64 x0.f1).wf = true) (_ : (Lit.int .i64 x1.f0).wf = true ∧ (Lit.int .i64 x1.f1).wf = true) (_ : (Lit.int .i64 x2.f0).wf = true ∧ (Lit.int .i64 x2.f1).wf = true) (hL : Aside0 (LaidW 22 w)) :
    Calls Tryd.prog 12 #[.agg #[.int .i64 x0.f0, .int .i64 x0.f1], .agg #[.int .i64 x1.f0, .int .i64 x1.f1], .agg #[.int .i64 x2.f0, .int .i64 x2.f1]] w fun e w' => e = .returned (.bool true) ∧ Below w.heap.size w w' :=
  law01_AddrCompareIsTotalOrder.calls 6 x0.f0 x0.f1 x1.f0 x1.f1 x2.f0 x2.f1 true w hL (AddrCompareIsTotalOrder_pure _ _ _ _ _ _)
end Go.Proofs.YthidobgadndclaaDoor.P

/- With rounds enough; law11's TooLarge. -/
import Derived.Test.YtdbjjbooalkkbaaDoorXSpec
import Derived.Test.YtdbjjbooalkkbaaDoorXEvn0
import Derived.Test.YtdbjjbooalkkbaaDoorPQ4
namespace Go.Proofs.YtdbjjbooalkkbaaDoor.P
open Go.RowKit Go.Proofs.YtdbjjbooalkkbaaDoorW.PrintWords

/-! ### too large? -/
theorem large_l1 (rs : List S28) (ns i I Q M : Int) (l : List S28) (cs : List S44) (hc : cs.length ≤ 9223372036854775807) (hnext : ∀ n, ∃ t, Evn (fun k => law11_TooLarge.l0 k n rs ns (wrap64 (i + 1)) I Q M l) t) (d : Nat) : ∀ (j : Nat) (n : Int), j + d = cs.length →
    ∃ t, Evn (fun k => law11_TooLarge.l1 k n rs ns i cs (cs.length : Int) (j : Int) I Q M l) t := by
  induction d with
  | zero =>
    intro j n hj
    obtain ⟨t, ht⟩ := hnext n
    exact ⟨t, ht.step (fun k => by rw [law11_TooLarge.l1, if_neg (by omega)])⟩
  | succ d ih =>
    intro j n hj
    obtain ⟨t, ht⟩ := ih (j + 1) (wrap64 (n + (wrap64 ((((rd_T44 cs (j : Int)).f2).size : Int) + (((rd_T44 cs (j : Int)).f3).size : Int))))) (by omega)
    exact ⟨t, ht.step (fun k => by rw [law11_TooLarge.l1, if_pos (by omega), if_pos (by omega), if_pos (by omega), wrap_nat (by omega)])⟩
theorem large_l0 (I Q M : Int) (l : List S28) (hl : l.length ≤ 9223372036854775807) (hc : ∀ r ∈ l, r.f1.length ≤ 9223372036854775807) (d : Nat) : ∀ (i : Nat) (n : Int), i + d = l.length →
    ∃ t, Evn (fun k => law11_TooLarge.l0 k n l (l.length : Int) (i : Int) I Q M l) t := by
  induction d with
  | zero =>
    intro i n hi
    by_cases h : (l.length : Int) > 70
    · exact ⟨1, (Evn.const 1).step (fun k => by rw [law11_TooLarge.l0, if_neg (by omega), if_pos h])⟩
    · by_cases h2 : n > 20000
      · exact ⟨1, (Evn.const 1).step (fun k => by rw [law11_TooLarge.l0, if_neg (by omega), if_neg h, if_pos h2])⟩
      · exact ⟨0, (Evn.const 0).step (fun k => by rw [law11_TooLarge.l0, if_neg (by omega), if_neg h, if_neg h2])⟩
  | succ d ih =>
    intro i n hi
    obtain ⟨x, hx⟩ : ∃ x, l[i]? = some x := ⟨_, List.getElem?_eq_getElem (by omega)⟩
    have hw : wrap64 ((i : Int) + 1) = ((i + 1 : Nat) : Int) := wrap_nat (by omega)
    obtain ⟨t, ht⟩ := large_l1 l (l.length : Int) (i : Int) I Q M l x.f1 (hc x (List.mem_of_getElem? hx)) (fun n => by rw [hw]; exact ih (i + 1) n (by omega)) x.f1.length 0
      (wrap64 (n + (wrap64 ((wrap64 ((wrap64 (((x.f1).length : Int) + ((x.f2).length : Int))) + ((x.f0).size : Int))) + ((x.f3).size : Int))))) (by omega)
    exact ⟨t, ht.step (fun k => by rw [law11_TooLarge.l0, if_pos (by omega), if_pos (by omega), if_pos (by omega), rd40_at l i x hx]; rfl)⟩
theorem large_some (I Q M : Int) (l : List S28) (hl : l.length ≤ 9223372036854775807) (hc : ∀ r ∈ l, r.f1.length ≤ 9223372036854775807) : ∃ k t, law11_TooLarge.f k I Q M l = some t := by
  obtain ⟨t, K, h⟩ := large_l0 I Q M l hl hc l.length 0 0 (by omega)
  exact ⟨K, t, h K (Nat.le_refl _)⟩
end Go.Proofs.YtdbjjbooalkkbaaDoor.P

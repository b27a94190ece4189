/- EdgeCount, plainly. -/
import Derived.Test.YtdbjjbooalkkbaaDoorXEvn
import Derived.Test.YtdbjjbooalkkbaaDoorPQ7
namespace Go.Proofs.YtdbjjbooalkkbaaDoor.P
open Go.RowKit Go.Proofs.YtdbjjbooalkkbaaDoorW.PrintWords

def edgeC (n : Int) : List S44 → Int
  | [] => n
  | c :: r => edgeC (if c.f0 = 2 ∨ c.f0 = 3 then wrap64 (n + 1) else n) r
def edgeR (n : Int) : List S28 → Int
  | [] => n
  | r :: t => edgeR (edgeC n r.f1) t
theorem edge_l1 (rs : List S28) (len i : Int) (cs : List S44) (hc : cs.length ≤ 9223372036854775807) (v : Int) (d : Nat) : ∀ (j : Nat) (n : Int), j + d = cs.length → Evn (fun k => printer_EdgeCount.l0 k (edgeC n (cs.drop j)) rs len (wrap64 (i + 1))) v →
    Evn (fun k => printer_EdgeCount.l1 k n rs len i cs (cs.length : Int) (j : Int)) v := by
  induction d with
  | zero =>
    intro j n hj h
    rw [List.drop_eq_nil_of_le (by omega)] at h
    exact h.step (fun k => by rw [printer_EdgeCount.l1, if_neg (by omega)]; rfl)
  | succ d ih =>
    intro j n hj h
    obtain ⟨x, hx⟩ : ∃ x, cs[j]? = some x := ⟨_, List.getElem?_eq_getElem (by omega)⟩
    rw [drop_at cs j x hx, edgeC] at h
    refine (ih (j + 1) _ (by omega) h).step (fun k => ?_)
    rw [printer_EdgeCount.l1, if_pos (by omega), if_pos (by omega), if_pos (by omega), rd50_at cs j x hx, wrap_nat (by omega)]
    by_cases h2 : x.f0 = 2
    · rw [if_pos h2, if_pos (show x.f0 = 2 ∨ x.f0 = 3 from .inl h2)]
    · rw [if_neg h2]
      by_cases h3 : x.f0 = 3
      · rw [if_pos h3, if_pos (show x.f0 = 2 ∨ x.f0 = 3 from .inr h3)]
      · rw [if_neg h3, if_neg (show ¬ (x.f0 = 2 ∨ x.f0 = 3) from fun h => h.elim h2 h3)]
theorem edge_l0 (l : List S28) (hl : l.length ≤ 9223372036854775807) (hc : ∀ r ∈ l, r.f1.length ≤ 9223372036854775807) (d : Nat) : ∀ (i : Nat) (n : Int), i + d = l.length →
    Evn (fun k => printer_EdgeCount.l0 k n l (l.length : Int) (i : Int)) (edgeR n (l.drop i)) := by
  induction d with
  | zero =>
    intro i n hi
    rw [List.drop_eq_nil_of_le (by omega)]
    exact (Evn.const n).step (fun k => by rw [printer_EdgeCount.l0, if_neg (by omega)])
  | succ d ih =>
    intro i n hi
    obtain ⟨x, hx⟩ : ∃ x, l[i]? = some x := ⟨_, List.getElem?_eq_getElem (by omega)⟩
    rw [drop_at l i x hx, edgeR]
    refine (edge_l1 l (l.length : Int) (i : Int) x.f1 (hc x (List.mem_of_getElem? hx)) _ x.f1.length 0 n (by omega) ((ih (i + 1) (edgeC n x.f1) (by omega)).same (fun k => by rw [wrap_nat (by omega)]; rfl))).step (fun k => ?_)
    rw [printer_EdgeCount.l0, if_pos (by omega), if_pos (by omega), if_pos (by omega), rd40_at l i x hx]
    rfl
theorem edge_eq (I Q M : Int) (l : List S28) (hl : l.length ≤ 9223372036854775807) (hc : ∀ r ∈ l, r.f1.length ≤ 9223372036854775807) : Evn (fun k => printer_EdgeCount.f k I Q M l) (edgeR 0 l) := edge_l0 l hl hc l.length 0 0 (by omega)
end Go.Proofs.YtdbjjbooalkkbaaDoor.P

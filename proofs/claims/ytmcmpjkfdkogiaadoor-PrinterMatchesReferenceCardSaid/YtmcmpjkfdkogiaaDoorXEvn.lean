/- With rounds enough; law11's TooLarge. -/
import Derived.Test.YtmcmpjkfdkogiaaDoorXSpec
import Derived.Test.YtmcmpjkfdkogiaaDoorPQ4
namespace Go.Proofs.YtmcmpjkfdkogiaaDoor.P
open Go.RowKit Go.Proofs.YtmcmpjkfdkogiaaDoorW.PrintWords

/-- With rounds enough the answer is v. -/
def Evn {α : Type} (f : Nat → Option α) (v : α) : Prop := ∃ K, ∀ k, K ≤ k → f k = some v
theorem Evn.const {α : Type} (v : α) : Evn (fun _ => some v) v := ⟨0, fun _ _ => rfl⟩
theorem Evn.step {α : Type} {f g : Nat → Option α} {v : α} (h : Evn g v) (hs : ∀ k, f (k + 1) = g k) : Evn f v := by
  obtain ⟨K, h⟩ := h
  refine ⟨K + 1, fun k hk => ?_⟩
  obtain ⟨k, rfl⟩ : ∃ m, k = m + 1 := ⟨k - 1, by omega⟩
  rw [hs]
  exact h k (by omega)
theorem Evn.same {α : Type} {f g : Nat → Option α} {v : α} (h : Evn g v) (hs : ∀ k, f k = g k) : Evn f v := by
  obtain ⟨K, h⟩ := h
  exact ⟨K, fun k hk => (hs k).trans (h k hk)⟩
theorem Evn.bind {α β : Type} {f : Nat → Option α} {v : α} {g : Nat → α → Option β} {u : β} (h : Evn f v) (hg : Evn (fun k => g k v) u) : Evn (fun k => (f k).bind (g k)) u := by
  obtain ⟨K, h⟩ := h
  obtain ⟨L, hg⟩ := hg
  exact ⟨K + L, fun k hk => by show (f k).bind (g k) = some u; rw [h k (by omega), Option.bind_some]; exact hg k (by omega)⟩
theorem Evn.at2 {α β : Type} {f : Nat → Option α} {g : Nat → Option β} {u : α} {v : β} (h : Evn f u) (hg : Evn g v) : ∃ k, f k = some u ∧ g k = some v := by
  obtain ⟨K, h⟩ := h
  obtain ⟨L, hg⟩ := hg
  exact ⟨K + L, h _ (by omega), hg _ (by omega)⟩
theorem Evn.one {α : Type} {f : Nat → Option α} {u : α} (h : Evn f u) : ∃ k, f k = some u := by
  obtain ⟨K, h⟩ := h
  exact ⟨K, h _ (Nat.le_refl _)⟩

/-! ### too large? -/
theorem large_l1 (rs : List S40) (ns i I Q M : Int) (l : List S40) (cs : List S50) (hc : cs.length ≤ 9223372036854775807) (hnext : ∀ n, ∃ t, Evn (fun k => law11_TooLarge.l0 k n rs ns (wrap64 (i + 1)) I Q M l) t) (d : Nat) : ∀ (j : Nat) (n : Int), j + d = cs.length →
    ∃ t, Evn (fun k => law11_TooLarge.l1 k n rs ns i cs (cs.length : Int) (j : Int) I Q M l) t := by
  induction d with
  | zero =>
    intro j n hj
    obtain ⟨t, ht⟩ := hnext n
    exact ⟨t, ht.step (fun k => by rw [law11_TooLarge.l1, if_neg (by omega)])⟩
  | succ d ih =>
    intro j n hj
    obtain ⟨t, ht⟩ := ih (j + 1) (wrap64 (n + (wrap64 ((((rd_T50 cs (j : Int)).f2).size : Int) + (((rd_T50 cs (j : Int)).f3).size : Int))))) (by omega)
    exact ⟨t, ht.step (fun k => by rw [law11_TooLarge.l1, if_pos (by omega), if_pos (by omega), if_pos (by omega), wrap_nat (by omega)])⟩
theorem large_l0 (I Q M : Int) (l : List S40) (hl : l.length ≤ 9223372036854775807) (hc : ∀ r ∈ l, r.f1.length ≤ 9223372036854775807) (d : Nat) : ∀ (i : Nat) (n : Int), i + d = l.length →
    ∃ t, Evn (fun k => law11_TooLarge.l0 k n l (l.length : Int) (i : Int) I Q M l) t := by
  induction d with
  | zero =>
    intro i n hi
    by_cases h : (l.length : Int) > 70
    · exact ⟨1, (Evn.const 1).step (fun k => by rw [law11_TooLarge.l0, if_neg (by omega), if_pos h])⟩
    · by_cases h2 : n > 20000
      · exact ⟨1, (Evn.const 1).step (fun k => by rw [law11_TooLarge.l0, if_neg (by omega), if_neg h, if_pos h2])⟩
      · exact ⟨0, (Evn.const 0).step (fun k => by rw [law11_TooLarge.l0, if_neg (by omega), if_neg h, if_neg h2])⟩
  | succ d ih =>
    intro i n hi
    obtain ⟨x, hx⟩ : ∃ x, l[i]? = some x := ⟨_, List.getElem?_eq_getElem (by omega)⟩
    have hw : wrap64 ((i : Int) + 1) = ((i + 1 : Nat) : Int) := wrap_nat (by omega)
    obtain ⟨t, ht⟩ := large_l1 l (l.length : Int) (i : Int) I Q M l x.f1 (hc x (List.mem_of_getElem? hx)) (fun n => by rw [hw]; exact ih (i + 1) n (by omega)) x.f1.length 0
      (wrap64 (n + (wrap64 ((wrap64 ((wrap64 (((x.f1).length : Int) + ((x.f2).length : Int))) + ((x.f0).size : Int))) + ((x.f3).size : Int))))) (by omega)
    exact ⟨t, ht.step (fun k => by rw [law11_TooLarge.l0, if_pos (by omega), if_pos (by omega), if_pos (by omega), rd40_at l i x hx]; rfl)⟩
theorem large_some (I Q M : Int) (l : List S40) (hl : l.length ≤ 9223372036854775807) (hc : ∀ r ∈ l, r.f1.length ≤ 9223372036854775807) : ∃ k t, law11_TooLarge.f k I Q M l = some t := by
  obtain ⟨t, K, h⟩ := large_l0 I Q M l hl hc l.length 0 0 (by omega)
  exact ⟨K, t, h K (Nat.le_refl _)⟩
end Go.Proofs.YtmcmpjkfdkogiaaDoor.P

/- The reference's Check, plainly: it computes what printer.Check computes. -/
import Derived.Test.YtmcmpjkfdkogiaaDoorXRefN
import Derived.Test.YtmcmpjkfdkogiaaDoorXSpec
import Derived.Test.YtmcmpjkfdkogiaaDoorPQ12
namespace Go.Proofs.YtmcmpjkfdkogiaaDoor.P
open Go.RowKit Go.Proofs.YtmcmpjkfdkogiaaDoorW.PrintWords

theorem ref_addr (I Q M s n : Int) (k : Nat) (hk : 1 ≤ k) : ref01_CheckAddr.f k I Q M 0 s n = some (addrP I Q M s n) := by
  obtain ⟨k, rfl⟩ : ∃ m, k = m + 1 := ⟨k - 1, by omega⟩
  have hw : ref01_Width.f I Q M 0 s = some (widthP I Q M s) := by
    unfold ref01_Width.f widthP
    repeat' split
    all_goals rfl
  unfold ref01_CheckAddr.f addrP
  simp only [ref01_CheckAddr.j0, hw, Option.bind_some]
  by_cases h1 : s < 0
  · rw [if_pos h1, if_pos trivial, if_neg (by omega)]
  · rw [if_neg h1]
    by_cases h2 : s > 2
    · rw [if_pos (decide_eq_true h2), if_neg (by omega)]
    · have hs : 0 ≤ s ∧ s ≤ 2 := ⟨by omega, by omega⟩
      rw [if_neg (by rw [decide_eq_true_eq]; exact h2), if_pos hs]
      by_cases h3 : n < 0
      · rw [if_pos h3, if_neg (fun h => by omega)]
      · rw [if_neg h3]
        by_cases h4 : n ≥ widthP I Q M s
        · rw [if_pos h4, if_neg (fun h => by omega)]
        · have h5 : 0 ≤ n ∧ n < widthP I Q M s := ⟨by omega, by omega⟩
          rw [if_neg h4, if_pos h5]
theorem ref_cons (I Q M : Int) (a : ByteArray) (cs : List S50) (qs : List S53) (j : ByteArray) (hc : cs.length ≤ 256) (d : Nat) : ∀ k i : Nat, i + d = cs.length → 2 * d + 25 ≤ k →
    ref11_contacts.l0 k (i : Int) I Q M 0 a cs qs j = some (consP I Q M (cs.drop i)) := by
  induction d with
  | zero =>
    intro k i hi hk
    obtain ⟨k, rfl⟩ : ∃ m, k = m + 1 := ⟨k - 1, by omega⟩
    rw [ref11_contacts.l0, if_neg (by omega), List.drop_eq_nil_of_le (by omega)]
    rfl
  | succ d ih =>
    intro k i hi hk
    obtain ⟨k, rfl⟩ : ∃ m, k = m + 2 := ⟨k - 2, by omega⟩
    obtain ⟨x, hx⟩ : ∃ x, cs[i]? = some x := ⟨_, List.getElem?_eq_getElem (by omega)⟩
    have hj : ∀ b : Bool, ref11_contacts.j1 (k + 1) (i : Int) b I Q M 0 a cs qs j x.f0 x.f1.f0 x.f1.f1 x.f2 x.f3 = some (if b = true then 8 else if addrP I Q M x.f1.f0 x.f1.f1 = 0 then (if nameB x.f2 = true then (if nameB x.f3 = true then consP I Q M (cs.drop (i + 1)) else 6) else 6) else addrP I Q M x.f1.f0 x.f1.f1) := by
      intro b
      rw [ref11_contacts.j1]
      by_cases hb : b = true
      · rw [if_pos hb, if_pos hb]
      · rw [if_neg hb, if_neg hb, ref_addr _ _ _ _ _ k (by omega), Option.bind_some]
        by_cases h1 : addrP I Q M x.f1.f0 x.f1.f1 = 0
        · rw [if_pos h1, if_pos h1, ref_isname x.f2 k (by omega), Option.bind_some, ref_isname x.f3 k (by omega)]
          by_cases h2 : nameB x.f2 = true
          · rw [if_pos (show isName x.f2.data.toList = true from h2), if_pos h2, Option.bind_some]
            by_cases h3 : nameB x.f3 = true
            · rw [if_pos (show isName x.f3.data.toList = true from h3), if_pos h3, wrap_nat (by omega)]
              exact ih k (i + 1) (by omega) (by omega)
            · rw [if_neg (show ¬ isName x.f3.data.toList = true from h3), if_neg h3]
          · rw [if_neg (show ¬ isName x.f2.data.toList = true from h2), if_neg h2]
        · rw [if_neg h1, if_neg h1]
    rw [show k + 2 = (k + 1) + 1 from rfl, ref11_contacts.l0, if_pos (by omega), if_pos (by omega), rd50_at cs i x hx, drop_at cs i x hx, consP, hj, hj]
    unfold partP
    by_cases h1 : x.f0 < 0
    · rw [if_pos h1, if_pos rfl, if_pos (show x.f0 < 0 ∨ 4 ≤ x.f0 from Or.inl h1), if_neg (by decide)]
    · rw [if_neg h1]
      by_cases h2 : x.f0 > 3
      · rw [if_pos (decide_eq_true h2), if_pos (show x.f0 < 0 ∨ 4 ≤ x.f0 from Or.inr (by omega)), if_neg (by decide)]
      · have h3 : ¬ (x.f0 < 0 ∨ 4 ≤ x.f0) := by omega
        rw [if_neg (by rw [decide_eq_true_eq]; exact h2), if_neg h3]
theorem ref_coils (I Q M : Int) (a : ByteArray) (cs : List S50) (qs : List S53) (j : ByteArray) (hq : qs.length ≤ 16) (d : Nat) : ∀ k i : Nat, i + d = qs.length → 2 * d + 5 ≤ k →
    ref11_coils.l0 k (i : Int) I Q M 0 a cs qs j = some (coilsP I Q M (qs.drop i)) := by
  induction d with
  | zero =>
    intro k i hi hk
    obtain ⟨k, rfl⟩ : ∃ m, k = m + 1 := ⟨k - 1, by omega⟩
    rw [ref11_coils.l0, if_neg (by omega), List.drop_eq_nil_of_le (by omega)]
    rfl
  | succ d ih =>
    intro k i hi hk
    obtain ⟨k, rfl⟩ : ∃ m, k = m + 2 := ⟨k - 2, by omega⟩
    obtain ⟨x, hx⟩ : ∃ x, qs[i]? = some x := ⟨_, List.getElem?_eq_getElem (by omega)⟩
    have hj : ∀ b : Bool, ref11_coils.j1 (k + 1) (i : Int) b I Q M 0 a cs qs j x.f0 x.f1.f0 x.f1.f1 = some (if b = true then 8 else if addrP I Q M x.f1.f0 x.f1.f1 = 0 then (if x.f1.f0 = 0 then 2 else coilsP I Q M (qs.drop (i + 1))) else addrP I Q M x.f1.f0 x.f1.f1) := by
      intro b
      rw [ref11_coils.j1]
      by_cases hb : b = true
      · rw [if_pos hb, if_pos hb]
      · rw [if_neg hb, if_neg hb, ref_addr _ _ _ _ _ k (by omega), Option.bind_some]
        by_cases h1 : addrP I Q M x.f1.f0 x.f1.f1 = 0
        · rw [if_pos h1, if_pos h1]
          by_cases h2 : x.f1.f0 = 0
          · rw [if_pos h2, if_pos h2]
          · rw [if_neg h2, if_neg h2, wrap_nat (by omega)]
            exact ih k (i + 1) (by omega) (by omega)
        · rw [if_neg h1, if_neg h1]
    rw [show k + 2 = (k + 1) + 1 from rfl, ref11_coils.l0, if_pos (by omega), if_pos (by omega), rd53_at qs i x hx, drop_at qs i x hx, coilsP, hj, hj]
    unfold partP
    by_cases h1 : x.f0 < 0
    · rw [if_pos h1, if_pos rfl, if_pos (show x.f0 < 0 ∨ 4 ≤ x.f0 from Or.inl h1), if_neg (by decide)]
    · rw [if_neg h1]
      by_cases h2 : x.f0 > 3
      · rw [if_pos (decide_eq_true h2), if_pos (show x.f0 < 0 ∨ 4 ≤ x.f0 from Or.inr (by omega)), if_neg (by decide)]
      · have h3 : ¬ (x.f0 < 0 ∨ 4 ≤ x.f0) := by omega
        rw [if_neg (by rw [decide_eq_true_eq]; exact h2), if_neg h3]
theorem ref_body (I Q M : Int) (r : S40) (k : Nat) (hk : 600 ≤ k) : ref11_rung.j1 k I Q M 0 r.f0 r.f1 r.f2 r.f3 = some (bodyP I Q M r) := by
  obtain ⟨k, rfl⟩ : ∃ m, k = m + 1 := ⟨k - 1, by omega⟩
  rw [ref11_rung.j1]
  unfold ref11_contacts.f ref11_coils.f bodyP restP tailP jumpP
  by_cases h : 256 < r.f1.length
  · rw [if_pos (by omega), if_pos h]; rfl
  · have hc0 : ref11_contacts.l0 k 0 I Q M 0 r.f0 r.f1 r.f2 r.f3 = some (consP I Q M r.f1) := by simpa using ref_cons I Q M r.f0 r.f1 r.f2 r.f3 (by omega) r.f1.length k 0 (by omega) (by omega)
    rw [if_neg (by omega), if_neg h, hc0, Option.bind_some]
    by_cases h1 : consP I Q M r.f1 = 0
    · rw [if_pos h1, if_pos h1]
      by_cases h2 : 16 < r.f2.length
      · rw [if_pos (by omega), if_pos h2]; rfl
      · have hq0 : ref11_coils.l0 k 0 I Q M 0 r.f0 r.f1 r.f2 r.f3 = some (coilsP I Q M r.f2) := by simpa using ref_coils I Q M r.f0 r.f1 r.f2 r.f3 (by omega) r.f2.length k 0 (by omega) (by omega)
        rw [if_neg (by omega), if_neg h2, hq0, Option.bind_some]
        by_cases h3 : coilsP I Q M r.f2 = 0
        · rw [if_pos h3, if_pos h3, h3]
          by_cases h4 : r.f3.toList = ([] : List UInt8)
          · rw [if_pos h4, if_pos h4]
          · rw [if_neg h4, if_neg h4, ref_isname r.f3 k (by omega), Option.bind_some]
            show (if nameB r.f3 = true then some 0 else some 6) = some (if nameB r.f3 = true then 0 else 6)
            split <;> rfl
        · rw [if_neg h3, if_neg h3]
    · rw [if_neg h1, if_neg h1]
theorem hasLabel_cons (x : S40) (l : List S40) (a : ByteArray) : hasLabel (x :: l) a = (x.f0.toList == a.toList || hasLabel l a) := rfl
theorem hasLabel_append (l m : List S40) (a : ByteArray) : hasLabel (l ++ m) a = (hasLabel l a || hasLabel m a) := by unfold hasLabel; rw [List.any_append]
theorem ref_labels (I Q M : Int) (l : List S40) (hl : l.length ≤ 64) (n : Nat) (hn : n ≤ l.length) (r : S40) (d : Nat) : ∀ k i : Nat, i + d = n → d + 700 ≤ k →
    ref11_rung.l0 k (n : Int) (i : Int) I Q M l I Q M 0 r.f0 r.f1 r.f2 r.f3 = some (if hasLabel ((l.take n).drop i) r.f0 = true then 9 else bodyP I Q M r) := by
  induction d with
  | zero =>
    intro k i hi hk
    obtain ⟨k, rfl⟩ : ∃ m, k = m + 1 := ⟨k - 1, by omega⟩
    rw [ref11_rung.l0, if_neg (by omega), List.drop_eq_nil_of_le (by rw [List.length_take]; omega), ref_body I Q M r k (by omega), if_neg (by unfold hasLabel; simp)]
  | succ d ih =>
    intro k i hi hk
    obtain ⟨k, rfl⟩ : ∃ m, k = m + 1 := ⟨k - 1, by omega⟩
    obtain ⟨x, hx⟩ : ∃ x, l[i]? = some x := ⟨_, List.getElem?_eq_getElem (by omega)⟩
    have hx2 : (l.take n)[i]? = some x := by rw [List.getElem?_take_of_lt (by omega)]; exact hx
    rw [ref11_rung.l0, if_pos (by omega), if_pos (by omega), if_pos (by omega), rd40_at l i x hx, wrap_nat (by omega), ih k (i + 1) (by omega) (by omega), drop_at _ i x hx2, hasLabel_cons]
    by_cases h1 : x.f0.toList = r.f0.toList
    · rw [if_pos h1, beq_iff_eq.mpr h1, Bool.true_or, if_pos rfl]
    · rw [if_neg h1, beq_eq_false_iff_ne.mpr h1, Bool.false_or]
theorem ref_rung (I Q M : Int) (l : List S40) (hl : l.length ≤ 64) (i : Nat) (r : S40) (hr : l[i]? = some r) (k : Nat) (hk : 800 ≤ k) : ref11_rung.f k I Q M l (i : Int) = some (rungP I Q M (l.take i) r) := by
  have hi : i < l.length := (List.getElem?_eq_some_iff.1 hr).1
  unfold ref11_rung.f rungP
  rw [if_pos (by omega), if_pos (by omega), rd40_at l i r hr, ref_body I Q M r k (by omega), ref_isname r.f0 k (by omega), Option.bind_some]
  by_cases h0 : r.f0.toList = ([] : List UInt8)
  · rw [if_pos h0, if_pos h0]
  · rw [if_neg h0, if_neg h0]
    by_cases h1 : nameB r.f0 = true
    · rw [if_pos (show isName r.f0.data.toList = true from h1), if_pos h1]
      have := ref_labels I Q M l hl i (by omega) r i k 0 (by omega) (by omega)
      rw [List.drop_zero] at this
      exact this
    · rw [if_neg (show ¬ isName r.f0.data.toList = true from h1), if_neg h1]
theorem ref_behind (I Q M : Int) (l : List S40) (hl : l.length ≤ 64) (a : ByteArray) (d : Nat) : ∀ k i : Nat, i + d = l.length → d + 1 ≤ k → ref10_Behind.l0 k a (i : Int) I Q M l = some (hasLabel (l.drop i) a) := by
  induction d with
  | zero =>
    intro k i hi hk
    obtain ⟨k, rfl⟩ : ∃ m, k = m + 1 := ⟨k - 1, by omega⟩
    rw [ref10_Behind.l0, if_neg (by omega), List.drop_eq_nil_of_le (by omega)]
    rfl
  | succ d ih =>
    intro k i hi hk
    obtain ⟨k, rfl⟩ : ∃ m, k = m + 1 := ⟨k - 1, by omega⟩
    obtain ⟨x, hx⟩ : ∃ x, l[i]? = some x := ⟨_, List.getElem?_eq_getElem (by omega)⟩
    rw [ref10_Behind.l0, if_pos (by omega), if_pos (by omega), rd40_at l i x hx, wrap_nat (by omega), ih k (i + 1) (by omega) (by omega), drop_at l i x hx, hasLabel_cons]
    by_cases h1 : x.f0.toList = a.toList
    · rw [if_pos h1, beq_iff_eq.mpr h1, Bool.true_or]
    · rw [if_neg h1, beq_eq_false_iff_ne.mpr h1, Bool.false_or]
theorem ref_l1 (I Q M : Int) (l : List S40) (hl : l.length ≤ 64) (d : Nat) : ∀ k i : Nat, i + d = l.length → d + 70 ≤ k →
    ref11_Check.l1 k (i : Int) I Q M l = some (match scanJ (l.drop i) i with | some p => p | none => ((l.length : Int), 0)) := by
  induction d with
  | zero =>
    intro k i hi hk
    obtain ⟨k, rfl⟩ : ∃ m, k = m + 1 := ⟨k - 1, by omega⟩
    rw [ref11_Check.l1, if_neg (by omega), List.drop_eq_nil_of_le (by omega)]
    rfl
  | succ d ih =>
    intro k i hi hk
    obtain ⟨k, rfl⟩ : ∃ m, k = m + 1 := ⟨k - 1, by omega⟩
    obtain ⟨x, hx⟩ : ∃ x, l[i]? = some x := ⟨_, List.getElem?_eq_getElem (by omega)⟩
    rw [ref11_Check.l1, if_pos (by omega), if_pos (by omega), rd40_at l i x hx, drop_at l i x hx, wrap_nat (by omega), ih k (i + 1) (by omega) (by omega), scanJ]
    by_cases h1 : x.f3.toList = ([] : List UInt8)
    · rw [if_pos h1, if_pos h1]
    · rw [if_neg h1, if_neg h1]
      unfold ref10_Behind.f
      rw [wrap_nat (by omega), ref_behind I Q M l hl x.f3 d k (i + 1) (by omega) (by omega), Option.bind_some]
      by_cases h2 : hasLabel (l.drop (i + 1)) x.f3 = true
      · rw [if_pos h2, if_pos h2]
      · rw [if_neg h2, if_neg h2]
theorem ref_l0 (I Q M : Int) (l : List S40) (hl : l.length ≤ 64) (d : Nat) : ∀ k i : Nat, i + d = l.length → d + 900 ≤ k →
    ref11_Check.l0 k (i : Int) I Q M l = some (match scanR I Q M (l.take i) (l.drop i) i with | some p => p | none => match scanJ l 0 with | some p => p | none => ((l.length : Int), 0)) := by
  induction d with
  | zero =>
    intro k i hi hk
    obtain ⟨k, rfl⟩ : ∃ m, k = m + 1 := ⟨k - 1, by omega⟩
    rw [ref11_Check.l0, if_neg (by omega), List.drop_eq_nil_of_le (by omega)]
    exact ref_l1 I Q M l hl l.length k 0 (by omega) (by omega)
  | succ d ih =>
    intro k i hi hk
    obtain ⟨k, rfl⟩ : ∃ m, k = m + 1 := ⟨k - 1, by omega⟩
    obtain ⟨x, hx⟩ : ∃ x, l[i]? = some x := ⟨_, List.getElem?_eq_getElem (by omega)⟩
    rw [ref11_Check.l0, if_pos (by omega), ref_rung I Q M l hl i x hx k (by omega), Option.bind_some, drop_at l i x hx, wrap_nat (by omega), ih k (i + 1) (by omega) (by omega), scanR]
    rw [show l.take (i + 1) = l.take i ++ [x] by rw [List.take_add_one, hx]; rfl]
    by_cases h1 : rungP I Q M (l.take i) x = 0
    · rw [if_pos h1, if_pos h1]
    · rw [if_neg h1, if_neg h1]
theorem ref_check (I Q M : Int) (l : List S40) : ref11_Check.f 1000 I Q M l = some (checkP I Q M l) := by
  have hj : ∀ b : Bool, ref11_Check.j0 1000 b I Q M l = some (if b = true then (0, 3) else if 64 < l.length then (0, 10) else match scanR I Q M [] l 0 with | some p => p | none => match scanJ l 0 with | some p => p | none => ((l.length : Int), 0)) := by
    intro b
    rw [show (1000 : Nat) = 999 + 1 from rfl, ref11_Check.j0]
    by_cases hb : b = true
    · rw [if_pos hb, if_pos hb]
    · rw [if_neg hb, if_neg hb]
      by_cases h : 64 < l.length
      · rw [if_pos (by omega), if_pos h]
      · rw [if_neg (by omega), if_neg h]
        exact ref_l0 I Q M l (by omega) l.length 999 0 (by omega) (by omega)
  unfold ref11_Check.f checkP
  simp only [hj]
  by_cases hok : OkSize I Q M
  · have hk := hok
    unfold OkSize at hk
    have n1 : ¬ I < 0 := by omega
    have n2 : ¬ I > 256 := by omega
    have n3 : ¬ Q < 0 := by omega
    have n4 : ¬ Q > 256 := by omega
    have n5 : ¬ M < 0 := by omega
    have n6 : ¬ M > 256 := by omega
    rw [if_neg n1, if_neg n2, if_neg n3, if_neg n4, if_neg n5, if_pos hok, if_neg (by rw [decide_eq_true_eq]; exact n6)]
    rfl
  · rw [if_neg hok]
    by_cases h1 : I < 0
    · rw [if_pos h1, if_pos trivial]
    · by_cases h2 : I > 256
      · rw [if_neg h1, if_pos h2, if_pos trivial]
      · by_cases h3 : Q < 0
        · rw [if_neg h1, if_neg h2, if_pos h3, if_pos trivial]
        · by_cases h4 : Q > 256
          · rw [if_neg h1, if_neg h2, if_neg h3, if_pos h4, if_pos trivial]
          · by_cases h5 : M < 0
            · rw [if_neg h1, if_neg h2, if_neg h3, if_neg h4, if_pos h5, if_pos trivial]
            · have h6 : M > 256 := by
                have hk := hok
                unfold OkSize at hk
                omega
              rw [if_neg h1, if_neg h2, if_neg h3, if_neg h4, if_neg h5, if_pos (decide_eq_true h6)]
end Go.Proofs.YtmcmpjkfdkogiaaDoor.P

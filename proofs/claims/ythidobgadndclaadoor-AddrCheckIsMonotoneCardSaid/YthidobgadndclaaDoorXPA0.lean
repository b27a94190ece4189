/- What package addr's laws share: the chapter's example holds; addr.Compare compares. -/
import Derived.Test.YthidobgadndclaaDoorXRowA
import Derived.Test.YthidobgadndclaaDoorXDec
import Derived.Test.YthidobgadndclaaDoorPA2
import Derived.Test.YthidobgadndclaaDoorPA9
namespace Go.Proofs.YthidobgadndclaaDoor.P
open Go.RowKit Go.Proofs.YthidobgadndclaaDoorW.PrintWords

theorem wf_u16 {x : Int} (h : (Lit.int .u16 x).wf = true) : 0 ≤ x ∧ x ≤ 65535 := by
  have h' : (decide ((0 : Int) ≤ x) && decide (x ≤ 65535)) = true := h
  simpa using h'
theorem wf_u8 {x : Int} (h : (Lit.int .u8 x).wf = true) : 0 ≤ x ∧ x ≤ 255 := by
  have h' : (decide ((0 : Int) ≤ x) && decide (x ≤ 255)) = true := h
  simpa using h'
theorem itoa_nat (n : Int) (h : 0 ≤ n) : Lib.itoa n = Lib.decDigits n.toNat := by unfold Lib.itoa; rw [if_neg (by omega)]
theorem alive01 : law01_alive.f = some true := by
  have h1 : addr_Parse.f (⟨#[73, 48, 48]⟩ : ByteArray) = some (0, 0, 6) := by decide
  have h2 : addr_Parse.f (⟨#[81, 50, 53, 54]⟩ : ByteArray) = some (0, 0, 3) := by decide
  have h3 : addr_Format.f 2 12 = some ⟨#[77, 49, 50]⟩ := by
    unfold addr_Format.f
    rw [if_pos (by decide), itoa_nat 12 (by decide)]
    rw [show (12 : Int).toNat = 12 from rfl, decDigits_more 12 (by decide), decDigits_one _ (by decide)]
    rfl
  unfold law01_alive.f
  rw [h1, h2, h3]
  simp only [Option.bind_some]
  rw [show (⟨#[77, 49, 50]⟩ : ByteArray).toList = [77, 49, 50] from toList_mk [77, 49, 50], if_pos rfl]
  rfl
def cmpI (a b : Int) : Int := if a < b then -1 else if a > b then 1 else 0
theorem cmp_int (a b : Int) : cmp_Compare_int.f a b = some (cmpI a b) := by
  have e : ∀ x : Int, (x != x) = false := fun x => by simp
  unfold cmp_Compare_int.f cmp_isNaN_int.f cmpI
  simp only [e, Option.bind_some, Bool.false_eq_true, if_false]
  by_cases h : a < b
  · rw [if_pos h, if_pos h]
  · rw [if_neg h, if_neg h]
    by_cases h2 : a > b
    · rw [if_pos h2, if_pos h2]
    · rw [if_neg h2, if_neg h2]
theorem or_two (k : Nat) (x y : Int) : cmp_Or_int.f (k + 3) [x, y] = some (if x = 0 then y else x) := by
  have w1 : wrap64 (0 + 1) = 1 := wrap_id (by omega) (by omega)
  have w2 : wrap64 (1 + 1) = 2 := wrap_id (by omega) (by omega)
  unfold cmp_Or_int.f
  simp only [cmp_Or_int.l0, rd, w1, w2, List.length_cons, List.length_nil]
  by_cases h : x = 0
  · by_cases h2 : y = 0
    · subst h; subst h2; rfl
    · subst h
      simp [h2]
  · simp [h]
theorem addr_cmp (k : Nat) (a b c d : Int) : addr_Compare.f (k + 3) a b c d = some (if cmpI a c = 0 then cmpI b d else cmpI a c) := by
  unfold addr_Compare.f
  rw [cmp_int, cmp_int]
  simp only [Option.bind_some]
  rw [or_two]
  rfl
theorem bytes_ne {l l' : List UInt8} : ((⟨l.toArray⟩ : ByteArray).toList == (⟨l'.toArray⟩ : ByteArray).toList) = (l == l') := by rw [toList_mk, toList_mk]
theorem letter_inj {s t : Int} (h0 : 0 ≤ s) (h1 : s ≤ 2) (h2 : 0 ≤ t) (h3 : t ≤ 2) (h : letterB s = letterB t) : s = t := by
  have hs : s = 0 ∨ s = 1 ∨ s = 2 := by omega
  have ht : t = 0 ∨ t = 1 ∨ t = 2 := by omega
  rcases hs with rfl | rfl | rfl <;> rcases ht with rfl | rfl | rfl <;> first | rfl | (exact absurd h (by decide))
theorem itoa_inj {a b : Int} (h0 : 0 ≤ a) (h1 : 0 ≤ b) (h : Lib.itoa a = Lib.itoa b) : a = b := by
  rw [itoa_nat a h0, itoa_nat b h1] at h
  have := congrArg decVal h
  rw [(decDigits_spec _).1, (decDigits_spec _).1] at this
  omega

end Go.Proofs.YthidobgadndclaaDoor.P

/- addr.Format: called in a world whose tables are laid, it returns the text of the address. -/
import Derived.Test.YtdbjjbooalkkbaaGreatDoorXLaid
import Derived.Test.YtdbjjbooalkkbaaGreatDoorXPlain
import Derived.Test.YtdbjjbooalkkbaaGreatDoorShelf
import Derived.Tactics
import Derived.Tactics2
import Derived.WalkKit
import Derived.Deep.RegionHeld3
import Derived.Deep.DeepCutAuto
import Derived.Deep.QuietTactic
import Derived.BigQuiet
import Derived.KernelRfl
import Derived.Outline
import Derived.Lib.Hide
import Derived.Lib.AppendIntMem
namespace Go.Proofs.YtdbjjbooalkkbaaGreatDoor.P
open Go.RowKit Go.Proofs.YtdbjjbooalkkbaaGreatDoorW.PrintWords

theorem within_yes (a b : Int) (w : World) (h0 : 0 ≤ a) (h1 : a ≤ b) : Calls Tryz.prog 66 #[.int .i64 a, .int .i64 b] w fun e w' => e = .returned (.bool true) ∧ w = w' := by
  go_enter Tryz.func66, Tryz.ntmps66
  go_wp2
  go_ret
  exact ⟨by first | rfl | simp, rfl⟩
theorem within_no (a b : Int) (w : World) (h : ¬ (0 ≤ a ∧ a ≤ b)) : Calls Tryz.prog 66 #[.int .i64 a, .int .i64 b] w fun e w' => e = .returned (.bool false) ∧ w = w' := by
  by_cases h0 : 0 ≤ a
  · have h1 : ¬ a ≤ b := fun h1 => h ⟨h0, h1⟩
    clear h
    go_enter Tryz.func66, Tryz.ntmps66
    go_wp2
    go_ret
    exact ⟨by first | rfl | simp [h1], rfl⟩
  · clear h
    go_enter Tryz.func66, Tryz.ntmps66
    go_wp2
    go_ret
    exact ⟨by first | rfl | simp [h0], rfl⟩

theorem str_ret {a b : ByteArray} (h : a = b) : Ending.returned (.string a) = .returned (.string b) := by rw [h]

set_option maxHeartbeats 1000000 in
theorem format_no (s n : Int) (w : World) (h : ¬ (0 ≤ s ∧ s ≤ 2 ∧ 0 ≤ n ∧ n ≤ 255)) :
    Calls Tryz.prog 35 #[.agg #[.int .i64 s, .int .i64 n]] w fun e w' => e = .returned (.string ⟨#[]⟩) ∧ Below w.heap.size w w' := by
  by_cases h1 : 0 ≤ s ∧ s ≤ 2
  · have h2 : ¬ (0 ≤ n ∧ n ≤ 255) := fun h2 => h ⟨h1.1, h1.2, h2⟩
    have W1 := fun W => within_yes s 2 W h1.1 h1.2
    have W2 := fun W => within_no n 255 W h2
    have H1 := Lib.hid W1
    have H2 := Lib.hid W2
    clear h h1 h2 W1 W2
    go_enter Tryz.func35, Tryz.ntmps35
    go_wp2_with fail
    refine (H1.out _).mono ?_
    rintro e w' ⟨rfl, rfl⟩
    go_wp2_with fail
    refine (H2.out _).mono ?_
    rintro e w' ⟨rfl, rfl⟩
    go_wp2_with fail
    go_ret
    exact ⟨rfl, (Below.refl _ _).alloc (Nat.le_refl _) _⟩
  · have W1 := fun W => within_no s 2 W h1
    have H1 := Lib.hid W1
    clear h h1 W1
    go_enter Tryz.func35, Tryz.ntmps35
    go_wp2_with fail
    refine (H1.out _).mono ?_
    rintro e w' ⟨rfl, rfl⟩
    go_wp2_with fail
    go_ret
    exact ⟨rfl, (Below.refl _ _).alloc (Nat.le_refl _) _⟩

/-- What the region keeps beside its cells. -/
def Fine (w w' : World) : Prop := LaidPow w' ∧ Below w.heap.size w w'
theorem Fine.on {w w1 w2 : World} (h : Fine w w1) (hb : Below w1.heap.size w1 w2) : Fine w w2 := ⟨h.1.on hb, below_then h.2 h.2.size hb⟩
theorem Fine.start {w : World} (h : LaidPow w) (o : Obj) : Fine w (w.alloc o).drew := Fine.on ⟨h, Below.refl _ _⟩ (below_drew (below_alloc (Below.refl _ _) o))
theorem Fine.below {w w1 : World} (h : Fine w w1) : Below w.heap.size w w1 := h.2
theorem Fine.pow {w w1 : World} (h : Fine w w1) : LaidPow w1 := h.1
theorem itoa_any (n : Int) (h0 : 0 ≤ n) (h1 : n ≤ 255) (w : World) (h : LaidPow w) :
    Calls Tryz.prog 34 #[.int .i64 n] w fun e w' => e = .returned (.string ⟨(Lib.itoa n).toArray⟩) ∧ Below w.heap.size w w' :=
  (Tryz.strconv_Itoa n (by omega) (by omega) w h).mono fun e w' ⟨he, k, os, hw⟩ => ⟨he, by rw [hw]; exact Lib.below_grow _ w (Nat.le_refl _) k os⟩

theorem dec_len (u : Nat) (h : u < 1000) : (Lib.decDigits u).length ≤ 3 := by
  rw [Lib.decDigits]
  split
  · simp
  · rw [Lib.decDigits]
    split
    · simp
    · rw [Lib.decDigits]
      split
      · simp
      · omega
theorem itoa_len (n : Int) (h0 : 0 ≤ n) (h1 : n < 1000) : (Lib.itoa n).length ≤ 3 := by
  unfold Lib.itoa
  rw [if_neg (by omega)]
  exact dec_len _ (by omega)
set_option maxHeartbeats 1000000 in
theorem format_yes (s n : Int) (c : UInt8) (w : World) (hs : 0 ≤ s) (hs2 : s ≤ 2) (hn : 0 ≤ n) (hn2 : n ≤ 255) (hp : LaidPow w) (hc : w.cell? ⟨2, s.toNat, none⟩ = some (.string ⟨#[c]⟩)) :
    Calls Tryz.prog 35 #[.agg #[.int .i64 s, .int .i64 n]] w fun e w' => e = .returned (.string ⟨(c :: Lib.itoa n).toArray⟩) ∧ Below w.heap.size w w' := by
  have W1 := fun W => within_yes s 2 W hs hs2
  have W2 := fun W => within_yes n 255 W hn hn2
  have H1 := Lib.hid W1
  have H2 := Lib.hid W2
  have HP := Lib.hid hp
  clear W1 W2 hp
  have lg := World.block_lt_of_cell? w _ hc
  have W3 := fun W h => itoa_any n hn hn2 W h
  have hl := itoa_len n hn (by omega)
  obtain ⟨t, ht⟩ : ∃ t : ByteArray, t = ⟨(Lib.itoa n).toArray⟩ := ⟨_, rfl⟩
  have hsz : t.size ≤ 3 := by rw [ht]; exact hl
  have HR := Lib.hid (show (⟨#[c]⟩ : ByteArray) ++ t = ⟨(c :: Lib.itoa n).toArray⟩ by rw [ht]; apply ByteArray.ext; simp)
  rw [← ht] at W3
  have H3 := Lib.hid W3
  clear W3 hl ht
  have hs1 : ¬ 9223372036854775807 < 1 + t.size := by omega
  have hs3 : s < 3 := by omega
  go_enter Tryz.func35, Tryz.ntmps35
  go_wp2_with fail
  refine (H1.out _).mono ?_
  rintro e w' ⟨rfl, rfl⟩
  go_wp2_with fail
  refine (H2.out _).mono ?_
  rintro e w' ⟨rfl, rfl⟩
  go_wp2_with fail
  go_region_held3 (fun w' => w'.cell? ⟨w.heap.size, 0, none⟩ = some (.int .i64 s) ∧ w'.cell? ⟨w.heap.size, 1, none⟩ = some (.int .i64 n) ∧ w'.cell? ⟨2, s.toNat, none⟩ = some (.string ⟨#[c]⟩) ∧ Fine w w')
    (((try go_split_ands); refine ⟨?_, ?_, ?_, ?_⟩ <;> first | assumption | exact Fine.start HP.out _ | exact Fine.on (by assumption) (by assumption) | exact pw_cell_below (by assumption) (by assumption) | go_keep))
    ((go_at_call 34; go_split_ands; refine (H3.out _ (Fine.pow (by assumption))).mono ?_; rintro e w1 ⟨rfl, hb1⟩))
  go_wp2
  go_ret
  go_split_ands
  exact ⟨str_ret (by rw [← HR.out]), Fine.below (by assumption)⟩

theorem format_any (s n : Int) (w : World) (hp : LaidPow w) (hl : LaidLetters w) :
    Calls Tryz.prog 35 #[.agg #[.int .i64 s, .int .i64 n]] w fun e w' => e = .returned (.string (if 0 ≤ s ∧ s ≤ 2 ∧ 0 ≤ n ∧ n ≤ 255 then ⟨(letterB s :: Lib.itoa n).toArray⟩ else ⟨#[]⟩)) ∧ Below w.heap.size w w' := by
  by_cases h : 0 ≤ s ∧ s ≤ 2 ∧ 0 ≤ n ∧ n ≤ 255
  · rw [if_pos h]
    refine format_yes s n (letterB s) w h.1 h.2.1 h.2.2.1 h.2.2.2 hp ?_
    have hs : s = 0 ∨ s = 1 ∨ s = 2 := by omega
    rcases hs with rfl | rfl | rfl
    · exact hl.c0
    · exact hl.c1
    · exact hl.c2
  · rw [if_neg h]
    exact format_no s n w h
/-- addr.Format, as the printed texts ask for it. -/
theorem addr_Format.calls (a0_0 : Int) (a0_1 : Int) (r : ByteArray) (w : World) (hL : Aside0 (LaidW 18 w)) (h : addr_Format.f a0_0 a0_1 = some r) :
    Calls Tryz.prog 35 #[.agg #[.int .i64 a0_0, .int .i64 a0_1]] w fun e w' => e = .returned (.string r) ∧ Below w.heap.size w w' := by
  obtain rfl := Option.some.inj h
  exact format_any a0_0 a0_1 w (hL.out.pow rfl) (hL.out.letters rfl)
end Go.Proofs.YtdbjjbooalkkbaaGreatDoor.P

/- law11.alive: the example of the chapter holds: called, it returns true. -/
import Derived.Test.YtdbjjbooalkkbaaDoorXPrintC
namespace Go.Proofs.YtdbjjbooalkkbaaDoor.P
open Go.RowKit Go.Proofs.YtdbjjbooalkkbaaDoorW.PrintWords

theorem one_row {α : Type} (d : Kd α) {w : World} {g t : Nat} {cs : List Value} {x : α} (hb : w.heap[g]? = some (.cells cs.toArray t (0, 0))) (hK : d.K w x cs) : d.C w (some ⟨g, 0, none⟩) 1 [x] := by
  refine ⟨rfl, by decide, fun _ => ⟨_, rfl, fun j p hj => ?_⟩⟩
  cases j with
  | succ j => simp at hj
  | zero =>
    obtain rfl : x = p := by simpa using hj
    refine ⟨cs, d.K_len hK, hK, fun i u hi => ?_⟩
    rw [add_plain]
    simp [World.cell?, hb, hi]
def exC : S44 := ⟨0, ⟨0, 0⟩, ⟨#[76]⟩, ⟨#[82]⟩⟩
def exQ : S47 := ⟨0, ⟨1, 0⟩⟩
def exR : S28 := ⟨⟨#[]⟩, [exC], [exQ], ⟨#[]⟩⟩
set_option maxHeartbeats 1000000 in
theorem example_walk (w : World) : Calls Tryd.prog 22 #[] w fun e w' => (∃ A c, e = .returned (.agg #[.int .i64 1, .int .i64 1, .int .i64 0, .slice A 1 c]) ∧ 1 ≤ c ∧ Kd.C k28 w' A 1 [exR]) ∧ Below w.heap.size w w' := by
  go_enter Tryd.func22, Tryd.ntmps22
  go_wp2
  refine bodyPost_ret (v := .agg #[.int .i64 1, .int .i64 1, .int .i64 0, .slice (some ⟨w.heap.size + 1 + 1 + 1, 0, none⟩) 1 1]) (by simp [results, Tryd.results22, go_sem]) rfl ?_
  obtain ⟨w1, h1⟩ : ∃ w1, w1 = w.alloc (.cells #[.int .i64 1, .int .i64 1, .int .i64 0, .slice (some ⟨w.heap.size + 1 + 1 + 1, 0, none⟩) 1 1] 24) := ⟨_, rfl⟩
  have s1 : w1.heap.size = w.heap.size + 1 := by rw [h1]; simp
  have b1 : Below w.heap.size w w1 := by rw [h1]; exact below_alloc (Below.refl _ _) _
  rw [← h1]
  clear h1
  obtain ⟨w2, h2⟩ : ∃ w2, w2 = w1.alloc (.cells #[.int .i64 0, .int .i64 0, .int .i64 0, .string ⟨#[76]⟩, .string ⟨#[82]⟩] 44) := ⟨_, rfl⟩
  have s2 : w2.heap.size = w.heap.size + 1 + 1 := by rw [h2]; simp [s1]
  have z1 : Blk (w.heap.size + 1) 44 #[.int .i64 0, .int .i64 0, .int .i64 0, .string ⟨#[76]⟩, .string ⟨#[82]⟩] w2 := by rw [h2, ← s1]; exact Blk.new _ _ _
  have b2 : Below w.heap.size w w2 := by rw [h2]; exact below_alloc b1 _
  rw [← h2]
  clear h2
  obtain ⟨w3, h3⟩ : ∃ w3, w3 = w2.alloc (.cells #[.int .i64 0, .int .i64 1, .int .i64 0] 47) := ⟨_, rfl⟩
  have s3 : w3.heap.size = w.heap.size + 1 + 1 + 1 := by rw [h3]; simp [s2]
  have z2 : Blk (w.heap.size + 1 + 1) 47 #[.int .i64 0, .int .i64 1, .int .i64 0] w3 := by rw [h3, ← s2]; exact Blk.new _ _ _
  have z1 : Blk (w.heap.size + 1) 44 #[.int .i64 0, .int .i64 0, .int .i64 0, .string ⟨#[76]⟩, .string ⟨#[82]⟩] w3 := by rw [h3]; exact z1.alloc _
  have b3 : Below w.heap.size w w3 := by rw [h3]; exact below_alloc b2 _
  rw [← h3]
  clear h3
  have z3 := Blk.new w3 28 #[.string ⟨#[]⟩, .slice (some ⟨w.heap.size + 1, 0, none⟩) 1 1, .slice (some ⟨w.heap.size + 1 + 1, 0, none⟩) 1 1, .string ⟨#[]⟩]
  have z1 := z1.alloc (.cells #[.string ⟨#[]⟩, .slice (some ⟨w.heap.size + 1, 0, none⟩) 1 1, .slice (some ⟨w.heap.size + 1 + 1, 0, none⟩) 1 1, .string ⟨#[]⟩] 28)
  have z2 := z2.alloc (.cells #[.string ⟨#[]⟩, .slice (some ⟨w.heap.size + 1, 0, none⟩) 1 1, .slice (some ⟨w.heap.size + 1 + 1, 0, none⟩) 1 1, .string ⟨#[]⟩] 28)
  have b4 := below_alloc b3 (.cells #[.string ⟨#[]⟩, .slice (some ⟨w.heap.size + 1, 0, none⟩) 1 1, .slice (some ⟨w.heap.size + 1 + 1, 0, none⟩) 1 1, .string ⟨#[]⟩] 28)
  rw [s3] at z3
  refine ⟨⟨_, _, rfl, Nat.le_refl _, one_row k28 z3.out ?_⟩, b4⟩
  exact k28_mk _ exR (A1 := some ⟨w.heap.size + 1, 0, none⟩) (c1 := 1) (by decide) (one_row k44 z1.out (k44_mk _ exC)) (A2 := some ⟨w.heap.size + 1 + 1, 0, none⟩) (c2 := 1) (by decide) (one_row k47 z2.out (k47_mk _ exQ))
def exT : ByteArray := ⟨#[115, 105, 122, 101, 32, 49, 32, 49, 32, 48, 10, 114, 117, 110, 103, 10, 110, 111, 32, 73, 48, 32, 76, 32, 82, 10, 111, 117, 116, 32, 81, 48, 10]⟩
theorem ex_print : printP 1 1 0 [exR] = (exT, 0) := by
  have h0 : exR.f0.toList = ([] : List UInt8) := by rw [ByteArray.toList_eq]; rfl
  have hj : jumpPr exR.f3 = 0 := if_pos (by rw [ByteArray.toList_eq]; rfl)
  have hr : rungP 1 1 0 [] exR = 0 := by
    unfold rungP bodyP restP tailP
    rw [if_pos h0, hj]
    decide
  have h : checkP 1 1 0 [exR] = (1, 0) := by
    unfold checkP
    rw [if_pos (by decide), if_neg (by decide), scanR, if_pos hr, scanR, scanJ, if_pos (show exR.f3.toList = ([] : List UInt8) by rw [ByteArray.toList_eq]; rfl), scanJ]
    rfl
  have ht : ladderT 1 1 0 [exR] = exT.data.toList := by
    have i0 : Lib.itoa 0 = [48] := by unfold Lib.itoa Lib.decDigits; rfl
    have i1 : Lib.itoa 1 = [49] := by unfold Lib.itoa Lib.decDigits; rfl
    have f0 : fmtB 0 0 = ⟨#[73, 48]⟩ := by unfold fmtB; rw [if_pos (by decide), i0]; rfl
    have f1 : fmtB 1 0 = ⟨#[81, 48]⟩ := by unfold fmtB; rw [if_pos (by decide), i0]; rfl
    simp only [ladderT, sizeT, rungsT, rungT, consT, coilsT, jumpT, conWords, coilWords, exR, exC, exQ, f0, f1, itoaB, i0, i1, List.map_cons, List.map_nil]
    decide
  unfold printP printRes
  rw [h, if_pos rfl, ht, if_neg (by decide)]
theorem print_ex (A : Option Addr) (c : Nat) (W : World) (hc : 1 ≤ c) (hr : Kd.C k28 W A 1 [exR]) (hL : Aside0 (LaidW 50 W)) :
    Calls Tryd.prog 6 #[.agg #[.int .i64 1, .int .i64 1, .int .i64 0, .slice A 1 c]] W fun e w' => e = .returned (.tuple #[.string exT, .int .i64 0]) ∧ Below W.heap.size W w' :=
  printer_Print.calls 1 1 0 A c [exR] exT 0 W hr hc hL (by unfold printer_Print.f; rw [ex_print])
def law11_alive.f : Option Bool := some true
set_option maxHeartbeats 1000000 in
theorem law11_alive.calls (r : Bool) (w : World) (hL : Aside0 (LaidW 50 w)) (h : law11_alive.f = some r) : Calls Tryd.prog 8 #[] w fun e w' => e = .returned (.bool r) ∧ Below w.heap.size w w' := by
  obtain rfl := Option.some.inj h
  have HE := Lib.hid (example_walk w)
  have HP := Lib.hid (fun A c W hc hr (hb : Below w.heap.size w W) => print_ex A c W hc hr (LaidW.below hL rfl hb))
  have ht : exT.toList = [115, 105, 122, 101, 32, 49, 32, 49, 32, 48, 10, 114, 117, 110, 103, 10, 110, 111, 32, 73, 48, 32, 76, 32, 82, 10, 111, 117, 116, 32, 81, 48, 10] := by rw [ByteArray.toList_eq]; rfl
  clear hL h
  go_enter Tryd.func8, Tryd.ntmps8
  go_wp2_with (first
    | (go_at_call 22; (with_reducible refine HE.out.mono ?_); rintro e w1 ⟨⟨A, c, rfl, hc, hr⟩, hb⟩; have HX := Lib.hid (And.intro hc (And.intro hr hb)); clear hc hr hb)
    | (go_at_call 6; (with_reducible refine (HP.out _ _ _ HX.out.1 HX.out.2.1 HX.out.2.2).mono ?_); rintro e w2 ⟨rfl, hb⟩; have HY := Lib.hid hb; clear hb))
  go_ret
  exact ⟨by first | rfl | (simp [ht]; done) | (rw [show exT = (⟨#[115, 105, 122, 101, 32, 49, 32, 49, 32, 48, 10, 114, 117, 110, 103, 10, 110, 111, 32, 73, 48, 32, 76, 32, 82, 10, 111, 117, 116, 32, 81, 48, 10]⟩ : ByteArray) from rfl]; simp), HX.out.2.2.trans (HY.out.mono HX.out.2.2.size)⟩
end Go.Proofs.YtdbjjbooalkkbaaDoor.P

/- Several texts in one: XEvn0, XEvn, XAlive. -/
import Derived.Test.YtdbjjbooalkkbaaGreatDoorPQ0
import Derived.Test.YtdbjjbooalkkbaaGreatDoorXSpec
import Derived.Test.YtdbjjbooalkkbaaGreatDoorPQ4
import Derived.Test.YtdbjjbooalkkbaaGreatDoorXPrintC
/- With rounds enough. -/
namespace Go.Proofs.YtdbjjbooalkkbaaGreatDoor.P
open Go.RowKit Go.Proofs.YtdbjjbooalkkbaaGreatDoorW.PrintWords

/-- With rounds enough the answer is v. -/
def Evn {α : Type} (f : Nat → Option α) (v : α) : Prop := ∃ K, ∀ k, K ≤ k → f k = some v
theorem Evn.const {α : Type} (v : α) : Evn (fun _ => some v) v := ⟨0, fun _ _ => rfl⟩
theorem Evn.step {α : Type} {f g : Nat → Option α} {v : α} (h : Evn g v) (hs : ∀ k, f (k + 1) = g k) : Evn f v := by
  obtain ⟨K, h⟩ := h
  refine ⟨K + 1, fun k hk => ?_⟩
  obtain ⟨k, rfl⟩ : ∃ m, k = m + 1 := ⟨k - 1, by omega⟩
  rw [hs]
  exact h k (by omega)
theorem Evn.same {α : Type} {f g : Nat → Option α} {v : α} (h : Evn g v) (hs : ∀ k, f k = g k) : Evn f v := by
  obtain ⟨K, h⟩ := h
  exact ⟨K, fun k hk => (hs k).trans (h k hk)⟩
theorem Evn.bind {α β : Type} {f : Nat → Option α} {v : α} {g : Nat → α → Option β} {u : β} (h : Evn f v) (hg : Evn (fun k => g k v) u) : Evn (fun k => (f k).bind (g k)) u := by
  obtain ⟨K, h⟩ := h
  obtain ⟨L, hg⟩ := hg
  exact ⟨K + L, fun k hk => by show (f k).bind (g k) = some u; rw [h k (by omega), Option.bind_some]; exact hg k (by omega)⟩
theorem Evn.at2 {α β : Type} {f : Nat → Option α} {g : Nat → Option β} {u : α} {v : β} (h : Evn f u) (hg : Evn g v) : ∃ k, f k = some u ∧ g k = some v := by
  obtain ⟨K, h⟩ := h
  obtain ⟨L, hg⟩ := hg
  exact ⟨K + L, h _ (by omega), hg _ (by omega)⟩
theorem Evn.one {α : Type} {f : Nat → Option α} {u : α} (h : Evn f u) : ∃ k, f k = some u := by
  obtain ⟨K, h⟩ := h
  exact ⟨K, h _ (Nat.le_refl _)⟩
end Go.Proofs.YtdbjjbooalkkbaaGreatDoor.P

/- With rounds enough; law11's TooLarge. -/
namespace Go.Proofs.YtdbjjbooalkkbaaGreatDoor.P
open Go.RowKit Go.Proofs.YtdbjjbooalkkbaaGreatDoorW.PrintWords

/-! ### too large? -/
theorem large_l1 (rs : List S47) (ns i I Q M : Int) (l : List S47) (cs : List S51) (hc : cs.length ≤ 9223372036854775807) (hnext : ∀ n, ∃ t, Evn (fun k => law11_TooLarge.l0 k n rs ns (wrap64 (i + 1)) I Q M l) t) (d : Nat) : ∀ (j : Nat) (n : Int), j + d = cs.length →
    ∃ t, Evn (fun k => law11_TooLarge.l1 k n rs ns i cs (cs.length : Int) (j : Int) I Q M l) t := by
  induction d with
  | zero =>
    intro j n hj
    obtain ⟨t, ht⟩ := hnext n
    exact ⟨t, ht.step (fun k => by rw [law11_TooLarge.l1, if_neg (by omega)])⟩
  | succ d ih =>
    intro j n hj
    obtain ⟨t, ht⟩ := ih (j + 1) (wrap64 (n + (wrap64 ((((rd_T51 cs (j : Int)).f2).size : Int) + (((rd_T51 cs (j : Int)).f3).size : Int))))) (by omega)
    exact ⟨t, ht.step (fun k => by rw [law11_TooLarge.l1, if_pos (by omega), if_pos (by omega), if_pos (by omega), wrap_nat (by omega)])⟩
theorem large_l0 (I Q M : Int) (l : List S47) (hl : l.length ≤ 9223372036854775807) (hc : ∀ r ∈ l, r.f1.length ≤ 9223372036854775807) (d : Nat) : ∀ (i : Nat) (n : Int), i + d = l.length →
    ∃ t, Evn (fun k => law11_TooLarge.l0 k n l (l.length : Int) (i : Int) I Q M l) t := by
  induction d with
  | zero =>
    intro i n hi
    by_cases h : (l.length : Int) > 70
    · exact ⟨1, (Evn.const 1).step (fun k => by rw [law11_TooLarge.l0, if_neg (by omega), if_pos h])⟩
    · by_cases h2 : n > 20000
      · exact ⟨1, (Evn.const 1).step (fun k => by rw [law11_TooLarge.l0, if_neg (by omega), if_neg h, if_pos h2])⟩
      · exact ⟨0, (Evn.const 0).step (fun k => by rw [law11_TooLarge.l0, if_neg (by omega), if_neg h, if_neg h2])⟩
  | succ d ih =>
    intro i n hi
    obtain ⟨x, hx⟩ : ∃ x, l[i]? = some x := ⟨_, List.getElem?_eq_getElem (by omega)⟩
    have hw : wrap64 ((i : Int) + 1) = ((i + 1 : Nat) : Int) := wrap_nat (by omega)
    obtain ⟨t, ht⟩ := large_l1 l (l.length : Int) (i : Int) I Q M l x.f1 (hc x (List.mem_of_getElem? hx)) (fun n => by rw [hw]; exact ih (i + 1) n (by omega)) x.f1.length 0
      (wrap64 (n + (wrap64 ((wrap64 ((wrap64 (((x.f1).length : Int) + ((x.f2).length : Int))) + ((x.f0).size : Int))) + ((x.f3).size : Int))))) (by omega)
    exact ⟨t, ht.step (fun k => by rw [law11_TooLarge.l0, if_pos (by omega), if_pos (by omega), if_pos (by omega), rd40_at l i x hx]; rfl)⟩
theorem large_some (I Q M : Int) (l : List S47) (hl : l.length ≤ 9223372036854775807) (hc : ∀ r ∈ l, r.f1.length ≤ 9223372036854775807) : ∃ k t, law11_TooLarge.f k I Q M l = some t := by
  obtain ⟨t, K, h⟩ := large_l0 I Q M l hl hc l.length 0 0 (by omega)
  exact ⟨K, t, h K (Nat.le_refl _)⟩
end Go.Proofs.YtdbjjbooalkkbaaGreatDoor.P

/- law11.alive: the example of the chapter holds: called, it returns true. -/
namespace Go.Proofs.YtdbjjbooalkkbaaGreatDoor.P
open Go.RowKit Go.Proofs.YtdbjjbooalkkbaaGreatDoorW.PrintWords

theorem one_row {α : Type} (d : Kd α) {w : World} {g t : Nat} {cs : List Value} {x : α} (hb : w.heap[g]? = some (.cells cs.toArray t (0, 0))) (hK : d.K w x cs) : d.C w (some ⟨g, 0, none⟩) 1 [x] := by
  refine ⟨rfl, by decide, fun _ => ⟨_, rfl, fun j p hj => ?_⟩⟩
  cases j with
  | succ j => simp at hj
  | zero =>
    obtain rfl : x = p := by simpa using hj
    refine ⟨cs, d.K_len hK, hK, fun i u hi => ?_⟩
    rw [add_plain]
    simp [World.cell?, hb, hi]
def exC : S51 := ⟨0, ⟨0, 0⟩, ⟨#[76]⟩, ⟨#[82]⟩⟩
def exQ : S75 := ⟨0, ⟨1, 0⟩⟩
def exR : S47 := ⟨⟨#[]⟩, [exC], [exQ], ⟨#[]⟩⟩
set_option maxHeartbeats 1000000 in
theorem example_walk (w : World) : Calls Tryz.prog 32 #[] w fun e w' => (∃ A c, e = .returned (.agg #[.int .i64 1, .int .i64 1, .int .i64 0, .slice A 1 c]) ∧ 1 ≤ c ∧ Kd.C k47 w' A 1 [exR]) ∧ Below w.heap.size w w' := by
  go_enter Tryz.func32, Tryz.ntmps32
  go_wp2
  refine bodyPost_ret (v := .agg #[.int .i64 1, .int .i64 1, .int .i64 0, .slice (some ⟨w.heap.size + 1 + 1 + 1, 0, none⟩) 1 1]) (by simp [results, Tryz.results32, go_sem]) rfl ?_
  obtain ⟨w1, h1⟩ : ∃ w1, w1 = w.alloc (.cells #[.int .i64 1, .int .i64 1, .int .i64 0, .slice (some ⟨w.heap.size + 1 + 1 + 1, 0, none⟩) 1 1] 25) := ⟨_, rfl⟩
  have s1 : w1.heap.size = w.heap.size + 1 := by rw [h1]; simp
  have b1 : Below w.heap.size w w1 := by rw [h1]; exact below_alloc (Below.refl _ _) _
  rw [← h1]
  clear h1
  obtain ⟨w2, h2⟩ : ∃ w2, w2 = w1.alloc (.cells #[.int .i64 0, .int .i64 0, .int .i64 0, .string ⟨#[76]⟩, .string ⟨#[82]⟩] 51) := ⟨_, rfl⟩
  have s2 : w2.heap.size = w.heap.size + 1 + 1 := by rw [h2]; simp [s1]
  have z1 : Blk (w.heap.size + 1) 51 #[.int .i64 0, .int .i64 0, .int .i64 0, .string ⟨#[76]⟩, .string ⟨#[82]⟩] w2 := by rw [h2, ← s1]; exact Blk.new _ _ _
  have b2 : Below w.heap.size w w2 := by rw [h2]; exact below_alloc b1 _
  rw [← h2]
  clear h2
  obtain ⟨w3, h3⟩ : ∃ w3, w3 = w2.alloc (.cells #[.int .i64 0, .int .i64 1, .int .i64 0] 75) := ⟨_, rfl⟩
  have s3 : w3.heap.size = w.heap.size + 1 + 1 + 1 := by rw [h3]; simp [s2]
  have z2 : Blk (w.heap.size + 1 + 1) 75 #[.int .i64 0, .int .i64 1, .int .i64 0] w3 := by rw [h3, ← s2]; exact Blk.new _ _ _
  have z1 : Blk (w.heap.size + 1) 51 #[.int .i64 0, .int .i64 0, .int .i64 0, .string ⟨#[76]⟩, .string ⟨#[82]⟩] w3 := by rw [h3]; exact z1.alloc _
  have b3 : Below w.heap.size w w3 := by rw [h3]; exact below_alloc b2 _
  rw [← h3]
  clear h3
  have z3 := Blk.new w3 47 #[.string ⟨#[]⟩, .slice (some ⟨w.heap.size + 1, 0, none⟩) 1 1, .slice (some ⟨w.heap.size + 1 + 1, 0, none⟩) 1 1, .string ⟨#[]⟩]
  have z1 := z1.alloc (.cells #[.string ⟨#[]⟩, .slice (some ⟨w.heap.size + 1, 0, none⟩) 1 1, .slice (some ⟨w.heap.size + 1 + 1, 0, none⟩) 1 1, .string ⟨#[]⟩] 47)
  have z2 := z2.alloc (.cells #[.string ⟨#[]⟩, .slice (some ⟨w.heap.size + 1, 0, none⟩) 1 1, .slice (some ⟨w.heap.size + 1 + 1, 0, none⟩) 1 1, .string ⟨#[]⟩] 47)
  have b4 := below_alloc b3 (.cells #[.string ⟨#[]⟩, .slice (some ⟨w.heap.size + 1, 0, none⟩) 1 1, .slice (some ⟨w.heap.size + 1 + 1, 0, none⟩) 1 1, .string ⟨#[]⟩] 47)
  rw [s3] at z3
  refine ⟨⟨_, _, rfl, Nat.le_refl _, one_row k47 z3.out ?_⟩, b4⟩
  exact k47_mk _ exR (A1 := some ⟨w.heap.size + 1, 0, none⟩) (c1 := 1) (by decide) (one_row k51 z1.out (k51_mk _ exC)) (A2 := some ⟨w.heap.size + 1 + 1, 0, none⟩) (c2 := 1) (by decide) (one_row k75 z2.out (k75_mk _ exQ))
def exT : ByteArray := ⟨#[115, 105, 122, 101, 32, 49, 32, 49, 32, 48, 10, 114, 117, 110, 103, 10, 110, 111, 32, 73, 48, 32, 76, 32, 82, 10, 111, 117, 116, 32, 81, 48, 10]⟩
theorem ex_print : printP 1 1 0 [exR] = (exT, 0) := by
  have h0 : exR.f0.toList = ([] : List UInt8) := by rw [ByteArray.toList_eq]; rfl
  have hj : jumpPr exR.f3 = 0 := if_pos (by rw [ByteArray.toList_eq]; rfl)
  have hr : rungP 1 1 0 [] exR = 0 := by
    unfold rungP bodyP restP tailP
    rw [if_pos h0, hj]
    decide
  have h : checkP 1 1 0 [exR] = (1, 0) := by
    unfold checkP
    rw [if_pos (by decide), if_neg (by decide), scanR, if_pos hr, scanR, scanJ, if_pos (show exR.f3.toList = ([] : List UInt8) by rw [ByteArray.toList_eq]; rfl), scanJ]
    rfl
  have ht : ladderT 1 1 0 [exR] = exT.data.toList := by
    have i0 : Lib.itoa 0 = [48] := by unfold Lib.itoa Lib.decDigits; rfl
    have i1 : Lib.itoa 1 = [49] := by unfold Lib.itoa Lib.decDigits; rfl
    have f0 : fmtB 0 0 = ⟨#[73, 48]⟩ := by unfold fmtB; rw [if_pos (by decide), i0]; rfl
    have f1 : fmtB 1 0 = ⟨#[81, 48]⟩ := by unfold fmtB; rw [if_pos (by decide), i0]; rfl
    simp only [ladderT, sizeT, rungsT, rungT, consT, coilsT, jumpT, conWords, coilWords, exR, exC, exQ, f0, f1, itoaB, i0, i1, List.map_cons, List.map_nil]
    decide
  unfold printP printRes
  rw [h, if_pos rfl, ht, if_neg (by decide)]
theorem print_ex (A : Option Addr) (c : Nat) (W : World) (hc : 1 ≤ c) (hr : Kd.C k47 W A 1 [exR]) (hL : Aside0 (LaidW 50 W)) :
    Calls Tryz.prog 16 #[.agg #[.int .i64 1, .int .i64 1, .int .i64 0, .slice A 1 c]] W fun e w' => e = .returned (.tuple #[.string exT, .int .i64 0]) ∧ Below W.heap.size W w' :=
  printer_Print.calls 1 1 0 A c [exR] exT 0 W hr hc hL (by unfold printer_Print.f; rw [ex_print])
def law11_alive.f : Option Bool := some true
set_option maxHeartbeats 1000000 in
theorem law11_alive.calls (r : Bool) (w : World) (hL : Aside0 (LaidW 50 w)) (h : law11_alive.f = some r) : Calls Tryz.prog 15 #[] w fun e w' => e = .returned (.bool r) ∧ Below w.heap.size w w' := by
  obtain rfl := Option.some.inj h
  have HE := Lib.hid (example_walk w)
  have HP := Lib.hid (fun A c W hc hr (hb : Below w.heap.size w W) => print_ex A c W hc hr (LaidW.below hL rfl hb))
  have ht : exT.toList = [115, 105, 122, 101, 32, 49, 32, 49, 32, 48, 10, 114, 117, 110, 103, 10, 110, 111, 32, 73, 48, 32, 76, 32, 82, 10, 111, 117, 116, 32, 81, 48, 10] := by rw [ByteArray.toList_eq]; rfl
  clear hL h
  go_enter Tryz.func15, Tryz.ntmps15
  go_wp2_with (first
    | (go_at_call 32; (with_reducible refine HE.out.mono ?_); rintro e w1 ⟨⟨A, c, rfl, hc, hr⟩, hb⟩; have HX := Lib.hid (And.intro hc (And.intro hr hb)); clear hc hr hb)
    | (go_at_call 16; (with_reducible refine (HP.out _ _ _ HX.out.1 HX.out.2.1 HX.out.2.2).mono ?_); rintro e w2 ⟨rfl, hb⟩; have HY := Lib.hid hb; clear hb))
  go_ret
  exact ⟨by first | rfl | (simp [ht]; done) | (rw [show exT = (⟨#[115, 105, 122, 101, 32, 49, 32, 49, 32, 48, 10, 114, 117, 110, 103, 10, 110, 111, 32, 73, 48, 32, 76, 32, 82, 10, 111, 117, 116, 32, 81, 48, 10]⟩ : ByteArray) from rfl]; simp), HX.out.2.2.trans (HY.out.mono HX.out.2.2.size)⟩
end Go.Proofs.YtdbjjbooalkkbaaGreatDoor.P

/- lex.Join: the words of each line, joined by spaces, and a newline. -/
import Derived.Test.YthidobgadndclaaDoorXStrings
import Derived.Test.YthidobgadndclaaDoorXBuild
import Derived.Test.YthidobgadndclaaDoorXAddr
import Derived.Test.YthidobgadndclaaDoorPL0
namespace Go.Proofs.YthidobgadndclaaDoor.P
open Go.RowKit Go.Shelf Go.Proofs.YthidobgadndclaaDoorW.PrintWords

theorem write_any (B b : Nat) (l : List UInt8) (s : ByteArray) (w : World) (h : Lib.IsBuilderF 78 5 B b (Lib.byteCells l) w) (hlen : l.length + s.size ≤ 140737488355328) (hBw : B ≤ w.heap.size) :
    Calls Tryd.prog 44 #[.pointer (some ⟨b, 0, none⟩), .string s] w fun e w' => e = .returned (.tuple #[.int .i64 s.size, .nilIface]) ∧ Lib.IsBuilderF 78 5 B b (Lib.byteCells (l ++ s.data.toList)) w' ∧ Below B w w' := by
  refine (Any.Builder_WriteString_k lays166 Tryd.Builder_Extra_155 B b (Lib.byteCells l) s w h (by simpa [Lib.byteCells] using hlen) hBw).mono fun e w' ⟨he, hb, hbe, _⟩ => ⟨he, .inr ?_, hbe⟩
  rw [show Lib.byteCells (l ++ s.data.toList) = Lib.byteCells l ++ Lib.strCells s by simp [Lib.byteCells, Lib.strCells]]
  exact hb
theorem string_any (B b : Nat) (l : List UInt8) (w : World) (h : Lib.IsBuilderF 78 5 B b (Lib.byteCells l) w) (hBw : B ≤ w.heap.size) :
    Calls Tryd.prog 45 #[.pointer (some ⟨b, 0, none⟩)] w fun e w' => e = .returned (.string ⟨l.toArray⟩) ∧ Lib.IsBuilderF 78 5 B b (Lib.byteCells l) w' ∧ Below B w w' :=
  (Any.Builder_String_any_k (ρ := Tryd.lays155_ren) { Tryd.lays155 with } Tryd.Builder_Extra_155 B b l w h hBw).mono fun _ _ ⟨he, hb, hbe, _⟩ => ⟨he, hb, hbe⟩
theorem builderF_below {T e B b : Nat} {bs : List Value} {w w' : World} (h : Lib.IsBuilderF T e B b bs w) (hb : Below w.heap.size w w') : Lib.IsBuilderF T e B b bs w' := by
  have one : ∀ {p : Value}, Lib.BuilderAtF T e B b p bs w → Lib.BuilderAtF T e B b p bs w' := by
    intro p h
    have hlt := h.lt
    obtain ⟨h1, v, h2, h3, h4⟩ := h
    refine ⟨h1, v, (hb.block b hlt).trans h2, ⟨h3.1, ?_⟩, h4⟩
    rcases h3.2 with h5 | ⟨g, cap, cur, fz, e1, e2, e3, e4⟩
    · exact .inl h5
    · exact .inr ⟨g, cap, cur, fz, e1, e2, (hb.block g (Array.getElem?_eq_some_iff.1 e3).1).trans e3, e4⟩
  exact h.elim (fun h => .inl (one h)) (fun h => .inr (one h))
/-- A line's words, joined by spaces. -/
def lineText (x : S32) : List UInt8 := Lib.join (x.f1.map (·.data.toList)) [32]
def joinText (l : List S32) : List UInt8 := (l.map fun x => lineText x ++ [10]).flatten
theorem joinText_take (l : List S32) (k : Nat) (x : S32) (h : l[k]? = some x) : joinText (l.take (k + 1)) = joinText (l.take k) ++ (lineText x ++ [10]) := by
  unfold joinText
  rw [List.take_add_one, h]
  simp
theorem joinText_le (l : List S32) (k : Nat) : (joinText (l.take k)).length ≤ (joinText l).length := by
  conv => rhs; rw [← List.take_append_drop k l]
  unfold joinText
  rw [List.map_append, List.flatten_append, List.length_append]
  omega
def lex_Join.f (l : List S32) : Option ByteArray :=
  if (joinText l).length ≤ 140737488355328 ∧ l.length ≤ 140737488355328 ∧ l.all (fun x => decide (x.f1.length ≤ 140737488355328)) = true then some ⟨(joinText l).toArray⟩ else none
set_option maxRecDepth 100000 in
set_option maxHeartbeats 4000000 in
theorem join_walk (A : Option Addr) (c : Nat) (l : List S32) (w : World) (hC : Kd.C k32 w A l.length l) (_ : l.length ≤ c) (h1 : (joinText l).length ≤ 140737488355328) (h2 : l.length ≤ 140737488355328) (h3 : ∀ x ∈ l, x.f1.length ≤ 140737488355328) :
    Calls Tryd.prog 21 #[.slice A l.length c] w fun e w' => e = .returned (.string ⟨(joinText l).toArray⟩) ∧ Below w.heap.size w w' := by
  have HC := Lib.hid hC
  have H1 := Lib.hid h1
  have H3 := Lib.hid h3
  clear hC h1 h3
  go_enter Tryd.func21, Tryd.ntmps21
  go_wp2
  go_loopw [8] (fun i wr => ∃ k : Nat, k ≤ l.length ∧ i = .int .i64 k ∧ Hid (Lib.IsBuilderF 78 5 w.heap.size w.heap.size (Lib.byteCells (joinText (l.take k))) wr) ∧ Hid (Below w.heap.size w wr)) (fun i _ => l.length - (intOf i).toNat)
  case atStart => exact ⟨0, Nat.zero_le _, rfl, Lib.hid (Lib.IsBuilderF.of (Lib.fresh_isBuilder _ _ _)), Lib.hid (below_alloc (Below.refl _ _) _)⟩
  case round =>
    obtain ⟨k, hk, rfl, HB, HW⟩ := hrel
    by_cases hlt : k < l.length
    · obtain ⟨ad, A1, c1, rfl, hx0, hx1, hl1, hr1⟩ := at_T32 (Kd.C_below HC.out HW.out) k (by omega) (by omega)
      obtain ⟨x, hx⟩ : ∃ x, x = rd_T32 l (k : Int) := ⟨_, rfl⟩
      rw [← hx] at hx0 hx1 hl1 hr1
      rw [Int.toNat_natCast] at hx0 hx1
      have hkx : l[k]? = some x := by
        rw [hx]
        unfold rd_T32
        rw [Int.toNat_natCast, List.getD_eq_getElem?_getD, List.getElem?_eq_getElem hlt]
        rfl
      have hxl := H3.out x (List.mem_of_getElem? hkx)
      have hjt := joinText_take l k x hkx
      have hle := joinText_le l (k + 1)
      have h1 := H1.out
      rw [hjt, List.length_append, List.length_append] at hle
      obtain ⟨t, ht⟩ : ∃ t : ByteArray, t = ⟨(lineText x).toArray⟩ := ⟨_, rfl⟩
      have hts : t.size = (lineText x).length := by rw [ht]; show Array.size _ = _; simp
      have hJ : strings_Join.f x.f1 (⟨#[32]⟩ : ByteArray) = some t := by
        unfold strings_Join.f
        rw [if_pos ⟨hxl, by show (lineText x).length ≤ _; omega⟩, ht]
        rfl
      have hsz : ¬ 9223372036854775807 < t.size + 1 := by omega
      have hlen : (joinText (l.take k)).length + (t ++ (⟨#[10]⟩ : ByteArray)).size ≤ 140737488355328 := by
        rw [ByteArray.size_append, hts]
        have : (⟨#[10]⟩ : ByteArray).size = 1 := rfl
        simp at hle
        omega
      have htl : (t ++ (⟨#[10]⟩ : ByteArray)).data.toList = lineText x ++ [10] := by rw [ht, ByteArray.data_append]; simp
      have HJ := Lib.hid hJ
      have HT := Lib.hid htl
      have HR := Lib.hid hr1
      have HL := Lib.hid hl1
      have HN := Lib.hid hlen
      have HS := Lib.hid hjt
      clear hJ htl hr1 hl1 hlen hjt hle h1 hts ht hxl hkx hx
      have HR2 := Lib.hid (fun (o : Obj) => Kd.C_below HR.out (below_alloc (Below.refl wr.heap.size wr) o))
      have HS0 := Lib.hid HW.out.size
      go_wp2_with (first | (go_at_call 18; (with_reducible refine (strings_Join.calls A1 c1 x.f1 _ t _ (HR2.out _) HL.out HJ.out).mono ?_); rintro e w1 ⟨rfl, hb1⟩; have HB1 := Lib.hid ((below_alloc (Below.refl wr.heap.size wr) _).trans (hb1.mono (by simp))); clear hb1) | (go_at_call 44; (with_reducible refine (write_any w.heap.size w.heap.size (joinText (l.take k)) (t ++ (⟨#[10]⟩ : ByteArray)) _ (builderF_below HB.out HB1.out) HN.out (Nat.le_trans HS0.out HB1.out.size)).mono ?_); rintro e w2 ⟨rfl, hB2, hb2⟩; have HB2 := Lib.hid hB2; have HW2 := Lib.hid ((HW.out.trans (HB1.out.mono HS0.out)).trans hb2); clear hB2 hb2))
      go_roundw
      case rel => exact ⟨k + 1, by omega, by go_num, Lib.hid (by rw [HS.out, ← HT.out]; exact HB2.out), HW2⟩
      case measure => simp [intOf]; omega
    · obtain rfl : k = l.length := by omega
      have HE := Lib.hid (fun W h hb => string_any w.heap.size w.heap.size (joinText l) W h hb)
      have HB2 : Lib.IsBuilderF 78 5 w.heap.size w.heap.size (Lib.byteCells (joinText l)) wr := by have := HB.out; rwa [List.take_length] at this
      have HB3 := Lib.hid HB2
      clear HB2 HB
      go_wp2_with (go_at_call 45; (with_reducible refine (HE.out _ HB3.out HW.out.size).mono ?_); rintro e w2 ⟨rfl, hb2, hb3⟩; have HZ := Lib.hid (HW.out.trans hb3); clear hb2 hb3)
      go_ret
      exact ⟨rfl, HZ.out⟩
/-- lex.Join, as the printed texts ask for it. -/
theorem lex_Join.calls (A : Option Addr) (c : Nat) (l : List S32) (r : ByteArray) (w : World) (hC : Kd.C k32 w A l.length l) (hc : l.length ≤ c) (h : lex_Join.f l = some r) :
    Calls Tryd.prog 21 #[.slice A l.length c] w fun e w' => e = .returned (.string r) ∧ Below w.heap.size w w' := by
  unfold lex_Join.f at h
  split at h
  case isFalse => cases h
  case isTrue hs =>
  obtain ⟨h1, h2, h3⟩ := hs
  obtain rfl := Option.some.inj h
  exact join_walk A c l w hC hc h1 h2 (fun x hx => of_decide_eq_true (List.all_eq_true.mp h3 x hx))
end Go.Proofs.YthidobgadndclaaDoor.P

/- printer.Print: of a ladder that Check accepts, its canonical text, or that it is too long; of another, Check's error. -/
import Derived.Test.YtdbjjbooalkkbaaDoorXBuildP
import Derived.Test.YtdbjjbooalkkbaaDoorXAddr
import Derived.Test.YtdbjjbooalkkbaaDoorPQ6
import Derived.Deep.RegionHeld3
import Derived.Deep.DeepCutAuto
namespace Go.Proofs.YtdbjjbooalkkbaaDoor.P
open Go.RowKit Go.Shelf Go.Proofs.YtdbjjbooalkkbaaDoorW.PrintWords

/-! ### the text, plainly -/
def kwC : List ByteArray := [⟨#[110, 111]⟩, ⟨#[110, 99]⟩, ⟨#[117, 112]⟩, ⟨#[100, 111, 119, 110]⟩]
def kwQ : List ByteArray := [⟨#[111, 117, 116]⟩, ⟨#[110, 111, 116]⟩, ⟨#[115, 101, 116]⟩, ⟨#[114, 101, 115, 101, 116]⟩]
def wSize : ByteArray := ⟨#[115, 105, 122, 101]⟩
def wRung : ByteArray := ⟨#[114, 117, 110, 103]⟩
def wJump : ByteArray := ⟨#[106, 117, 109, 112]⟩
def itoaB (n : Int) : ByteArray := ⟨(Lib.itoa n).toArray⟩
def fmtB (s n : Int) : ByteArray := if 0 ≤ s ∧ s ≤ 2 ∧ 0 ≤ n ∧ n ≤ 255 then ⟨(letterB s :: Lib.itoa n).toArray⟩ else ⟨#[]⟩
def conWords (c : S44) : List ByteArray := [kwC.getD c.f0.toNat ByteArray.empty, fmtB c.f1.f0 c.f1.f1, c.f2, c.f3]
def coilWords (c : S47) : List ByteArray := [kwQ.getD c.f0.toNat ByteArray.empty, fmtB c.f1.f0 c.f1.f1]
def consT (l : List S44) : List UInt8 := (l.map fun c => lineL (conWords c)).flatten
def coilsT (l : List S47) : List UInt8 := (l.map fun c => lineL (coilWords c)).flatten
def jumpT (j : ByteArray) : List UInt8 := if j.size = 0 then [] else lineL [wJump, j]
def rungT (r : S28) : List UInt8 := lineL [wRung, r.f0] ++ consT r.f1 ++ coilsT r.f2 ++ jumpT r.f3
def rungsT (l : List S28) : List UInt8 := (l.map rungT).flatten
def sizeT (I Q M : Int) : List UInt8 := lineL [wSize, itoaB I, itoaB Q, itoaB M]
def ladderT (I Q M : Int) (l : List S28) : List UInt8 := sizeT I Q M ++ rungsT l

theorem flat_take {α : Type} (f : α → List UInt8) (l : List α) (k : Nat) (x : α) (h : l[k]? = some x) : ((l.take (k + 1)).map f).flatten = ((l.take k).map f).flatten ++ f x := by
  rw [List.take_add_one, h]
  simp
theorem flat_le {α : Type} (f : α → List UInt8) (l : List α) (k : Nat) : ((l.take k).map f).flatten.length ≤ (l.map f).flatten.length := by
  conv => rhs; rw [← List.take_append_drop k l]
  rw [List.map_append, List.flatten_append, List.length_append]
  omega
theorem flat_bound {α : Type} (f : α → List UInt8) (b : Nat) (l : List α) (h : ∀ x ∈ l, (f x).length ≤ b) : (l.map f).flatten.length ≤ l.length * b := by
  induction l with
  | nil => simp
  | cons x r ih =>
    have h1 := h x (by simp)
    have h2 := ih (fun y hy => h y (by simp [hy]))
    rw [List.map_cons, List.flatten_cons, List.length_append, List.length_cons, Nat.succ_mul]
    omega
theorem seg_len (i : Nat) (s : ByteArray) : (seg i s).length ≤ 1 + s.size := by
  unfold seg
  have : s.data.toList.length = s.size := Array.length_toList
  rw [List.length_append]
  split <;> simp <;> omega
theorem itoaB_len (n : Int) (h0 : 0 ≤ n) (h1 : n < 1000) : (itoaB n).size ≤ 3 := itoa_len n h0 h1
theorem fmtB_len (s n : Int) : (fmtB s n).size ≤ 4 := by
  unfold fmtB
  split
  · rename_i h
    have := itoa_len n h.2.2.1 (by omega)
    show (letterB s :: Lib.itoa n).toArray.size ≤ 4
    simp
    omega
  · exact Nat.zero_le _
theorem kwC_len (k : Nat) : (kwC.getD k ByteArray.empty).size ≤ 5 := by
  match k with
  | 0 => decide
  | 1 => decide
  | 2 => decide
  | 3 => decide
  | k + 4 => simp [kwC]
theorem kwQ_len (k : Nat) : (kwQ.getD k ByteArray.empty).size ≤ 5 := by
  match k with
  | 0 => decide
  | 1 => decide
  | 2 => decide
  | 3 => decide
  | k + 4 => simp [kwQ]

/-- What Check says of a ladder that it accepts, as far as Print's walk asks it. -/
structure Tame (I Q M : Int) (l : List S28) : Prop where
  i : 0 ≤ I ∧ I ≤ 256
  q : 0 ≤ Q ∧ Q ≤ 256
  m : 0 ≤ M ∧ M ≤ 256
  n : l.length ≤ 64
  label : ∀ r ∈ l, r.f0.size ≤ 16
  jump : ∀ r ∈ l, r.f3.size ≤ 16
  cons : ∀ r ∈ l, r.f1.length ≤ 256
  coils : ∀ r ∈ l, r.f2.length ≤ 16
  con : ∀ r ∈ l, ∀ c ∈ r.f1, 0 ≤ c.f0 ∧ c.f0 < 4 ∧ c.f2.size ≤ 16 ∧ c.f3.size ≤ 16
  coil : ∀ r ∈ l, ∀ c ∈ r.f2, 0 ≤ c.f0 ∧ c.f0 < 4
theorem lineL_len (l : List ByteArray) : (lineL l).length = (segs 0 l).length + 1 := by unfold lineL; rw [List.length_append]; rfl
theorem con_len (c : S44) (h : c.f2.size ≤ 16 ∧ c.f3.size ≤ 16) : (lineL (conWords c)).length ≤ 46 := by
  rw [lineL_len]
  unfold conWords
  simp only [segs, List.length_append, List.length_nil]
  have h0 := seg_len 0 (kwC.getD c.f0.toNat ByteArray.empty)
  have h1 := seg_len (0 + 1) (fmtB c.f1.f0 c.f1.f1)
  have h2 := seg_len (0 + 1 + 1) c.f2
  have h3 := seg_len (0 + 1 + 1 + 1) c.f3
  have k0 := kwC_len c.f0.toNat
  have k1 := fmtB_len c.f1.f0 c.f1.f1
  omega
theorem coil_len (c : S47) : (lineL (coilWords c)).length ≤ 46 := by
  rw [lineL_len]
  unfold coilWords
  simp only [segs, List.length_append, List.length_nil]
  have h0 := seg_len 0 (kwQ.getD c.f0.toNat ByteArray.empty)
  have h1 := seg_len (0 + 1) (fmtB c.f1.f0 c.f1.f1)
  have k0 := kwQ_len c.f0.toNat
  have k1 := fmtB_len c.f1.f0 c.f1.f1
  omega
theorem two_len (a b : ByteArray) (h : a.size ≤ 4) (h2 : b.size ≤ 16) : (lineL [a, b]).length ≤ 46 := by
  rw [lineL_len]
  simp only [segs, List.length_append, List.length_nil]
  have h0 := seg_len 0 a
  have h1 := seg_len (0 + 1) b
  omega
theorem sizeT_len {I Q M : Int} {l : List S28} (h : Tame I Q M l) : (sizeT I Q M).length ≤ 46 := by
  unfold sizeT
  rw [lineL_len]
  simp only [segs, List.length_append, List.length_nil]
  have h0 := seg_len 0 wSize
  have h1 := seg_len (0 + 1) (itoaB I)
  have h2 := seg_len (0 + 1 + 1) (itoaB Q)
  have h3 := seg_len (0 + 1 + 1 + 1) (itoaB M)
  have k1 := itoaB_len I h.i.1 (by have := h.i.2; omega)
  have k2 := itoaB_len Q h.q.1 (by have := h.q.2; omega)
  have k3 := itoaB_len M h.m.1 (by have := h.m.2; omega)
  have k0 : wSize.size = 4 := rfl
  omega
theorem rungT_len {I Q M : Int} {l : List S28} (h : Tame I Q M l) (r : S28) (hr : r ∈ l) : (rungT r).length ≤ 14000 := by
  unfold rungT
  simp only [List.length_append]
  have h0 := two_len wRung r.f0 (by decide) (h.label r hr)
  have h1 := flat_bound (fun c => lineL (conWords c)) 46 r.f1 (fun c hc => con_len c (h.con r hr c hc).2.2)
  have h2 := flat_bound (fun c => lineL (coilWords c)) 46 r.f2 (fun c _ => coil_len c)
  have h3 : (jumpT r.f3).length ≤ 46 := by
    unfold jumpT
    split
    · simp
    · exact two_len wJump r.f3 (by decide) (h.jump r hr)
  have h4 := h.cons r hr
  have h5 := h.coils r hr
  unfold consT coilsT
  have h6 : r.f1.length * 46 ≤ 256 * 46 := Nat.mul_le_mul_right _ h4
  have h7 : r.f2.length * 46 ≤ 16 * 46 := Nat.mul_le_mul_right _ h5
  omega
theorem ladderT_len {I Q M : Int} {l : List S28} (h : Tame I Q M l) : (ladderT I Q M l).length ≤ 1000000 := by
  unfold ladderT rungsT
  rw [List.length_append]
  have h0 := sizeT_len h
  have h1 := flat_bound rungT 14000 l (fun r hr => rungT_len h r hr)
  have h2 : l.length * 14000 ≤ 64 * 14000 := Nat.mul_le_mul_right _ h.n
  omega

theorem rd40_at (l : List S28) (k : Nat) (x : S28) (h : l[k]? = some x) : rd_T28 l (k : Int) = x := by
  unfold rd_T28
  rw [Int.toNat_natCast, List.getD_eq_getElem?_getD, h]
  rfl
theorem rd50_at (l : List S44) (k : Nat) (x : S44) (h : l[k]? = some x) : rd_T44 l (k : Int) = x := by
  unfold rd_T44
  rw [Int.toNat_natCast, List.getD_eq_getElem?_getD, h]
  rfl
theorem rd53_at (l : List S47) (k : Nat) (x : S47) (h : l[k]? = some x) : rd_T47 l (k : Int) = x := by
  unfold rd_T47
  rw [Int.toNat_natCast, List.getD_eq_getElem?_getD, h]
  rfl

/-! ### the keywords -/
theorem words_clone (g : Nat) (ws : List ByteArray) (w : World) (hn : ws.length = 4) (hc : ∀ j, j < 4 → w.cell? ⟨g, j, none⟩ = some (.string (ws.getD j ByteArray.empty))) :
    Calls Tryd.prog 39 #[.slice (some ⟨g, 0, none⟩) 4 4] w fun e w' => (∃ h cap, e = .returned (.slice (some ⟨h, 0, none⟩) 4 cap) ∧ ∀ j, j < 4 → w'.cell? ⟨h, j, none⟩ = some (.string (ws.getD j ByteArray.empty))) ∧ Below w.heap.size w w' := by
  refine (Tryd.slices_Clone_string g 0 4 4 ws w (by omega) (by decide) (fun j hj => by rw [Nat.zero_add]; exact hc j (by omega))).mono ?_
  rintro e w' ⟨v', rfl, hown, _, hb⟩
  refine ⟨?_, hb⟩
  obtain ⟨h, cap, rfl, _, _⟩ := hown.form (by decide)
  refine ⟨h, cap, rfl, fun j hj => ?_⟩
  have := hown.cells (g := h) rfl j (.string (ws.getD j ByteArray.empty)) (by
    rw [List.getElem?_map, List.take_of_length_le (by omega), List.getElem?_eq_getElem (by omega), List.getD_eq_getElem?_getD, List.getElem?_eq_getElem (by omega)]
    rfl)
  rwa [add_plain] at this
set_option maxHeartbeats 1000000 in
theorem kwC_walk (w : World) (hl : LaidKey w) : Calls Tryd.prog 16 #[] w fun e w' => (∃ h cap, e = .returned (.slice (some ⟨h, 0, none⟩) 4 cap) ∧ ∀ j, j < 4 → w'.cell? ⟨h, j, none⟩ = some (.string (kwC.getD j ByteArray.empty))) ∧ Below w.heap.size w w' := by
  have H := Lib.hid (words_clone 0 kwC w rfl (fun j hj => by
    match j, hj with
    | 0, _ => exact hl.a0
    | 1, _ => exact hl.a1
    | 2, _ => exact hl.a2
    | 3, _ => exact hl.a3))
  clear hl
  go_enter Tryd.func16, Tryd.ntmps16
  go_wp2_with (go_at_call 39; (with_reducible refine H.out.mono ?_); rintro e w1 ⟨⟨g1, cap1, rfl, hcs⟩, hb⟩; have HX := Lib.hid (And.intro hcs hb); clear hcs hb)
  go_ret
  exact ⟨⟨_, _, rfl, HX.out.1⟩, HX.out.2⟩
set_option maxHeartbeats 1000000 in
theorem kwQ_walk (w : World) (hl : LaidKey w) : Calls Tryd.prog 17 #[] w fun e w' => (∃ h cap, e = .returned (.slice (some ⟨h, 0, none⟩) 4 cap) ∧ ∀ j, j < 4 → w'.cell? ⟨h, j, none⟩ = some (.string (kwQ.getD j ByteArray.empty))) ∧ Below w.heap.size w w' := by
  have H := Lib.hid (words_clone 1 kwQ w rfl (fun j hj => by
    match j, hj with
    | 0, _ => exact hl.b0
    | 1, _ => exact hl.b1
    | 2, _ => exact hl.b2
    | 3, _ => exact hl.b3))
  clear hl
  go_enter Tryd.func17, Tryd.ntmps17
  go_wp2_with (go_at_call 39; (with_reducible refine H.out.mono ?_); rintro e w1 ⟨⟨g1, cap1, rfl, hcs⟩, hb⟩; have HX := Lib.hid (And.intro hcs hb); clear hcs hb)
  go_ret
  exact ⟨⟨_, _, rfl, HX.out.1⟩, HX.out.2⟩
end Go.Proofs.YtdbjjbooalkkbaaDoor.P

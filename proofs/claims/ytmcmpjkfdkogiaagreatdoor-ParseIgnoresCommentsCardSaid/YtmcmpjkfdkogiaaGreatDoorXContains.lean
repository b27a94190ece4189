/- slices.ContainsFunc with package printer's two closures: is there a rung with this label? The captured rung lies in a box. -/
import Derived.Test.YtmcmpjkfdkogiaaGreatDoorPQ0
import Derived.Shelf.SlicesQ.IndexFunc
namespace Go.Proofs
open Go.Shelf
def Tryz.lContains_ren : Go.Shelf.Ren := ⟨fun | 8 => 29 | 6 => 65 | n => n, fun | 22 => 23 | 23 => 47 | 25 => 73 | 4 => 4 | 3 => 3 | 0 => 0 | n => n, fun | n => n⟩
theorem Tryz.lContains : Go.Proofs.SlLaysH0.n8 Tryz.prog Tryz.lContains_ren := {
  mixed := by kernel_rfl
  f6 := ⟨Tryz.f65.name, by decide, Tryz.func65.trans (congrArg some (by kernel_rfl))⟩
  f8 := ⟨Tryz.f29.name, by decide, Tryz.func29.trans (congrArg some (by kernel_rfl))⟩
  t0 := Tryz.underlying0
  a0 := Tryz.isAgg0
  z0 := Tryz.sizeOf0
  v0 := Tryz.zeroValue0
  t3 := Tryz.underlying3
  a3 := Tryz.isAgg3
  z3 := Tryz.sizeOf3
  v3 := Tryz.zeroValue3
  t4 := Tryz.underlying4
  a4 := Tryz.isAgg4
  z4 := Tryz.sizeOf4
  v4 := Tryz.zeroValue4
  t22 := Tryz.underlying23
  a22 := Tryz.isAgg23
  z22 := Tryz.sizeOf23
  v22 := Tryz.zeroValue23
  t25 := Tryz.underlying73
  a25 := Tryz.isAgg73
  z25 := Tryz.sizeOf73
  v25 := Tryz.zeroValue73 }
end Go.Proofs
namespace Go.Proofs.YtmcmpjkfdkogiaaGreatDoor.P
open Go.Shelf Go.RowKit Go.Lib Go.Proofs.YtmcmpjkfdkogiaaGreatDoorW.PrintWords

abbrev Quad := ByteArray × Value × Value × ByteArray
def encQ (x : Quad) : List Value := [.string x.1, x.2.1, x.2.2.1, .string x.2.2.2]

theorem list_of {α : Type} (p : Nat → α → Prop) : ∀ n, (∀ i, i < n → ∃ x, p i x) → ∃ xs : List α, xs.length = n ∧ ∀ i x, xs[i]? = some x → p i x
  | 0, _ => ⟨[], rfl, fun i x h => by simp at h⟩
  | n + 1, h => by
    obtain ⟨xs, hl, hx⟩ := list_of p n (fun i hi => h i (by omega))
    obtain ⟨y, hy⟩ := h n (by omega)
    refine ⟨xs ++ [y], by simp [hl], fun i x hi => ?_⟩
    by_cases hlt : i < xs.length
    · rw [List.getElem?_append_left hlt] at hi
      exact hx i x hi
    · rw [List.getElem?_append_right (by omega)] at hi
      obtain ⟨h0, rfl⟩ : i = xs.length ∧ y = x := by
        cases hk : i - xs.length with
        | zero => rw [hk] at hi; exact ⟨by omega, by simpa using hi⟩
        | succ k => rw [hk] at hi; simp at hi
      rw [h0, hl]
      exact hy

theorem addr_plain {w : World} {ad : Addr} {n : Nat} {v : Value} (h : w.cell? (ad.add n) = some v) : (ad.add n).spot = none ∧ ad.block < w.heap.size := by
  have hb : (ad.add n).block = ad.block := by unfold Addr.add; split <;> rfl
  unfold World.cell? at h
  rw [hb] at h
  cases hk : w.heap[ad.block]? with
  | none => rw [hk] at h; cases h
  | some o =>
    have hlt : ad.block < w.heap.size := (Array.getElem?_eq_some_iff.mp hk).1
    rw [hk] at h
    cases o with
    | cells c t f =>
      cases hs : (ad.add n).spot with
      | none => exact ⟨rfl, hlt⟩
      | some q => simp [hs] at h
    | _ => cases h

theorem quads {w : World} {A : Option Addr} {l : List S47} (h : Kd.C k47 w A l.length l) (hn : 0 < l.length) :
    ∃ b off, ∃ zs : List Quad, A = some ⟨b, off, none⟩ ∧ b < w.heap.size ∧ zs.length = l.length ∧ (∀ j : Nat, zs[j]?.map (·.1) = l[j]?.map (·.f0)) ∧
      ∀ j, j < zs.length → ∀ i v, (encQ zs[j]!)[i]? = some v → w.cell? ⟨b, off + j * 4 + i, none⟩ = some v := by
  obtain ⟨_, _, hc⟩ := h
  obtain ⟨ad, rfl, hget⟩ := hc hn
  obtain ⟨zs, hzl, hz⟩ := list_of (fun j (z : Quad) => l[j]?.map (·.f0) = some z.1 ∧ ∀ i v, (encQ z)[i]? = some v → w.cell? (ad.add (j * 4 + i)) = some v) l.length (fun j hj => by
    have hj' := List.getElem?_eq_getElem hj
    obtain ⟨c, hcl, hK, hcell⟩ := hget j _ hj'
    obtain ⟨A1, c1, A2, c2, rfl, _⟩ := k47_open hK
    exact ⟨(l[j].f0, .slice A1 l[j].f1.length c1, .slice A2 l[j].f2.length c2, l[j].f3), by rw [hj']; rfl, fun i v hi => hcell i v hi⟩)
  have h0 : ∃ z, zs[0]? = some z := ⟨_, List.getElem?_eq_getElem (by omega)⟩
  obtain ⟨z, hz0⟩ := h0
  have hp := addr_plain ((hz 0 z hz0).2 0 (.string z.1) rfl)
  have hs : ad = ⟨ad.block, ad.off, none⟩ := by
    have h1 := hp.1
    rw [Nat.zero_mul, Nat.zero_add] at h1
    have : ad.spot = none := by simpa [Addr.add] using h1
    cases ad; simp_all
  refine ⟨ad.block, ad.off, zs, by rw [← hs], hp.2, hzl, fun j => ?_, fun j hj i v hi => ?_⟩
  · by_cases hj : j < zs.length
    · have e := List.getElem?_eq_getElem hj
      rw [(hz j _ e).1, e]; rfl
    · rw [List.getElem?_eq_none (by omega), List.getElem?_eq_none (by omega)]; rfl
  · have e := List.getElem?_eq_getElem hj
    rw [getElem!_pos zs j hj] at hi
    have := (hz j _ e).2 i v hi
    rw [hs, Addr.add_lit, ← Nat.add_assoc] at this
    exact this

/-- Is there a rung with this label? -/
def hasLabel (l : List S47) (a : ByteArray) : Bool := l.any fun x => x.f0.toList == a.toList
theorem any_map {α β : Type} (f : α → ByteArray) (g : β → ByteArray) (p : ByteArray → Bool) : ∀ (l : List α) (m : List β), (∀ j : Nat, l[j]?.map f = m[j]?.map g) → (l.any fun x => p (f x)) = m.any fun x => p (g x)
  | [], [], _ => rfl
  | [], y :: m, h => by have := h 0; simp at this
  | x :: l, [], h => by have := h 0; simp at this
  | x :: l, y :: m, h => by
    have h0 := h 0
    simp only [List.getElem?_cons_zero, Option.map_some, Option.some.injEq] at h0
    rw [List.any_cons, List.any_cons, h0, any_map f g p l m (fun j => by simpa using h (j + 1))]

def printer_rung_1.f (l : List S47) (a : ByteArray) : Option Bool := some (hasLabel l a)
def printer_Check_1.f (l : List S47) (a : ByteArray) : Option Bool := some (hasLabel l a)

theorem pred_rung (a : ByteArray) (B : Nat) (w : World) (hB : B < w.heap.size) (hcell : w.cell? ⟨B, 0, none⟩ = some (.string a)) :
    PredBelow Tryz.prog 85 #[.pointer (some ⟨B, 0, none⟩)] (fun x => .agg (encQ x).toArray) (fun x => x.1.toList == a.toList) w := fun W x hb => by
  have hc : W.cell? ⟨B, 0, none⟩ = some (.string a) := (hb.cell (p := ⟨B, 0, none⟩) hB).trans hcell
  have hBW : B < W.heap.size := Nat.lt_of_lt_of_le hB hb.size
  have hne : B ≠ W.heap.size := by omega
  obtain ⟨x0, x1, x2, x3⟩ := x
  show Calls Tryz.prog 85 #[.agg #[.string x0, x1, x2, .string x3], .pointer (some ⟨B, 0, none⟩)] W _
  go_enter Tryz.func85, Tryz.ntmps85
  go_wp2
  all_goals (go_ret; exact ⟨by simp_all, hb.alloc hb.size _⟩)
theorem pred_Check (a : ByteArray) (B : Nat) (w : World) (hB : B < w.heap.size) (hcell : w.cell? ⟨B, 3, none⟩ = some (.string a)) :
    PredBelow Tryz.prog 56 #[.pointer (some ⟨B, 0, none⟩)] (fun x => .agg (encQ x).toArray) (fun x => x.1.toList == a.toList) w := fun W x hb => by
  have hc : W.cell? ⟨B, 3, none⟩ = some (.string a) := (hb.cell (p := ⟨B, 3, none⟩) hB).trans hcell
  have hBW : B < W.heap.size := Nat.lt_of_lt_of_le hB hb.size
  have hne : B ≠ W.heap.size := by omega
  obtain ⟨x0, x1, x2, x3⟩ := x
  show Calls Tryz.prog 56 #[.agg #[.string x0, x1, x2, .string x3], .pointer (some ⟨B, 0, none⟩)] W _
  go_enter Tryz.func56, Tryz.ntmps56
  go_wp2
  all_goals (go_ret; exact ⟨by simp_all, hb.alloc hb.size _⟩)

/-- No rung: whatever the function. -/
theorem index_empty (fv : Value) (A : Option Addr) (c : Nat) (w : World) :
    Calls Tryz.prog 65 #[.slice A 0 c, fv] w fun e w' => e = .returned (.int .i64 (-1)) ∧ w' = w := by
  go_enter Tryz.func65, Tryz.ntmps65
  go_wp2
  go_loop [5, 8] (fun _ i => i = .int .i64 0) (fun _ _ => 0)
  case atStart => rfl
  case round =>
    subst hrel
    go_wp2
    go_ret
    exact ⟨rfl, rfl⟩
theorem contains_empty (fv : Value) (A : Option Addr) (c : Nat) (w : World) :
    Calls Tryz.prog 29 #[.slice A 0 c, fv] w fun e w' => e = .returned (.bool false) ∧ w' = w := by
  go_enter Tryz.func29, Tryz.ntmps29
  go_wp2_with (go_at_call 65; refine (index_empty _ _ _ _).mono ?_; rintro e w' ⟨rfl, rfl⟩)
  go_ret
  exact ⟨rfl, rfl⟩

theorem contains_walk (g : Nat) (eg : ∀ args w, (callFunc g args).run Tryz.prog w = .ok (.enter g args) w) (A : Option Addr) (c : Nat) (l : List S47) (a : ByteArray) (lb : Array Value) (w : World)
    (hC : Kd.C k47 w A l.length l) (hp : PredBelow Tryz.prog g lb (fun x => .agg (encQ x).toArray) (fun x => x.1.toList == a.toList) w) :
    Calls Tryz.prog 29 #[.slice A l.length c, .func (.func g) #[] lb] w fun e w' => e = .returned (.bool (hasLabel l a)) ∧ Below w.heap.size w w' := by
  by_cases hn : 0 < l.length
  · obtain ⟨b, off, zs, rfl, hb, hzl, hm, hcell⟩ := quads hC hn
    have := AnyQ.slices_ContainsFunc Tryz.lContains 4 Tryz.isAgg47 Tryz.sizeOf47 encQ (fun _ => rfl) (fun x => x.1.toList == a.toList) g lb eg b off l.length c zs w hp (by omega) hC.2.1 hb hcell
    refine this.mono ?_
    rintro e w' ⟨rfl, h⟩
    refine ⟨?_, h⟩
    rw [← hzl, List.take_length]
    unfold hasLabel
    rw [any_map (fun x : Quad => x.1) (fun x : S47 => x.f0) (fun x => x.toList == a.toList) zs l hm]
  · obtain rfl : l = [] := by cases l with
      | nil => rfl
      | cons x l => simp at hn
    refine (contains_empty _ A c w).mono ?_
    rintro e w' ⟨rfl, rfl⟩
    exact ⟨rfl, Below.refl _ _⟩

theorem cells_cell {w : World} {g t i : Nat} {cells : Array Value} {v : Value} (h : w.heap[g]? = some (.cells cells t (0, 0))) (hc : cells[i]? = some v) : g < w.heap.size ∧ w.cell? ⟨g, i, none⟩ = some v := by
  refine ⟨(Array.getElem?_eq_some_iff.mp h).1, ?_⟩
  unfold World.cell?
  rw [h]
  exact hc

theorem box_fact {w : World} {g t i : Nat} {cells : Array Value} {v : Value} (h : w.heap[g]? = some (.cells cells t (0, 0))) (hc : cells[i]? = some v) : ∃ cells, w.heap[g]? = some (.cells cells t (0, 0)) ∧ cells[i]? = some v := ⟨cells, h, hc⟩
theorem printer_rung_1.calls {gb : Nat} (A0 : Option Addr) (c0 : Nat) (l0 : List S47) (a1 : ByteArray) (r : Bool) (w : World)
    (hbx : ∃ cells, w.heap[gb]? = some (.cells cells 47 (0, 0)) ∧ cells[0]? = some (.string a1)) (hr0 : Kd.C k47 w A0 l0.length l0) (_ : l0.length ≤ c0) (h : printer_rung_1.f l0 a1 = some r) :
    Calls Tryz.prog 29 #[.slice A0 l0.length c0, .func (.func 85) #[] #[.pointer (some ⟨gb, 0, none⟩)]] w fun e w' => e = .returned (.bool r) ∧ Below w.heap.size w w' := by
  obtain rfl := Option.some.inj h
  obtain ⟨cells, hbx, hcl⟩ := hbx
  have hx := cells_cell hbx hcl
  exact contains_walk 85 (enters_of Tryz.func85 (by kernel_rfl) rfl) A0 c0 l0 a1 _ w hr0 (pred_rung a1 gb w hx.1 hx.2)
theorem printer_Check_1.calls {gb : Nat} (A0 : Option Addr) (c0 : Nat) (l0 : List S47) (a1 : ByteArray) (r : Bool) (w : World)
    (hbx : ∃ cells, w.heap[gb]? = some (.cells cells 47 (0, 0)) ∧ cells[3]? = some (.string a1)) (hr0 : Kd.C k47 w A0 l0.length l0) (_ : l0.length ≤ c0) (h : printer_Check_1.f l0 a1 = some r) :
    Calls Tryz.prog 29 #[.slice A0 l0.length c0, .func (.func 56) #[] #[.pointer (some ⟨gb, 0, none⟩)]] w fun e w' => e = .returned (.bool r) ∧ Below w.heap.size w w' := by
  obtain rfl := Option.some.inj h
  obtain ⟨cells, hbx, hcl⟩ := hbx
  have hx := cells_cell hbx hcl
  exact contains_walk 56 (enters_of Tryz.func56 (by kernel_rfl) rfl) A0 c0 l0 a1 _ w hr0 (pred_Check a1 gb w hx.1 hx.2)
end Go.Proofs.YtmcmpjkfdkogiaaGreatDoor.P

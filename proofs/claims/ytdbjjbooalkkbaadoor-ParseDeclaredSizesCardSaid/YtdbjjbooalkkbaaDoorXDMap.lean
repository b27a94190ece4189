/- ParseDeclaredSizes: the map of the sizes, the texts that are parsed. -/
import Derived.Test.YtdbjjbooalkkbaaDoorXPSizes
import Derived.Test.YtdbjjbooalkkbaaDoorXAlive10
import Derived.Test.YtdbjjbooalkkbaaDoorXItoa
import Derived.Maps.RangeRun
set_option linter.unusedVariables false
set_option linter.unusedSimpArgs false
namespace Go.Proofs.YtdbjjbooalkkbaaDoor.P
open Go.RowKit Go.Shelf Go.Proofs.YtdbjjbooalkkbaaDoorW.PrintWords Go.Proofs.YtdbjjbooalkkbaaDoorW.PrintLast Go.Proofs.YtdbjjbooalkkbaaDoorW.PrintMore

def itB (n : Nat) : ByteArray := mkB (Lib.decDigits n)
theorem itoa_nat' (n : Nat) (h : n < 1000) : strconv_Itoa.f (n : Int) = some (itB n) := by
  unfold strconv_Itoa.f Lib.itoa
  rw [if_pos ⟨by omega, by omega⟩, if_neg (by omega), Int.toNat_natCast]
  rfl
theorem app_d (s t : ByteArray) : (s ++ t).data.toList = s.data.toList ++ t.data.toList := by rw [ByteArray.data_append, Array.toList_append]
theorem t0_list (i q m : Nat) : ((((((⟨#[115, 105, 122, 101, 32]⟩ : ByteArray) ++ itB i) ++ (⟨#[32]⟩ : ByteArray)) ++ itB q ++ (⟨#[32]⟩ : ByteArray)) ++ itB m) ++ (⟨#[10]⟩ : ByteArray)).data.toList = szLine i q m ++ [10] := by
  rw [app_d, app_d, app_d, app_d, app_d, app_d, szLine_eq]
  unfold itB
  rw [mkB_data, mkB_data, mkB_data]
  simp [sizeW]
theorem itB_len (n : Nat) (h : n < 1000) : (itB n).size ≤ 3 := by unfold itB; rw [mkB_size]; exact digits_len n h
/-! ### the map of the three sizes -/
def ents3 (i q m : Nat) (n : Nat) : Array MapEntry := (([{ key := .string ⟨#[73]⟩, val := .int .i64 (i : Int), born := 0 }, { key := .string ⟨#[81]⟩, val := .int .i64 (q : Int), born := 1 }, { key := .string ⟨#[77]⟩, val := .int .i64 (m : Int), born := 2 }] : List MapEntry).take n).toArray
def dw (i q m : Nat) (w : World) : Nat → World
  | 0 => w.alloc (.map #[] 0)
  | n + 1 => setMap (dw i q m w n) w.heap.size (ents3 i q m (n + 1)) (n + 1)
theorem dw_mp (i q m : Nat) (w : World) : ∀ n, Mp w.heap.size (ents3 i q m n) n (dw i q m w n)
  | 0 => ⟨heap_alloc_new w _⟩
  | n + 1 => (dw_mp i q m w n).set
theorem dw_below (i q m : Nat) (w : World) : ∀ n, Below w.heap.size w (dw i q m w n)
  | 0 => below_alloc (Below.refl _ _) _
  | n + 1 => setMap_below (dw_mp i q m w n) (Nat.le_refl _) (dw_below i q m w n)
theorem undMI : Tryd.prog.underlying 56 = some (.map 9 3) := by kernel_rfl
theorem dw_upd (i q m : Nat) (w : World) (n : Nat) (k : ByteArray) (v : Int) (hf : Instr.findNow .string (.string k) (ents3 i q m n).toList 0 = some none) (hp : (ents3 i q m n).push { key := .string k, val := .int .i64 v, born := n } = ents3 i q m (n + 1)) :
    (Instr.mapUpdate 56 (.map (some w.heap.size)) (.string k) (.int .i64 v)).run Tryd.prog (dw i q m w n) = .ok () (dw i q m w (n + 1)) := by
  have h := upd_run (val := .int .i64 v) undMI undS (dw_mp i q m w n) hf
  rw [hp] at h
  exact h
theorem dw_0 (i q m : Nat) (w : World) : (Instr.mapUpdate 56 (.map (some w.heap.size)) (.string ⟨#[73]⟩) (.int .i64 (i : Int))).run Tryd.prog (dw i q m w 0) = .ok () (dw i q m w 1) := dw_upd i q m w 0 _ _ rfl rfl
theorem dw_1 (i q m : Nat) (w : World) : (Instr.mapUpdate 56 (.map (some w.heap.size)) (.string ⟨#[81]⟩) (.int .i64 (q : Int))).run Tryd.prog (dw i q m w 1) = .ok () (dw i q m w 2) := dw_upd i q m w 1 _ _ rfl rfl
theorem dw_2 (i q m : Nat) (w : World) : (Instr.mapUpdate 56 (.map (some w.heap.size)) (.string ⟨#[77]⟩) (.int .i64 (m : Int))).run Tryd.prog (dw i q m w 2) = .ok () (dw i q m w 3) := dw_upd i q m w 2 _ _ rfl rfl
theorem max_run (a b c d : Int) (hd : (if (if a < b then b else a) < c then c else (if a < b then b else a)) = d) (ats : Array TypeId) (ty : TypeId) (w : World) : (Builtin.max_ ats ty #[.int .i64 a, .int .i64 b, .int .i64 c]).run Tryd.prog w = .ok (.int .i64 d) w := by
  rw [max_three, max2_int, Sem.run_bind, Sem.run_pure, Result.andThen, max2_int, Sem.run_bind, Sem.run_pure, Result.andThen, Sem.run_pure, hd]
/-- A block is written. -/
theorem setBlock_at {w : World} {r : Nat} {o o' : Obj} (h : w.heap[r]? = some o) : (ChangeMaps.setBlock w r o').heap[r]? = some o' ∧ ∀ k, k ≠ r → (ChangeMaps.setBlock w r o').heap[k]? = w.heap[k]? := by
  have hlt : r < w.heap.size := (Array.getElem?_eq_some_iff.1 h).1
  refine ⟨?_, fun k hk => ?_⟩
  · show (w.heap.setIfInBounds r o')[r]? = _
    rw [Array.getElem?_setIfInBounds_self_of_lt hlt]
  · show (w.heap.setIfInBounds r o')[k]? = _
    rw [Array.getElem?_setIfInBounds_ne (Ne.symm hk)]
theorem setBlock_below {B r : Nat} {w0 w : World} {o o' : Obj} (h : w.heap[r]? = some o) (hB : B ≤ r) (hb : Below B w0 w) : Below B w0 (ChangeMaps.setBlock w r o') :=
  ⟨hb.os, hb.tape, hb.output, by show _ ≤ (w.heap.setIfInBounds r _).size; rw [Array.size_setIfInBounds]; exact hb.size, fun k hk => ((setBlock_at h).2 k (by omega)).trans (hb.block k hk)⟩
/-- What the loop keeps. -/
structure Lp (B r bm : Nat) (es : Array MapEntry) (seen : Array Nat) (w0 w : World) : Prop where
  it : w.heap[r]? = some (.mapIter (some bm) 3 seen 3)
  mp : w.heap[bm]? = some (.map es 3)
  bel : Below B w0 w
  rB : B ≤ r
theorem Lp.on {B r bm : Nat} {es : Array MapEntry} {seen : Array Nat} {w0 w w' : World} (h : Lp B r bm es seen w0 w) (hb : Below w.heap.size w w') (hB : B ≤ w.heap.size) : Lp B r bm es seen w0 w' :=
  ⟨(hb.block r (Array.getElem?_eq_some_iff.1 h.it).1).trans h.it, (hb.block bm (Array.getElem?_eq_some_iff.1 h.mp).1).trans h.mp, h.bel.trans (hb.mono hB), h.rB⟩
theorem Lp.size {B r bm : Nat} {es : Array MapEntry} {seen : Array Nat} {w0 w : World} (h : Lp B r bm es seen w0 w) : B ≤ w.heap.size := Nat.le_trans h.rB (Nat.le_of_lt (Array.getElem?_eq_some_iff.1 h.it).1)
theorem Lp.alloc {B r bm : Nat} {es : Array MapEntry} {seen : Array Nat} {w0 w : World} (h : Lp B r bm es seen w0 w) (o : Obj) : Lp B r bm es seen w0 (w.alloc o) := h.on (below_alloc (Below.refl _ _) o) h.size
theorem Lp.seen {B r bm : Nat} {es : Array MapEntry} {seen : Array Nat} {w0 w : World} (h : Lp B r bm es seen w0 w) : w.iterSeen r = seen := by
  unfold World.iterSeen
  rw [h.it]
theorem Lp.next {B r bm : Nat} {es : Array MapEntry} {seen : Array Nat} {w0 w w1 : World} (h : Lp B r bm es seen w0 w) (hw : w1 = w ∨ w1 = w.drew) (hne : bm ≠ r) (s : Array Nat) : Lp B r bm es s w0 (ChangeMaps.setBlock w1 r (.mapIter (some bm) 3 s 3)) := by
  have h1 : w1.heap[r]? = some (.mapIter (some bm) 3 seen 3) := by rcases hw with rfl | rfl <;> exact h.it
  have h2 : w1.heap[bm]? = some (.map es 3) := by rcases hw with rfl | rfl <;> exact h.mp
  have h3 : Below B w0 w1 := by
    rcases hw with rfl | rfl
    · exact h.bel
    · exact below_drew h.bel
  exact ⟨(setBlock_at h1).1, ((setBlock_at h1).2 bm hne).trans h2, setBlock_below h1 h.rB h3, h.rB⟩
theorem left_entry {i q m : Nat} {seen : Array Nat} {e : MapEntry} (h : e ∈ (leftOf (ents3 i q m 3) seen).toList) : ∃ sp : Nat, sp < 3 ∧ e = ⟨.string ⟨#[ltr sp]⟩, .int .i64 (wid i q m sp : Int), sp⟩ := by
  have h1 := (mem_left h).1
  have h2 : e = ⟨.string ⟨#[73]⟩, .int .i64 (i : Int), 0⟩ ∨ e = ⟨.string ⟨#[81]⟩, .int .i64 (q : Int), 1⟩ ∨ e = ⟨.string ⟨#[77]⟩, .int .i64 (m : Int), 2⟩ := by
    simpa [ents3] using h1
  rcases h2 with rfl | rfl | rfl
  · exact ⟨0, by decide, rfl⟩
  · exact ⟨1, by decide, rfl⟩
  · exact ⟨2, by decide, rfl⟩
theorem con_text (T : ByteArray) (i q m sp k : Nat) (hT : T.data.toList = szLine i q m ++ [10]) :
    ((((T ++ (⟨#[114, 117, 110, 103, 10, 110, 99, 32]⟩ : ByteArray)) ++ (⟨#[ltr sp]⟩ : ByteArray)) ++ itB k) ++ (⟨#[32, 76, 32, 82]⟩ : ByteArray)).data.toList = szLine i q m ++ 10 :: ([114, 117, 110, 103] ++ 10 :: Lib.join (conWs sp k) [32]) := by
  rw [app_d, app_d, app_d, app_d, hT]
  unfold itB conWs Lib.join
  rw [mkB_data]
  simp [List.intercalate, List.intersperse]
theorem out_text (T : ByteArray) (i q m sp k : Nat) (hT : T.data.toList = szLine i q m ++ [10]) :
    (((T ++ (⟨#[114, 117, 110, 103, 10, 111, 117, 116, 32]⟩ : ByteArray)) ++ (⟨#[ltr sp]⟩ : ByteArray)) ++ itB k).data.toList = szLine i q m ++ 10 :: ([114, 117, 110, 103] ++ 10 :: Lib.join (outWs sp k) [32]) := by
  rw [app_d, app_d, app_d, hT]
  unfold itB outWs Lib.join
  rw [mkB_data]
  simp [List.intercalate, List.intersperse]
theorem con_parse (T : ByteArray) (i q m sp k : Nat) (hT : T.data.toList = szLine i q m ++ [10]) (hi : i ≤ 256) (hq : q ≤ 256) (hm : m ≤ 256) (h : sp < 3) (hk : k < 256) :
    ∃ I Q M rs ls a f, parse_Parse.f ((((T ++ (⟨#[114, 117, 110, 103, 10, 110, 99, 32]⟩ : ByteArray)) ++ (⟨#[ltr sp]⟩ : ByteArray)) ++ itB k) ++ (⟨#[32, 76, 32, 82]⟩ : ByteArray)) = some (I, Q, M, rs, ls, a, f) ∧ (k < wid i q m sp ∧ f = 0 ∨ ¬ k < wid i q m sp ∧ f = 3 ∧ a = 3) := by
  obtain ⟨h1, h2⟩ := con_law i q m hi hq hm h hk
  rw [parse_eq, con_text T i q m sp k hT]
  by_cases hw : k < wid i q m sp
  · exact ⟨_, _, _, _, _, _, _, rfl, .inl ⟨hw, h1 hw⟩⟩
  · rw [h2 hw]
    exact ⟨_, _, _, _, _, _, _, rfl, .inr ⟨hw, rfl, rfl⟩⟩
theorem out_parse (T : ByteArray) (i q m sp k : Nat) (hT : T.data.toList = szLine i q m ++ [10]) (hi : i ≤ 256) (hq : q ≤ 256) (hm : m ≤ 256) (h : sp < 3) (hk : k < 256) :
    ∃ I Q M rs ls a f, parse_Parse.f (((T ++ (⟨#[114, 117, 110, 103, 10, 111, 117, 116, 32]⟩ : ByteArray)) ++ (⟨#[ltr sp]⟩ : ByteArray)) ++ itB k) = some (I, Q, M, rs, ls, a, f) ∧ ((k < wid i q m sp ∧ sp ≠ 0) ∧ f = 0 ∨ ¬ (k < wid i q m sp ∧ sp ≠ 0) ∧ f ≠ 0 ∧ a = 3) := by
  obtain ⟨h1, h2⟩ := out_law i q m hi hq hm h hk
  rw [parse_eq, out_text T i q m sp k hT]
  by_cases hw : k < wid i q m sp ∧ sp ≠ 0
  · exact ⟨_, _, _, _, _, _, _, rfl, .inl ⟨hw, h1 hw⟩⟩
  · obtain ⟨e, he, h3⟩ := h2 hw
    rw [h3]
    exact ⟨_, _, _, _, _, _, _, rfl, .inr ⟨hw, he, rfl⟩⟩
end Go.Proofs.YtdbjjbooalkkbaaDoor.P

/- The parser's method words: the keyword table. -/
import Derived.Test.YtdbjjbooalkkbaaGreatDoorXMap
set_option linter.unusedVariables false
set_option linter.unusedSimpArgs false
namespace Go.Proofs.YtdbjjbooalkkbaaGreatDoor.P
open Go.RowKit Go.Shelf Go.Proofs.YtdbjjbooalkkbaaGreatDoorW.PrintWords

def ent (b f least most : Nat) (sized inn : Bool) : Value := .agg #[.int .i64 least, .int .i64 most, .bool sized, .bool inn, .func (.func f) #[.pointer (some ⟨b, 0, none⟩)] #[]]
def tbl (b : Nat) : List (ByteArray × Value) :=
  [(kwSize, ent b 48 4 4 false false), (kwRung, ent b 49 1 2 true false), (kwJump, ent b 50 2 2 true true)] ++
  kwC0.map (fun k => (k, ent b 51 4 4 true true)) ++ kwQ0.map (fun k => (k, ent b 52 2 2 true true))
def ents (l : List (ByteArray × Value)) : Array MapEntry := (l.zipIdx.map fun p => { key := .string p.1.1, val := p.1.2, born := p.2 }).toArray

def tw (b : Nat) (w : World) : Nat → World
  | 0 => w.alloc (.map #[] 0)
  | n + 1 => setMap (tw b w n) w.heap.size (ents ((tbl b).take (n + 1))) (n + 1)
theorem tw_mp (b : Nat) (w : World) : ∀ n, Mp w.heap.size (ents ((tbl b).take n)) n (tw b w n)
  | 0 => ⟨heap_alloc_new w _⟩
  | n + 1 => (tw_mp b w n).set
theorem tw_below (b : Nat) (w : World) : ∀ n, Below w.heap.size w (tw b w n)
  | 0 => below_alloc (Below.refl _ _) _
  | n + 1 => setMap_below (tw_mp b w n) (Nat.le_refl _) (tw_below b w n)
theorem undM : Tryz.prog.underlying 58 = some (.map 9 106) := by kernel_rfl
theorem undS : Tryz.prog.underlying 9 = some .string := by kernel_rfl
theorem undA : Tryz.prog.underlying 86 = some (.array 4 9) := by kernel_rfl
theorem infS : (Tryz.prog.info? 9).map (fun i => i.size) = some 1 := by kernel_rfl
theorem idx_run (cs : Array Value) (i : Int) (v : Value) (h0 : 0 ≤ i) (h4 : i < 4) (hv : cs[i.toNat]? = some v) (w : World) : (Instr.index 86 (.agg cs) (.int .i64 i)).run Tryz.prog w = .ok v w := by
  obtain ⟨x, hx, hs⟩ := Option.map_eq_some_iff.1 infS
  have hu := undS
  have h : (0 : Int) ≤ i ∧ i < ((4 : Nat) : Int) := ⟨h0, by omega⟩
  simp [Instr.index, asIntOf, run_underlying undA, run_underlying undS, sizeOf, typeInfo, hx, hs, part, isAgg, h0, h4, hv, Result.andThen]
theorem tw_upd (b : Nat) (w : World) (n : Nat) (k : ByteArray) (v : Value) (hn : (tbl b)[n]? = some (k, v)) (hf : Instr.findNow .string (.string k) (ents ((tbl b).take n)).toList 0 = some none)
    (hp : (ents ((tbl b).take n)).push { key := .string k, val := v, born := n } = ents ((tbl b).take (n + 1))) :
    (Instr.mapUpdate 58 (.map (some w.heap.size)) (.string k) v).run Tryz.prog (tw b w n) = .ok () (tw b w (n + 1)) := by
  have h := upd_run (val := v) undM undS (tw_mp b w n) hf
  rw [hp] at h
  exact h
theorem tw_0 (b : Nat) (w : World) : (Instr.mapUpdate 58 (.map (some w.heap.size)) (.string ⟨#[115, 105, 122, 101]⟩) (.agg #[.int .i64 4, .int .i64 4, .bool false, .bool false, .func (.func 48) #[.pointer (some ⟨b, 0, none⟩)] #[]])).run Tryz.prog (tw b w 0) = .ok () (tw b w 1) := tw_upd b w 0 _ _ rfl rfl rfl
theorem tw_1 (b : Nat) (w : World) : (Instr.mapUpdate 58 (.map (some w.heap.size)) (.string ⟨#[114, 117, 110, 103]⟩) (.agg #[.int .i64 1, .int .i64 2, .bool true, .bool false, .func (.func 49) #[.pointer (some ⟨b, 0, none⟩)] #[]])).run Tryz.prog (tw b w 1) = .ok () (tw b w 2) := tw_upd b w 1 _ _ rfl rfl rfl
theorem tw_2 (b : Nat) (w : World) : (Instr.mapUpdate 58 (.map (some w.heap.size)) (.string ⟨#[106, 117, 109, 112]⟩) (.agg #[.int .i64 2, .int .i64 2, .bool true, .bool true, .func (.func 50) #[.pointer (some ⟨b, 0, none⟩)] #[]])).run Tryz.prog (tw b w 2) = .ok () (tw b w 3) := tw_upd b w 2 _ _ rfl rfl rfl
theorem tw_3 (b : Nat) (w : World) : (Instr.mapUpdate 58 (.map (some w.heap.size)) (.string ⟨#[110, 111]⟩) (.agg #[.int .i64 4, .int .i64 4, .bool true, .bool true, .func (.func 51) #[.pointer (some ⟨b, 0, none⟩)] #[]])).run Tryz.prog (tw b w 3) = .ok () (tw b w 4) := tw_upd b w 3 _ _ rfl rfl rfl
theorem tw_4 (b : Nat) (w : World) : (Instr.mapUpdate 58 (.map (some w.heap.size)) (.string ⟨#[110, 99]⟩) (.agg #[.int .i64 4, .int .i64 4, .bool true, .bool true, .func (.func 51) #[.pointer (some ⟨b, 0, none⟩)] #[]])).run Tryz.prog (tw b w 4) = .ok () (tw b w 5) := tw_upd b w 4 _ _ rfl rfl rfl
theorem tw_5 (b : Nat) (w : World) : (Instr.mapUpdate 58 (.map (some w.heap.size)) (.string ⟨#[117, 112]⟩) (.agg #[.int .i64 4, .int .i64 4, .bool true, .bool true, .func (.func 51) #[.pointer (some ⟨b, 0, none⟩)] #[]])).run Tryz.prog (tw b w 5) = .ok () (tw b w 6) := tw_upd b w 5 _ _ rfl rfl rfl
theorem tw_6 (b : Nat) (w : World) : (Instr.mapUpdate 58 (.map (some w.heap.size)) (.string ⟨#[100, 111, 119, 110]⟩) (.agg #[.int .i64 4, .int .i64 4, .bool true, .bool true, .func (.func 51) #[.pointer (some ⟨b, 0, none⟩)] #[]])).run Tryz.prog (tw b w 6) = .ok () (tw b w 7) := tw_upd b w 6 _ _ rfl rfl rfl
theorem tw_7 (b : Nat) (w : World) : (Instr.mapUpdate 58 (.map (some w.heap.size)) (.string ⟨#[111, 117, 116]⟩) (.agg #[.int .i64 2, .int .i64 2, .bool true, .bool true, .func (.func 52) #[.pointer (some ⟨b, 0, none⟩)] #[]])).run Tryz.prog (tw b w 7) = .ok () (tw b w 8) := tw_upd b w 7 _ _ rfl rfl rfl
theorem tw_8 (b : Nat) (w : World) : (Instr.mapUpdate 58 (.map (some w.heap.size)) (.string ⟨#[110, 111, 116]⟩) (.agg #[.int .i64 2, .int .i64 2, .bool true, .bool true, .func (.func 52) #[.pointer (some ⟨b, 0, none⟩)] #[]])).run Tryz.prog (tw b w 8) = .ok () (tw b w 9) := tw_upd b w 8 _ _ rfl rfl rfl
theorem tw_9 (b : Nat) (w : World) : (Instr.mapUpdate 58 (.map (some w.heap.size)) (.string ⟨#[115, 101, 116]⟩) (.agg #[.int .i64 2, .int .i64 2, .bool true, .bool true, .func (.func 52) #[.pointer (some ⟨b, 0, none⟩)] #[]])).run Tryz.prog (tw b w 9) = .ok () (tw b w 10) := tw_upd b w 9 _ _ rfl rfl rfl
theorem tw_10 (b : Nat) (w : World) : (Instr.mapUpdate 58 (.map (some w.heap.size)) (.string ⟨#[114, 101, 115, 101, 116]⟩) (.agg #[.int .i64 2, .int .i64 2, .bool true, .bool true, .func (.func 52) #[.pointer (some ⟨b, 0, none⟩)] #[]])).run Tryz.prog (tw b w 10) = .ok () (tw b w 11) := tw_upd b w 10 _ _ rfl rfl rfl

set_option maxRecDepth 100000 in
set_option maxHeartbeats 4000000 in
theorem words_walk (b : Nat) (w : World) (hk : LaidKey w) :
    Calls Tryz.prog 21 #[.pointer (some ⟨b, 0, none⟩)] w fun e w' => ∃ r, e = .returned (.map (some r)) ∧ Mp r (ents (tbl b)) 11 w' ∧ w.heap.size ≤ r ∧ Below w.heap.size w w' := by
  have hM : (Instr.makeMap 58 none).run Tryz.prog w = .ok (.map (some w.heap.size)) (tw b w 0) := run_makeMap_plain w _
  have U0 := tw_0 b w
  have U1 := tw_1 b w
  have U2 := tw_2 b w
  have U3 := tw_3 b w
  have U4 := tw_4 b w
  have U5 := tw_5 b w
  have U6 := tw_6 b w
  have U7 := tw_7 b w
  have U8 := tw_8 b w
  have U9 := tw_9 b w
  have U10 := tw_10 b w
  have HE := Lib.hid (And.intro (show Mp w.heap.size (ents (tbl b)) 11 (tw b w 11) from tw_mp b w 11) (tw_below b w 11))
  obtain ⟨a0, a1, a2, a3, _, _, _, _⟩ := hk.on (tw_below b w 3)
  obtain ⟨_, _, _, _, b0, b1, b2, b3⟩ := hk.on (tw_below b w 7)
  clear hk
  have I0 : ∀ w, (Instr.index 86 (.agg #[.string ⟨#[110, 111]⟩, .string ⟨#[110, 99]⟩, .string ⟨#[117, 112]⟩, .string ⟨#[100, 111, 119, 110]⟩]) (.int .i64 0)).run Tryz.prog w = .ok (.string ⟨#[110, 111]⟩) w := idx_run _ _ _ (by decide) (by decide) rfl
  have I1 : ∀ w, (Instr.index 86 (.agg #[.string ⟨#[110, 111]⟩, .string ⟨#[110, 99]⟩, .string ⟨#[117, 112]⟩, .string ⟨#[100, 111, 119, 110]⟩]) (.int .i64 1)).run Tryz.prog w = .ok (.string ⟨#[110, 99]⟩) w := idx_run _ _ _ (by decide) (by decide) rfl
  have I2 : ∀ w, (Instr.index 86 (.agg #[.string ⟨#[110, 111]⟩, .string ⟨#[110, 99]⟩, .string ⟨#[117, 112]⟩, .string ⟨#[100, 111, 119, 110]⟩]) (.int .i64 2)).run Tryz.prog w = .ok (.string ⟨#[117, 112]⟩) w := idx_run _ _ _ (by decide) (by decide) rfl
  have I3 : ∀ w, (Instr.index 86 (.agg #[.string ⟨#[110, 111]⟩, .string ⟨#[110, 99]⟩, .string ⟨#[117, 112]⟩, .string ⟨#[100, 111, 119, 110]⟩]) (.int .i64 3)).run Tryz.prog w = .ok (.string ⟨#[100, 111, 119, 110]⟩) w := idx_run _ _ _ (by decide) (by decide) rfl
  have J0 : ∀ w, (Instr.index 86 (.agg #[.string ⟨#[111, 117, 116]⟩, .string ⟨#[110, 111, 116]⟩, .string ⟨#[115, 101, 116]⟩, .string ⟨#[114, 101, 115, 101, 116]⟩]) (.int .i64 0)).run Tryz.prog w = .ok (.string ⟨#[111, 117, 116]⟩) w := idx_run _ _ _ (by decide) (by decide) rfl
  have J1 : ∀ w, (Instr.index 86 (.agg #[.string ⟨#[111, 117, 116]⟩, .string ⟨#[110, 111, 116]⟩, .string ⟨#[115, 101, 116]⟩, .string ⟨#[114, 101, 115, 101, 116]⟩]) (.int .i64 1)).run Tryz.prog w = .ok (.string ⟨#[110, 111, 116]⟩) w := idx_run _ _ _ (by decide) (by decide) rfl
  have J2 : ∀ w, (Instr.index 86 (.agg #[.string ⟨#[111, 117, 116]⟩, .string ⟨#[110, 111, 116]⟩, .string ⟨#[115, 101, 116]⟩, .string ⟨#[114, 101, 115, 101, 116]⟩]) (.int .i64 2)).run Tryz.prog w = .ok (.string ⟨#[115, 101, 116]⟩) w := idx_run _ _ _ (by decide) (by decide) rfl
  have J3 : ∀ w, (Instr.index 86 (.agg #[.string ⟨#[111, 117, 116]⟩, .string ⟨#[110, 111, 116]⟩, .string ⟨#[115, 101, 116]⟩, .string ⟨#[114, 101, 115, 101, 116]⟩]) (.int .i64 3)).run Tryz.prog w = .ok (.string ⟨#[114, 101, 115, 101, 116]⟩) w := idx_run _ _ _ (by decide) (by decide) rfl
  generalize tw b w = W at *
  go_enter Tryz.func21, Tryz.ntmps21
  go_wp2
  go_loopw [20] (fun i wr => (i = .int .i64 0 ∧ wr = W 3) ∨ (i = .int .i64 1 ∧ wr = W 4) ∨ (i = .int .i64 2 ∧ wr = W 5) ∨ (i = .int .i64 3 ∧ wr = W 6) ∨ (i = .int .i64 4 ∧ wr = W 7)) (fun i _ => 4 - (intOf i).toNat)
  case atStart => exact .inl ⟨rfl, rfl⟩
  case round =>
    rcases hrel with ⟨rfl, rfl⟩ | ⟨rfl, rfl⟩ | ⟨rfl, rfl⟩ | ⟨rfl, rfl⟩ | ⟨rfl, rfl⟩
    case inr.inr.inr.inr =>
      go_wp2
      go_loopw [30] (fun i wr => (i = .int .i64 0 ∧ wr = W 7) ∨ (i = .int .i64 1 ∧ wr = W 8) ∨ (i = .int .i64 2 ∧ wr = W 9) ∨ (i = .int .i64 3 ∧ wr = W 10) ∨ (i = .int .i64 4 ∧ wr = W 11)) (fun i _ => 4 - (intOf i).toNat)
      case atStart => exact .inl ⟨rfl, rfl⟩
      case round =>
        rcases hrel with ⟨rfl, rfl⟩ | ⟨rfl, rfl⟩ | ⟨rfl, rfl⟩ | ⟨rfl, rfl⟩ | ⟨rfl, rfl⟩
        case inr.inr.inr.inr =>
          go_wp2
          go_ret
          exact ⟨_, rfl, HE.out.1, Nat.le_refl _, HE.out.2⟩
        all_goals
          go_wp2
          go_roundw
          case rel => first | trivial | simp
          case measure => simp [intOf]
    all_goals
      go_wp2
      go_roundw
      case rel => first | trivial | simp
      case measure => simp [intOf]
end Go.Proofs.YtdbjjbooalkkbaaGreatDoor.P

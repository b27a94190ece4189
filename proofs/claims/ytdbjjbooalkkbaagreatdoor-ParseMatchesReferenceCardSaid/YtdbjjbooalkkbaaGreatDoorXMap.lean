/- A map of strings, written and looked up. -/
import Derived.Test.YtdbjjbooalkkbaaGreatDoorXParC
import Derived.MapKept
import Derived.WideMake
namespace Go.Proofs.YtdbjjbooalkkbaaGreatDoor.P
open Go.RowKit Go.Proofs.YtdbjjbooalkkbaaGreatDoorW.PrintWords

def setMap (w : World) (r : Nat) (es : Array MapEntry) (c : Nat) : World := { w with heap := w.heap.setIfInBounds r (.map es c) }
structure Mp (r : Nat) (es : Array MapEntry) (c : Nat) (w : World) : Prop where out : w.heap[r]? = some (.map es c)
theorem Mp.lt {r c : Nat} {es : Array MapEntry} {w : World} (h : Mp r es c w) : r < w.heap.size := (Array.getElem?_eq_some_iff.1 h.out).1
theorem Mp.set {r c c' : Nat} {es es' : Array MapEntry} {w : World} (h : Mp r es c w) : Mp r es' c' (setMap w r es' c') := ⟨(MapKept.heap_set h.out).1⟩
theorem Mp.on {r c : Nat} {es : Array MapEntry} {w w' : World} (h : Mp r es c w) (hb : Below w.heap.size w w') : Mp r es c w' := ⟨(hb.block r h.lt).trans h.out⟩
theorem setMap_below {r c c' B : Nat} {es es' : Array MapEntry} {w0 w : World} (h : Mp r es c w) (hB : B ≤ r) (hb : Below B w0 w) : Below B w0 (setMap w r es' c') :=
  ⟨hb.os, hb.tape, hb.output, by show _ ≤ (w.heap.setIfInBounds r _).size; rw [Array.size_setIfInBounds]; exact hb.size, fun k hk => ((MapKept.heap_set h.out).2 k (by omega)).trans (hb.block k hk)⟩
theorem upd_run {P : Program} {w : World} {mty kt et : TypeId} {r c : Nat} {es : Array MapEntry} {s : ByteArray} {val : Value} (hm : P.underlying mty = some (.map kt et)) (hk : P.underlying kt = some .string) (hb : Mp r es c w) (hf : Instr.findNow .string (.string s) es.toList 0 = some none) :
    (Instr.mapUpdate mty (.map (some r)) (.string s) val).run P w = .ok () (setMap w r (es.push { key := .string s, val := val, born := c }) (c + 1)) := by
  have hc : (Instr.checkKey false 10000 kt (.string s)).run P w = .ok () w := MapKept.run_checkKey (k := .string s) hk (by simp [MapKept.IsKey]) false 9999
  simp [Instr.mapUpdate, run_underlying hm, MapKept.run_getObj_map hb.out, hc, MapKept.run_findKey hk hf, MapKept.run_setObj_map _ hb.out, Result.andThen, setMap]
theorem look_run {P : Program} {w : World} {mty kt et : TypeId} {r c i : Nat} {es : Array MapEntry} {s : ByteArray} {val : Value} (hm : P.underlying mty = some (.map kt et)) (hk : P.underlying kt = some .string) (hb : Mp r es c w) (hf : Instr.findNow .string (.string s) es.toList 0 = some (some (i, val))) :
    (Instr.lookup mty (.map (some r)) (.string s) true).run P w = .ok (.tuple #[val, .bool true]) w := by
  have hc : (Instr.checkKey es.isEmpty 10000 kt (.string s)).run P w = .ok () w := MapKept.run_checkKey (k := .string s) hk (by simp [MapKept.IsKey]) _ 9999
  simp [Instr.lookup, run_underlying hm, MapKept.run_getObj_map hb.out, hc, MapKept.run_findKey hk hf, Result.andThen]
theorem miss_run {P : Program} {w : World} {mty kt et : TypeId} {r c : Nat} {es : Array MapEntry} {s : ByteArray} {z : Value} (hm : P.underlying mty = some (.map kt et)) (hk : P.underlying kt = some .string) (hz : (zeroValue et).run P w = .ok z w) (hb : Mp r es c w) (hf : Instr.findNow .string (.string s) es.toList 0 = some none) :
    (Instr.lookup mty (.map (some r)) (.string s) true).run P w = .ok (.tuple #[z, .bool false]) w := by
  have hc : (Instr.checkKey es.isEmpty 10000 kt (.string s)).run P w = .ok () w := MapKept.run_checkKey (k := .string s) hk (by simp [MapKept.IsKey]) _ 9999
  simp [Instr.lookup, run_underlying hm, MapKept.run_getObj_map hb.out, hc, MapKept.run_findKey hk hf, Result.andThen, hz]
end Go.Proofs.YtdbjjbooalkkbaaGreatDoor.P

/- The parser's method line. -/
import Derived.Test.YtdbjjbooalkkbaaGreatDoorXLineA
import Derived.Test.YtdbjjbooalkkbaaGreatDoorXParK
import Derived.Test.YtdbjjbooalkkbaaGreatDoorXParJ
import Derived.Test.YtdbjjbooalkkbaaGreatDoorXParS
import Derived.Test.YtdbjjbooalkkbaaGreatDoorXParB
set_option linter.unusedVariables false
set_option linter.unusedSimpArgs false
namespace Go.Proofs.YtdbjjbooalkkbaaGreatDoor.P
open Go.RowKit Go.Shelf Go.Proofs.YtdbjjbooalkkbaaGreatDoorW.PrintWords Go.Proofs.YtdbjjbooalkkbaaGreatDoorW.PrintLast Go.Proofs.YtdbjjbooalkkbaaGreatDoorW.PrintMore

def zeroWord : Value := .agg #[.int .i64 0, .int .i64 0, .bool false, .bool false, .nilFunc]
theorem infW : (Tryz.prog.info? 106).map (fun i => i.zero) = some (some zeroWord) := by kernel_rfl
theorem zero_word (w : World) : (zeroValue 106).run Tryz.prog w = .ok zeroWord w := by
  obtain ⟨x, hx, hz⟩ := Option.map_eq_some_iff.1 infW
  simp [zeroValue, typeInfo, hx, hz]
theorem find_miss (k : ByteArray) : ∀ (l : List (ByteArray × Value)) (i n : Nat), (∀ p ∈ l, p.1 ≠ k) → Instr.findNow .string (.string k) (l.zipIdx n |>.map fun p => ({ key := .string p.1.1, val := p.1.2, born := p.2 } : MapEntry)) i = some none
  | [], _, _, _ => rfl
  | p :: l, i, n, h => by
    have h1 : (k == p.1) = false := by
      cases hb : (k == p.1) with
      | false => rfl
      | true => exact absurd ((MapKept.bytes_beq k p.1).1 hb).symm (h p List.mem_cons_self)
    rw [List.zipIdx_cons, List.map_cons, Instr.findNow]
    simp only [Instr.sameNow, h1]
    exact find_miss k l (i + 1) (n + 1) (fun q hq => h q (List.mem_cons_of_mem _ hq))
theorem ents_list (l : List (ByteArray × Value)) : (ents l).toList = l.zipIdx.map fun p => ({ key := .string p.1.1, val := p.1.2, born := p.2 } : MapEntry) := by unfold ents; simp
theorem tbl_miss (b : Nat) (k : ByteArray) (h1 : k ≠ kwSize) (h2 : k ≠ kwRung) (h3 : k ≠ kwJump) (h4 : ∀ x ∈ kwC0, k ≠ x) (h5 : ∀ x ∈ kwQ0, k ≠ x) : Instr.findNow .string (.string k) (ents (tbl b)).toList 0 = some none := by
  rw [ents_list]
  refine find_miss k _ _ _ ?_
  intro p hp
  unfold tbl at hp
  rcases List.mem_append.1 hp with hp | hp
  · rcases List.mem_append.1 hp with hp | hp
    · simp only [List.mem_cons, List.not_mem_nil, or_false] at hp
      rcases hp with rfl | rfl | rfl
      · exact Ne.symm h1
      · exact Ne.symm h2
      · exact Ne.symm h3
    · obtain ⟨x, hx, rfl⟩ := List.mem_map.1 hp
      exact Ne.symm (h4 x hx)
  · obtain ⟨x, hx, rfl⟩ := List.mem_map.1 hp
    exact Ne.symm (h5 x hx)
theorem idx_miss (ks : List ByteArray) (k : ByteArray) (h : ∀ x ∈ ks, k ≠ x) : Lib.idxOfS ks k = -1 :=
  Lib.idxFromS_miss k ks 0 (fun j hj => by rw [List.getD_eq_getElem?_getD, List.getElem?_eq_getElem hj]; exact Ne.symm (h _ (List.getElem_mem _)))
theorem idx_from (k : ByteArray) : ∀ (ks : List ByteArray) (i : Nat), k ∈ ks → 0 ≤ Lib.idxFromS ks k i
  | [], _, h => by cases h
  | z :: zs, i, h => by
    by_cases e : z = k
    · rw [Lib.idxFromS_hit k (z :: zs) 0 i (by simp) (by simpa using e) (fun j hj => absurd hj (Nat.not_lt_zero _))]
      omega
    · have hm : k ∈ zs := by
        rcases List.mem_cons.1 h with h | h
        · exact absurd h.symm e
        · exact h
      have := idx_from k zs (i + 1) hm
      simpa [Lib.idxFromS, e] using this
theorem idx_neg {ks : List ByteArray} {k : ByteArray} (h : ¬ 0 ≤ Lib.idxOfS ks k) : ∀ x ∈ ks, k ≠ x := by
  rintro x hx rfl
  exact h (idx_from k ks 0 hx)
theorem idx_pos {ks : List ByteArray} {k : ByteArray} (h : 0 ≤ Lib.idxOfS ks k) : k ∈ ks := by
  refine Classical.byContradiction fun hn => ?_
  have := idx_miss ks k (fun x hx e => hn (e ▸ hx))
  omega

set_option maxRecDepth 100000 in
set_option maxHeartbeats 4000000 in
theorem line_miss {B b : Nat} (s : PSt) (l : LN) (A : Option Addr) (c r : Nat) (w : World) (hB : B ≤ w.heap.size)
    (hC : Kd.string.C w A l.f1.length l.f1) (hn : 0 < l.f1.length) (hlook : ∀ W, Below w.heap.size w W → (Instr.lookup 58 (.map (some r)) (.string (wd l 0)) true).run Tryz.prog W = .ok (.tuple #[zeroWord, .bool false]) W) :
    Calls Tryz.prog 22 #[.pointer (some ⟨b, 0, none⟩), .map (some r), .agg #[.int .i64 l.f0, .slice A l.f1.length c]] w (MPost B b w (8, s)) := by
  obtain ⟨wb, wo, rfl, hw⟩ := words_at hC hn
  have hw0 : w.cell? ⟨wb, wo, none⟩ = some (.string (wd l 0)) := hw 0 hn
  have hwlt : wb < w.heap.size := World.block_lt_of_cell? _ _ hw0
  have hne : wb ≠ w.heap.size := by omega
  have hlook1 := hlook (w.alloc (.cells #[.int .i64 l.f0, .slice (some ⟨wb, wo, none⟩) l.f1.length c] 61)) ((Below.refl _ _).alloc (Nat.le_refl _) _)
  unfold zeroWord at hlook1
  have hst : ∀ (a : Addr) (w : World), (store a .nilFunc).run Tryz.prog w = stored Tryz.prog w a .nilFunc .plain := fun a w => run_store _ w a _ _ rfl
  have HB := Lib.hid hB
  have BL := Lib.hid (below_alloc (below_alloc (Below.refl w.heap.size w) (.cells #[.int .i64 l.f0, .slice (some ⟨wb, wo, none⟩) l.f1.length c] 61)) (.cells #[.int .i64 0, .int .i64 0, .bool false, .bool false, .nilFunc] 106))
  clear hC hlook hw hB
  go_enter Tryz.func22, Tryz.ntmps22
  go_wp2
  go_ret
  exact MPost.bad (by decide) HB.out BL.out

/-- The word is this key. -/
theorem line_hit {B b : Nat} (f least most : Nat) (sized inn : Bool) (i : Nat) (kw : ByteArray) (R : Int × PSt) (s : PSt) (l : LN) (A : Option Addr) (c r : Nat) (vR vL vJ : Value) (w : World) (St : Stage B b 57 (pc s vR vL vJ) w vR s.rungs vL s.lines vJ s.jumps [] w)
    (hM : Mp r (ents (tbl b)) 11 w) (hC : Kd.string.C w A l.f1.length l.f1) (hn : 0 < l.f1.length) (hk : wd l 0 = kw) (hf : Instr.findNow .string (.string kw) (ents (tbl b)).toList 0 = some (some (i, ent b f least most sized inn)))
    (hent : ∀ args w, (callFunc f args).run Tryz.prog w = .ok (.enter f args) w)
    (hcall : least ≤ l.f1.length → l.f1.length ≤ most → (sized = true → s.sized = true) → (inn = true → 0 < s.rungs.length) → ∀ W, Below w.heap.size w W → Calls Tryz.prog f #[.pointer (some ⟨b, 0, none⟩), .agg #[.int .i64 l.f0, .slice A l.f1.length c]] W (MPost B b W R)) :
    Calls Tryz.prog 22 #[.pointer (some ⟨b, 0, none⟩), .map (some r), .agg #[.int .i64 l.f0, .slice A l.f1.length c]] w (MPost B b w (guardP least most sized inn s l R)) :=
  line_at f least most sized inn R s l A c r vR vL vJ w St hC hn (fun W hb => by rw [hk]; exact look_run undM undS (hM.on hb) hf) hent hcall
theorem line_walk {B b : Nat} (s : PSt) (l : LN) (A : Option Addr) (c r : Nat) (vR vL vJ : Value) (w : World) (St : Stage B b 57 (pc s vR vL vJ) w vR s.rungs vL s.lines vJ s.jumps [] w) (hok : POk s)
    (hM : Mp r (ents (tbl b)) 11 w) (hC : Kd.string.C w A l.f1.length l.f1) (hn : 0 < l.f1.length) (hz : ∀ x ∈ l.f1, x.size ≤ 65536) (hlow : ∀ wb wo, A = some ⟨wb, wo, none⟩ → wb < B) (hL : ∀ W, Below B w W → Aside0 (LaidW 38 W)) (hL4 : ∀ W, Below B w W → Aside0 (LaidW 4 W)) :
    Calls Tryz.prog 22 #[.pointer (some ⟨b, 0, none⟩), .map (some r), .agg #[.int .i64 l.f0, .slice A l.f1.length c]] w (MPost B b w (lineP s l)) := by
  have hB : B ≤ w.heap.size := St.base
  have st : ∀ W, Below w.heap.size w W → Stage B b 57 (pc s vR vL vJ) W vR s.rungs vL s.lines vJ s.jumps [] W := fun W hb => (St.on hb).since
  have hc : ∀ W, Below w.heap.size w W → Kd.string.C W A l.f1.length l.f1 := fun W hb => Kd.C_below hC hb
  have low : ∀ W, Below w.heap.size w W → ∀ W', Below B W W' → Below B w W' := fun W hb W' hb' => (hb.mono hB).trans hb'
  unfold lineP
  by_cases k1 : wd l 0 = kwSize
  · rw [if_pos k1]
    exact line_hit 48 4 4 false false 0 kwSize _ s l A c r vR vL vJ w St hM hC hn k1 rfl (enters_of Tryz.func48 (by kernel_rfl) rfl) (fun h1 h2 _ _ W hb => size_walk s l A c vR vL vJ W (st W hb) (hc W hb) (by omega) hz hlow (fun W' hb' => hL4 W' (low W hb W' hb')))
  rw [if_neg k1]
  by_cases k2 : wd l 0 = kwRung
  · rw [if_pos k2]
    exact line_hit 49 1 2 true false 1 kwRung _ s l A c r vR vL vJ w St hM hC hn k2 rfl (enters_of Tryz.func49 (by kernel_rfl) rfl) (fun h1 h2 _ _ W hb => begin_walk s l A c vR vL vJ W (st W hb) hok (hc W hb) (by omega))
  rw [if_neg k2]
  by_cases k3 : wd l 0 = kwJump
  · rw [if_pos k3]
    exact line_hit 50 2 2 true true 2 kwJump _ s l A c r vR vL vJ w St hM hC hn k3 rfl (enters_of Tryz.func50 (by kernel_rfl) rfl) (fun h1 h2 _ hp W hb => jump_walk s l A c vR vL vJ W (st W hb) hok (hp rfl) (hc W hb) (by omega) hlow)
  rw [if_neg k3]
  by_cases k4 : 0 ≤ Lib.idxOfS kwC0 (wd l 0)
  · rw [if_pos k4]
    have hm := idx_pos k4
    have go : ∀ i kw, wd l 0 = kw → Instr.findNow .string (.string kw) (ents (tbl b)).toList 0 = some (some (i, ent b 51 4 4 true true)) → Calls Tryz.prog 22 #[.pointer (some ⟨b, 0, none⟩), .map (some r), .agg #[.int .i64 l.f0, .slice A l.f1.length c]] w (MPost B b w (guardP 4 4 true true s l (contactP s l (Lib.idxOfS kwC0 (wd l 0))))) := fun i kw hk hf =>
      line_hit 51 4 4 true true i kw _ s l A c r vR vL vJ w St hM hC hn hk hf (enters_of Tryz.func51 (by kernel_rfl) rfl) (fun h1 h2 _ hp W hb => contact_walk s l A c vR vL vJ W (st W hb) hok (hp rfl) (hc W hb) (by omega) hz (hL W (hb.mono hB)))
    unfold kwC0 at hm
    simp only [List.mem_cons, List.not_mem_nil, or_false] at hm
    rcases hm with h | h | h | h
    · exact go 3 _ h rfl
    · exact go 4 _ h rfl
    · exact go 5 _ h rfl
    · exact go 6 _ h rfl
  rw [if_neg k4]
  by_cases k5 : 0 ≤ Lib.idxOfS kwQ0 (wd l 0)
  · rw [if_pos k5]
    have hm := idx_pos k5
    have go : ∀ i kw, wd l 0 = kw → Instr.findNow .string (.string kw) (ents (tbl b)).toList 0 = some (some (i, ent b 52 2 2 true true)) → Calls Tryz.prog 22 #[.pointer (some ⟨b, 0, none⟩), .map (some r), .agg #[.int .i64 l.f0, .slice A l.f1.length c]] w (MPost B b w (guardP 2 2 true true s l (coilP s l (Lib.idxOfS kwQ0 (wd l 0))))) := fun i kw hk hf =>
      line_hit 52 2 2 true true i kw _ s l A c r vR vL vJ w St hM hC hn hk hf (enters_of Tryz.func52 (by kernel_rfl) rfl) (fun h1 h2 _ hp W hb => coil_walk s l A c vR vL vJ W (st W hb) hok (hp rfl) (hc W hb) (by omega) hz (hL W (hb.mono hB)))
    unfold kwQ0 at hm
    simp only [List.mem_cons, List.not_mem_nil, or_false] at hm
    rcases hm with h | h | h | h
    · exact go 7 _ h rfl
    · exact go 8 _ h rfl
    · exact go 9 _ h rfl
    · exact go 10 _ h rfl
  rw [if_neg k5]
  exact line_miss s l A c r w hB hC hn (fun W hb => miss_run undM undS (zero_word W) (hM.on hb) (tbl_miss b _ k1 k2 k3 (idx_neg k4) (idx_neg k5)))
end Go.Proofs.YtdbjjbooalkkbaaGreatDoor.P

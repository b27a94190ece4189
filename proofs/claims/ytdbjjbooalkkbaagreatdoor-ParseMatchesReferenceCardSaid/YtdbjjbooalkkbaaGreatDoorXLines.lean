/- lex.Lines: a range over the lines of a text (a function of package lex hands them out); each line's words are collected. -/
import Derived.Test.YtdbjjbooalkkbaaGreatDoorXLex
import Derived.Test.YtdbjjbooalkkbaaGreatDoorXLineT
import Derived.Test.YtdbjjbooalkkbaaGreatDoorXName
import Derived.Test.YtdbjjbooalkkbaaGreatDoorXLaid
import Derived.Test.YtdbjjbooalkkbaaGreatDoorShelf
import Derived.Test.YtdbjjbooalkkbaaGreatDoorPQ0
import Derived.RangeFuncBox
import Derived.RangeFuncLeaves
import Derived.RangeFuncNested
import Derived.RangeFuncBound
import Derived.Shelf.Abstract
import Derived.Shelf.RegionOpen
import Derived.OwnWalkIn
import Derived.TacticsInMore
import Derived.LoopNIn
import Derived.LoopIn
namespace Go.Proofs.YtdbjjbooalkkbaaGreatDoor.P
open Go.RowKit Go.Shelf Go.Proofs.YtdbjjbooalkkbaaGreatDoorW.PrintWords

/-! ### lex.plain -/
theorem plain_high {b : UInt8} (h : 128 ≤ b.toNat) : isPlain b = false := by unfold isPlain; exact decide_eq_false (by omega)
theorem plain_says (s : ByteArray) (pos : Nat) (h : pos < s.size) :
    (¬ ((Utf8.decode s pos).1 : Int) = 9 ∧ (((Utf8.decode s pos).1 : Int) < 32 ∨ 126 < ((Utf8.decode s pos).1 : Int)) ∧ (s.data.toList.drop pos).all isPlain = false) ∨
    ((((Utf8.decode s pos).1 : Int) = 9 ∨ 32 ≤ ((Utf8.decode s pos).1 : Int) ∧ ((Utf8.decode s pos).1 : Int) ≤ 126) ∧ (s.data.toList.drop pos).all isPlain = (s.data.toList.drop (pos + (Utf8.decode s pos).2)).all isPlain) := by
  rw [at_list s pos h, List.all_cons]
  by_cases ha : (s[pos]'h).toNat < 128
  · rw [decode_ascii s pos h ha]
    by_cases hp : (s[pos]'h).toNat = 9 ∨ 32 ≤ (s[pos]'h).toNat ∧ (s[pos]'h).toNat ≤ 126
    · right
      refine ⟨by dsimp only; omega, ?_⟩
      rw [show isPlain (s[pos]'h) = true from decide_eq_true hp, Bool.true_and]
    · left
      refine ⟨by dsimp only; omega, by dsimp only; omega, ?_⟩
      rw [show isPlain (s[pos]'h) = false from decide_eq_false hp, Bool.false_and]
  · left
    have hd := (decode_high s pos h (by omega)).1
    refine ⟨by omega, by omega, ?_⟩
    rw [plain_high (by omega), Bool.false_and]
theorem d9 {c : Int} (h : c = 9) : (c != 9) = false := by rw [bne_eq_false_iff_eq]; exact h
theorem n9 {c : Int} (h : ¬ c = 9) : (c != 9) = true := by rw [bne_iff_ne]; exact h
theorem all_end (s : ByteArray) (pos : Nat) (h : ¬ pos < s.size) : (s.data.toList.drop pos).all isPlain = true := by
  rw [List.drop_eq_nil_of_le (by rw [Array.length_toList]; exact Nat.le_of_not_lt h)]
  rfl
theorem says_no {c : Int} {a b : Bool} (h : (¬ c = 9 ∧ (c < 32 ∨ 126 < c) ∧ a = false) ∨ ((c = 9 ∨ 32 ≤ c ∧ c ≤ 126) ∧ a = b)) (hc : ¬ c = 9 ∧ (c < 32 ∨ 126 < c)) : a = false := by
  rcases h with h | h
  · exact h.2.2
  · omega
theorem says_yes {c : Int} {a b : Bool} (h : (¬ c = 9 ∧ (c < 32 ∨ 126 < c) ∧ a = false) ∨ ((c = 9 ∨ 32 ≤ c ∧ c ≤ 126) ∧ a = b)) (hc : c = 9 ∨ 32 ≤ c ∧ c ≤ 126) : a = b := by
  rcases h with h | h
  · omega
  · exact h.2
set_option maxRecDepth 100000 in
set_option maxHeartbeats 4000000 in
theorem plain_walk (s : ByteArray) (w : World) : Calls Tryz.prog 46 #[.string s] w fun e w' => e = .returned (.bool (s.data.toList.all isPlain)) ∧ Below w.heap.size w w' := by
  go_enter Tryz.func46, Tryz.ntmps46
  go_wp2
  go_loopw [] (fun wr => ∃ (pos : Nat), wr.heap[w.heap.size]? = some (.stringIter s pos) ∧ Below w.heap.size w wr ∧ Hid ((s.data.toList.drop pos).all isPlain = s.data.toList.all isPlain)) (fun wr => s.size - wr.iterPos w.heap.size)
  case atStart => exact ⟨0, World.iter_heap w s 0, (Below.refl _ _).alloc (Nat.le_refl _) _, Lib.hid rfl⟩
  case round =>
    obtain ⟨pos, hit, hbw, HS⟩ := hrel
    have hpos0 := iterPos_of hit
    by_cases hp : pos < s.size
    · have hnx : ∀ ty, (Instr.next (.pointer (some ⟨w.heap.size, 0, none⟩)) true ty).run Tryz.prog wr = _ := fun ty => Lib.run_next_any_at wr w.heap.size s pos ty hit hp
      have hwd := width_pos s pos hp
      have hsay := plain_says s pos hp
      have hit2 := Lib.iterAt_heap wr w.heap.size s pos (pos + (Utf8.decode s pos).2) hit
      have hbw2 := Lib.below_iterAt hbw (k := w.heap.size) (Nat.le_refl _) s (pos + (Utf8.decode s pos).2)
      obtain ⟨c, wd, hcw⟩ : ∃ c wd, Utf8.decode s pos = (c, wd) := ⟨_, _, rfl⟩
      rw [hcw] at hnx hwd hsay hit2 hbw2
      clear hcw
      dsimp only at hnx hwd hsay hit2 hbw2
      obtain ⟨W1, hW1⟩ : ∃ W1, W1 = wr.iterAt w.heap.size s (pos + wd) := ⟨_, rfl⟩
      rw [← hW1] at hnx hit2 hbw2
      have H2 := Lib.hid hit2
      have H3 := Lib.hid hbw2
      clear hW1 hit hbw hit2 hbw2
      have HY := Lib.hid hsay
      have HW := Lib.hid hwd
      clear hsay hwd
      by_cases h9 : (c : Int) = 9
      · have q9 := d9 h9
        have HN := Lib.hid (says_yes HY.out (.inl h9))
        clear HY h9
        go_wp2
        go_roundw
        case rel => exact ⟨_, H2.out, H3.out, Lib.hid (HN.out.symm.trans HS.out)⟩
        case measure =>
          rw [iterPos_of H2.out]
          exact less HW.out hp hpos0
      · have q9 := n9 h9
        by_cases h32 : (c : Int) < 32
        · have q32 : decide ((c : Int) < 32) = true := decide_eq_true h32
          have HN := Lib.hid (HS.out.symm.trans (says_no HY.out ⟨h9, .inl h32⟩))
          clear HY h9 h32
          go_wp2
          go_ret
          exact ⟨by rw [HN.out]; rfl, H3.out⟩
        · have q32 : decide ((c : Int) < 32) = false := decide_eq_false h32
          by_cases h126 : 126 < (c : Int)
          · have q126 : decide (126 < (c : Int)) = true := decide_eq_true h126
            have HN := Lib.hid (HS.out.symm.trans (says_no HY.out ⟨h9, .inr h126⟩))
            clear HY h9 h32 h126
            go_wp2
            go_ret
            exact ⟨by rw [HN.out]; rfl, H3.out⟩
          · have q126 : decide (126 < (c : Int)) = false := decide_eq_false h126
            have HN := Lib.hid (says_yes HY.out (.inr ⟨by omega, by omega⟩))
            clear HY h9 h32 h126
            go_wp2
            go_roundw
            case rel => exact ⟨_, H2.out, H3.out, Lib.hid (HN.out.symm.trans HS.out)⟩
            case measure =>
              rw [iterPos_of H2.out]
              exact less HW.out hp hpos0
    · have hnx : ∀ ty, (Instr.next (.pointer (some ⟨w.heap.size, 0, none⟩)) true ty).run Tryz.prog wr = _ := fun ty => Lib.run_next_end_at wr w.heap.size s pos ty hit hp
      have e := Lib.hid (HS.out.symm.trans (all_end s pos hp))
      clear HS
      go_wp2
      go_ret
      exact ⟨by rw [e.out]; rfl, hbw⟩

/-! ### the lines of a text, one by one: the function that lex.counts hands back -/
def aheadB (s : ByteArray) : ByteArray := ⟨(ahead s.data.toList).toArray⟩
abbrev nl : ByteArray := ⟨#[10]⟩
def piecesB (s : ByteArray) : List ByteArray := Lib.splitB nl 0 (Lib.countB s nl) s
/-- What the round k is handed. -/
def pieceAt (ps : List ByteArray) (k : Nat) : ByteArray := aheadB (ps[k]?.getD ByteArray.empty)
theorem piece_le (s : ByteArray) : ∀ x ∈ piecesB s, x.size ≤ s.size := by
  have h : ∀ (k : Nat) (s : ByteArray), ∀ x ∈ Lib.splitB nl 0 k s, x.size ≤ s.size := by
    intro k
    induction k with
    | zero =>
      intro s x hx
      rw [Lib.splitB_zero, List.mem_singleton] at hx
      rw [hx]
      exact Nat.le_refl _
    | succ k ih =>
      intro s x hx
      rw [Lib.splitB] at hx
      split at hx
      · rw [List.mem_singleton] at hx
        rw [hx]
        exact Nat.le_refl _
      · rcases List.mem_cons.mp hx with hx | hx
        · rw [hx, ByteArray.size_extract]; omega
        · have := ih _ x hx
          rw [ByteArray.size_extract] at this
          omega
  exact h _ s
/-- What a round keeps, as the iterator asks it: what lay below n₀, and whatever holds strings. -/
def KpS (n₀ : Nat) (W W' : World) : Prop := Below n₀ W W' ∧ ∀ (k : Nat) (cells : Array Value), W.heap[k]? = some (Obj.cells cells 9 (0, 0)) → W'.heap[k]? = some (Obj.cells cells 9 (0, 0))
theorem KpS.trans {n₀ : Nat} {A B C : World} (h : KpS n₀ A B) (k : KpS n₀ B C) : KpS n₀ A C := ⟨h.1.trans k.1, fun i cs hi => k.2 i cs (h.2 i cs hi)⟩
theorem KpS.book {n₀ : Nat} {w : World} (hn : n₀ ≤ w.heap.size) (W : World) (l : Nat) (o o' : Obj) (hl : w.heap.size ≤ l) (h : W.heap[l]? = some o) (hc : o.isCells = false) (hw : o.isWalk = false) : KpS n₀ W (W.putObj l o') :=
  ⟨belowK_b hn W l o o' hl h hc hw, fun k cs hk => by
    rw [World.putObj_heap_other (fun e => by
      have e' : k = l := by omega
      subst e'
      rw [h] at hk
      injection hk with hk
      subst hk
      cases hc)]
    exact hk⟩
theorem cut_any (s : ByteArray) (m : Int) (w : World) (hs : s.size < 4294967281) (hm : w.cell? ⟨5, 0, none⟩ = some (.int .i64 m)) :
    Calls Tryz.prog 72 #[.string s, .string ⟨#[59]⟩] w fun e w' => ∃ x b n, e = .returned (.tuple #[.string (aheadB s), .string x, .bool b]) ∧ w' = w.drewN n :=
  (Tryz.strings_Cut s ⟨#[59]⟩ m w hs hm).mono fun e w' ⟨he, n, hw⟩ => by
    have e0 : aheadB s = ⟨(Lib.cut s.data.toList (⟨#[59]⟩ : ByteArray).data.toList).1.toArray⟩ := congrArg (fun l : List UInt8 => (⟨l.toArray⟩ : ByteArray)) (cut_ahead _).symm
    exact ⟨_, _, n, by rw [e0]; exact he, hw⟩
set_option maxHeartbeats 1000000 in
/-- lex.counts: the text is boxed; the function value captures the box. -/
theorem counts_any (s : ByteArray) (w : World) :
    Calls Tryz.prog 45 #[.string s] w fun e w' => e = .returned (.func (.func 70) #[] #[.pointer (some ⟨w.heap.size, 0, none⟩)]) ∧ w' = w.alloc (.cells #[.string s] 9) := by
  go_enter Tryz.func45, Tryz.ntmps45
  go_wp2
  go_ret
  exact ⟨rfl, rfl⟩

attribute [local go_sem] Oper.semAt_some
theorem abides_alloc {β : Type} {B : Nat} {J : β → World → Prop} (h : AbidesFrom B J) {s : β} {W : World} (hs : J s W) (o : Obj) : J s (W.alloc o) := h s W _ none hs (World.grownBy_alloc W o none) (fun r e => by cases e)
theorem abides_drewN {β : Type} {B : Nat} {J : β → World → Prop} (h : AbidesFrom B J) {s : β} {W : World} (hs : J s W) (n : Nat) : J s (W.drewN n) := h s W _ none hs ⟨rfl, rfl, rfl, Nat.le_refl _, fun _ _ _ => rfl⟩ (fun r e => by cases e)
theorem KpS.cells {n₀ k : Nat} {W W' : World} {cells : Array Value} (h : KpS n₀ W W') (hk : W.heap[k]? = some (Obj.cells cells 9 (0, 0))) : W'.heap[k]? = some (Obj.cells cells 9 (0, 0)) := h.2 k cells hk
theorem piece_cell {W : World} {b k : Nat} {ps : List ByteArray} (h : W.heap[b]? = some (Obj.cells (ps.map Value.string).toArray 9 (0, 0))) (hk : k < ps.length) : W.cell? ⟨b, k, none⟩ = some (.string (ps[k]?.getD ByteArray.empty)) := by
  simp [World.cell?, h, List.getElem?_eq_getElem hk]
set_option maxRecDepth 100000 in
set_option maxHeartbeats 4000000 in
theorem counts1_in (n l Bt n₀ : Nat) (s : ByteArray) (m : Int) (hn : 3 ≤ n) (hsz : s.size ≤ 65536) (hg : 5 < n₀) (J Jx : List Nat → World → Prop) (W : World) (hJ : AbidesFrom W.heap.size J)
    (hY : ∀ (pre : List Nat) (x : Nat) W, J pre W → pre.length < (piecesB s).length → YieldAt Fence.wide (n - 1) Tryz.prog l #[.int .i64 ((x : Int) + 1), .string (pieceAt (piecesB s) x)] W fun e W' =>
      (e = .returned (.bool true) ∧ J (pre ++ [x]) W' ∧ KpS n₀ W W') ∨ (e = .returned (.bool false) ∧ Jx (pre ++ [x]) W'))
    (hn₀ : n₀ ≤ W.heap.size) (hBt : W.cell? ⟨Bt, 0, none⟩ = some (.string s)) (hm : W.cell? ⟨5, 0, none⟩ = some (.int .i64 m)) (h0 : J [] W) :
    CallsIn Fence.wide n Tryz.prog 70 #[.func (.yield l) #[] #[], .pointer (some ⟨Bt, 0, none⟩)] W fun e W' => (∃ v, e = .returned v) ∧
      ((∃ ys, ys = List.range (piecesB s).length ∧ J ys W') ∨ (∃ pre, (∃ k, k ≤ (piecesB s).length ∧ pre = List.range k) ∧ Jx pre W')) := by
  have hlen : Lib.countB s nl + 1 = (piecesB s).length := (Lib.splitB_all nl (by decide) 0 _ s rfl).symm
  have hlen2 : (piecesB s).length ≤ 65537 := by
    have := Lib.countB_le nl (by decide) s.size s (Nat.le_refl _)
    omega
  have hSp := Tryz.strings_Split s nl m W (by omega) hm (by decide)
  rw [hlen] at hSp
  have hSp : Calls Tryz.prog 71 #[.string s, .string nl] W fun e w' => e = .returned (.slice (some ⟨W.heap.size, 0, none⟩) (piecesB s).length (piecesB s).length) ∧ w' = W.alloc (.cells ((piecesB s).map Value.string).toArray 9) := hSp
  have hp := piece_le s
  clear hlen
  have hn1 : 1 ≤ n := by omega
  obtain ⟨ps, hps⟩ : ∃ ps, ps = piecesB s := ⟨_, rfl⟩
  rw [← hps] at hSp hp hY hlen2 ⊢
  have HS := Lib.hid hSp
  have HP := Lib.hid hp
  clear hps hSp hp
  refine callsIn_of_wp Tryz.func70 rfl trivial ?_ rfl
  simp only [Tryz.ntmps70, List.size_toArray, List.length_cons, List.length_nil, Nat.reduceAdd, Nat.reduceSub, Array.replicate_succ, Array.replicate_zero, List.push_toArray, List.append_toArray, List.nil_append, List.cons_append]
  gi_wp2_with (refine ⟨trivial, ?_⟩; gi_at_call 71; refine (callsIn_wide.2 HS.out).mono ?_; rintro e w' ⟨rfl, rfl⟩)
  gi_loopw [8] (fun i wr => ∃ k : Nat, k ≤ ps.length ∧ i = .int .i64 k ∧ J (List.range k) wr ∧ Below n₀ W wr ∧ wr.heap[W.heap.size]? = some (Obj.cells (ps.map Value.string).toArray 9 (0, 0)))
    (fun i _ => ps.length - (intOf i).toNat)
  case atStart => exact ⟨0, Nat.zero_le _, rfl, abides_alloc hJ h0 _, (Below.refl n₀ W).alloc hn₀ _, World.alloc_heap_new W _⟩
  case round =>
    obtain ⟨k, hk, rfl, hJs, hnx, hcs⟩ := hrel
    by_cases hlt : k < ps.length
    · have hcx := piece_cell hcs hlt
      have hle : (ps[k]?.getD ByteArray.empty).size < 4294967281 := by
        rw [List.getElem?_eq_getElem hlt]
        have := HP.out _ (List.getElem_mem hlt)
        simp only [Option.getD_some]
        omega
      have hmx : wr.cell? ⟨5, 0, none⟩ = some (.int .i64 m) := (hnx.cell (p := ⟨5, 0, none⟩) hg).trans hm
      obtain ⟨pk, hpk⟩ : ∃ pk, pk = ps[k]?.getD ByteArray.empty := ⟨_, rfl⟩
      rw [← hpk] at hcx hle
      have HPK := Lib.hid hpk
      have HC := Lib.hid (cut_any pk m wr hle hmx)
      clear hle hmx hpk
      gi_wp2_with (refine ⟨trivial, ?_⟩; gi_at_call 72; (with_reducible refine (callsIn_wide.2 HC.out).mono ?_); rintro e w' ⟨x, b, nq, rfl, rfl⟩; obtain ⟨fn, tmps, assign, body, hy, hR⟩ := hY (List.range k) k (wr.drewN nq) (abides_drewN hJ hJs nq) (by rw [List.length_range]; exact hlt); rw [show pieceAt ps k = aheadB pk by rw [HPK.out]; rfl] at hy)
      refine hR.mono ?_
      rintro e W3 (⟨rfl, hJ3, hk3⟩ | ⟨rfl, hJx3⟩)
      · have hcs3 := hk3.cells hcs
        gi_wp2
        go_roundw
        case rel => exact ⟨k + 1, by omega, by simp, by rw [List.range_succ]; exact hJ3, (pw_below_drewN hnx _).trans hk3.1, hcs3⟩
        case measure => simp [intOf]; omega
      · gi_wp2
        refine bodyPost_ret (results_none rfl _ _ _) rfl ?_
        exact ⟨⟨_, rfl⟩, .inr ⟨_, ⟨k + 1, by omega, by rw [List.range_succ]⟩, hJx3⟩⟩
    · obtain rfl : k = ps.length := by omega
      gi_wp2
      go_end0
      exact ⟨⟨_, rfl⟩, .inl ⟨_, rfl, hJs⟩⟩
theorem counts_stops (n Bt n₀ : Nat) (s : ByteArray) (m : Int) (hn : 3 ≤ n) (hsz : s.size ≤ 65536) (hg : 5 < n₀) (w : World) (hn₀ : n₀ ≤ w.heap.size) (hBt : w.cell? ⟨Bt, 0, none⟩ = some (.string s))
    (hm : w.cell? ⟨5, 0, none⟩ = some (.int .i64 m)) :
    SeqStopsK Fence.wide n Tryz.prog 70 #[.pointer (some ⟨Bt, 0, none⟩)] (fun x : Nat => #[Value.int .i64 ((x : Int) + 1), Value.string (pieceAt (piecesB s) x)]) (KpS n₀) (fun ys => ys = List.range (piecesB s).length) (fun pre => ∃ k, k ≤ (piecesB s).length ∧ pre = List.range k) (piecesB s).length w :=
  fun l J Jx W hW hJ _ hY h0 =>
    counts1_in n l Bt n₀ s m hn hsz hg J Jx W hJ hY (Nat.le_trans hn₀ hW.size) ((hW.cell (p := ⟨Bt, 0, none⟩) (World.block_lt_of_cell? _ _ hBt)).trans hBt) ((hW.cell (p := ⟨5, 0, none⟩) (Nat.lt_of_lt_of_le hg hn₀)).trans hm) h0

/-! ### an append within a round -/
theorem wpListIn_append_at {F : Fence} {n : Nat} {P : Program} {w0 W : World} {ops : Array Oper} {rest : List Oper} {o : Oper} {a : Act} {Q : Exit → Act → World → Prop} (base : Nat) (hgd : o.guard = none) (s x : Operand) (t e : TypeId) (z : Value) (size bytes : Nat)
    (ho : o.op = .call { callee := .builtin .append, args := #[s, x], argTypes := #[t, t] })
    (ht : P.underlying t = some (.slice e)) (hinfo : (P.info? e).map (fun i => (i.zero, i.size, i.bytes)) = some (some z, size, bytes)) (hz : z.cells.size = size) (hs0 : 0 < size) (hb0 : 0 < bytes)
    (v : Value) (k : Nat) (xs ys : List Value) (hs : a.eval s = v) (hx : a.eval x = .slice (some ⟨W.heap.size, 0, none⟩) 1 1) (hys : ys.length = size) (h1 : ∀ u ∈ ys, u.oneCell' = true)
    (HO : W.ownsRow base e size v k xs) (HB : Below base w0 W) (hbase : base ≤ W.heap.size) (hl : (k + 1) * bytes ≤ 140737488355328)
    (h : ∀ v1 w1, w1.ownsRow base e size v1 (k + 1) (xs ++ ys) → Below base w0 w1 → W.grownBy w1 v.ownBlock → (v1.ownBlock = v.ownBlock ∨ ∃ b, v1.ownBlock = some b ∧ W.heap.size ≤ b) → wpListIn F n P ops Q rest (a.put o.dst v1) w1) :
    wpListIn F n P ops Q (o :: rest) a (W.alloc (.cells ys.toArray e)) := by
  obtain ⟨i0, hi, hzz⟩ := Option.map_eq_some_iff.1 hinfo
  simp only [Prod.mk.injEq] at hzz
  obtain ⟨hz0, hz1, hz2⟩ := hzz
  have hlen : k + 1 ≤ 140737488355328 := Nat.le_trans (Nat.le_mul_of_pos_right _ hb0) hl
  refine wpListIn_plain hgd fun K hK' => ?_
  obtain ⟨v1, w1, hrun, hown, hg, _, hat⟩ := run_append_own_at (P := P) (W.alloc (.cells ys.toArray e)) base t o.type e i0 z size bytes ht hi hz0 hz1 hz2 hz hs0 v k xs (HO.alloc _) ⟨W.heap.size, 0, none⟩ 1 1 ys (by rw [hys]; simp)
    (by simpa using World.news_of_block (cs := ys.toArray) (t := e) (fr := (0, 0)) (World.alloc_heap_new W (.cells ys.toArray e))) h1 (by simp only [maxLen]; omega) hl (by simp; omega)
  unfold Oper.wpIn
  refine ⟨?_, ?_⟩
  · simp [Oper.about, ho, resolve, Target.leads, Sem.run_pure]
  · rw [Oper.semAt_plain F _ _ (by rw [ho]; intro c hc'; cases hc')]
    simp [execOp, ho, resolve, invoke, builtin, hs, hx, hrun, Result.andThen]
    refine hK' _ _ (h v1 w1 hown ((HB.alloc hbase _).grown hg (by simp; omega) (own_base HO)) (World.grownBy.trans (World.grownBy_alloc W _ _) hg) ?_)
    rcases hat with hat | hat
    · exact .inl hat
    · exact .inr ⟨_, hat, by simp⟩
theorem wpListIn_S {α : Type} (d : Kd α) {F : Fence} {n : Nat} {P : Program} {w0 W : World} {ops : Array Oper} {rest : List Oper} {o : Oper} {a : Act} {Q : Exit → Act → World → Prop} (base : Nat) (hgd : o.guard = none) (s x : Operand) (t e : TypeId) (z : Value) (bytes : Nat)
    (ho : o.op = .call { callee := .builtin .append, args := #[s, x], argTypes := #[t, t] })
    (ht : P.underlying t = some (.slice e)) (hinfo : (P.info? e).map (fun i => (i.zero, i.size, i.bytes)) = some (some z, d.sz, bytes)) (hz : z.cells.size = d.sz) (hs0 : 0 < d.sz) (hb0 : 0 < bytes)
    (v : Value) (xs : List α) (p : α) (cs : List Value) (ok okp : Nat → Prop) (hs : a.eval s = v) (hx : a.eval x = .slice (some ⟨W.heap.size, 0, none⟩) 1 1) (hp : d.M W base okp p cs) (hokp : ∀ k, okp k → ok k ∧ some k ≠ v.ownBlock) (hfresh : ∀ k, W.heap.size ≤ k → ok k)
    (HO : Kd.S d e W base (fun k => ok k ∧ ¬ okp k) v xs) (HB : Below base w0 W) (hbase : base ≤ W.heap.size) (hl : (xs.length + 1) * bytes ≤ 140737488355328)
    (h : ∀ v1 w1, Kd.S d e w1 base ok v1 (xs ++ [p]) → Below base w0 w1 → W.grownBy w1 v.ownBlock → wpListIn F n P ops Q rest (a.put o.dst v1) w1) :
    wpListIn F n P ops Q (o :: rest) a (W.alloc (.cells cs.toArray e)) := by
  obtain ⟨f, hf, hR⟩ := Kd.S_tag HO xs.length okp (fun _ hk h2 => h2.2 hk)
  obtain ⟨h0, inner, hown, hr⟩ := Kd.R_mono (ok' := ok) hR (fun _ hk => hk.1)
  have hpM : (Kd.tag f d).M W base okp (p, xs.length) cs := d.M_mono (fun k hk => ⟨hk, hf k hk⟩) hp
  rw [List.length_zipIdx] at hown
  refine wpListIn_append_at base hgd s x t e z d.sz bytes ho ht hinfo hz hs0 hb0 v xs.length inner cs hs hx (d.K_len (d.K_of_M hp)) (d.K_one (d.K_of_M hp)) hown HB hbase hl ?_
  intro v1 w1 hown1 hb1 hg1 hat1
  have hR1 := Kd.R_appended (d := Kd.tag f d) (p := (p, xs.length)) h0 hr hpM hokp hfresh (by rw [List.length_zipIdx]; exact hown1) hg1 hat1
  rw [← Kd.zip_snoc] at hR1
  exact h v1 w1 ⟨f, hR1⟩ hb1 hg1
/-- Rows of strings, made by one block. -/
theorem strings_lit (W : World) (base : Nat) (l : List ByteArray) (hb : base ≤ W.heap.size) (hl : l.length ≤ 9223372036854775807) :
    Kd.string.R 9 (W.alloc (.cells (l.map Value.string).toArray 9)) base (fun k => k = W.heap.size) (.slice (some ⟨W.heap.size, 0, none⟩) l.length l.length) l := by
  refine Kd.R_of_own ?_ (fun k hk => by simpa [Value.ownBlock] using hk.symm)
  have h := World.ownsRow_lit (base := base) (e := 9) (size := 1) W (l.map Value.string).toArray l.length hb (by simpa [maxLen] using hl) (by simp)
  simpa [encs] using h
/-- A turn of what is no cells. -/
theorem S_turned {α : Type} {d : Kd α} {e : Nat} {w w1 : World} {base : Nat} {ok : Nat → Prop} {v : Value} {xs : List α} (h : Kd.S d e w base ok v xs) {row : Option Nat} (hg : w.grownBy w1 row) (hr : ∀ r, row = some r → ∃ o : Obj, w.heap[r]? = some o ∧ o.isCells = false) : Kd.S d e w1 base ok v xs :=
  Kd.S_mono (Kd.S_grown (Kd.S_bound h) hg (fun k hk e => by
    obtain ⟨o, ho, hc⟩ := hr k e.symm
    obtain ⟨_, _, _, q, _, cells, hcs⟩ := hk
    rw [hcs] at ho
    injection ho with ho
    subst ho
    cases hc)) (fun k hk => hk.1)

/-! ### lex.Lines -/
def wordsL (s : ByteArray) : List ByteArray := (Lib.fields s.data.toList).map fun l => ⟨l.toArray⟩
def lineOf (ps : List ByteArray) (x : Nat) : Option S61 := if (wordsL (pieceAt ps x)).isEmpty then none else some ⟨(x : Int) + 1, wordsL (pieceAt ps x)⟩
def lined (ps : List ByteArray) (pre : List Nat) : List S61 := pre.filterMap (lineOf ps)
def plainB (x : ByteArray) : Bool := x.data.toList.all isPlain
theorem lined_none (ps : List ByteArray) (pre : List Nat) (x : Nat) (h : wordsL (pieceAt ps x) = []) : lined ps (pre ++ [x]) = lined ps pre := by
  unfold lined
  rw [List.filterMap_append, List.filterMap_cons]
  simp [lineOf, h]
theorem lined_some (ps : List ByteArray) (pre : List Nat) (x : Nat) (h : wordsL (pieceAt ps x) ≠ []) : lined ps (pre ++ [x]) = lined ps pre ++ [⟨(x : Int) + 1, wordsL (pieceAt ps x)⟩] := by
  unfold lined
  rw [List.filterMap_append, List.filterMap_cons]
  simp [lineOf, h]
theorem lined_le (ps : List ByteArray) (pre : List Nat) : (lined ps pre).length ≤ pre.length := by unfold lined; exact List.length_filterMap_le _ _
theorem pieceAt_le (s : ByteArray) (k : Nat) : (pieceAt (piecesB s) k).size ≤ s.size := by
  have h1 : ∀ x : ByteArray, (aheadB x).size ≤ x.size := by
    intro x
    unfold aheadB ahead
    rw [show (⟨(List.takeWhile (fun b => !(b == 59)) x.data.toList).toArray⟩ : ByteArray).size = (List.takeWhile (fun b => !(b == 59)) x.data.toList).length from by show Array.size _ = _; simp]
    have := (List.takeWhile_prefix (fun b : UInt8 => !(b == 59)) (l := x.data.toList)).length_le
    rw [Array.length_toList] at this
    exact this
  refine Nat.le_trans (h1 _) ?_
  by_cases h : k < (piecesB s).length
  · rw [List.getElem?_eq_getElem h]
    exact piece_le s _ (List.getElem_mem h)
  · rw [List.getElem?_eq_none (by omega)]
    exact Nat.zero_le _
theorem info_line : (Tryz.prog.info? 61).map (fun i => (i.zero, i.size, i.bytes)) = some (some (.agg #[.int .i64 0, .slice none 0 0]), 2, 32) := by kernel_rfl
/-- Between two rounds. -/
structure LI (ps : List ByteArray) (B : Nat) (w : World) (pre : List Nat) (W : World) : Prop where
  l : ∃ v, Boxed W (B + 3) 52 v ∧ Kd.S k61 61 W B (fun _ => True) v (lined ps pre)
  r0 : Boxed W B 52 (.slice none 0 0)
  r1 : Boxed W (B + 1) 3 (.int .i64 0)
  r2 : Boxed W (B + 2) 27 (.int .i64 0)
  plain : ∀ x ∈ pre, plainB (pieceAt ps x) = true
  below : Below B w W
/-- A round has returned. -/
structure LX (ps : List ByteArray) (B : Nat) (w : World) (c : Code) (pre : List Nat) (W : World) : Prop where
  ret : c = .ret
  bad : ∃ ini x, pre = ini ++ [x] ∧ (∀ y ∈ ini, plainB (pieceAt ps y) = true) ∧ plainB (pieceAt ps x) = false ∧ Boxed W (B + 1) 3 (.int .i64 ((x : Int) + 1))
  r0 : Boxed W B 52 (.slice none 0 0)
  r2 : Boxed W (B + 2) 27 (.int .i64 6)
  below : Below B w W
theorem boxed_turned {W W1 : World} {b t : Nat} {v : Value} (h : Boxed W b t v) {row : Option Nat} (hg : W.grownBy W1 row) (hr : ∀ r, row = some r → ∃ o : Obj, W.heap[r]? = some o ∧ o.isCells = false) : Boxed W1 b t v :=
  h.kept hg (fun e => by
    obtain ⟨o, ho, hc⟩ := hr b e.symm
    rw [show W.heap[b]? = _ from h] at ho
    cases ho
    cases hc)
theorem below_turned {B : Nat} {w W W1 : World} (h : Below B w W) {row : Option Nat} (hg : W.grownBy W1 row) (hB : B ≤ W.heap.size) (hr : ∀ r, row = some r → B ≤ r) : Below B w W1 := h.grown hg hB hr
theorem LI.own {ps : List ByteArray} {B C : Nat} {w : World} (hB : B ≤ w.heap.size) (hC : B ≤ C) : OwnFrom C (LI ps B w) := by
  intro pre W W1 row h hg hr
  obtain ⟨v, hv, hS⟩ := h.l
  have hr' : ∀ r, row = some r → ∃ o : Obj, W.heap[r]? = some o ∧ o.isCells = false := fun r e => (hr r e).2
  exact ⟨⟨v, boxed_turned hv hg hr', S_turned hS hg hr'⟩, boxed_turned h.r0 hg hr', boxed_turned h.r1 hg hr', boxed_turned h.r2 hg hr', h.plain, below_turned h.below hg (Nat.le_trans hB h.below.size) (fun r e => Nat.le_trans hC (hr r e).1)⟩
theorem LX.own {ps : List ByteArray} {B C : Nat} {w : World} (hB : B ≤ w.heap.size) (hC : B ≤ C) (c : Code) : OwnFrom C (LX ps B w c) := by
  intro pre W W1 row h hg hr
  have hr' : ∀ r, row = some r → ∃ o : Obj, W.heap[r]? = some o ∧ o.isCells = false := fun r e => (hr r e).2
  obtain ⟨ini, x, e1, e2, e3, e4⟩ := h.bad
  exact ⟨h.ret, ⟨ini, x, e1, e2, e3, boxed_turned e4 hg hr'⟩, boxed_turned h.r0 hg hr', boxed_turned h.r2 hg hr', below_turned h.below hg (Nat.le_trans hB h.below.size) (fun r e => Nat.le_trans hC (hr r e).1)⟩

theorem keepsOthers_below {W W' : World} (h : Below W.heap.size W W') : KeepsOthers W W' :=
  ⟨h.size, fun k _ hk _ => (h.block k (Array.getElem?_eq_some_iff.1 hk).1).trans hk⟩
theorem boxed_below {W W' : World} {b t : Nat} {v : Value} (h : Boxed W b t v) (hb : Below W.heap.size W W') : Boxed W' b t v := (hb.block b h.lt).trans h
theorem KpS.of_below {n₀ : Nat} {W W' : World} (hn : n₀ ≤ W.heap.size) (h : Below W.heap.size W W') : KpS n₀ W W' :=
  ⟨h.mono hn, fun k _ hk => (h.block k (Array.getElem?_eq_some_iff.1 hk).1).trans hk⟩
theorem body_keep {ps : List ByteArray} {B C x : Nat} {w W W' : World} {pre : List Nat} (hI : LI ps B w pre W) (hB : B ≤ W.heap.size) (hx : plainB (pieceAt ps x) = true) (hws : wordsL (pieceAt ps x) = []) (hb : Below W.heap.size W W') :
    KeepsFrom C W W' ∧ KpS B W W' ∧ LI ps B w (pre ++ [x]) W' := by
  obtain ⟨v, hv, hS⟩ := hI.l
  refine ⟨(keepsOthers_below hb).from _, KpS.of_below hB hb, ⟨v, boxed_below hv hb, by rw [lined_none ps pre x hws]; exact Kd.S_below hS hb⟩, boxed_below hI.r0 hb, boxed_below hI.r1 hb, boxed_below hI.r2 hb, fun y hy => ?_, hI.below.trans (hb.mono hB)⟩
  rcases List.mem_append.mp hy with hy | hy
  · exact hI.plain y hy
  · rw [List.mem_singleton.mp hy]; exact hx
theorem body_bad {ps : List ByteArray} {B C x : Nat} {w W W1 : World} {pre : List Nat} (hI : LI ps B w pre W) (hB : B ≤ W.heap.size) (hx : plainB (pieceAt ps x) = false) (hb : Below W.heap.size W W1) :
    KeepsFrom C W (((W1.setCell ⟨B, 0, none⟩ (.slice none 0 0)).setCell ⟨B + 1, 0, none⟩ (.int .i64 ((x : Int) + 1))).setCell ⟨B + 2, 0, none⟩ (.int .i64 6)) ∧
      LX ps B w .ret (pre ++ [x]) (((W1.setCell ⟨B, 0, none⟩ (.slice none 0 0)).setCell ⟨B + 1, 0, none⟩ (.int .i64 ((x : Int) + 1))).setCell ⟨B + 2, 0, none⟩ (.int .i64 6)) := by
  have h0 := boxed_below hI.r0 hb
  have h1 := boxed_below hI.r1 hb
  have h2 := boxed_below hI.r2 hb
  refine ⟨((((keepsOthers_below hb).trans (KeepsOthers.setCell _ _ _)).trans (KeepsOthers.setCell _ _ _)).trans (KeepsOthers.setCell _ _ _)).from _, rfl, ⟨pre, x, rfl, hI.plain, hx, ?_⟩, ?_, ?_, ?_⟩
  · exact Boxed.other ((Boxed.other h1 (by omega) _).set _) (by omega) _
  · exact Boxed.other (Boxed.other (h0.set _) (by omega) _) (by omega) _
  · exact (Boxed.other (Boxed.other h2 (by omega) _) (by omega) _).set _
  · exact (((hI.below.trans (hb.mono hB)).setCell (p := ⟨B, 0, none⟩) (Nat.le_refl _) _).setCell (p := ⟨B + 1, 0, none⟩) (by simp) _).setCell (p := ⟨B + 2, 0, none⟩) (by simp) _
theorem body_add {ps : List ByteArray} {B C x : Nat} {w W W2 w3 : World} {pre : List Nat} {v v1 : Value} (hI : LI ps B w pre W) (hB : B ≤ W.heap.size) (hx : plainB (pieceAt ps x) = true) (hws : wordsL (pieceAt ps x) ≠ []) (hb2 : Below W.heap.size W W2)
    (hv : Boxed W (B + 3) 52 v) (hS : Kd.S k61 61 W B (fun _ => True) v (lined ps pre)) (hg : W2.grownBy w3 v.ownBlock)
    (hS3 : Kd.S k61 61 w3 B (fun _ => True) v1 (lined ps pre ++ [⟨(x : Int) + 1, wordsL (pieceAt ps x)⟩])) (hb3 : Below B w w3) :
    KeepsFrom C W (w3.setCell ⟨B + 3, 0, none⟩ v1) ∧ KpS B W (w3.setCell ⟨B + 3, 0, none⟩ v1) ∧ LI ps B w (pre ++ [x]) (w3.setCell ⟨B + 3, 0, none⟩ v1) := by
  have hty : ∀ k, v.ownBlock = some k → ∃ cells, W2.heap[k]? = some (Obj.cells cells 61 (0, 0)) := Kd.S_typed (Kd.S_below hS hb2)
  have away : ∀ {b t : Nat} {u : Value}, Boxed W b t u → t ≠ 61 → Boxed w3 b t u := fun h ht =>
    (boxed_below h hb2).kept hg (fun e => by
      obtain ⟨cells, hc⟩ := hty _ e.symm
      rw [show W2.heap[_]? = _ from boxed_below h hb2] at hc
      injection hc with hc
      injection hc with _ hc
      exact ht hc)
  have hv3 := away hv (by decide)
  refine ⟨(((keepsOthers_below hb2).trans (KeepsOthers.of_grownBy hg fun j _ ej hj => ?_)).trans (KeepsOthers.setCell _ _ _)).from _, ⟨?_, ?_⟩, ⟨v1, hv3.set _, ?_⟩, ?_, ?_, ?_, ?_, ?_⟩
  · obtain ⟨cells, hc⟩ := hty j ej
    rw [hc] at hj
    cases hj
    rfl
  · exact ((hb2.mono hB).grown hg (Nat.le_trans hB hb2.size) (fun j ej => Kd.S_base hS j ej)).setCell (p := ⟨B + 3, 0, none⟩) (by simp) _
  · intro k cs hk
    have hk2 := (hb2.block k (Array.getElem?_eq_some_iff.1 hk).1).trans hk
    have hk3 : w3.heap[k]? = some (Obj.cells cs 9 (0, 0)) := (hg.block k (Array.getElem?_eq_some_iff.1 hk2).1 (fun e => by
      obtain ⟨cells, hc⟩ := hty k e.symm
      rw [hk2] at hc
      injection hc with hc
      injection hc with _ hc
      exact absurd hc (by decide))).trans hk2
    rw [Below.heap_setCell _ _ _ k (fun e => by
      have e' : k = B + 3 := e
      subst e'
      rw [show w3.heap[B + 3]? = _ from hv3] at hk3
      injection hk3 with hk3
      injection hk3 with _ hk3
      exact absurd hk3 (by decide))]
    exact hk3
  · rw [lined_some ps pre x hws]
    exact Kd.S_set hS3 (show w3.heap[B + 3]? = _ from hv3) (fun q hq => by
      have hq' : q ∈ [61, 9] := hq
      simp at hq'
      rcases hq' with rfl | rfl <;> decide) 0 v1
  · exact Boxed.other (away hI.r0 (by decide)) (by omega) _
  · exact Boxed.other (away hI.r1 (by decide)) (by omega) _
  · exact Boxed.other (away hI.r2 (by decide)) (by omega) _
  · intro y hy
    rcases List.mem_append.mp hy with hy | hy
    · exact hI.plain y hy
    · rw [List.mem_singleton.mp hy]; exact hx
  · exact hb3.setCell (p := ⟨B + 3, 0, none⟩) (by simp) _
/-- What the append of a line asks for. -/
theorem add_facts {ps : List ByteArray} {B g : Nat} {w W w2 : World} {pre : List Nat} {v : Value} {ws : List ByteArray} (hI : LI ps B w pre W) (hv : Boxed W (B + 3) 52 v)
    (hS : Kd.S k61 61 W B (fun _ => True) v (lined ps pre)) (hb2 : Below W.heap.size W w2) (hR : Kd.string.R 9 w2 B (fun k => k = g) (.slice (some ⟨g, 0, none⟩) ws.length ws.length) ws)
    (hg : W.heap.size ≤ g) (hB : B ≤ W.heap.size) (x : Nat) :
    Hid (k61.M w2 B (fun k => k = g) ⟨(x : Int) + 1, ws⟩ [.int .i64 ((x : Int) + 1), .slice (some ⟨g, 0, none⟩) ws.length ws.length]) ∧
    Hid (∀ k, k = g → True ∧ some k ≠ v.ownBlock) ∧ Hid (Kd.S k61 61 w2 B (fun k => True ∧ ¬ k = g) v (lined ps pre)) ∧ Hid (Below B w w2) ∧ Hid (B ≤ w2.heap.size) ∧
    Hid (∀ w3, w2.grownBy w3 v.ownBlock → Boxed w3 (B + 3) 52 v) := by
  have hlt := Kd.S_lt hS
  refine ⟨Lib.hid (k61_mkM _ _ _ ⟨(x : Int) + 1, ws⟩ hR), Lib.hid (fun k hk => ⟨trivial, fun e => ?_⟩), Lib.hid (Kd.S_mono (Kd.S_old hS hb2) (fun k hk => ⟨trivial, fun e => ?_⟩)), Lib.hid (hI.below.trans (hb2.mono hB)), Lib.hid (Nat.le_trans hB hb2.size), Lib.hid (fun w3 h3 => ?_)⟩
  · have := hlt k e.symm
    omega
  · have := hk.2
    omega
  · refine (boxed_below hv hb2).kept h3 (fun e => ?_)
    obtain ⟨cells, hc⟩ := Kd.S_typed (Kd.S_below hS hb2) _ e.symm
    rw [show w2.heap[_]? = _ from boxed_below hv hb2] at hc
    injection hc with hc
    injection hc with _ hc
    exact absurd hc (by decide)
theorem plain_any (x : ByteArray) (b : Bool) (h : plainB x = b) (w : World) : Calls Tryz.prog 46 #[.string x] w fun e w' => e = .returned (.bool b) ∧ Below w.heap.size w w' := by rw [← h]; exact plain_walk x w
theorem fields_any (x : ByteArray) (w : World) (hs : x.size ≤ 65536) (h : plainB x = true) (ht : LaidTabs w) :
    Calls Tryz.prog 47 #[.string x] w fun e w' => e = .returned (.slice (some ⟨w.heap.size, 0, none⟩) (wordsL x).length (wordsL x).length) ∧ w' = w.alloc (.cells ((wordsL x).map Value.string).toArray 9) := by
  refine (Tryz.strings_Fields x w (by omega) (fun j b hj => ?_) ht.ascii).mono ?_
  · have hb := List.all_eq_true.mp h b (List.mem_of_getElem? hj)
    have : b.toNat = 9 ∨ 32 ≤ b.toNat ∧ b.toNat ≤ 126 := of_decide_eq_true hb
    omega
  · rintro e w' ⟨he, hw⟩
    refine ⟨by rw [he]; simp [wordsL], by rw [hw]; simp [wordsL, Function.comp_def]⟩
theorem cntF_size : ∀ (l : List UInt8) (ws : Bool), Lib.cntF ws l ≤ l.length
  | [], _ => Nat.le_refl _
  | b :: l, ws => by
    have := cntF_size l (Lib.isSp b)
    rw [Lib.cntF_step, List.length_cons]
    split <;> omega
theorem fields_some (x : ByteArray) (w : World) (hs : x.size ≤ 65536) (h : plainB x = true) (ht : LaidTabs w) (l : List ByteArray) (hl : wordsL x = l) :
    Calls Tryz.prog 47 #[.string x] w fun e w' => ∃ g, e = .returned (.slice (some ⟨g, 0, none⟩) l.length l.length) ∧ Kd.string.R 9 w' w.heap.size (fun k => k = g) (.slice (some ⟨g, 0, none⟩) l.length l.length) l ∧ w.heap.size ≤ g ∧ Below w.heap.size w w' := by
  refine (fields_any x w hs h ht).mono fun e w' ⟨he, hw'⟩ => ?_
  rw [hl] at he hw'
  have hlen : l.length ≤ 65536 := by
    rw [← hl]
    have : (wordsL x).length = (Lib.fields x.data.toList).length := by simp [wordsL]
    rw [this, Lib.fields_length]
    have := cntF_size x.data.toList true
    rw [Array.length_toList] at this
    have : x.data.size = x.size := rfl
    omega
  exact ⟨w.heap.size, he, by rw [hw']; exact strings_lit w w.heap.size l (Nat.le_refl _) (by omega), Nat.le_refl _, by rw [hw']; exact below_alloc (Below.refl _ _) _⟩
theorem pieces_le (s : ByteArray) (h : s.size ≤ 65536) : (piecesB s).length ≤ 65537 := by
  have hlen : Lib.countB s nl + 1 = (piecesB s).length := (Lib.splitB_all nl (by decide) 0 _ s rfl).symm
  have := Lib.countB_le nl (by decide) s.size s (Nat.le_refl _)
  omega
theorem fields_none (x : ByteArray) (w : World) (hs : x.size ≤ 65536) (h : plainB x = true) (ht : LaidTabs w) (hw : wordsL x = []) :
    Calls Tryz.prog 47 #[.string x] w fun e w' => e = .returned (.slice (some ⟨w.heap.size, 0, none⟩) 0 0) ∧ Below w.heap.size w w' :=
  (fields_any x w hs h ht).mono fun e w' ⟨he, hw'⟩ => ⟨by rw [he, hw]; rfl, by rw [hw']; exact below_alloc (Below.refl _ _) _⟩
/-- What lex.Lines hands back of a text's pieces. -/
def linesRes (ps : List ByteArray) : List S61 × Int × Int :=
  match (List.range ps.length).find? (fun k => !plainB (pieceAt ps k)) with
  | some k => ([], (k : Int) + 1, 6)
  | none => (lined ps (List.range ps.length), 0, 0)
def LinesPost (w : World) (r : List S61 × Int × Int) (e : Ending) (w' : World) : Prop :=
  ∃ v0, e = .returned (.tuple #[v0, .int .i64 r.2.1, .int .i64 r.2.2]) ∧ Kd.S k61 61 w' w.heap.size (fun _ => True) v0 r.1 ∧ Below w.heap.size w w'
theorem linesRes_ok (ps : List ByteArray) (h : ∀ x ∈ List.range ps.length, plainB (pieceAt ps x) = true) : linesRes ps = (lined ps (List.range ps.length), 0, 0) := by
  unfold linesRes
  rw [List.find?_eq_none.mpr (fun x hx => by rw [h x hx]; simp)]
theorem linesRes_bad (ps : List ByteArray) {k x : Nat} {ini : List Nat} (hk : k ≤ ps.length) (e : List.range k = ini ++ [x]) (h1 : ∀ y ∈ ini, plainB (pieceAt ps y) = true) (h2 : plainB (pieceAt ps x) = false) : linesRes ps = ([], (x : Int) + 1, 6) := by
  have hf : (List.range ps.length).find? (fun k => !plainB (pieceAt ps k)) = some x := by
    rw [List.find?_eq_some_iff_append]
    refine ⟨by rw [h2]; rfl, ini, (List.range (ps.length - k)).map (k + ·), ?_, fun y hy => by rw [h1 y hy]; rfl⟩
    rw [show ps.length = k + (ps.length - k) by omega, List.range_add, e]
    simp
  unfold linesRes
  rw [hf]
theorem done_facts {ps : List ByteArray} {B D : Nat} {w W : World} {pre : List Nat} {v : Value} {xs : List S61} (hI : LI ps B w pre W) (hS : Kd.S k61 61 W B (fun _ => True) v xs)
    (hK : (((W.setCell ⟨B, 0, none⟩ v).setCell ⟨B + 1, 0, none⟩ (.int .i64 0)).setCell ⟨B + 1 + 1, 0, none⟩ (.int .i64 0)).heap[D]? = some (Obj.deferred (some []))) (hD : B ≤ D) :
    (((((W.setCell ⟨B, 0, none⟩ v).setCell ⟨B + 1, 0, none⟩ (.int .i64 0)).setCell ⟨B + 1 + 1, 0, none⟩ (.int .i64 0)).putObj D (.deferred none)).cell? ⟨B, 0, none⟩ = some v) ∧
    (((((W.setCell ⟨B, 0, none⟩ v).setCell ⟨B + 1, 0, none⟩ (.int .i64 0)).setCell ⟨B + 1 + 1, 0, none⟩ (.int .i64 0)).putObj D (.deferred none)).cell? ⟨B + 1, 0, none⟩ = some (.int .i64 0)) ∧
    (((((W.setCell ⟨B, 0, none⟩ v).setCell ⟨B + 1, 0, none⟩ (.int .i64 0)).setCell ⟨B + 1 + 1, 0, none⟩ (.int .i64 0)).putObj D (.deferred none)).cell? ⟨B + 1 + 1, 0, none⟩ = some (.int .i64 0)) ∧
    Kd.S k61 61 ((((W.setCell ⟨B, 0, none⟩ v).setCell ⟨B + 1, 0, none⟩ (.int .i64 0)).setCell ⟨B + 1 + 1, 0, none⟩ (.int .i64 0)).putObj D (.deferred none)) B (fun _ => True) v xs ∧
    Below B w ((((W.setCell ⟨B, 0, none⟩ v).setCell ⟨B + 1, 0, none⟩ (.int .i64 0)).setCell ⟨B + 1 + 1, 0, none⟩ (.int .i64 0)).putObj D (.deferred none)) := by
  have hg := grownBy_putObj' ((((W.setCell ⟨B, 0, none⟩ v).setCell ⟨B + 1, 0, none⟩ (.int .i64 0)).setCell ⟨B + 1 + 1, 0, none⟩ (.int .i64 0))) D (.deferred none)
  have hr : ∀ r, some D = some r → ∃ o : Obj, (((W.setCell ⟨B, 0, none⟩ v).setCell ⟨B + 1, 0, none⟩ (.int .i64 0)).setCell ⟨B + 1 + 1, 0, none⟩ (.int .i64 0)).heap[r]? = some o ∧ o.isCells = false := fun r e => by cases e; exact ⟨_, hK, rfl⟩
  have ne : ∀ q, q ∈ [61, 9] → q ≠ 52 ∧ q ≠ 3 ∧ q ≠ 27 := by decide
  have h0 := hI.r0.set v
  have h1 := (Boxed.other hI.r1 (B' := B) (by omega) v).set (.int .i64 0)
  have h2 := (Boxed.other (Boxed.other hI.r2 (B' := B) (by omega) v) (B' := B + 1) (by omega) (.int .i64 0)).set (.int .i64 0)
  have s0 := Kd.S_set hS (show W.heap[B]? = _ from hI.r0) (fun q hq => (ne q hq).1) 0 v
  have s1 := Kd.S_set s0 (show _ = _ from Boxed.other hI.r1 (B' := B) (by omega) v) (fun q hq => (ne q hq).2.1) 0 (.int .i64 0)
  have s2 := Kd.S_set s1 (show _ = _ from Boxed.other (Boxed.other hI.r2 (B' := B) (by omega) v) (B' := B + 1) (by omega) (.int .i64 0)) (fun q hq => (ne q hq).2.2) 0 (.int .i64 0)
  refine ⟨(boxed_turned (Boxed.other (Boxed.other h0 (B' := B + 1) (by omega) _) (B' := B + 1 + 1) (by omega) _) hg hr).cell, (boxed_turned (Boxed.other h1 (B' := B + 1 + 1) (by omega) _) hg hr).cell, (boxed_turned h2 hg hr).cell, S_turned s2 hg hr, ?_⟩
  refine below_turned (((hI.below.setCell (p := ⟨B, 0, none⟩) (Nat.le_refl _) _).setCell (p := ⟨B + 1, 0, none⟩) (by simp) _).setCell (p := ⟨B + 1 + 1, 0, none⟩) (by show B ≤ B + 1 + 1; omega) _) hg ?_ (fun r e => by cases e; exact hD)
  have := h0.lt
  simp at this ⊢
  omega
theorem turned_put (W : World) {D : Nat} (hK : W.heap[D]? = some (Obj.deferred (some []))) : ∀ r, some D = some r → ∃ o : Obj, W.heap[r]? = some o ∧ o.isCells = false := fun r e => by cases e; exact ⟨_, hK, rfl⟩
set_option maxRecDepth 100000 in
set_option maxHeartbeats 1000000 in
theorem lines_long (s : ByteArray) (w : World) (h : (65536 : Int) < ((s.size : Nat) : Int)) :
    Calls Tryz.prog 20 #[.string s] w fun e w' => e = .returned (.tuple #[.slice none 0 0, .int .i64 0, .int .i64 7]) ∧ Below w.heap.size w w' := by
  go_enter Tryz.func20, Tryz.ntmps20
  go_wp2
  refine bodyPost_ret (v := .tuple #[.slice none 0 0, .int .i64 0, .int .i64 7]) (by simp [results, Tryz.results20, go_sem]) rfl ⟨rfl, ?_⟩
  repeat (first | exact Below.refl _ _ | apply below_alloc)
set_option maxRecDepth 100000 in
set_option maxHeartbeats 4000000 in
theorem lines_walk (s : ByteArray) (m : Int) (w : World) (h : ((s.size : Nat) : Int) ≤ 65536) (hg : 5 < w.heap.size) (hm : w.cell? ⟨5, 0, none⟩ = some (.int .i64 m)) (ht : LaidTabs w) :
    Calls Tryz.prog 20 #[.string s] w (LinesPost w (linesRes (piecesB s))) := by
  refine (callsIn_wide (n := 5)).1 ?_
  refine callsIn_of_wp_marks Tryz.func20 rfl trivial ?_ rfl
  simp only [Tryz.ntmps20, List.size_toArray, List.length_cons, List.length_nil, Nat.reduceAdd, Nat.reduceSub, Array.replicate_succ, Array.replicate_zero, List.push_toArray, List.append_toArray, List.nil_append, List.cons_append]
  gi_wp2_with (refine ⟨trivial, ?_⟩; gi_at_call 45; (with_reducible refine (callsIn_wide.2 (counts_any _ _)).mono ?_); rintro e w' ⟨rfl, rfl⟩)
  obtain ⟨W0, hW0⟩ : ∃ W0 : World, W0 = (((((w.alloc (.cells #[.slice none 0 0] 52)).alloc (.cells #[.int .i64 0] 3)).alloc (.cells #[.int .i64 0] 27)).alloc (.cells #[.slice none 0 0] 52)).alloc (.cells #[.string s] 9)) := ⟨_, rfl⟩
  rw [← hW0]
  have hsz : W0.heap.size = w.heap.size + 5 := by rw [hW0]; simp
  have hB0 : Below w.heap.size w W0 := by rw [hW0]; repeat (first | exact Below.refl _ _ | apply below_alloc)
  have b0 : Boxed W0 w.heap.size 52 (.slice none 0 0) := by rw [hW0]; exact ((((Boxed.new _ _ _).alloc _).alloc _).alloc _).alloc _
  have b1 : Boxed W0 (w.heap.size + 1) 3 (.int .i64 0) := by
    rw [hW0]
    have := Boxed.new (w.alloc (.cells #[.slice none 0 0] 52)) 3 (.int .i64 0)
    rw [World.size_alloc] at this
    exact ((this.alloc _).alloc _).alloc _
  have b2 : Boxed W0 (w.heap.size + 2) 27 (.int .i64 0) := by
    rw [hW0]
    have := Boxed.new ((w.alloc (.cells #[.slice none 0 0] 52)).alloc (.cells #[.int .i64 0] 3)) 27 (.int .i64 0)
    rw [World.size_alloc, World.size_alloc] at this
    exact (this.alloc _).alloc _
  have b3 : Boxed W0 (w.heap.size + 3) 52 (.slice none 0 0) := by
    rw [hW0]
    have := Boxed.new (((w.alloc (.cells #[.slice none 0 0] 52)).alloc (.cells #[.int .i64 0] 3)).alloc (.cells #[.int .i64 0] 27)) 52 (.slice none 0 0)
    rw [World.size_alloc, World.size_alloc, World.size_alloc] at this
    exact this.alloc _
  have b4 : Boxed W0 (w.heap.size + 4) 9 (.string s) := by
    rw [hW0]
    have := Boxed.new ((((w.alloc (.cells #[.slice none 0 0] 52)).alloc (.cells #[.int .i64 0] 3)).alloc (.cells #[.int .i64 0] 27)).alloc (.cells #[.slice none 0 0] 52)) 9 (.string s)
    rw [World.size_alloc, World.size_alloc, World.size_alloc, World.size_alloc] at this
    exact this
  have hm0 : W0.cell? ⟨5, 0, none⟩ = some (.int .i64 m) := pw_cell_below hB0 hm
  have ht0 := ht.on hB0
  clear hW0
  have hs := counts_stops 4 (w.heap.size + 4) w.heap.size s m (by omega) (by omega) hg W0 (by omega) b4.cell hm0
  refine wpIn_rangeFunc_ownG rfl (by omega) (gf := 70) (lb := #[.pointer (some ⟨w.heap.size + 4, 0, none⟩)]) rfl trivial (enters_of Tryz.func70 (by kernel_rfl) rfl)
    hs KpS.trans (KpS.book (by omega)) (Below.refl _ _) (fun _ => rfl) (LI (piecesB s) w.heap.size w) (LX (piecesB s) w.heap.size w) (LI.own (Nat.le_refl _) (by omega)) (LX.own (Nat.le_refl _) (by omega))
    ⟨⟨_, b3, Kd.S_nil _ _ _ _ _⟩, b0, b1, b2, fun x hx => (by cases hx), hB0⟩ ?a₁ ?assign ?body ?done ?stop
  case assign =>
    intro l x W K hK
    gi_wp2
    exact hK
  case body =>
    rintro l pre x W hI hlt
    have hWB := hI.below.size
    cases hp : plainB (pieceAt (piecesB s) x) with
    | false =>
      have HPl := Lib.hid (plain_any _ _ hp W)
      have HI := Lib.hid hI
      clear hI
      gi_wp2_with (refine ⟨trivial, ?_⟩; gi_at_call 46; (with_reducible refine (CallsIn.inRound l (callsIn_wide.2 HPl.out)).mono ?_); rintro e w1 ⟨rfl, hb1⟩; have c0 := (boxed_below HI.out.r0 hb1).cell; have c1 := (boxed_below HI.out.r1 hb1).cell; have c2 := (boxed_below HI.out.r2 hb1).cell; have f0 := (boxed_below HI.out.r0 hb1).frozen; have f1 := (boxed_below HI.out.r1 hb1).frozen; have f2 := (boxed_below HI.out.r2 hb1).frozen)
      exact body_bad HI.out hWB hp hb1
    | true =>
      have HPl := Lib.hid (plain_any _ _ hp W)
      have hps := pieceAt_le s x
      have htW := ht.on hI.below
      by_cases hws : wordsL (pieceAt (piecesB s) x) = []
      · have HF := Lib.hid (fun W1 (hb1 : Below W.heap.size W W1) => fields_none _ W1 (by omega) hp (htW.on hb1) hws)
        have HI := Lib.hid hI
        have HW := Lib.hid hws
        have HP := Lib.hid hp
        clear hI hws hp htW hps
        gi_wp2_with (first | (refine ⟨trivial, ?_⟩; gi_at_call 46; (with_reducible refine (CallsIn.inRound l (callsIn_wide.2 HPl.out)).mono ?_); rintro e w1 ⟨rfl, hb1⟩; have HB1 := Lib.hid hb1; clear hb1) | (refine ⟨trivial, ?_⟩; gi_at_call 47; (with_reducible refine (CallsIn.inRound l (callsIn_wide.2 (HF.out _ HB1.out))).mono ?_); rintro e w2 ⟨rfl, hb2⟩; have HB2 := Lib.hid (hb2.mono HB1.out.size); clear hb2))
        exact body_keep HI.out hWB HP.out HW.out (HB1.out.trans HB2.out)
      · obtain ⟨ws, hwe⟩ : ∃ ws, wordsL (pieceAt (piecesB s) x) = ws := ⟨_, rfl⟩
        have hne : ws ≠ [] := by rw [← hwe]; exact hws
        have hpos : 0 < ws.length := List.length_pos_iff.mpr hne
        have q0 : decide ((0 : Int) < (ws.length : Int)) = true := decide_eq_true (by omega)
        have q1 : decide (0 < ws.length) = true := decide_eq_true hpos
        have HF := Lib.hid (fun W1 (hb1 : Below W.heap.size W W1) => fields_some _ W1 (by omega) hp (htW.on hb1) ws hwe)
        obtain ⟨v, hv, hS⟩ := hI.l
        have hl1 := lined_le (piecesB s) pre
        have hl2 := pieces_le s (by omega)
        have HL := Lib.hid (show ((lined (piecesB s) pre).length + 1) * 32 ≤ 140737488355328 by omega)
        have HI := Lib.hid hI
        have HW := Lib.hid hws
        have HP := Lib.hid hp
        have HE := Lib.hid hwe
        have HV := Lib.hid hv
        have HS := Lib.hid hS
        clear hI hws hp htW hps hwe hv hS hl1 hl2 hne hpos
        gi_wp2_with (first | (gi_at_builtin; refine wpListIn_S k61 (w0 := w) w.heap.size rfl (.tmp 25) (.tmp 29) 52 61 (.agg #[.int .i64 0, .slice none 0 0]) 32 rfl Tryz.underlying52 info_line rfl (by decide) (by decide) v (lined (piecesB s) pre) ⟨(x : Int) + 1, ws⟩ [.int .i64 ((x : Int) + 1), .slice (some ⟨g, 0, none⟩) ws.length ws.length] (fun _ => True) (fun k => k = g) rfl rfl HM.out HO.out (fun _ _ => trivial) HSS.out HBB.out HBZ.out HL.out ?_; intro v1 w3 hS3 hb3 hg3; obtain ⟨A1, cp1, rfl⟩ := Kd.S_slice hS3; have c4 := (HA.out w3 hg3).cell; have f4 := (HA.out w3 hg3).frozen; have HR3 := Lib.hid (And.intro hS3 (And.intro hb3 hg3)); clear hS3 hb3 hg3) | (refine ⟨trivial, ?_⟩; gi_at_call 46; (with_reducible refine (CallsIn.inRound l (callsIn_wide.2 HPl.out)).mono ?_); rintro e w1 ⟨rfl, hb1⟩; have HB1 := Lib.hid hb1; clear hb1) | (refine ⟨trivial, ?_⟩; gi_at_call 47; (with_reducible refine (CallsIn.inRound l (callsIn_wide.2 (HF.out _ HB1.out))).mono ?_); rintro e w2 ⟨g, rfl, hR, hgl, hb2⟩; have HB2 := Lib.hid (HB1.out.trans (hb2.mono HB1.out.size)); have HR := Lib.hid (Kd.R_lower hR (Nat.le_trans hWB HB1.out.size)); have HG := Lib.hid (Nat.le_trans HB1.out.size hgl); have c3 := (boxed_below HV.out HB2.out).cell; obtain ⟨HM, HO, HSS, HBB, HBZ, HA⟩ := add_facts HI.out HV.out HS.out HB2.out HR.out HG.out hWB x; clear hb2 hR hgl))
        exact body_add HI.out hWB HP.out HW.out HB2.out HV.out HS.out HR3.out.2.2 (by rw [HE.out]; have h3 := HR3.out.1; rw [List.length_append] at h3; exact h3) HR3.out.2.1
  case done =>
    rintro D ys W hD rfl hI hK
    obtain ⟨v, hv, hS⟩ := hI.l
    obtain ⟨A1, cp1, rfl⟩ := Kd.S_slice hS
    have c0 := hI.r0.cell
    have c1 := hI.r1.cell
    have c2 := hI.r2.cell
    have c3 := hv.cell
    have f0 := hI.r0.frozen
    have f1 := hI.r1.frozen
    have f2 := hI.r2.frozen
    have HI := Lib.hid hI
    have HS := Lib.hid hS
    have HV := Lib.hid hv
    have HK := Lib.hid hK
    clear hI hS hv hK
    gi_wp2
    have hK' := ((KeepsOthers.setCell W ⟨w.heap.size, 0, none⟩ (.slice A1 (lined (piecesB s) (List.range (piecesB s).length)).length cp1)).trans ((KeepsOthers.setCell _ ⟨w.heap.size + 1, 0, none⟩ (.int .i64 0)).trans (KeepsOthers.setCell _ ⟨w.heap.size + 1 + 1, 0, none⟩ (.int .i64 0)))).same D _ HK.out rfl
    refine ⟨by simp, .inl ⟨_, _, rfl, run_takeDeferred hK', ?_⟩⟩
    obtain ⟨d0, d1, d2, dS, dB⟩ := done_facts HI.out HS.out hK' (by omega)
    refine ⟨.tuple #[.slice A1 (lined (piecesB s) (List.range (piecesB s).length)).length cp1, .int .i64 0, .int .i64 0], ?_, ?_⟩
    · simp [results, Tryz.f20, go_sem, d0, d1, d2]
    · rw [linesRes_ok _ HI.out.plain]
      exact ⟨_, rfl, dS, dB⟩
  case stop =>
    rintro D c pre W hD ⟨k, hk, rfl⟩ hI hK
    obtain rfl := hI.ret
    have HI := Lib.hid hI
    clear hI
    gi_wp2
    refine ⟨by simp, .inl ⟨_, _, rfl, run_takeDeferred hK, ?_⟩⟩
    obtain ⟨ini, x, e1, e2, e3, hb⟩ := HI.out.bad
    have d0 := (boxed_turned HI.out.r0 (grownBy_putObj' W D (.deferred none)) (turned_put W hK)).cell
    have d1 := (boxed_turned hb (grownBy_putObj' W D (.deferred none)) (turned_put W hK)).cell
    have d2 := (boxed_turned HI.out.r2 (grownBy_putObj' W D (.deferred none)) (turned_put W hK)).cell
    refine ⟨.tuple #[.slice none 0 0, .int .i64 ((x : Int) + 1), .int .i64 6], ?_, ?_⟩
    · simp [results, Tryz.f20, go_sem, d0, d1, d2]
    · rw [linesRes_bad _ hk e1 e2 e3]
      exact ⟨_, rfl, Kd.S_nil _ _ _ _ _, below_turned HI.out.below (grownBy_putObj' W D _) (Nat.le_trans (Nat.le_refl _) HI.out.below.size) (fun r e => by cases e; omega)⟩
def lex_Lines.f (a0 : ByteArray) : Option (List S61 × Int × Int) := some (if 65536 < a0.size then ([], 0, 7) else linesRes (piecesB a0))
/-- lex.Lines, as the printed texts ask for it. -/
theorem lex_Lines.calls (a0 : ByteArray) (r1 : List S61) (r2 : Int) (r3 : Int) (w : World) (hL : Aside0 (LaidW 9 w)) (h : lex_Lines.f a0 = some (r1, r2, r3)) :
    Calls Tryz.prog 20 #[.string a0] w fun e w' => ∃ v0_ : Value, e = .returned (.tuple #[v0_, .int .i64 r2, .int .i64 r3]) ∧ Kd.S k61 61 w' w.heap.size (fun _ => True) v0_ r1 ∧ Below w.heap.size w w' := by
  have h := Option.some.inj h
  by_cases hs : 65536 < a0.size
  · rw [if_pos hs] at h
    cases h
    exact (lines_long a0 w (by omega)).mono fun e w' ⟨he, hb⟩ => ⟨_, he, Kd.S_nil _ _ _ _ _, hb⟩
  · rw [if_neg hs] at h
    obtain ⟨m, hm⟩ := hL.out.max rfl
    refine (lines_walk a0 m w (by omega) (World.block_lt_of_cell? _ _ hm) hm (hL.out.tabs rfl)).mono fun e w' hp => ?_
    unfold LinesPost at hp
    rw [h] at hp
    exact hp
end Go.Proofs.YtdbjjbooalkkbaaGreatDoor.P

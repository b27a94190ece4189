/- lex.IsName: a range over the runes of a word. -/
import Derived.Test.YtdbjjbooalkkbaaGreatDoorXPlain
import Derived.Test.YtdbjjbooalkkbaaGreatDoorXParse
import Derived.LoopTactic
import Derived.Laws.RangeString
import Derived.Laws.RangeAny
import Derived.Lib.OthersKept
namespace Go.Proofs.YtdbjjbooalkkbaaGreatDoor.P
open Go.RowKit Go.Proofs.YtdbjjbooalkkbaaGreatDoorW.PrintWords

def letterI (c : Int) : Bool := decide (97 ≤ c ∧ c ≤ 122) || decide (65 ≤ c ∧ c ≤ 90)
theorem letter_any (c : Int) (W : World) : Calls Tryz.prog 86 #[.int .i32 c] W fun e w' => e = .returned (.bool (letterI c)) ∧ w' = W := by
  by_cases h1 : 97 ≤ c <;> by_cases h2 : c ≤ 122 <;> by_cases h3 : 65 ≤ c <;> by_cases h4 : c ≤ 90
  all_goals first
    | omega
    | (go_enter Tryz.func86, Tryz.ntmps86
       go_wp2
       go_ret
       exact ⟨by simp [letterI, h1, h2, h3, h4], rfl⟩)
def okAt (i : Nat) (b : Int) : Bool := letterI b || (decide (i ≠ 0) && (decide (b = 95) || decide (48 ≤ b ∧ b ≤ 57)))
def nameFrom : Nat → List UInt8 → Bool
  | _, [] => true
  | i, b :: r => okAt i b.toNat && nameFrom (i + 1) r
theorem letterI_byte (b : UInt8) : letterI b.toNat = isLetter b := by
  unfold letterI isLetter
  rw [← Bool.decide_or, decide_eq_decide]
  omega
theorem nameFrom_tail (r : List UInt8) : ∀ i, nameFrom (i + 1) r = r.all nameTail := by
  induction r with
  | nil => intro i; rfl
  | cons b r ih =>
    intro i
    rw [nameFrom, ih, List.all_cons]
    congr 1
    unfold okAt nameTail
    rw [letterI_byte]
    congr 1
    rw [decide_eq_true (by omega : i + 1 ≠ 0), Bool.true_and, ← Bool.decide_or, decide_eq_decide]
    omega
theorem isName_from (l : List UInt8) (h : l ≠ []) : isName l = (decide (l.length ≤ 16) && nameFrom 0 l) := by
  cases l with
  | nil => exact absurd rfl h
  | cons c r =>
    rw [nameFrom, nameFrom_tail, isName, List.length_cons]
    have e : decide (r.length < 16) = decide (r.length + 1 ≤ 16) := by rw [decide_eq_decide]; omega
    rw [e, Bool.and_assoc]
    congr 1
    congr 1
    unfold okAt
    rw [letterI_byte]
    simp
theorem width_pos (s : ByteArray) (pos : Nat) (h : pos < s.size) : 1 ≤ (Utf8.decode s pos).2 := by
  by_cases ha : (s[pos]'h).toNat < 128
  · rw [decode_ascii s pos h ha]
    exact Nat.le_refl _
  · exact (decode_high s pos h (by omega)).2
theorem iterPos_of {w : World} {k : Nat} {s : ByteArray} {p : Nat} (h : w.heap[k]? = some (.stringIter s p)) : w.iterPos k = p := by simp [World.iterPos, h]
theorem at_list (s : ByteArray) (pos : Nat) (h : pos < s.size) : s.data.toList.drop pos = (s[pos]'h) :: s.data.toList.drop (pos + 1) := by
  rw [List.drop_eq_getElem_cons (by rw [Array.length_toList]; exact h)]
  congr 1
theorem okAt_high (i : Nat) (b : Int) (h : 128 ≤ b) : okAt i b = false := by
  unfold okAt letterI
  rw [decide_eq_false (by omega), decide_eq_false (by omega), decide_eq_false (by omega : ¬ b = 95), decide_eq_false (by omega : ¬ (48 ≤ b ∧ b ≤ 57))]
  simp
theorem okAt_yes (i : Nat) (c : Int) (h : i ≠ 0) (hc : c = 95 ∨ 48 ≤ c ∧ c ≤ 57) : okAt i c = true := by
  unfold okAt
  rw [decide_eq_true h, ← Bool.decide_or, decide_eq_true hc]
  simp
theorem okAt_no (i : Nat) (c : Int) (hl : letterI c = false) (hc : ¬ (c = 95 ∨ 48 ≤ c ∧ c ≤ 57)) : okAt i c = false := by
  unfold okAt
  rw [hl, ← Bool.decide_or, decide_eq_false hc]
  simp
theorem okAt_zero (c : Int) (hl : letterI c = false) : okAt 0 c = false := by
  unfold okAt
  rw [hl]
  simp
theorem okAt_letter (i : Nat) (c : Int) (hl : letterI c = true) : okAt i c = true := by
  unfold okAt
  rw [hl]
  simp
theorem says_next {i : Nat} {c : Int} {a b : Bool} (h : (okAt i c = true ∧ a = b) ∨ (okAt i c = false ∧ a = false)) (e : okAt i c = true) : a = b := by
  rcases h with h | h
  · exact h.2
  · rw [h.1] at e; cases e
theorem says_bad {i : Nat} {c : Int} {a b : Bool} (h : (okAt i c = true ∧ a = b) ∨ (okAt i c = false ∧ a = false)) (e : okAt i c = false) : a = false := by
  rcases h with h | h
  · rw [h.1] at e; cases e
  · exact h.2
theorem d95 {c : Int} (h : c = 95) : (c != 95) = false := by rw [bne_eq_false_iff_eq]; exact h
theorem n95 {c : Int} (h : ¬ c = 95) : (c != 95) = true := by rw [bne_iff_ne]; exact h
theorem no48 {c : Int} (h2 : c < 48) : ¬ (c = 95 ∨ 48 ≤ c ∧ c ≤ 57) := by omega
theorem no57 {c : Int} (h : ¬ c = 95) (h2 : 57 < c) : ¬ (c = 95 ∨ 48 ≤ c ∧ c ≤ 57) := by omega
theorem yes57 {c : Int} (h1 : ¬ c < 48) (h2 : ¬ 57 < c) : c = 95 ∨ 48 ≤ c ∧ c ≤ 57 := by omega
theorem nz {p : Nat} (h : ¬ p = 0) : (((p : Nat) : Int) == 0) = false := by rw [beq_eq_false_iff_ne]; omega
theorem less {a b c d : Nat} (h1 : 1 ≤ d) (h2 : b < a) (h3 : c = b) : a - (b + d) < a - c := by omega
/-- A round: what the rune at a place says of the rest. -/
theorem round_says (s : ByteArray) (pos : Nat) (h : pos < s.size) :
    (okAt pos ((Utf8.decode s pos).1 : Int) = true ∧ nameFrom pos (s.data.toList.drop pos) = nameFrom (pos + (Utf8.decode s pos).2) (s.data.toList.drop (pos + (Utf8.decode s pos).2))) ∨
      (okAt pos ((Utf8.decode s pos).1 : Int) = false ∧ nameFrom pos (s.data.toList.drop pos) = false) := by
  rw [at_list s pos h, nameFrom]
  by_cases ha : (s[pos]'h).toNat < 128
  · rw [decode_ascii s pos h ha]
    cases hk : okAt pos ((s[pos]'h).toNat : Int)
    · right; simp
    · left; simp
  · right
    have hd := (decode_high s pos h (by omega)).1
    exact ⟨okAt_high _ _ (by omega), by rw [okAt_high _ _ (by omega), Bool.false_and]⟩

set_option maxRecDepth 100000 in
set_option maxHeartbeats 4000000 in
theorem name_walk (s : ByteArray) (w : World) (hne : s.toList.isEmpty = false) (h16 : ((s.size : Nat) : Int) ≤ 16) :
    Calls Tryz.prog 67 #[.string s] w fun e w' => e = .returned (.bool (nameFrom 0 s.data.toList)) ∧ Below w.heap.size w w' := by
  go_enter Tryz.func67, Tryz.ntmps67
  go_wp2
  go_loopw [] (fun wr => ∃ (pos : Nat), wr.heap[w.heap.size]? = some (.stringIter s pos) ∧ Below w.heap.size w wr ∧ Hid (nameFrom pos (s.data.toList.drop pos) = nameFrom 0 s.data.toList)) (fun wr => s.size - wr.iterPos w.heap.size)
  case atStart => exact ⟨0, World.iter_heap w s 0, (Below.refl _ _).alloc (Nat.le_refl _) _, Lib.hid rfl⟩
  case round =>
    obtain ⟨pos, hit, hbw, HS⟩ := hrel
    have hpos0 := iterPos_of hit
    by_cases hp : pos < s.size
    · have hnx : ∀ ty, (Instr.next (.pointer (some ⟨w.heap.size, 0, none⟩)) true ty).run Tryz.prog wr = _ := fun ty => Lib.run_next_any_at wr w.heap.size s pos ty hit hp
      have hwd := width_pos s pos hp
      have hsay := round_says s pos hp
      have hit2 := Lib.iterAt_heap wr w.heap.size s pos (pos + (Utf8.decode s pos).2) hit
      have hbw2 := Lib.below_iterAt hbw (k := w.heap.size) (Nat.le_refl _) s (pos + (Utf8.decode s pos).2)
      obtain ⟨c, wd, hcw⟩ : ∃ c wd, Utf8.decode s pos = (c, wd) := ⟨_, _, rfl⟩
      rw [hcw] at hnx hwd hsay hit2 hbw2
      clear hcw
      dsimp only at hnx hwd hsay hit2 hbw2
      obtain ⟨W1, hW1⟩ : ∃ W1, W1 = wr.iterAt w.heap.size s (pos + wd) := ⟨_, rfl⟩
      rw [← hW1] at hnx hit2 hbw2
      have HL := Lib.hid (letter_any (c : Int))
      have H2 := Lib.hid hit2
      have H3 := Lib.hid hbw2
      clear hW1 hit hbw hit2 hbw2
      have HY := Lib.hid hsay
      have HW := Lib.hid hwd
      clear hsay hwd
      cases hv : letterI (c : Int) with
      | true =>
        rw [hv] at HL
        have HN := Lib.hid (says_next HY.out (okAt_letter _ _ hv))
        clear HY
        go_wp2_with fail
        refine (HL.out _).mono ?_
        rintro e w2 ⟨rfl, rfl⟩
        go_wp2_with fail
        go_roundw
        case rel => exact ⟨_, H2.out, H3.out, Lib.hid (HN.out.symm.trans HS.out)⟩
        case measure =>
          rw [iterPos_of H2.out]
          exact less HW.out hp hpos0
      | false =>
        rw [hv] at HL
        by_cases hz : pos = 0
        · have hz' : (((pos : Nat) : Int) == 0) = true := by rw [hz]; rfl
          have HN := Lib.hid (HS.out.symm.trans (says_bad HY.out (by rw [hz]; exact okAt_zero _ hv)))
          clear HY hz
          go_wp2_with fail
          refine (HL.out _).mono ?_
          rintro e w2 ⟨rfl, rfl⟩
          go_wp2_with fail
          go_ret
          exact ⟨by rw [HN.out]; rfl, H3.out⟩
        · have hz' := nz hz
          by_cases h95 : (c : Int) = 95
          · have q95 := d95 h95
            have HN := Lib.hid (says_next HY.out (okAt_yes _ _ hz (.inl h95)))
            clear HY hz h95
            go_wp2_with fail
            refine (HL.out _).mono ?_
            rintro e w2 ⟨rfl, rfl⟩
            go_wp2_with fail
            go_roundw
            case rel => exact ⟨_, H2.out, H3.out, Lib.hid (HN.out.symm.trans HS.out)⟩
            case measure =>
              rw [iterPos_of H2.out]
              exact less HW.out hp hpos0
          · have q95 := n95 h95
            by_cases h48 : (c : Int) < 48
            · have q48 : decide ((c : Int) < 48) = true := decide_eq_true h48
              have HN := Lib.hid (HS.out.symm.trans (says_bad HY.out (okAt_no _ _ hv (no48 h48))))
              clear HY hz h95 h48
              go_wp2_with fail
              refine (HL.out _).mono ?_
              rintro e w2 ⟨rfl, rfl⟩
              go_wp2_with fail
              go_ret
              exact ⟨by rw [HN.out]; rfl, H3.out⟩
            · have q48 : decide ((c : Int) < 48) = false := decide_eq_false h48
              by_cases h57 : 57 < (c : Int)
              · have q57 : decide (57 < (c : Int)) = true := decide_eq_true h57
                have HN := Lib.hid (HS.out.symm.trans (says_bad HY.out (okAt_no _ _ hv (no57 h95 h57))))
                clear HY hz h95 h48 h57
                go_wp2_with fail
                refine (HL.out _).mono ?_
                rintro e w2 ⟨rfl, rfl⟩
                go_wp2_with fail
                go_ret
                exact ⟨by rw [HN.out]; rfl, H3.out⟩
              · have q57 : decide (57 < (c : Int)) = false := decide_eq_false h57
                have HN := Lib.hid (says_next HY.out (okAt_yes _ _ hz (yes57 h48 h57)))
                clear HY hz h95 h48 h57
                go_wp2_with fail
                refine (HL.out _).mono ?_
                rintro e w2 ⟨rfl, rfl⟩
                go_wp2_with fail
                go_roundw
                case rel => exact ⟨_, H2.out, H3.out, Lib.hid (HN.out.symm.trans HS.out)⟩
                case measure =>
                  rw [iterPos_of H2.out]
                  exact less HW.out hp hpos0
    · have hnx : ∀ ty, (Instr.next (.pointer (some ⟨w.heap.size, 0, none⟩)) true ty).run Tryz.prog wr = _ := fun ty => Lib.run_next_end_at wr w.heap.size s pos ty hit hp
      have e : nameFrom 0 s.data.toList = true := by
        rw [← HS.out, List.drop_eq_nil_of_le (by rw [Array.length_toList]; exact Nat.le_of_not_lt hp)]
        rfl
      go_wp2
      go_ret
      exact ⟨by rw [e]; rfl, hbw⟩
set_option maxRecDepth 100000 in
theorem lex_IsName.calls (a0 : ByteArray) (r : Bool) (w : World) (h : lex_IsName.f a0 = some r) :
    Calls Tryz.prog 67 #[.string a0] w fun e w' => e = .returned (.bool r) ∧ Below w.heap.size w w' := by
  have h := Option.some.inj h
  subst h
  have hsz : a0.size = a0.data.toList.length := by rw [Array.length_toList]; rfl
  by_cases he : a0.data.toList = []
  · have hne : a0.toList = [] := by rw [ByteArray.toList_eq, he]
    rw [he]
    go_enter Tryz.func67, Tryz.ntmps67
    go_wp2
    go_ret
    exact ⟨rfl, Below.refl _ _⟩
  · have hne : a0.toList.isEmpty = false := by rw [ByteArray.toList_eq]; simpa using he
    rw [isName_from _ he, ← hsz]
    by_cases h16 : a0.size ≤ 16
    · rw [decide_eq_true h16, Bool.true_and]
      exact name_walk a0 w hne (by omega)
    · rw [decide_eq_false h16, Bool.false_and]
      have hbig : (16 : Int) < ((a0.size : Nat) : Int) := by omega
      clear h16 hsz he
      go_enter Tryz.func67, Tryz.ntmps67
      go_wp2
      go_ret
      exact ⟨rfl, Below.refl _ _⟩
end Go.Proofs.YtdbjjbooalkkbaaGreatDoor.P

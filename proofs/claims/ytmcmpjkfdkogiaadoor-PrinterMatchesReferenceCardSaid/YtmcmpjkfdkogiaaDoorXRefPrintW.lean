/- The reference's Print: the walk. -/
import Derived.Test.YtmcmpjkfdkogiaaDoorXRefPrint
set_option linter.unusedVariables false
set_option linter.unusedSimpArgs false
namespace Go.Proofs.YtmcmpjkfdkogiaaDoor.P
open Go.RowKit Go.Shelf Go.Proofs.YtmcmpjkfdkogiaaDoorW.PrintWords Go.Proofs.YtmcmpjkfdkogiaaDoorW.PrintLast Go.Proofs.YtmcmpjkfdkogiaaDoorW.PrintMore

theorem kwC_at (K : Int) (h0 : 0 ≤ K) (h4 : K < 4) (kw : ByteArray) (hk : kw = kwC.getD K.toNat ByteArray.empty) (w : World) : Calls Tryd.prog 38 #[] w fun e w' => (∃ h, e = .returned (.slice (some ⟨h, 0, none⟩) 4 4) ∧ w'.cell? ⟨h, K.toNat, none⟩ = some (.string kw)) ∧ Below w.heap.size w w' :=
  (rkwC_walk w).mono fun e w' ⟨⟨h, he, hc⟩, hb⟩ => ⟨⟨h, he, by rw [hk]; exact hc _ (by omega)⟩, hb⟩
theorem kwQ_at (K : Int) (h0 : 0 ≤ K) (h4 : K < 4) (kw : ByteArray) (hk : kw = kwQ.getD K.toNat ByteArray.empty) (w : World) : Calls Tryd.prog 40 #[] w fun e w' => (∃ h, e = .returned (.slice (some ⟨h, 0, none⟩) 4 4) ∧ w'.cell? ⟨h, K.toNat, none⟩ = some (.string kw)) ∧ Below w.heap.size w w' :=
  (rkwQ_walk w).mono fun e w' ⟨⟨h, he, hc⟩, hb⟩ => ⟨⟨h, he, by rw [hk]; exact hc _ (by omega)⟩, hb⟩
theorem keepC {g : Nat} {K S N : Int} {a b : ByteArray} {w w' : World} (hz : Blk g 50 #[.int .i64 K, .int .i64 S, .int .i64 N, .string a, .string b] w') (hs : Since w w') :
    w'.cell? ⟨g, 0, none⟩ = some (.int .i64 K) ∧ w'.cell? ⟨g, 1, none⟩ = some (.int .i64 S) ∧ w'.cell? ⟨g, 2, none⟩ = some (.int .i64 N) ∧ w'.cell? ⟨g, 3, none⟩ = some (.string a) ∧ w'.cell? ⟨g, 4, none⟩ = some (.string b) ∧ Since w w' ∧
      Blk g 50 #[.int .i64 K, .int .i64 S, .int .i64 N, .string a, .string b] w' :=
  ⟨hz.cell 0 _ rfl, hz.cell 1 _ rfl, hz.cell 2 _ rfl, hz.cell 3 _ rfl, hz.cell 4 _ rfl, hs, hz⟩
theorem keepQ {g : Nat} {p : Addr} {K S N : Int} {a : ByteArray} {v v2 : Value} {b : ByteArray} {w w' : World} (h0 : w.cell? p = some (.int .i64 K)) (h1 : w.cell? ⟨p.block, p.off + 1, none⟩ = some (.int .i64 S)) (h2 : w.cell? ⟨p.block, p.off + 2, none⟩ = some (.int .i64 N))
    (hz : Blk g 40 #[.string a, v, v2, .string b] w') (hs : Since w w') :
    w'.cell? p = some (.int .i64 K) ∧ w'.cell? ⟨p.block, p.off + 1, none⟩ = some (.int .i64 S) ∧ w'.cell? ⟨p.block, p.off + 2, none⟩ = some (.int .i64 N) ∧ w'.cell? ⟨g, 2, none⟩ = some v2 ∧ Since w w' ∧ Blk g 40 #[.string a, v, v2, .string b] w' :=
  ⟨pw_cell_below hs.out h0, pw_cell_below hs.out h1, pw_cell_below hs.out h2, hz.cell 2 _ rfl, hs, hz⟩

theorem weak_ {P : Program} {md : Region.Mode} {ops : Array Oper} {Q : Exit → Act → World → Prop} {S S1 : World → Prop} (h1 : ∀ w, S1 w → S w) : ∀ (n : Nat) (l : Array Bool) (a : Act) (w : World), S1 w → wpAnyLast P md ops Q S1 [] n l a w → wpAnyLast P md ops Q S [] n l a w
  | 0, _, _, _, _, h => h
  | n + 1, _, _, _, hs, h => ⟨h.1, fun i hi => wpOp_mono (fun a' w' hh => ⟨fun _ _ => h1 _ (hh.1 (by simp) hs), weak_ h1 n _ a' w' (hh.1 (by simp) hs) hh.2⟩) (h.2 i hi)⟩

set_option maxRecDepth 100000 in
set_option maxHeartbeats 16000000 in
theorem rprint_ok (k0 : Nat) (I Q M : Int) (A : Option Addr) (c : Nat) (l : List S40) (n : Int) (w : World) (hr : Kd.C k40 w A l.length l) (hc : l.length ≤ c) (h : ref11_Check.f k0 I Q M l = some (n, 0)) (hv : (checkP I Q M l).2 = 0) :
    Calls Tryd.prog 14 #[.agg #[.int .i64 I, .int .i64 Q, .int .i64 M, .slice A l.length c]] w fun x w' => x = .returned (.tuple #[.string (printRes I Q M l).1, .int .i64 (printRes I Q M l).2]) ∧ Below w.heap.size w w' := by
  have HC := Lib.hid (fun o => ref11_Check.calls k0 I Q M A c l n 0 (w.alloc o) (Kd.C_below hr (below_alloc (Below.refl _ _) o)) hc h)
  have HR := Lib.hid hr
  have ht := tame_of hv
  have HT := Lib.hid ht
  have HOK := Lib.hid (check_rungs hv)
  have HSZ := Lib.hid (check_ok hv).1
  have hn := ht.n
  have HLEN := Lib.hid (ladderT_len ht)
  have HD1 := Lib.hid (fun W => decimal_call I ht.i.1 ht.i.2 W)
  have HD2 := Lib.hid (fun W => decimal_call Q ht.q.1 ht.q.2 W)
  have HD3 := Lib.hid (fun W => decimal_call M ht.m.1 ht.m.2 W)
  have b1 := itoaB_len I ht.i.1 (by have := ht.i.2; omega)
  have b2 := itoaB_len Q ht.q.1 (by have := ht.q.2; omega)
  have b3 := itoaB_len M ht.m.1 (by have := ht.m.2; omega)
  have HST := Lib.hid (rsize_text ht.i.1 ht.q.1 ht.m.1)
  obtain ⟨d1, e1⟩ : ∃ d, d = itoaB I := ⟨_, rfl⟩
  obtain ⟨d2, e2⟩ : ∃ d, d = itoaB Q := ⟨_, rfl⟩
  obtain ⟨d3, e3⟩ : ∃ d, d = itoaB M := ⟨_, rfl⟩
  rw [← e1] at HD1 b1 HST
  rw [← e2] at HD2 b2 HST
  rw [← e3] at HD3 b3 HST
  have s1 : ¬ 9223372036854775807 < 5 + d1.size := by omega
  have s2 : ¬ 9223372036854775807 < 5 + d1.size + 1 := by omega
  have s3 : ¬ 9223372036854775807 < 5 + d1.size + 1 + d2.size := by omega
  have s4 : ¬ 9223372036854775807 < 5 + d1.size + 1 + d2.size + 1 := by omega
  have s5 : ¬ 9223372036854775807 < 5 + d1.size + 1 + d2.size + 1 + d3.size := by omega
  have s6 : ¬ 9223372036854775807 < 5 + d1.size + 1 + d2.size + 1 + d3.size + 1 := by omega
  clear hr h ht hc e1 e2 e3 b1 b2 b3 hv
  go_enter Tryd.func14, Tryd.ntmps14
  go_wp2_with (go_at_call 12; (with_reducible refine (HC.out _).mono ?_); rintro x w1 ⟨rfl, hb⟩; have HB1 := Lib.hid (show Since w w1.drew from ⟨below_drew (below_then (below_alloc (Below.refl _ _) _) (by simp) hb)⟩); have HZ1 := Lib.hid (show Blk w.heap.size 24 #[.int .i64 I, .int .i64 Q, .int .i64 M, .slice A l.length c] w1.drew from ⟨((Blk.mk (heap_alloc_new w _)).on hb : Blk w.heap.size 24 _ w1).out⟩); clear hb)
  go_region_held3 (fun w' => w'.cell? ⟨w.heap.size, 0, none⟩ = some (.int .i64 I) ∧ w'.cell? ⟨w.heap.size, 1, none⟩ = some (.int .i64 Q) ∧ w'.cell? ⟨w.heap.size, 2, none⟩ = some (.int .i64 M) ∧ Since w w' ∧ Blk w.heap.size 24 #[.int .i64 I, .int .i64 Q, .int .i64 M, .slice A l.length c] w')
    (((try go_split_ands); exact keep6 (by first | assumption | exact HZ1.out) (by first | assumption | exact HB1.out)))
    ((first
      | (go_at_call 37; go_split_ands; (with_reducible refine (HD1.out _).mono ?_); rintro e w5 ⟨rfl, hb⟩; have z1 := Blk.on (by assumption) hb; have z2 := Since.on (by assumption) hb)
      | (go_at_call 37; go_split_ands; (with_reducible refine (HD2.out _).mono ?_); rintro e w5 ⟨rfl, hb⟩; have z1 := Blk.on (by assumption) hb; have z2 := Since.on (by assumption) hb)
      | (go_at_call 37; go_split_ands; (with_reducible refine (HD3.out _).mono ?_); rintro e w5 ⟨rfl, hb⟩; have z1 := Blk.on (by assumption) hb; have z2 := Since.on (by assumption) hb)))
  go_split_ands
  go_wp2
  go_loopw [6, 7] (fun tt i wr => ∃ (k : Nat) (T : ByteArray), k ≤ l.length ∧ i = .int .i64 k ∧ tt = .string T ∧ Hid (T.data.toList = sizeT I Q M ++ rungsT (l.take k)) ∧ Hid (Since w wr) ∧ Hid (Blk w.heap.size 24 #[.int .i64 I, .int .i64 Q, .int .i64 M, .slice A l.length c] wr)) (fun _ i _ => l.length - (intOf i).toNat)
  case atStart => exact ⟨0, _, Nat.zero_le _, rfl, rfl, Lib.hid (by simpa [rungsT] using HST.out), Lib.hid (by assumption), Lib.hid (by assumption)⟩
  case round =>
    revert hrel; revert wr; intro wo hrel
    obtain ⟨k, T, hk, rfl, rfl, HX, HSR, HZR⟩ := hrel
    have cz := HZR.out.cell 3 _ rfl
    by_cases hlt : k < l.length
    · obtain ⟨r, hrk⟩ : ∃ r, l[k]? = some r := ⟨_, List.getElem?_eq_getElem hlt⟩
      have hrm : r ∈ l := List.mem_of_getElem? hrk
      obtain ⟨ad, A1, cp1, A2, cp2, eA, h0, h1, h2, h3, hl1, hr1, hl2, hr2⟩ := at_T40 HR.out k (by omega) (by omega)
      subst eA
      rw [Int.toNat_natCast, rd40_at l k r hrk] at h0 h1 h2 h3
      rw [rd40_at l k r hrk] at hl1 hr1 hl2 hr2
      have g0 := pw_cell_below HSR.out.out h0
      have g1 := pw_cell_below HSR.out.out h1
      have g2 := pw_cell_below HSR.out.out h2
      have g3 := pw_cell_below HSR.out.out h3
      have HR1 := Lib.hid hr1
      have HR2 := Lib.hid hr2
      have HRO := Lib.hid (HOK.out r hrm)
      have hcons := HRO.out.cons
      have hcoils := HRO.out.coils
      have hlab := small_of HRO.out.label
      have hjmp := small_of HRO.out.jump
      have hT := flat_take rungT l k r hrk
      have hTl := flat_le rungT l (k + 1)
      rw [hT, List.length_append] at hTl
      have hsT := bytes_size T
      rw [HX.out, List.length_append] at hsT
      have hTot : T.size + (rungT r).length ≤ 1000000 := by
        have := HLEN.out
        unfold ladderT rungsT at this
        rw [List.length_append] at this
        unfold rungsT at hsT
        omega
      have hrt : (rungT r).length = (lineL [wRung, r.f0]).length + (consT r.f1).length + (coilsT r.f2).length + (jumpT r.f3).length := by unfold rungT; simp only [List.length_append]
      have HTK := Lib.hid (show rungsT (l.take (k + 1)) = rungsT (l.take k) ++ rungT r from hT)
      have HTOT := Lib.hid hTot
      have HRT := Lib.hid hrt
      have hTs : T.size ≤ 1000000 := by omega
      have t1 : ¬ 9223372036854775807 < T.size + 4 := by omega
      have t2 : ¬ 9223372036854775807 < T.size + 4 + 1 := by omega
      have t3 : ¬ 9223372036854775807 < T.size + 4 + 1 + r.f0.size := by omega
      have t4 : ¬ 9223372036854775807 < T.size + 4 + 1 + r.f0.size + 1 := by omega
      have hb1 : Below wo.heap.size wo (wo.alloc (.cells #[.string r.f0, .slice A1 r.f1.length cp1, .slice A2 r.f2.length cp2, .string r.f3] 40)) := below_alloc (Below.refl _ _) _
      have HS1 := Lib.hid (HSR.out.on hb1)
      have HZ2 := Lib.hid (HZR.out.on hb1)
      have HB10 := Lib.hid (Blk.new wo 40 #[.string r.f0, .slice A1 r.f1.length cp1, .slice A2 r.f2.length cp2, .string r.f3])
      clear hr1 hr2 h0 h1 h2 h3 hT hTl hTot hrt hl1 hl2 hb1 hsT
      rcases Nat.eq_zero_or_pos r.f0.size with hl0 | hl0
      case' inl =>
        have HL1 := Lib.hid (rlabel_none T r.f0 hl0)
        have q2 : r.f0.toList.isEmpty = true := by rw [List.isEmpty_iff, ByteArray.toList_eq, size_nil hl0]; rfl
        have q1 : (r.f0 = ByteArray.empty) = True := eq_true (size_nil hl0)
      case' inr =>
        have HL1 := Lib.hid (rlabel_text T r.f0 (Nat.ne_of_gt hl0))
        have q2 := list_pos (Nat.ne_of_gt hl0)
        have q1 := size_pos (Nat.ne_of_gt hl0)
      all_goals
        go_wp2
        go_loopw [6, 9] (fun tt i wr => ∃ (j : Nat) (U : ByteArray), j ≤ r.f1.length ∧ i = .int .i64 j ∧ tt = .string U ∧ Hid (U.data.toList = T.data.toList ++ lineL [wRung, r.f0] ++ consT (r.f1.take j)) ∧ Hid (Since w wr) ∧ Hid (Blk w.heap.size 24 #[.int .i64 I, .int .i64 Q, .int .i64 M, .slice (some ad) l.length c] wr) ∧ Hid (Blk wo.heap.size 40 #[.string r.f0, .slice A1 r.f1.length cp1, .slice A2 r.f2.length cp2, .string r.f3] wr)) (fun _ i _ => r.f1.length - (intOf i).toNat)
        case atStart => exact ⟨0, _, Nat.zero_le _, rfl, rfl, Lib.hid (by rw [HL1.out]; simp [consT]), HS1, HZ2, HB10⟩
        case round =>
          obtain ⟨j, U, hj, rfl, rfl, HU, HSQ, HZQ, HBQ⟩ := hrel
          have cq := HBQ.out.cell 1 _ rfl
          by_cases hlj : j < r.f1.length
          · obtain ⟨x, hxj⟩ : ∃ x, r.f1[j]? = some x := ⟨_, List.getElem?_eq_getElem hlj⟩
            have hxm : x ∈ r.f1 := List.mem_of_getElem? hxj
            obtain ⟨ad5, e5, d0, d1', d2', d3', d4⟩ := at_T50 HR1.out j (by omega) (by omega)
            subst e5
            rw [Int.toNat_natCast, rd50_at r.f1 j x hxj] at d0 d1' d2' d3' d4
            replace d0 := pw_cell_below HSQ.out.out d0
            replace d1' := pw_cell_below HSQ.out.out d1'
            replace d2' := pw_cell_below HSQ.out.out d2'
            replace d3' := pw_cell_below HSQ.out.out d3'
            replace d4 := pw_cell_below HSQ.out.out d4
            have hco := HRO.out.con x hxm
            have hK0 := hco.k0
            have hK4 := hco.k4
            have hct := rcon_text HSZ.out x hco U
            have htj := flat_take (fun c => lineL (conWords c)) r.f1 j x hxj
            have htl := flat_le (fun c => lineL (conWords c)) r.f1 (j + 1)
            rw [htj, List.length_append] at htl
            have HTJ := Lib.hid (show consT (r.f1.take (j + 1)) = consT (r.f1.take j) ++ lineL (conWords x) from htj)
            have hUs : U.size = T.size + (lineL [wRung, r.f0]).length + (consT (r.f1.take j)).length := by rw [bytes_size U, HU.out, bytes_size T]; simp only [List.length_append]
            obtain ⟨kw, hkw⟩ : ∃ kw, kw = kwC.getD x.f0.toNat ByteArray.empty := ⟨_, rfl⟩
            obtain ⟨fm, hfm⟩ : ∃ fm, fm = fmtB x.f1.f0 x.f1.f1 := ⟨_, rfl⟩
            have k0 := kwC_len x.f0.toNat
            have k1 := fmtB_len x.f1.f0 x.f1.f1
            have k2 := name_len hco.src
            have k3 := name_len hco.dst
            rw [← hkw, ← hfm] at hct
            rw [← hkw] at k0
            rw [← hfm] at k1
            have HCT := Lib.hid hct
            have hU : U.size ≤ 1000000 := by
              have h1 := HTOT.out
              have h2 := HRT.out
              have h3 : (consT (r.f1.take j)).length + (lineL (conWords x)).length ≤ (consT r.f1).length := htl
              omega
            have a1 : ¬ 9223372036854775807 < U.size + kw.size := by omega
            have a2 : ¬ 9223372036854775807 < U.size + kw.size + 1 := by omega
            have a3 : ¬ 9223372036854775807 < U.size + kw.size + 1 + fm.size := by omega
            have a4 : ¬ 9223372036854775807 < U.size + kw.size + 1 + fm.size + 1 := by omega
            have a5 : ¬ 9223372036854775807 < U.size + kw.size + 1 + fm.size + 1 + x.f2.size := by omega
            have a6 : ¬ 9223372036854775807 < U.size + kw.size + 1 + fm.size + 1 + x.f2.size + 1 := by omega
            have a7 : ¬ 9223372036854775807 < U.size + kw.size + 1 + fm.size + 1 + x.f2.size + 1 + x.f3.size := by omega
            have a8 : ¬ 9223372036854775807 < U.size + kw.size + 1 + fm.size + 1 + x.f2.size + 1 + x.f3.size + 1 := by omega
            have hb1 : Below wr.heap.size wr (wr.alloc (.cells #[.int .i64 x.f0, .int .i64 x.f1.f0, .int .i64 x.f1.f1, .string x.f2, .string x.f3] 50)).drew := below_drew (below_alloc (Below.refl _ _) _)
            have HSS := Lib.hid (HSQ.out.on hb1)
            have HZS := Lib.hid (HZQ.out.on hb1)
            have HBS := Lib.hid (HBQ.out.on hb1)
            have HXS := Lib.hid (show Blk wr.heap.size 50 #[.int .i64 x.f0, .int .i64 x.f1.f0, .int .i64 x.f1.f1, .string x.f2, .string x.f3] (wr.alloc (.cells #[.int .i64 x.f0, .int .i64 x.f1.f0, .int .i64 x.f1.f1, .string x.f2, .string x.f3] 50)).drew from ⟨(Blk.new wr 50 #[.int .i64 x.f0, .int .i64 x.f1.f0, .int .i64 x.f1.f1, .string x.f2, .string x.f3]).out⟩)
            have HKW := Lib.hid (fun W => kwC_at x.f0 hK0 hK4 kw hkw W)
            have HFM := Lib.hid (show ∀ W, Calls _ _ _ W fun e w' => e = .returned (.string fm) ∧ _ from fun W => by have := rformat_call x.f1.f0 x.f1.f1 W; rwa [← hfm] at this)
            clear hco hct htj htl hUs k0 k1 k2 k3 hb1 hkw hfm hxj hxm
            go_wp2_with fail
            refine start_ (n := 22) (S := fun w' => w'.cell? ⟨wr.heap.size, 0, none⟩ = some (.int .i64 x.f0) ∧ w'.cell? ⟨wr.heap.size, 1, none⟩ = some (.int .i64 x.f1.f0) ∧ w'.cell? ⟨wr.heap.size, 2, none⟩ = some (.int .i64 x.f1.f1) ∧ w'.cell? ⟨wr.heap.size, 3, none⟩ = some (.string x.f2) ∧ w'.cell? ⟨wr.heap.size, 4, none⟩ = some (.string x.f3) ∧ Since w w' ∧ Blk wr.heap.size 50 #[.int .i64 x.f0, .int .i64 x.f1.f0, .int .i64 x.f1.f1, .string x.f2, .string x.f3] w') (ds := []) #[false, false, false, false, false, false, false, false, false, false, false, false, false, false, false, false, false, false, false, false, false, false] (by kernel_rfl) rfl rfl (keepC HXS.out HSS.out) (fun hHeld => ?_)
            refine pure_ (i := 0) (N := some 71) (v := ?_) (a' := ?_) #[true, false, false, false, false, false, false, false, false, false, false, false, false, false, false, false, false, false, false, false, false, false] rfl rfl (by kernel_rfl) (fun _ _ _ h => h) (Or.inl ⟨by rfl, ?_⟩) ?_ ?_
            rotate_left
            · intro w'; go_simp; try with_reducible rfl
            rotate_left
            · simp only [Act.put, List.setIfInBounds_toArray, List.set_cons_zero, List.set_cons_succ]; rfl
            refine pure_ (i := 2) (N := some 73) (v := ?_) (a' := ?_) #[true, false, true, false, false, false, false, false, false, false, false, false, false, false, false, false, false, false, false, false, false, false] rfl rfl (by kernel_rfl) (fun _ _ _ h => h) (Or.inl ⟨by rfl, ?_⟩) ?_ ?_
            rotate_left
            · intro w'; go_simp; try with_reducible rfl
            rotate_left
            · simp only [Act.put, List.setIfInBounds_toArray, List.set_cons_zero, List.set_cons_succ]; rfl
            refine take_ (i := 3) (N := some 74) (v := ?_) (a' := ?_) #[true, false, true, true, false, false, false, false, false, false, false, false, false, false, false, false, false, false, false, false, false, false] rfl rfl (by kernel_rfl) (fun _ _ _ h => h) (Or.inl ⟨by rfl, ?_⟩) hHeld ?_ ?_
            rotate_left
            · rintro w' ⟨s0, s1, s2, s3, s4, -, -⟩; go_simp; try with_reducible rfl
            rotate_left
            · simp only [Act.put, List.setIfInBounds_toArray, List.set_cons_zero, List.set_cons_succ]; rfl
            refine pure_ (i := 8) (N := some 79) (v := ?_) (a' := ?_) #[true, false, true, true, false, false, false, false, true, false, false, false, false, false, false, false, false, false, false, false, false, false] rfl rfl (by kernel_rfl) (fun _ _ _ h => h) (Or.inl ⟨by rfl, ?_⟩) ?_ ?_
            rotate_left
            · intro w'; go_simp; try with_reducible rfl
            rotate_left
            · simp only [Act.put, List.setIfInBounds_toArray, List.set_cons_zero, List.set_cons_succ]; rfl
            refine take_ (i := 9) (N := some 80) (v := ?_) (a' := ?_) #[true, false, true, true, false, false, false, false, true, true, false, false, false, false, false, false, false, false, false, false, false, false] rfl rfl (by kernel_rfl) (fun _ _ _ h => h) (Or.inl ⟨by rfl, ?_⟩) hHeld ?_ ?_
            rotate_left
            · rintro w' ⟨s0, s1, s2, s3, s4, -, -⟩; go_simp; try with_reducible rfl
            rotate_left
            · simp only [Act.put, List.setIfInBounds_toArray, List.set_cons_zero, List.set_cons_succ]; rfl
            refine pure_ (i := 13) (N := some 84) (v := ?_) (a' := ?_) #[true, false, true, true, false, false, false, false, true, true, false, false, false, true, false, false, false, false, false, false, false, false] rfl rfl (by kernel_rfl) (fun _ _ _ h => h) (Or.inl ⟨by rfl, ?_⟩) ?_ ?_
            rotate_left
            · intro w'; go_simp; try with_reducible rfl
            rotate_left
            · simp only [Act.put, List.setIfInBounds_toArray, List.set_cons_zero, List.set_cons_succ]; rfl
            refine take_ (i := 14) (N := some 85) (v := ?_) (a' := ?_) #[true, false, true, true, false, false, false, false, true, true, false, false, false, true, true, false, false, false, false, false, false, false] rfl rfl (by kernel_rfl) (fun _ _ _ h => h) (Or.inl ⟨by rfl, ?_⟩) hHeld ?_ ?_
            rotate_left
            · rintro w' ⟨s0, s1, s2, s3, s4, -, -⟩; go_simp; try with_reducible rfl
            rotate_left
            · simp only [Act.put, List.setIfInBounds_toArray, List.set_cons_zero, List.set_cons_succ]; rfl
            refine pure_ (i := 17) (N := some 88) (v := ?_) (a' := ?_) #[true, false, true, true, false, false, false, false, true, true, false, false, false, true, true, false, false, true, false, false, false, false] rfl rfl (by kernel_rfl) (fun _ _ _ h => h) (Or.inl ⟨by rfl, ?_⟩) ?_ ?_
            rotate_left
            · intro w'; go_simp; try with_reducible rfl
            rotate_left
            · simp only [Act.put, List.setIfInBounds_toArray, List.set_cons_zero, List.set_cons_succ]; rfl
            refine take_ (i := 18) (N := some 89) (v := ?_) (a' := ?_) #[true, false, true, true, false, false, false, false, true, true, false, false, false, true, true, false, false, true, true, false, false, false] rfl rfl (by kernel_rfl) (fun _ _ _ h => h) (Or.inl ⟨by rfl, ?_⟩) hHeld ?_ ?_
            rotate_left
            · rintro w' ⟨s0, s1, s2, s3, s4, -, -⟩; go_simp; try with_reducible rfl
            rotate_left
            · simp only [Act.put, List.setIfInBounds_toArray, List.set_cons_zero, List.set_cons_succ]; rfl
            refine one_ (i := 1) (N := some 72) #[true, true, true, true, false, false, false, false, true, true, false, false, false, true, true, false, false, true, true, false, false, false] rfl rfl (by kernel_rfl) (by decide) (fun K hK => ?_)
            refine goes_ Tryd.func38 (by kernel_rfl) rfl #[] (by rfl) rfl rfl (by (try simp only [List.map_toArray, List.map_cons, List.map_nil]); first | done | rfl) ?_
            with_reducible refine (HKW.out _).mono ?_
            rintro e wa ⟨⟨hh, rfl, qk⟩, hb⟩
            refine ⟨_, rfl, ?_⟩
            have z1 := HXS.out.on hb
            have z2 := HSS.out.on hb
            have z3 := HBS.out.on hb
            have z4 := HZS.out.on hb
            clear hb hHeld
            refine hK.out _ _ (keepC z1 z2) (fun hHeld => ?_)
            clear hK K
            refine norm_ (a' := ?_) ?_ ?_
            rotate_left
            · show Act.put _ (some 72) _ = _; simp only [Act.put, List.setIfInBounds_toArray, List.set_cons_zero, List.set_cons_succ]; rfl
            refine weak_ (S1 := fun w' => (fun w' => w'.cell? ⟨wr.heap.size, 0, none⟩ = some (.int .i64 x.f0) ∧ w'.cell? ⟨wr.heap.size, 1, none⟩ = some (.int .i64 x.f1.f0) ∧ w'.cell? ⟨wr.heap.size, 2, none⟩ = some (.int .i64 x.f1.f1) ∧ w'.cell? ⟨wr.heap.size, 3, none⟩ = some (.string x.f2) ∧ w'.cell? ⟨wr.heap.size, 4, none⟩ = some (.string x.f3) ∧ Since w w' ∧ Blk wr.heap.size 50 #[.int .i64 x.f0, .int .i64 x.f1.f0, .int .i64 x.f1.f1, .string x.f2, .string x.f3] w') w' ∧ w'.cell? ⟨hh, x.f0.toNat, none⟩ = some (.string kw)) (fun _ h => h.1) _ _ _ _ ⟨hHeld, qk⟩ ?_
            replace hHeld := And.intro hHeld qk
            refine pure_ (i := 4) (N := some 75) (v := ?_) (a' := ?_) #[true, true, true, true, true, false, false, false, true, true, false, false, false, true, true, false, false, true, true, false, false, false] rfl rfl (by kernel_rfl) (fun _ _ _ h => h) (Or.inl ⟨by rfl, ?_⟩) ?_ ?_
            rotate_left
            · intro w'; go_simp; try with_reducible rfl
            rotate_left
            · simp only [Act.put, List.setIfInBounds_toArray, List.set_cons_zero, List.set_cons_succ]; rfl
            refine take_ (i := 5) (N := some 76) (v := ?_) (a' := ?_) #[true, true, true, true, true, true, false, false, true, true, false, false, false, true, true, false, false, true, true, false, false, false] rfl rfl (by kernel_rfl) (fun _ _ _ h => h) (Or.inl ⟨by rfl, ?_⟩) hHeld ?_ ?_
            rotate_left
            · rintro w' ⟨⟨s0, s1, s2, s3, s4, -, -⟩, s5⟩; go_simp; try with_reducible rfl
            rotate_left
            · simp only [Act.put, List.setIfInBounds_toArray, List.set_cons_zero, List.set_cons_succ]; rfl
            refine pure_ (i := 6) (N := some 77) (v := ?_) (a' := ?_) #[true, true, true, true, true, true, true, false, true, true, false, false, false, true, true, false, false, true, true, false, false, false] rfl rfl (by kernel_rfl) (fun _ _ _ h => h) (Or.inl ⟨by rfl, ?_⟩) ?_ ?_
            rotate_left
            · intro w'; go_simp; try with_reducible rfl
            rotate_left
            · simp only [Act.put, List.setIfInBounds_toArray, List.set_cons_zero, List.set_cons_succ]; rfl
            refine pure_ (i := 7) (N := some 78) (v := ?_) (a' := ?_) #[true, true, true, true, true, true, true, true, true, true, false, false, false, true, true, false, false, true, true, false, false, false] rfl rfl (by kernel_rfl) (fun _ _ _ h => h) (Or.inl ⟨by rfl, ?_⟩) ?_ ?_
            rotate_left
            · intro w'; go_simp; try with_reducible rfl
            rotate_left
            · simp only [Act.put, List.setIfInBounds_toArray, List.set_cons_zero, List.set_cons_succ]; rfl
            refine one_ (i := 10) (N := some 81) #[true, true, true, true, true, true, true, true, true, true, true, false, false, true, true, false, false, true, true, false, false, false] rfl rfl (by kernel_rfl) (by decide) (fun K hK => ?_)
            refine goes_ Tryd.func39 (by kernel_rfl) rfl #[.agg #[.int .i64 x.f1.f0, .int .i64 x.f1.f1]] (by rfl) rfl rfl (by (try simp only [List.map_toArray, List.map_cons, List.map_nil]); first | done | rfl) ?_
            with_reducible refine (HFM.out _).mono ?_
            rintro e wb ⟨rfl, hb⟩
            refine ⟨_, rfl, ?_⟩
            have y1 := z1.on hb
            have y2 := z2.on hb
            have y3 := z3.on hb
            have y4 := z4.on hb
            have y5 := pw_cell_below hb qk
            clear hb z1 z2 z3 z4 qk hHeld
            refine hK.out _ _ ⟨keepC y1 y2, y5⟩ (fun hHeld => ?_)
            clear hK K
            refine norm_ (a' := ?_) ?_ ?_
            rotate_left
            · show Act.put _ (some 81) _ = _; simp only [Act.put, List.setIfInBounds_toArray, List.set_cons_zero, List.set_cons_succ]; rfl
            refine pure_ (i := 11) (N := some 82) (v := ?_) (a' := ?_) #[true, true, true, true, true, true, true, true, true, true, true, true, false, true, true, false, false, true, true, false, false, false] rfl rfl (by kernel_rfl) (fun _ _ _ h => h) (Or.inl ⟨by rfl, ?_⟩) ?_ ?_
            rotate_left
            · intro w'; go_simp; try with_reducible rfl
            rotate_left
            · simp only [Act.put, List.setIfInBounds_toArray, List.set_cons_zero, List.set_cons_succ]; rfl
            refine pure_ (i := 12) (N := some 83) (v := ?_) (a' := ?_) #[true, true, true, true, true, true, true, true, true, true, true, true, true, true, true, false, false, true, true, false, false, false] rfl rfl (by kernel_rfl) (fun _ _ _ h => h) (Or.inl ⟨by rfl, ?_⟩) ?_ ?_
            rotate_left
            · intro w'; go_simp; try with_reducible rfl
            rotate_left
            · simp only [Act.put, List.setIfInBounds_toArray, List.set_cons_zero, List.set_cons_succ]; rfl
            refine pure_ (i := 15) (N := some 86) (v := ?_) (a' := ?_) #[true, true, true, true, true, true, true, true, true, true, true, true, true, true, true, true, false, true, true, false, false, false] rfl rfl (by kernel_rfl) (fun _ _ _ h => h) (Or.inl ⟨by rfl, ?_⟩) ?_ ?_
            rotate_left
            · intro w'; go_simp; try with_reducible rfl
            rotate_left
            · simp only [Act.put, List.setIfInBounds_toArray, List.set_cons_zero, List.set_cons_succ]; rfl
            refine pure_ (i := 16) (N := some 87) (v := ?_) (a' := ?_) #[true, true, true, true, true, true, true, true, true, true, true, true, true, true, true, true, true, true, true, false, false, false] rfl rfl (by kernel_rfl) (fun _ _ _ h => h) (Or.inl ⟨by rfl, ?_⟩) ?_ ?_
            rotate_left
            · intro w'; go_simp; try with_reducible rfl
            rotate_left
            · simp only [Act.put, List.setIfInBounds_toArray, List.set_cons_zero, List.set_cons_succ]; rfl
            refine pure_ (i := 19) (N := some 90) (v := ?_) (a' := ?_) #[true, true, true, true, true, true, true, true, true, true, true, true, true, true, true, true, true, true, true, true, false, false] rfl rfl (by kernel_rfl) (fun _ _ _ h => h) (Or.inl ⟨by rfl, ?_⟩) ?_ ?_
            rotate_left
            · intro w'; go_simp; try with_reducible rfl
            rotate_left
            · simp only [Act.put, List.setIfInBounds_toArray, List.set_cons_zero, List.set_cons_succ]; rfl
            refine pure_ (i := 20) (N := some 91) (v := ?_) (a' := ?_) #[true, true, true, true, true, true, true, true, true, true, true, true, true, true, true, true, true, true, true, true, true, false] rfl rfl (by kernel_rfl) (fun _ _ _ h => h) (Or.inl ⟨by rfl, ?_⟩) ?_ ?_
            rotate_left
            · intro w'; go_simp; try with_reducible rfl
            rotate_left
            · simp only [Act.put, List.setIfInBounds_toArray, List.set_cons_zero, List.set_cons_succ]; rfl
            refine pure_ (i := 21) (N := some 6) (v := ?_) (a' := ?_) #[true, true, true, true, true, true, true, true, true, true, true, true, true, true, true, true, true, true, true, true, true, true] rfl rfl (by kernel_rfl) (fun _ _ _ h => h) (Or.inl ⟨by rfl, ?_⟩) ?_ ?_
            rotate_left
            · intro w'; go_simp; try with_reducible rfl
            rotate_left
            · simp only [Act.put, List.setIfInBounds_toArray, List.set_cons_zero, List.set_cons_succ]; rfl
            refine done_ (by kernel_rfl) ?_
            go_wp2
            go_split_ands
            go_roundw
            case rel => exact ⟨j + 1, _, by omega, by go_num, rfl, Lib.hid (by rw [HCT.out, HU.out, HTJ.out]; simp only [List.append_assoc]), Lib.hid (by assumption), Lib.hid (by assumption), Lib.hid (by assumption)⟩
            case measure => simp [intOf]; omega
          · obtain rfl : j = r.f1.length := by omega
            have HV := Lib.hid (show U.data.toList = T.data.toList ++ lineL [wRung, r.f0] ++ consT r.f1 from by have h := HU.out; rwa [List.take_length] at h)
            clear HU q1 q2
            go_wp2
            go_loopw [6, 11] (fun tt i wr => ∃ (j : Nat) (U : ByteArray), j ≤ r.f2.length ∧ i = .int .i64 j ∧ tt = .string U ∧ Hid (U.data.toList = T.data.toList ++ lineL [wRung, r.f0] ++ consT r.f1 ++ coilsT (r.f2.take j)) ∧ Hid (Since w wr) ∧ Hid (Blk w.heap.size 24 #[.int .i64 I, .int .i64 Q, .int .i64 M, .slice (some ad) l.length c] wr) ∧ Hid (Blk wo.heap.size 40 #[.string r.f0, .slice A1 r.f1.length cp1, .slice A2 r.f2.length cp2, .string r.f3] wr)) (fun _ i _ => r.f2.length - (intOf i).toNat)
            case atStart => exact ⟨0, U, Nat.zero_le _, rfl, rfl, Lib.hid (by rw [HV.out]; simp [coilsT]), HSQ, HZQ, HBQ⟩
            case round =>
              clear HV HSQ HZQ HBQ cq hlj
              obtain ⟨j, U, hj, rfl, rfl, HU, HSQ, HZQ, HBQ⟩ := hrel
              have cq := HBQ.out.cell 2 _ rfl
              by_cases hlj : j < r.f2.length
              · obtain ⟨x, hxj⟩ : ∃ x, r.f2[j]? = some x := ⟨_, List.getElem?_eq_getElem hlj⟩
                have hxm : x ∈ r.f2 := List.mem_of_getElem? hxj
                obtain ⟨ad5, e5, d0, d1', d2'⟩ := at_T53 HR2.out j (by omega) (by omega)
                subst e5
                rw [Int.toNat_natCast, rd53_at r.f2 j x hxj] at d0 d1' d2'
                have hco := HRO.out.coil x hxm
                have hK0 := hco.k0
                have hK4 := hco.k4
                have hct := rcoil_text HSZ.out x hco U
                have htj := flat_take (fun c => lineL (coilWords c)) r.f2 j x hxj
                have htl := flat_le (fun c => lineL (coilWords c)) r.f2 (j + 1)
                rw [htj, List.length_append] at htl
                have HTJ := Lib.hid (show coilsT (r.f2.take (j + 1)) = coilsT (r.f2.take j) ++ lineL (coilWords x) from htj)
                have hUs : U.size = T.size + (lineL [wRung, r.f0]).length + (consT r.f1).length + (coilsT (r.f2.take j)).length := by rw [bytes_size U, HU.out, bytes_size T]; simp only [List.length_append]
                obtain ⟨kw, hkw⟩ : ∃ kw, kw = kwQ.getD x.f0.toNat ByteArray.empty := ⟨_, rfl⟩
                obtain ⟨fm, hfm⟩ : ∃ fm, fm = fmtB x.f1.f0 x.f1.f1 := ⟨_, rfl⟩
                have k0 := kwQ_len x.f0.toNat
                have k1 := fmtB_len x.f1.f0 x.f1.f1
                rw [← hkw, ← hfm] at hct
                rw [← hkw] at k0
                rw [← hfm] at k1
                have HCT := Lib.hid hct
                have hU : U.size ≤ 1000000 := by
                  have h1 := HTOT.out
                  have h2 := HRT.out
                  have h3 : (coilsT (r.f2.take j)).length + (lineL (coilWords x)).length ≤ (coilsT r.f2).length := htl
                  omega
                have a1 : ¬ 9223372036854775807 < U.size + kw.size := by omega
                have a2 : ¬ 9223372036854775807 < U.size + kw.size + 1 := by omega
                have a3 : ¬ 9223372036854775807 < U.size + kw.size + 1 + fm.size := by omega
                have a4 : ¬ 9223372036854775807 < U.size + kw.size + 1 + fm.size + 1 := by omega
                have hb1 : Below wr.heap.size wr wr.drew := below_drew (Below.refl _ _)
                have HSS := Lib.hid (HSQ.out.on hb1)
                have HZS := Lib.hid (HZQ.out.on hb1)
                have HBS := Lib.hid (HBQ.out.on hb1)
                have HD0 := Lib.hid d0
                have HD1' := Lib.hid d1'
                have HD2' := Lib.hid d2'
                have HKW := Lib.hid (fun W => kwQ_at x.f0 hK0 hK4 kw hkw W)
                have HFM := Lib.hid (show ∀ W, Calls _ _ _ W fun e w' => e = .returned (.string fm) ∧ _ from fun W => by have := rformat_call x.f1.f0 x.f1.f1 W; rwa [← hfm] at this)
                clear hco hct htj htl hUs k0 k1 hb1 hkw hfm hxj hxm d0 d1' d2'
                go_wp2_with fail
                refine start_ (n := 22) (S := fun w' => w'.cell? (ad5.add (j * 3)) = some (.int .i64 x.f0) ∧ w'.cell? ⟨(ad5.add (j * 3)).block, (ad5.add (j * 3)).off + 1, none⟩ = some (.int .i64 x.f1.f0) ∧ w'.cell? ⟨(ad5.add (j * 3)).block, (ad5.add (j * 3)).off + 2, none⟩ = some (.int .i64 x.f1.f1) ∧ w'.cell? ⟨wo.heap.size, 2, none⟩ = some (.slice (some ad5) r.f2.length cp2) ∧ Since w w' ∧ Blk wo.heap.size 40 #[.string r.f0, .slice A1 r.f1.length cp1, .slice (some ad5) r.f2.length cp2, .string r.f3] w') (ds := []) #[false, false, false, false, false, false, false, false, false, false, false, false, false, false, false, false, false, false, false, false, false, false] (by kernel_rfl) rfl rfl (keepQ HD0.out HD1'.out HD2'.out HBS.out HSS.out) (fun hHeld => ?_)
                refine pure_ (i := 0) (N := some 99) (v := ?_) (a' := ?_) #[true, false, false, false, false, false, false, false, false, false, false, false, false, false, false, false, false, false, false, false, false, false] rfl rfl (by kernel_rfl) (fun _ _ _ h => h) (Or.inl ⟨by rfl, ?_⟩) ?_ ?_
                rotate_left
                · intro w'; go_simp; try with_reducible rfl
                rotate_left
                · simp only [Act.put, List.setIfInBounds_toArray, List.set_cons_zero, List.set_cons_succ]; rfl
                refine pure_ (i := 2) (N := some 101) (v := ?_) (a' := ?_) #[true, false, true, false, false, false, false, false, false, false, false, false, false, false, false, false, false, false, false, false, false, false] rfl rfl (by kernel_rfl) (fun _ _ _ h => h) (Or.inl ⟨by rfl, ?_⟩) ?_ ?_
                rotate_left
                · intro w'; go_simp; try with_reducible rfl
                rotate_left
                · simp only [Act.put, List.setIfInBounds_toArray, List.set_cons_zero, List.set_cons_succ]; rfl
                refine take_ (i := 3) (N := some 102) (v := ?_) (a' := ?_) #[true, false, true, true, false, false, false, false, false, false, false, false, false, false, false, false, false, false, false, false, false, false] rfl rfl (by kernel_rfl) (fun _ _ _ h => h) (Or.inl ⟨by rfl, ?_⟩) hHeld ?_ ?_
                rotate_left
                · rintro w' ⟨s0, s1, s2, s3, -, -⟩; go_simp; try with_reducible rfl
                rotate_left
                · simp only [Act.put, List.setIfInBounds_toArray, List.set_cons_zero, List.set_cons_succ]; rfl
                refine pure_ (i := 4) (N := some 103) (v := ?_) (a' := ?_) #[true, false, true, true, true, false, false, false, false, false, false, false, false, false, false, false, false, false, false, false, false, false] rfl rfl (by kernel_rfl) (fun _ _ _ h => h) (Or.inl ⟨by rfl, ?_⟩) ?_ ?_
                rotate_left
                · intro w'; go_simp; try with_reducible rfl
                rotate_left
                · simp only [Act.put, List.setIfInBounds_toArray, List.set_cons_zero, List.set_cons_succ]; rfl
                refine pure_ (i := 5) (N := some 104) (v := ?_) (a' := ?_) #[true, false, true, true, true, true, false, false, false, false, false, false, false, false, false, false, false, false, false, false, false, false] rfl rfl (by kernel_rfl) (fun _ _ _ h => h) (Or.inl ⟨by rfl, ?_⟩) ?_ ?_
                rotate_left
                · intro w'; go_simp; try with_reducible rfl
                rotate_left
                · simp only [Act.put, List.setIfInBounds_toArray, List.set_cons_zero, List.set_cons_succ]; rfl
                refine pure_ (i := 6) (N := some 105) (v := ?_) (a' := ?_) #[true, false, true, true, true, true, true, false, false, false, false, false, false, false, false, false, false, false, false, false, false, false] rfl rfl (by kernel_rfl) (fun _ _ _ h => h) (Or.inl ⟨by rfl, ?_⟩) ?_ ?_
                rotate_left
                · intro w'; go_simp; try with_reducible rfl
                rotate_left
                · simp only [Act.put, List.setIfInBounds_toArray, List.set_cons_zero, List.set_cons_succ]; rfl
                refine take_ (i := 7) (N := some 106) (v := ?_) (a' := ?_) #[true, false, true, true, true, true, true, true, false, false, false, false, false, false, false, false, false, false, false, false, false, false] rfl rfl (by kernel_rfl) (fun _ _ _ h => h) (Or.inl ⟨by rfl, ?_⟩) hHeld ?_ ?_
                rotate_left
                · rintro w' ⟨s0, s1, s2, s3, -, -⟩; go_simp; try with_reducible rfl
                rotate_left
                · simp only [Act.put, List.setIfInBounds_toArray, List.set_cons_zero, List.set_cons_succ]; rfl
                refine pure_ (i := 12) (N := some 111) (v := ?_) (a' := ?_) #[true, false, true, true, true, true, true, true, false, false, false, false, true, false, false, false, false, false, false, false, false, false] rfl rfl (by kernel_rfl) (fun _ _ _ h => h) (Or.inl ⟨by rfl, ?_⟩) ?_ ?_
                rotate_left
                · intro w'; go_simp; try with_reducible rfl
                rotate_left
                · simp only [Act.put, List.setIfInBounds_toArray, List.set_cons_zero, List.set_cons_succ]; rfl
                refine take_ (i := 13) (N := some 112) (v := ?_) (a' := ?_) #[true, false, true, true, true, true, true, true, false, false, false, false, true, true, false, false, false, false, false, false, false, false] rfl rfl (by kernel_rfl) (fun _ _ _ h => h) (Or.inl ⟨by rfl, ?_⟩) hHeld ?_ ?_
                rotate_left
                · rintro w' ⟨s0, s1, s2, s3, -, -⟩; go_simp; try with_reducible rfl
                rotate_left
                · simp only [Act.put, List.setIfInBounds_toArray, List.set_cons_zero, List.set_cons_succ]; rfl
                refine pure_ (i := 14) (N := some 113) (v := ?_) (a' := ?_) #[true, false, true, true, true, true, true, true, false, false, false, false, true, true, true, false, false, false, false, false, false, false] rfl rfl (by kernel_rfl) (fun _ _ _ h => h) (Or.inl ⟨by rfl, ?_⟩) ?_ ?_
                rotate_left
                · intro w'; go_simp; try with_reducible rfl
                rotate_left
                · simp only [Act.put, List.setIfInBounds_toArray, List.set_cons_zero, List.set_cons_succ]; rfl
                refine pure_ (i := 15) (N := some 114) (v := ?_) (a' := ?_) #[true, false, true, true, true, true, true, true, false, false, false, false, true, true, true, true, false, false, false, false, false, false] rfl rfl (by kernel_rfl) (fun _ _ _ h => h) (Or.inl ⟨by rfl, ?_⟩) ?_ ?_
                rotate_left
                · intro w'; go_simp; try with_reducible rfl
                rotate_left
                · simp only [Act.put, List.setIfInBounds_toArray, List.set_cons_zero, List.set_cons_succ]; rfl
                refine pure_ (i := 16) (N := some 115) (v := ?_) (a' := ?_) #[true, false, true, true, true, true, true, true, false, false, false, false, true, true, true, true, true, false, false, false, false, false] rfl rfl (by kernel_rfl) (fun _ _ _ h => h) (Or.inl ⟨by rfl, ?_⟩) ?_ ?_
                rotate_left
                · intro w'; go_simp; try with_reducible rfl
                rotate_left
                · simp only [Act.put, List.setIfInBounds_toArray, List.set_cons_zero, List.set_cons_succ]; rfl
                refine take_ (i := 17) (N := some 116) (v := ?_) (a' := ?_) #[true, false, true, true, true, true, true, true, false, false, false, false, true, true, true, true, true, true, false, false, false, false] rfl rfl (by kernel_rfl) (fun _ _ _ h => h) (Or.inl ⟨by rfl, ?_⟩) hHeld ?_ ?_
                rotate_left
                · rintro w' ⟨s0, s1, s2, s3, -, -⟩; go_simp; try with_reducible rfl
                rotate_left
                · simp only [Act.put, List.setIfInBounds_toArray, List.set_cons_zero, List.set_cons_succ]; rfl
                refine one_ (i := 1) (N := some 100) #[true, true, true, true, true, true, true, true, false, false, false, false, true, true, true, true, true, true, false, false, false, false] rfl rfl (by kernel_rfl) (by decide) (fun K hK => ?_)
                refine goes_ Tryd.func40 (by kernel_rfl) rfl #[] (by rfl) rfl rfl (by (try simp only [List.map_toArray, List.map_cons, List.map_nil]); first | done | rfl) ?_
                with_reducible refine (HKW.out _).mono ?_
                rintro e wa ⟨⟨hh, rfl, qk⟩, hb⟩
                refine ⟨_, rfl, ?_⟩
                have z2 := HSS.out.on hb
                have z3 := HBS.out.on hb
                have z4 := HZS.out.on hb
                clear hb hHeld
                refine hK.out _ _ (keepQ HD0.out HD1'.out HD2'.out z3 z2) (fun hHeld => ?_)
                clear hK K
                refine norm_ (a' := ?_) ?_ ?_
                rotate_left
                · show Act.put _ (some 100) _ = _; simp only [Act.put, List.setIfInBounds_toArray, List.set_cons_zero, List.set_cons_succ]; rfl
                refine weak_ (S1 := fun w' => (fun w' => w'.cell? (ad5.add (j * 3)) = some (.int .i64 x.f0) ∧ w'.cell? ⟨(ad5.add (j * 3)).block, (ad5.add (j * 3)).off + 1, none⟩ = some (.int .i64 x.f1.f0) ∧ w'.cell? ⟨(ad5.add (j * 3)).block, (ad5.add (j * 3)).off + 2, none⟩ = some (.int .i64 x.f1.f1) ∧ w'.cell? ⟨wo.heap.size, 2, none⟩ = some (.slice (some ad5) r.f2.length cp2) ∧ Since w w' ∧ Blk wo.heap.size 40 #[.string r.f0, .slice A1 r.f1.length cp1, .slice (some ad5) r.f2.length cp2, .string r.f3] w') w' ∧ w'.cell? ⟨hh, x.f0.toNat, none⟩ = some (.string kw)) (fun _ h => h.1) _ _ _ _ ⟨hHeld, qk⟩ ?_
                replace hHeld := And.intro hHeld qk
                refine pure_ (i := 8) (N := some 107) (v := ?_) (a' := ?_) #[true, true, true, true, true, true, true, true, true, false, false, false, true, true, true, true, true, true, false, false, false, false] rfl rfl (by kernel_rfl) (fun _ _ _ h => h) (Or.inl ⟨by rfl, ?_⟩) ?_ ?_
                rotate_left
                · intro w'; go_simp; try with_reducible rfl
                rotate_left
                · simp only [Act.put, List.setIfInBounds_toArray, List.set_cons_zero, List.set_cons_succ]; rfl
                refine take_ (i := 9) (N := some 108) (v := ?_) (a' := ?_) #[true, true, true, true, true, true, true, true, true, true, false, false, true, true, true, true, true, true, false, false, false, false] rfl rfl (by kernel_rfl) (fun _ _ _ h => h) (Or.inl ⟨by rfl, ?_⟩) hHeld ?_ ?_
                rotate_left
                · rintro w' ⟨⟨s0, s1, s2, s3, -, -⟩, s5⟩; go_simp; try with_reducible rfl
                rotate_left
                · simp only [Act.put, List.setIfInBounds_toArray, List.set_cons_zero, List.set_cons_succ]; rfl
                refine pure_ (i := 10) (N := some 109) (v := ?_) (a' := ?_) #[true, true, true, true, true, true, true, true, true, true, true, false, true, true, true, true, true, true, false, false, false, false] rfl rfl (by kernel_rfl) (fun _ _ _ h => h) (Or.inl ⟨by rfl, ?_⟩) ?_ ?_
                rotate_left
                · intro w'; go_simp; try with_reducible rfl
                rotate_left
                · simp only [Act.put, List.setIfInBounds_toArray, List.set_cons_zero, List.set_cons_succ]; rfl
                refine pure_ (i := 11) (N := some 110) (v := ?_) (a' := ?_) #[true, true, true, true, true, true, true, true, true, true, true, true, true, true, true, true, true, true, false, false, false, false] rfl rfl (by kernel_rfl) (fun _ _ _ h => h) (Or.inl ⟨by rfl, ?_⟩) ?_ ?_
                rotate_left
                · intro w'; go_simp; try with_reducible rfl
                rotate_left
                · simp only [Act.put, List.setIfInBounds_toArray, List.set_cons_zero, List.set_cons_succ]; rfl
                refine one_ (i := 18) (N := some 117) #[true, true, true, true, true, true, true, true, true, true, true, true, true, true, true, true, true, true, true, false, false, false] rfl rfl (by kernel_rfl) (by decide) (fun K hK => ?_)
                refine goes_ Tryd.func39 (by kernel_rfl) rfl #[.agg #[.int .i64 x.f1.f0, .int .i64 x.f1.f1]] (by rfl) rfl rfl (by (try simp only [List.map_toArray, List.map_cons, List.map_nil]); first | done | rfl) ?_
                with_reducible refine (HFM.out _).mono ?_
                rintro e wb ⟨rfl, hb⟩
                refine ⟨_, rfl, ?_⟩
                have y2 := z2.on hb
                have y3 := z3.on hb
                have y4 := z4.on hb
                have y5 := pw_cell_below hb qk
                clear hb z2 z3 z4 qk hHeld
                refine hK.out _ _ ⟨keepQ HD0.out HD1'.out HD2'.out y3 y2, y5⟩ (fun hHeld => ?_)
                clear hK K
                refine norm_ (a' := ?_) ?_ ?_
                rotate_left
                · show Act.put _ (some 117) _ = _; simp only [Act.put, List.setIfInBounds_toArray, List.set_cons_zero, List.set_cons_succ]; rfl
                refine pure_ (i := 19) (N := some 118) (v := ?_) (a' := ?_) #[true, true, true, true, true, true, true, true, true, true, true, true, true, true, true, true, true, true, true, true, false, false] rfl rfl (by kernel_rfl) (fun _ _ _ h => h) (Or.inl ⟨by rfl, ?_⟩) ?_ ?_
                rotate_left
                · intro w'; go_simp; try with_reducible rfl
                rotate_left
                · simp only [Act.put, List.setIfInBounds_toArray, List.set_cons_zero, List.set_cons_succ]; rfl
                refine pure_ (i := 20) (N := some 119) (v := ?_) (a' := ?_) #[true, true, true, true, true, true, true, true, true, true, true, true, true, true, true, true, true, true, true, true, true, false] rfl rfl (by kernel_rfl) (fun _ _ _ h => h) (Or.inl ⟨by rfl, ?_⟩) ?_ ?_
                rotate_left
                · intro w'; go_simp; try with_reducible rfl
                rotate_left
                · simp only [Act.put, List.setIfInBounds_toArray, List.set_cons_zero, List.set_cons_succ]; rfl
                refine pure_ (i := 21) (N := some 6) (v := ?_) (a' := ?_) #[true, true, true, true, true, true, true, true, true, true, true, true, true, true, true, true, true, true, true, true, true, true] rfl rfl (by kernel_rfl) (fun _ _ _ h => h) (Or.inl ⟨by rfl, ?_⟩) ?_ ?_
                rotate_left
                · intro w'; go_simp; try with_reducible rfl
                rotate_left
                · simp only [Act.put, List.setIfInBounds_toArray, List.set_cons_zero, List.set_cons_succ]; rfl
                refine done_ (by kernel_rfl) ?_
                go_wp2
                go_split_ands
                go_roundw
                case rel => exact ⟨j + 1, _, by omega, by go_num, rfl, Lib.hid (by rw [HCT.out, HU.out, HTJ.out]; simp only [List.append_assoc]), Lib.hid (by assumption), Lib.hid (by assumption), Lib.hid (by assumption)⟩
                case measure => simp [intOf]; omega
              · obtain rfl : j = r.f2.length := by omega
                have HV2 := Lib.hid (show U.data.toList = T.data.toList ++ lineL [wRung, r.f0] ++ consT r.f1 ++ coilsT r.f2 from by have h := HU.out; rwa [List.take_length] at h)
                have hUs : U.size = T.size + (lineL [wRung, r.f0]).length + (consT r.f1).length + (coilsT r.f2).length := by rw [bytes_size U, HV2.out, bytes_size T]; simp only [List.length_append]
                have hU : U.size ≤ 1000000 := by
                  have h1 := HTOT.out
                  have h2 := HRT.out
                  omega
                have c3 := HBQ.out.cell 3 _ rfl
                clear HU hUs hlj
                rcases Nat.eq_zero_or_pos r.f3.size with hj0 | hj0
                · have q2 : r.f3.toList.isEmpty = true := by rw [List.isEmpty_iff, ByteArray.toList_eq, size_nil hj0]; rfl
                  have q1 : (r.f3 = ByteArray.empty) = True := eq_true (size_nil hj0)
                  have HFIN := Lib.hid (show U.data.toList = sizeT I Q M ++ rungsT (l.take (k + 1)) from by rw [HV2.out, HTK.out, HX.out]; unfold rungT jumpT; rw [if_pos hj0]; simp only [List.append_assoc, List.append_nil])
                  clear HV2 hj0
                  go_wp2
                  go_roundw
                  case rel => exact ⟨k + 1, U, by omega, by go_num, rfl, HFIN, HSQ, HZQ⟩
                  case measure => simp [intOf]; omega
                · have q2 := list_pos (Nat.ne_of_gt hj0)
                  have q1 := size_pos (Nat.ne_of_gt hj0)
                  have HFIN := Lib.hid (show (((U ++ (⟨#[106, 117, 109, 112, 32]⟩ : ByteArray)) ++ r.f3) ++ (⟨#[10]⟩ : ByteArray)).data.toList = sizeT I Q M ++ rungsT (l.take (k + 1)) from by rw [rjump_text U r.f3 (Nat.ne_of_gt hj0), HV2.out, HTK.out, HX.out]; unfold rungT jumpT; rw [if_neg (Nat.ne_of_gt hj0)]; simp only [List.append_assoc])
                  have u1 : ¬ 9223372036854775807 < U.size + 5 := by omega
                  have u2 : ¬ 9223372036854775807 < U.size + 5 + r.f3.size := by omega
                  have u3 : ¬ 9223372036854775807 < U.size + 5 + r.f3.size + 1 := by omega
                  clear HV2 hj0
                  go_wp2
                  go_roundw
                  case rel => exact ⟨k + 1, _, by omega, by go_num, rfl, HFIN, HSQ, HZQ⟩
                  case measure => simp [intOf]; omega
    · obtain rfl : k = l.length := by omega
      have hTT : T.data.toList = ladderT I Q M l := by have h := HX.out; rw [List.take_length] at h; exact h
      have hTs : T.size = (ladderT I Q M l).length := by rw [bytes_size, hTT]
      have hTe : T = ⟨(ladderT I Q M l).toArray⟩ := by rw [← hTT]
      by_cases hbig : 65536 < T.size
      · have hb1 : decide ((65536 : Int) < (T.size : Int)) = true := decide_eq_true (by omega)
        have HRES := Lib.hid (show printRes I Q M l = (⟨#[]⟩, 7) from if_pos (by omega))
        clear hbig hTT hTs hTe
        go_wp2
        go_ret2
        exact ⟨by rw [HRES.out]; rfl, HSR.out.out⟩
      · have hb1 : decide ((65536 : Int) < (T.size : Int)) = false := decide_eq_false (by omega)
        have HRES := Lib.hid (show printRes I Q M l = (T, 0) from by rw [hTe]; exact if_neg (by omega))
        clear hbig hTT hTs hTe
        go_wp2
        go_ret2
        exact ⟨by rw [HRES.out]; rfl, HSR.out.out⟩
def ref11_Print.f (I Q M : Int) (l : List S40) : Option (ByteArray × Int) := some (printP I Q M l)
theorem ref11_Print.calls (a0_0 : Int) (a0_1 : Int) (a0_2 : Int) (A0_3 : Option Addr) (c0_3 : Nat) (l0_3 : List S40) (r1 : ByteArray) (r2 : Int) (w : World) (hr0_3 : Kd.C k40 w A0_3 l0_3.length l0_3) (hc0_3 : l0_3.length ≤ c0_3) (h : ref11_Print.f a0_0 a0_1 a0_2 l0_3 = some (r1, r2)) :
    Calls Tryd.prog 14 #[.agg #[.int .i64 a0_0, .int .i64 a0_1, .int .i64 a0_2, .slice A0_3 l0_3.length c0_3]] w fun e w' => e = .returned (.tuple #[.string r1, .int .i64 r2]) ∧ Below w.heap.size w w' := by
  have h := Option.some.inj h
  unfold printP at h
  have hc := ref_check a0_0 a0_1 a0_2 l0_3
  by_cases h0 : (checkP a0_0 a0_1 a0_2 l0_3).2 = 0
  · rw [if_pos h0] at h
    rw [show checkP a0_0 a0_1 a0_2 l0_3 = ((checkP a0_0 a0_1 a0_2 l0_3).1, 0) from Prod.ext rfl h0] at hc
    have := rprint_ok 1000 a0_0 a0_1 a0_2 A0_3 c0_3 l0_3 _ w hr0_3 hc0_3 hc h0
    rwa [h] at this
  · rw [if_neg h0] at h
    cases h
    exact rprint_bad 1000 a0_0 a0_1 a0_2 A0_3 c0_3 l0_3 _ _ w hr0_3 hc0_3 hc h0
end Go.Proofs.YtmcmpjkfdkogiaaDoor.P

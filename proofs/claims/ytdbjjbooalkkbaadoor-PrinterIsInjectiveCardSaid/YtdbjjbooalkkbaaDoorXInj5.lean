/- Merged by mergetop.py. -/
import Derived.Test.YtdbjjbooalkkbaaDoorXInj4
import Derived.Test.YtdbjjbooalkkbaaDoorXRowP
/- PrinterIsInjective: the walk. -/
set_option linter.unusedVariables false
set_option linter.unusedSimpArgs false
namespace Go.Proofs.YtdbjjbooalkkbaaDoor.P
open Go.RowKit Go.Proofs.YtdbjjbooalkkbaaDoorW.PrintWords Go.Proofs.YtdbjjbooalkkbaaDoorW.PrintLast Go.Proofs.YtdbjjbooalkkbaaDoorW.PrintMore

set_option maxRecDepth 100000 in
set_option maxHeartbeats 32000000 in
theorem inj_law1 (x : SLd) (A : Option Addr) (c : Nat) (a0 a1 wh : Int) (w : World) (hx : Lad x A c w) (hL : Aside0 (LaidW 50 w)) (ha0 : 0 ≤ a0 ∧ a0 ≤ 255) (ha1 : 0 ≤ a1 ∧ a1 ≤ 255) (hwh : 0 ≤ wh ∧ wh ≤ 255) :
    Calls Tryd.prog 4 #[ladV x A c, .agg #[.int .u8 a0, .int .u8 a1], .int .u8 wh] w fun e w' => e = .returned (.bool true) ∧ Below w.heap.size w w' := by
  obtain ⟨t1, ht1⟩ := large2 x.f0 x.f1 x.f2 x.f3 hx.n (fun r hr => (hx.m r hr).1)
  obtain ⟨⟨s, f⟩, hp⟩ : ∃ v, printP x.f0 x.f1 x.f2 x.f3 = v := ⟨_, rfl⟩
  have HT1 := Lib.hid (fun W (h : Since w W) => ht1 A c W (hx.on h).reads hx.room)
  have HP := Lib.hid (fun W (h : Since w W) => print2 x.f0 x.f1 x.f2 x.f3 s f hp A c W (hx.on h).reads hx.room (LaidW.below hL rfl h.out))
  have HA := Lib.hid (fun W h => alive_call W w hL h)
  have HB0 := Lib.hid (show Since w ((w.alloc (.cells (ladC x A c) tL)).alloc (.cells #[.int .u8 a0, .int .u8 a1] 38)) from ⟨below_alloc (below_alloc (Below.refl _ _) _) _⟩)
  have HX0 := Lib.hid ((Blk.new w tL (ladC x A c)).alloc (.cells #[.int .u8 a0, .int .u8 a1] 38))
  have HR0 := Lib.hid (show Blk (w.heap.size + 1) 38 #[.int .u8 a0, .int .u8 a1] ((w.alloc (.cells (ladC x A c) tL)).alloc (.cells #[.int .u8 a0, .int .u8 a1] 38)) from by have := Blk.new (w.alloc (.cells (ladC x A c) tL)) 38 #[.int .u8 a0, .int .u8 a1]; rwa [World.size_alloc] at this)
  have Hx := Lib.hid hx
  have HL := Lib.hid hL
  have Hp := Lib.hid hp
  clear ht1 hx hL hp
  by_cases h1 : 0 < t1
  · have q1 : decide (0 < t1) = true := decide_eq_true h1
    go_enter Tryd.func4, Tryd.ntmps4
    go_wp2_with (first
      | (go_at_call 6; (with_reducible refine (HP.out _ HB0.out).mono ?_); rintro e w1 ⟨rfl, hb⟩; have HB1 := Lib.hid (HB0.out.on hb); have HX1 := Lib.hid (HX0.out.on hb); have x0 := HX1.out.cell 0 _ rfl; have x1 := HX1.out.cell 1 _ rfl; have x2 := HX1.out.cell 2 _ rfl; have x3 := HX1.out.cell 3 _ rfl; clear hb)
      | (go_at_call 7; (with_reducible refine (HT1.out _ HB1.out).mono ?_); rintro e w2 ⟨rfl, hb⟩; have HB2 := Lib.hid (HB1.out.on hb); clear hb)
      | (go_at_call 8; (with_reducible refine (HA.out _ HB2.out).mono ?_); rintro e w3 ⟨rfl, hb⟩; have HB3 := Lib.hid (HB2.out.on hb); clear hb))
    go_ret
    exact ⟨rfl, HB3.out.out⟩
  have q1 : decide (0 < t1) = false := decide_eq_false h1
  by_cases h2 : f = 0
  case neg =>
    have q2 : (f != 0) = true := bne_iff_ne.2 h2
    go_enter Tryd.func4, Tryd.ntmps4
    go_wp2_with (first
      | (go_at_call 6; (with_reducible refine (HP.out _ HB0.out).mono ?_); rintro e w1 ⟨rfl, hb⟩; have HB1 := Lib.hid (HB0.out.on hb); have HX1 := Lib.hid (HX0.out.on hb); have x0 := HX1.out.cell 0 _ rfl; have x1 := HX1.out.cell 1 _ rfl; have x2 := HX1.out.cell 2 _ rfl; have x3 := HX1.out.cell 3 _ rfl; clear hb)
      | (go_at_call 7; (with_reducible refine (HT1.out _ HB1.out).mono ?_); rintro e w2 ⟨rfl, hb⟩; have HB2 := Lib.hid (HB1.out.on hb); clear hb)
      | (go_at_call 8; (with_reducible refine (HA.out _ HB2.out).mono ?_); rintro e w3 ⟨rfl, hb⟩; have HB3 := Lib.hid (HB2.out.on hb); clear hb))
    go_ret
    exact ⟨rfl, HB3.out.out⟩
  case pos =>
    subst h2
    by_cases h3 : x.f3.length = 0
    · have q3 : (((x.f3.length : Nat) : Int) == 0) = true := by rw [h3]; rfl
      clear h3
      go_enter Tryd.func4, Tryd.ntmps4
      go_wp2_with (first
        | (go_at_call 6; (with_reducible refine (HP.out _ HB0.out).mono ?_); rintro e w1 ⟨rfl, hb⟩; have HB1 := Lib.hid (HB0.out.on hb); have HX1 := Lib.hid (HX0.out.on hb); have x0 := HX1.out.cell 0 _ rfl; have x1 := HX1.out.cell 1 _ rfl; have x2 := HX1.out.cell 2 _ rfl; have x3 := HX1.out.cell 3 _ rfl; clear hb)
        | (go_at_call 7; (with_reducible refine (HT1.out _ HB1.out).mono ?_); rintro e w2 ⟨rfl, hb⟩; have HB2 := Lib.hid (HB1.out.on hb); have HX2 := Lib.hid (HX1.out.on hb); have y3 := HX2.out.cell 3 _ rfl; clear hb)
        | (go_at_call 8; (with_reducible refine (HA.out _ HB2.out).mono ?_); rintro e w3 ⟨rfl, hb⟩; have HB3 := Lib.hid (HB2.out.on hb); clear hb))
      go_ret
      exact ⟨rfl, HB3.out.out⟩
    · have q3 : (((x.f3.length : Nat) : Int) == 0) = false := by rw [beq_eq_false_iff_ne]; omega
      obtain ⟨hchk, hlen, hs⟩ := printP_ok Hp.out
      have h64 := (check_ok hchk).2.1
      have Hc := Lib.hid hchk
      clear hchk hlen hs
      go_enter Tryd.func4, Tryd.ntmps4
      go_wp2_with (first
        | (go_at_call 6; (with_reducible refine (HP.out _ HB0.out).mono ?_); rintro e w1 ⟨rfl, hb⟩; have HB1 := Lib.hid (HB0.out.on hb); have HX1 := Lib.hid (HX0.out.on hb); have HR1 := Lib.hid (HR0.out.on hb); have x0 := HX1.out.cell 0 _ rfl; have x1 := HX1.out.cell 1 _ rfl; have x2 := HX1.out.cell 2 _ rfl; have x3 := HX1.out.cell 3 _ rfl; clear hb)
        | (go_at_call 7; (with_reducible refine (HT1.out _ HB1.out).mono ?_); rintro e w2 ⟨rfl, hb⟩; have HB2 := Lib.hid (HB1.out.on hb); have HX2 := Lib.hid (HX1.out.on hb); have HR2 := Lib.hid (HR1.out.on hb); have y0 := HX2.out.cell 0 _ rfl; have y1 := HX2.out.cell 1 _ rfl; have y2 := HX2.out.cell 2 _ rfl; have y3 := HX2.out.cell 3 _ rfl; have HXa := Lib.hid (HX2.out.alloc (.cells #[.int .i64 x.f0, .int .i64 x.f1, .int .i64 x.f2, .slice none 0 0] tL)); have ya3 := HXa.out.cell 3 _ rfl; clear hb))
      go_loopw [48] (fun kv wr => ∃ (k : Nat) (v : Value), k ≤ x.f3.length ∧ kv = .int .i64 (k : Int) ∧ Hid (Cp w2.heap.size w2.heap.size w2 x k v wr)) (fun kv _ => x.f3.length - (intOf kv).toNat)
      case atStart => exact ⟨0, _, Nat.zero_le _, rfl, Lib.hid (Cp.start x rfl)⟩
      case round =>
        revert hrel; revert wr; intro wq hrel
        obtain ⟨k, v, hk, rfl, HC⟩ := hrel
        have hwq : w2.heap.size ≤ wq.heap.size := HC.out.bel.size
        by_cases hlt : k < x.f3.length
        case neg =>
          obtain rfl : k = x.f3.length := by omega
          have hS := HC.out.S
          rw [List.take_length] at hS
          obtain ⟨gb, cap, rfl, hgB, hgl, gcells, hgt⟩ := Kd.S_form hS (by omega)
          have HS := Lib.hid hS
          obtain ⟨i, hi, hin⟩ := mod_nat' ha0.1 x.f3.length (by omega)
          have Xq := Lib.hid (show Blk w.heap.size tL (ladC x A c) wq from ⟨(HC.out.bel.block _ HX2.out.lt).trans HX2.out.out⟩)
          have Rq := Lib.hid (show Blk (w.heap.size + 1) 38 #[.int .u8 a0, .int .u8 a1] wq from ⟨(HC.out.bel.block _ HR2.out.lt).trans HR2.out.out⟩)
          have Sq := Lib.hid (show Since w wq from ⟨HB2.out.out.trans (HC.out.bel.mono HB2.out.out.size)⟩)
          have gc0 := HC.out.G.cell 0 _ rfl
          have gc1 := HC.out.G.cell 1 _ rfl
          have gc2 := HC.out.G.cell 2 _ rfl
          have gc3 := HC.out.G.cell 3 _ rfl
          have rc0 := Rq.out.cell 0 _ rfl
          have rc1 := Rq.out.cell 1 _ rfl
          have xc0 := Xq.out.cell 0 _ rfl
          have xc3 := Xq.out.cell 3 _ rfl
          have qlt : ¬ ((x.f3.length : Nat) : Int) < ((x.f3.length : Nat) : Int) := by omega
          have hi2 : (0 : Int) ≤ (i : Int) := by omega
          have hi3 : (i : Int) < ((x.f3.length : Nat) : Int) := by omega
          clear HT1 HB0 HX0 HR0 HB1 HX1 HR1 HP hS hgt
          go_upto_region 10 with fail
          go_quiet (fail)
          have Bz := Lib.hid (pw_below_drewN (Below.refl wq.heap.size wq) nq)
          have HSz := Lib.hid (Kd.S_below HS.out Bz.out)
          have Gz := Lib.hid (HC.out.G.on Bz.out)
          have Xz := Lib.hid (Xq.out.on Bz.out)
          have Rz := Lib.hid (Rq.out.on Bz.out)
          have Sz := Lib.hid (Sq.out.on Bz.out)
          have Lz := Lib.hid (show w.heap.size ≤ w2.heap.size from HB2.out.out.size)
          have hNB := Lib.hid (show w.heap.size < w2.heap.size from HX2.out.lt)
          have hXne := Lib.hid (show w.heap.size ≠ w2.heap.size from by have := HX2.out.lt; omega)
          have hRB := Lib.hid (show w.heap.size + 1 < w2.heap.size from HR2.out.lt)
          have hle := Lib.hid (show w2.heap.size ≤ (wq.drewN nq).heap.size from Nat.le_trans HC.out.bel.size Bz.out.size)
          clear gc0 gc1 gc2 gc3 rc0 rc1 xc0 xc3 HC HS Xq Rq Sq Bz HX2 HR2 HXa HB2 hgl
          generalize wq.drewN nq = wz at *
          have gc0 := Gz.out.cell 0 _ rfl
          have gc1 := Gz.out.cell 1 _ rfl
          have gc2 := Gz.out.cell 2 _ rfl
          have gc3 := Gz.out.cell 3 _ rfl
          have gf0 := Gz.out.frozen 0
          have gf3 := Gz.out.frozen 3
          have rc1 := Rz.out.cell 1 _ rfl
          have rc0 := Rz.out.cell 0 _ rfl
          have xc0 := Xz.out.cell 0 _ rfl
          have xc3 := Xz.out.cell 3 _ rfl
          go_upto_block 2 with fail
          obtain ⟨r, hri⟩ : ∃ r, x.f3[i]? = some r := ⟨_, List.getElem?_eq_getElem hin⟩
          obtain ⟨E1, e1, E2, e2, sl1, sl2⟩ := rung_slots HSz.out rfl hri
          have Hri := Lib.hid hri
          go_cut [] (fun wc => Mod w x w2.heap.size (ladC x A c) wc)
          case first =>
            obtain ⟨m5, hm5, hm5l⟩ := mod_nat' hwh.1 5 (by decide)
            clear HA
            have hm : m5 = 0 ∨ m5 = 1 ∨ m5 = 2 ∨ m5 = 3 ∨ m5 = 4 := by omega
            rcases hm with rfl | rfl | rfl | rfl | rfl
            case inr.inr.inr.inl =>
              have hm : Int.tmod wh 5 = 3 := hm5
              obtain ⟨hsz, _⟩ := check_ok Hc.out
              have hI := hsz.1
              have hw64 : wrap64 (x.f0 + 1) = x.f0 + 1 := by unfold wrap64; omega
              have hne : (x.f0 + 1) % 300 ≠ x.f0 := by omega
              clear hsz
              go_wp2
              go_meet
              case rel =>
                refine ⟨(x.f0 + 1) % 300, x.f3, some ⟨gb, 0, none⟩, cap, Lib.hid ⟨Sz.out.out.setCell Lz.out _⟩, Lib.hid (blk_far' (by have := Lz.out; have := Xz.out.lt; exact hXne.out) Xz.out), Lib.hid ?_, Lib.hid ?_, Lib.hid (fun h => hne h.1.symm)⟩
                · have := blk_set Gz.out.out 0 (.int .i64 ((x.f0 + 1) % 300))
                  exact ⟨by simpa using this⟩
                · exact row_of_S (Kd.S_set HSz.out Gz.out.out neL 0 (.int .i64 ((x.f0 + 1) % 300)))
            case inl =>
              have hm : Int.tmod wh 5 = 0 := hm5
              by_cases hl1 : 0 < r.f1.length
              · obtain ⟨j, hj, hjn⟩ := mod_nat' ha1.1 r.f1.length hl1
                obtain ⟨cc, hcj⟩ : ∃ cc, r.f1[j]? = some cc := ⟨_, List.getElem?_eq_getElem hjn⟩
                obtain ⟨cb, ccap, CA⟩ := con_copy HSz.out rfl Hri.out hcj
                have CA := Lib.hid CA
                have hko := (check_rungs Hc.out r (List.mem_of_getElem? Hri.out)).con cc (List.mem_of_getElem? hcj)
                have hk0 := hko.k0
                have hk4 := hko.k4
                clear hko sl1
                have sl1 := CA.out.slot
                have ql : decide (0 < ((r.f1.length : Nat) : Int)) = true := decide_eq_true (by omega)
                have qz : (((r.f1.length : Nat) : Int) == 0) = false := by rw [beq_eq_false_iff_ne]; omega
                have hj2 : (0 : Int) ≤ (j : Int) := by omega
                have hj3 : (j : Int) < ((r.f1.length : Nat) : Int) := by omega
                have Hcj := Lib.hid hcj
                clear hcj
                go_upto_region 14 with fail
                go_quiet (fail)
                have By := Lib.hid (pw_below_drewN (Below.refl wz.heap.size wz) nq)
                have HSy := Lib.hid (Kd.S_below HSz.out By.out)
                have Gy := Lib.hid (Gz.out.on By.out)
                have Xy := Lib.hid (Xz.out.on By.out)
                have Sy := Lib.hid (Sz.out.on By.out)
                obtain ⟨cb', ccap', CB⟩ := con_copy HSy.out rfl Hri.out Hcj.out
                have hsl := pw_cell_below By.out CA.out.slot
                rw [CB.slot] at hsl
                injection hsl with hsl
                injection hsl with hs1 hs2 hs3
                injection hs1 with hs1
                injection hs1 with hs1
                subst hs1
                have CB := Lib.hid CB
                clear hs2 hs3 CA sl1 sl2 gc0 gc1 gc2 gc3 gf0 gf3 rc0 rc1 xc0 xc3 HSz Gz Xz Rz Sz By
                generalize wz.drewN nq = wy at *
                have kc : wy.cell? ⟨cb', j * 5, none⟩ = some (.int .i64 cc.f0) := CB.out.cell 0 _ rfl
                have kf : wy.frozen? ⟨cb', j * 5, none⟩ = false := CB.out.froz 0
                have hkn : Int.tmod (cc.f0 + 1) 4 ≠ cc.f0 := (kind_next hk0 hk4).1
                have hwk : wrap64 (cc.f0 + 1) = cc.f0 + 1 := by unfold wrap64; omega
                go_wp2
                go_meet
                case rel => exact mod_con (p := 0) (cc' := { cc with f0 := (cc.f0 + 1) % 4 }) Sy.out Xy.out Gy.out CB.out Lz.out hNB.out (by decide) rfl rfl (fun e => by have := congrArg (fun c : S44 => c.f0) e; simp only at this; omega) Hri.out Hcj.out
              · have hl0 : r.f1.length = 0 := by omega
                have ql : decide (0 < ((r.f1.length : Nat) : Int)) = false := decide_eq_false (by omega)
                clear sl2
                go_wp2_with (first | (at_builtin; refine zero_push rfl _ _ rfl (by omega) HSz.out hle.out rfl rfl ?_; intro A2 c2 w4 hS4 hb4 hg4; have HS4 := Lib.hid hS4; have HB4 := Lib.hid hb4; have HG4 := Lib.hid hg4; have G4 := Lib.hid (zero_g Gz.out HSz.out hg4); have f3 := G4.out.frozen 3; have z3 := G4.out.cell 3 _ rfl; clear hS4 hb4 hg4))
                go_meet
                case rel => exact mod_zero Sz.out Xz.out Gz.out HSz.out HS4.out HB4.out HG4.out Lz.out hNB.out (Nat.le_refl _)
            case inr.inl =>
              have hm : Int.tmod wh 5 = 1 := hm5
              by_cases hl1 : 0 < r.f1.length
              · obtain ⟨j, hj, hjn⟩ := mod_nat' ha1.1 r.f1.length hl1
                obtain ⟨cc, hcj⟩ : ∃ cc, r.f1[j]? = some cc := ⟨_, List.getElem?_eq_getElem hjn⟩
                obtain ⟨cb, ccap, CA⟩ := con_copy HSz.out rfl Hri.out hcj
                have CA := Lib.hid CA
                obtain ⟨ad, A1, cp1, A2, cp2, eA, _, h1', _, _, _, hr1, _, _⟩ := at_T28 Hx.out.reads (i : Int) (by omega) (by omega)
                have hrd : rd_T28 x.f3 (i : Int) = r := rdG_at x.f3 i r Hri.out
                rw [Int.toNat_natCast, hrd] at h1'
                rw [hrd] at hr1
                obtain ⟨ad2, eA1, _, _, _, _, k4⟩ := at_T44 hr1 (j : Int) (by omega) (by omega)
                have hrd2 : rd_T44 r.f1 (j : Int) = cc := rdC_at r.f1 j cc hcj
                rw [Int.toNat_natCast, hrd2] at k4
                subst eA eA1
                have Hh1 := Lib.hid h1'
                have Hk4 := Lib.hid k4
                clear h1' k4 hr1 hrd hrd2 sl1 sl2
                have sl1 := CA.out.slot
                have ql : decide (0 < ((r.f1.length : Nat) : Int)) = true := decide_eq_true (by omega)
                have qz : (((r.f1.length : Nat) : Int) == 0) = false := by rw [beq_eq_false_iff_ne]; omega
                have hj2 : (0 : Int) ≤ (j : Int) := by omega
                have hj3 : (j : Int) < ((r.f1.length : Nat) : Int) := by omega
                have Hcj := Lib.hid hcj
                clear hcj
                go_upto_region 17 with fail
                go_quiet (fail)
                have By := Lib.hid (pw_below_drewN (Below.refl wz.heap.size wz) nq)
                have HSy := Lib.hid (Kd.S_below HSz.out By.out)
                have Gy := Lib.hid (Gz.out.on By.out)
                have Xy := Lib.hid (Xz.out.on By.out)
                have Ry := Lib.hid (Rz.out.on By.out)
                have Sy := Lib.hid (Sz.out.on By.out)
                have CB := Lib.hid (con_on HSz.out rfl Hri.out Hcj.out CA.out By.out)
                clear CA sl1 gc0 gc1 gc2 gc3 gf0 gf3 rc0 rc1 xc0 xc3 HSz Gz Xz Rz Sz By
                generalize wz.drewN nq = wy at *
                have kf : wy.frozen? ⟨cb, j * 5 + 4, none⟩ = false := CB.out.froz 4
                have kc : wy.cell? ⟨cb, j * 5 + 4, none⟩ = some (.string cc.f3) := CB.out.cell 4 _ rfl
                go_upto_region 19 with fail
                have C8 := Lib.hid (con_next HSy.out rfl Hri.out Hcj.out CB.out (p := 4) (cc1 := { cc with f3 := ⟨#[111, 116, 104, 101, 114]⟩ }) (u := .string ⟨#[111, 116, 104, 101, 114]⟩) (by decide) rfl rfl)
                have HS8 := Lib.hid (CB.out.back 4 (.string ⟨#[111, 116, 104, 101, 114]⟩) { cc with f3 := ⟨#[111, 116, 104, 101, 114]⟩ } (by decide) rfl rfl)
                have hbc := CB.out.base
                have hwb := hNB.out
                have hLz := Lz.out
                have G8 := Lib.hid (blk_far' (i := j * 5 + 4) (v := .string ⟨#[111, 116, 104, 101, 114]⟩) (con_g CB.out Gy.out) Gy.out)
                have X8 := Lib.hid (blk_far' (g' := cb) (i := j * 5 + 4) (v := .string ⟨#[111, 116, 104, 101, 114]⟩) (by omega) Xy.out)
                have R8 := Lib.hid (blk_far' (g' := cb) (i := j * 5 + 4) (v := .string ⟨#[111, 116, 104, 101, 114]⟩) (by have := hRB.out; omega) Ry.out)
                have S8 := Lib.hid (show Since w (wy.setCell ⟨cb, j * 5 + 4, none⟩ (.string ⟨#[111, 116, 104, 101, 114]⟩)) from ⟨Sy.out.out.setCell (by show w.heap.size ≤ cb; omega) _⟩)
                clear kc kf HSy Gy Xy Ry Sy CB hbc hwb hLz
                generalize wy.setCell ⟨cb, j * 5 + 4, none⟩ (.string ⟨#[111, 116, 104, 101, 114]⟩) = w8 at *
                have sl1 : w8.cell? ⟨gb, i * 4 + 1, none⟩ = some (.slice (some ⟨cb, 0, none⟩) (r.f1.set j { cc with f3 := ⟨#[111, 116, 104, 101, 114]⟩ }).length ccap) := C8.out.slot
                rw [List.length_set] at sl1
                have xc3 := X8.out.cell 3 _ rfl
                have rc0 := R8.out.cell 0 _ rfl
                have h1' := pw_cell_below S8.out.out Hh1.out
                have k4 := pw_cell_below S8.out.out Hk4.out
                go_quiet (fail)
                have By := Lib.hid (pw_below_drewN (Below.refl w8.heap.size w8) nq)
                obtain ⟨e1, e2⟩ := set_get (cc1 := { cc with f3 := ⟨#[111, 116, 104, 101, 114]⟩ }) Hri.out Hcj.out
                have HS9 := Lib.hid (Kd.S_below HS8.out By.out)
                have C9 := Lib.hid (con_on HS8.out setCon_len.symm e1 e2 C8.out By.out)
                have G9 := Lib.hid (G8.out.on By.out)
                have X9 := Lib.hid (X8.out.on By.out)
                have S9 := Lib.hid (S8.out.on By.out)
                clear sl1 xc3 rc0 h1' k4 HS8 C8 G8 X8 R8 S8 By e1 e2
                generalize w8.drewN nq = w9 at *
                have kf : w9.frozen? ⟨cb, j * 5 + 4, none⟩ = false := C9.out.froz 4
                have kc : w9.cell? ⟨cb, j * 5 + 4, none⟩ = some (.string ⟨#[111, 116, 104, 101, 114]⟩) := C9.out.cell 4 _ rfl
                go_wp2
                · have qo : (cc.f3.toList == [111, 116, 104, 101, 114]) = true := by assumption
                  have ho : cc.f3 = ⟨#[111, 116, 104, 101, 114]⟩ := bytes_eq (beq_iff_eq.2 ((beq_iff_eq.1 qo).trans other_l.symm))
                  go_meet
                  case rel => exact mod_of (xs := setCon x.f3 i r j { cc with f3 := ⟨#[111, 116, 104, 101, 114, 115]⟩ }) ⟨S9.out.out.setCell (by have := C9.out.base; have := hNB.out; show w.heap.size ≤ cb; omega) _⟩ (blk_far' (by have := C9.out.base; have := hNB.out; omega) X9.out) (blk_far' (con_g C9.out G9.out) G9.out) (by have := C9.out.back 4 (.string ⟨#[111, 116, 104, 101, 114, 115]⟩) { cc with f3 := ⟨#[111, 116, 104, 101, 114, 115]⟩ } (by decide) rfl rfl; rw [setCon_two] at this; exact this) setCon_len (setCon_ne Hri.out Hcj.out (fun e => by have := congrArg (fun c : S44 => c.f3) e; simp only at this; rw [ho] at this; exact absurd (congrArg ByteArray.size this) (by decide)))
                · have qo : (cc.f3.toList == [111, 116, 104, 101, 114]) = false := by assumption
                  have ho : cc.f3 ≠ ⟨#[111, 116, 104, 101, 114]⟩ := fun e => by rw [e, other_l] at qo; exact absurd qo (by decide)
                  go_meet
                  case rel => exact mod_of S9.out X9.out G9.out HS9.out setCon_len (setCon_ne Hri.out Hcj.out (fun e => ho (congrArg (fun c : S44 => c.f3) e).symm))
              · have hl0 : r.f1.length = 0 := by omega
                have ql : decide (0 < ((r.f1.length : Nat) : Int)) = false := decide_eq_false (by omega)
                clear sl2
                go_wp2_with (first | (at_builtin; refine zero_push rfl _ _ rfl (by omega) HSz.out hle.out rfl rfl ?_; intro A2 c2 w4 hS4 hb4 hg4; have HS4 := Lib.hid hS4; have HB4 := Lib.hid hb4; have HG4 := Lib.hid hg4; have G4 := Lib.hid (zero_g Gz.out HSz.out hg4); have f3 := G4.out.frozen 3; have z3 := G4.out.cell 3 _ rfl; clear hS4 hb4 hg4))
                go_meet
                case rel => exact mod_zero Sz.out Xz.out Gz.out HSz.out HS4.out HB4.out HG4.out Lz.out hNB.out (Nat.le_refl _)
            case inr.inr.inl =>
              have hm : Int.tmod wh 5 = 2 := hm5
              by_cases hl1 : 0 < r.f2.length
              · obtain ⟨j, hj, hjn⟩ := mod_nat' ha1.1 r.f2.length hl1
                obtain ⟨cc, hcj⟩ : ∃ cc, r.f2[j]? = some cc := ⟨_, List.getElem?_eq_getElem hjn⟩
                obtain ⟨cb, ccap, CA⟩ := coil_copy HSz.out rfl Hri.out hcj
                have CA := Lib.hid CA
                have hko := (check_rungs Hc.out r (List.mem_of_getElem? Hri.out)).coil cc (List.mem_of_getElem? hcj)
                have hk0 := hko.k0
                have hk4 := hko.k4
                clear hko sl2
                have sl2 := CA.out.slot
                have ql : decide (0 < ((r.f2.length : Nat) : Int)) = true := decide_eq_true (by omega)
                have qz : (((r.f2.length : Nat) : Int) == 0) = false := by rw [beq_eq_false_iff_ne]; omega
                have hj2 : (0 : Int) ≤ (j : Int) := by omega
                have hj3 : (j : Int) < ((r.f2.length : Nat) : Int) := by omega
                have Hcj := Lib.hid hcj
                clear hcj
                go_upto_region 22 with fail
                go_quiet (fail)
                have By := Lib.hid (pw_below_drewN (Below.refl wz.heap.size wz) nq)
                have HSy := Lib.hid (Kd.S_below HSz.out By.out)
                have Gy := Lib.hid (Gz.out.on By.out)
                have Xy := Lib.hid (Xz.out.on By.out)
                have Sy := Lib.hid (Sz.out.on By.out)
                obtain ⟨cb', ccap', CB⟩ := coil_copy HSy.out rfl Hri.out Hcj.out
                have hsl := pw_cell_below By.out CA.out.slot
                rw [CB.slot] at hsl
                injection hsl with hsl
                injection hsl with hs1 hs2 hs3
                injection hs1 with hs1
                injection hs1 with hs1
                subst hs1
                have CB := Lib.hid CB
                clear hs2 hs3 CA sl1 sl2 gc0 gc1 gc2 gc3 gf0 gf3 rc0 rc1 xc0 xc3 HSz Gz Xz Rz Sz By
                generalize wz.drewN nq = wy at *
                have kc : wy.cell? ⟨cb', j * 3, none⟩ = some (.int .i64 cc.f0) := CB.out.cell 0 _ rfl
                have kf : wy.frozen? ⟨cb', j * 3, none⟩ = false := CB.out.froz 0
                have hwk : wrap64 (cc.f0 + 1) = cc.f0 + 1 := by unfold wrap64; omega
                go_wp2
                go_meet
                case rel => exact mod_coil (p := 0) (cc' := { cc with f0 := (cc.f0 + 1) % 4 }) Sy.out Xy.out Gy.out CB.out Lz.out hNB.out (by decide) rfl rfl (fun e => by have := congrArg (fun c : S47 => c.f0) e; simp only at this; omega) Hri.out Hcj.out
              · have hl0 : r.f2.length = 0 := by omega
                have ql : decide (0 < ((r.f2.length : Nat) : Int)) = false := decide_eq_false (by omega)
                clear sl1
                go_wp2_with (first | (at_builtin; refine zero_push rfl _ _ rfl (by omega) HSz.out hle.out rfl rfl ?_; intro A2 c2 w4 hS4 hb4 hg4; have HS4 := Lib.hid hS4; have HB4 := Lib.hid hb4; have HG4 := Lib.hid hg4; have G4 := Lib.hid (zero_g Gz.out HSz.out hg4); have f3 := G4.out.frozen 3; have z3 := G4.out.cell 3 _ rfl; clear hS4 hb4 hg4))
                go_meet
                case rel => exact mod_zero Sz.out Xz.out Gz.out HSz.out HS4.out HB4.out HG4.out Lz.out hNB.out (Nat.le_refl _)
            case inr.inr.inr.inr =>
              have hm : Int.tmod wh 5 = 4 := hm5
              clear sl1 sl2
              go_wp2_with (first | (at_builtin; refine zero_push rfl _ _ rfl (by omega) HSz.out hle.out rfl rfl ?_; intro A2 c2 w4 hS4 hb4 hg4; have HS4 := Lib.hid hS4; have HB4 := Lib.hid hb4; have HG4 := Lib.hid hg4; have G4 := Lib.hid (zero_g Gz.out HSz.out hg4); have f3 := G4.out.frozen 3; have z3 := G4.out.cell 3 _ rfl; clear hS4 hb4 hg4))
              go_meet
              case rel => exact mod_zero Sz.out Xz.out Gz.out HSz.out HS4.out HB4.out HG4.out Lz.out hNB.out (Nat.le_refl _)
          case rest =>
            obtain ⟨I', l', A', c', SC, XC, GC, RC, NE⟩ := hcut
            obtain ⟨⟨u, f2⟩, hpm⟩ : ∃ y, printP I' x.f1 x.f2 l' = y := ⟨_, rfl⟩
            obtain ⟨hsm, hu1, hu2⟩ := inj_law Hp.out hpm NE.out
            have HPm := Lib.hid (fun W (h : Since w W) (hR : Row W A' c' l') => print2 I' x.f1 x.f2 l' u f2 hpm A' c' W hR.reads hR.room (LaidW.below HL.out rfl h.out))
            have HEm := Lib.hid (fun W (h : Since w W) (hR : Row W A' c' l') => equal3 x A c w W Hx.out I' l' A' c' false hsm h hR)
            have m0 := GC.out.cell 0 _ rfl
            have m1 := GC.out.cell 1 _ rfl
            have m2 := GC.out.cell 2 _ rfl
            have m3 := GC.out.cell 3 _ rfl
            clear gc0 gc1 gc2 gc3 gf0 gf3 rc0 rc1 xc0 xc3 sl1 sl2 HSz Gz Xz Rz Sz hpm hsm
            have hf : (f2 = 0 ∧ (u.toList == s.toList) = false) ∨ (f2 ≠ 0 ∧ u = ⟨#[]⟩) := by
              by_cases hz : f2 = 0
              · exact .inl ⟨hz, hu2 hz⟩
              · exact .inr ⟨hz, hu1 hz⟩
            rcases hf with ⟨rfl, hus⟩ | ⟨hfz, rfl⟩
            · go_wp2_with (first
                | (go_at_call 6; (with_reducible refine (HPm.out _ SC.out RC.out).mono ?_); rintro e w4 ⟨rfl, hb⟩; have S4 := Lib.hid (SC.out.on hb); have X4 := Lib.hid (XC.out.on hb); have G4 := Lib.hid (GC.out.on hb); have R4 := Lib.hid (RC.out.on hb); clear hb)
                | (go_at_call 8; (with_reducible refine (HA.out _ S4.out).mono ?_); rintro e w5 ⟨rfl, hb⟩; have S5 := Lib.hid (S4.out.on hb); have X5 := Lib.hid (X4.out.on hb); have G5 := Lib.hid (G4.out.on hb); have R5 := Lib.hid (R4.out.on hb); have n0 := G5.out.cell 0 _ rfl; have n1 := G5.out.cell 1 _ rfl; have n2 := G5.out.cell 2 _ rfl; have n3 := G5.out.cell 3 _ rfl; have y0 := X5.out.cell 0 _ rfl; have y1 := X5.out.cell 1 _ rfl; have y2 := X5.out.cell 2 _ rfl; have y3 := X5.out.cell 3 _ rfl; clear hb)
                | (go_at_call 12; (with_reducible refine (HEm.out _ S5.out R5.out).mono ?_); rintro e w6 ⟨rfl, hb⟩; have S6 := Lib.hid (S5.out.on hb); clear hb))
              go_ret
              exact ⟨by first | rfl | simp, S6.out.out⟩
            · have qf : (f2 != 0) = true := bne_iff_ne.2 hfz
              have hue : (⟨#[]⟩ : ByteArray).toList = ([] : List UInt8) := by rw [ByteArray.toList_eq]
              go_wp2_with (first
                | (go_at_call 6; (with_reducible refine (HPm.out _ SC.out RC.out).mono ?_); rintro e w4 ⟨rfl, hb⟩; have S4 := Lib.hid (SC.out.on hb); have X4 := Lib.hid (XC.out.on hb); have G4 := Lib.hid (GC.out.on hb); have R4 := Lib.hid (RC.out.on hb); clear hb)
                | (go_at_call 8; (with_reducible refine (HA.out _ S4.out).mono ?_); rintro e w5 ⟨rfl, hb⟩; have S5 := Lib.hid (S4.out.on hb); have X5 := Lib.hid (X4.out.on hb); have G5 := Lib.hid (G4.out.on hb); have R5 := Lib.hid (R4.out.on hb); have n0 := G5.out.cell 0 _ rfl; have n1 := G5.out.cell 1 _ rfl; have n2 := G5.out.cell 2 _ rfl; have n3 := G5.out.cell 3 _ rfl; have y0 := X5.out.cell 0 _ rfl; have y1 := X5.out.cell 1 _ rfl; have y2 := X5.out.cell 2 _ rfl; have y3 := X5.out.cell 3 _ rfl; clear hb)
                | (go_at_call 12; (with_reducible refine (HEm.out _ S5.out R5.out).mono ?_); rintro e w6 ⟨rfl, hb⟩; have S6 := Lib.hid (S5.out.on hb); clear hb))
              go_ret
              exact ⟨by first | rfl | simp, S6.out.out⟩
        case pos =>
          obtain ⟨r, hrk⟩ : ∃ r, x.f3[k]? = some r := ⟨_, List.getElem?_eq_getElem hlt⟩
          obtain ⟨ad, A1, cp1, A2, cp2, eA, h0, h1', h2', h3', hl1, hr1, hl2, hr2⟩ := at_T28 Hx.out.reads (k : Int) (by omega) (by omega)
          subst eA
          have hrd : rd_T28 x.f3 (k : Int) = r := rdG_at x.f3 k r hrk
          rw [Int.toNat_natCast, hrd] at h0 h1' h2' h3'
          rw [hrd] at hl1 hr1 hl2 hr2
          have hok := check_rungs Hc.out r (List.mem_of_getElem? hrk)
          have hm1 := hok.cons
          have hm2 := hok.coils
          clear hok hrd
          have Bq := Lib.hid (show Below w.heap.size w wq from HB2.out.out.trans (HC.out.bel.mono HB2.out.out.size))
          have g0 := pw_cell_below Bq.out h0
          have g1 := pw_cell_below Bq.out h1'
          have g2 := pw_cell_below Bq.out h2'
          have g3 := pw_cell_below Bq.out h3'
          have HC1 := Lib.hid (Kd.C_below hr1 HB2.out.out)
          have HC2 := Lib.hid (Kd.C_below hr2 HB2.out.out)
          have qk : ((k : Int) < ((x.f3.length : Nat) : Int)) := by omega
          clear h0 h1' h2' h3' hr1 hr2 hl1 hl2
          go_upto_region 8 with fail
          have hlk : (x.f3.take k).length = k := by rw [List.length_take]; omega
          have h0 := Lib.hid (HC.out.round hwq (rungC r A1 cp1 A2 cp2) r).drew
          clear HP HT1 HB0 HX0 HR0 HB1 HX1 HR1 g0 g1 g2 g3 HXa HX2 HR2 HA HL Hp Hx Hc ha0 ha1 hwh Bq y0 y1 y2 y3 ya3
          have SS : (fun w' => w'.cell? ⟨wq.heap.size, 0, none⟩ = some (.string r.f0) ∧ w'.cell? ⟨wq.heap.size, 1, none⟩ = some (.slice A1 r.f1.length cp1) ∧ w'.cell? ⟨wq.heap.size, 2, none⟩ = some (.slice A2 r.f2.length cp2) ∧ w'.cell? ⟨wq.heap.size, 3, none⟩ = some (.string r.f3) ∧ w'.cell? ⟨w2.heap.size, 3, none⟩ = some v) (wq.alloc (.cells (rungC r A1 cp1 A2 cp2) tR)).drew := h0.out.S5
          refine start_ (n := 19) (S := (fun w' => w'.cell? ⟨wq.heap.size, 0, none⟩ = some (.string r.f0) ∧ w'.cell? ⟨wq.heap.size, 1, none⟩ = some (.slice A1 r.f1.length cp1) ∧ w'.cell? ⟨wq.heap.size, 2, none⟩ = some (.slice A2 r.f2.length cp2) ∧ w'.cell? ⟨wq.heap.size, 3, none⟩ = some (.string r.f3) ∧ w'.cell? ⟨w2.heap.size, 3, none⟩ = some v)) (ds := [16, 18]) #[false, false, false, false, false, false, false, false, false, false, false, false, false, false, false, false, false, false, false] (by kernel_rfl) rfl rfl SS (fun hHeld => ?_)
          clear SS
          generalize (wq.alloc (.cells (rungC r A1 cp1 A2 cp2) tR)).drew = Ws at *
          refine pure_ (i := 0) (N := some 52) (v := ?_) (a' := ?_) #[true, false, false, false, false, false, false, false, false, false, false, false, false, false, false, false, false, false, false] rfl rfl (by kernel_rfl) (fun _ _ _ h => h) (Or.inl ⟨by rfl, ?_⟩) ?_ ?_
          rotate_left
          · intro w'; go_simp; try with_reducible rfl
          rotate_left
          · simp only [Act.put, List.setIfInBounds_toArray, List.set_cons_zero, List.set_cons_succ]; rfl
          refine take_ (i := 1) (N := some 53) (v := ?_) (a' := ?_) #[true, true, false, false, false, false, false, false, false, false, false, false, false, false, false, false, false, false, false] rfl rfl (by kernel_rfl) (fun _ _ _ h => h) (Or.inl ⟨by rfl, ?_⟩) hHeld ?_ ?_
          rotate_left
          · rintro w' ⟨s0, s1, s2, s3, s4⟩; go_simp; try with_reducible rfl
          rotate_left
          · simp only [Act.put, List.setIfInBounds_toArray, List.set_cons_zero, List.set_cons_succ]; rfl
          refine pure_ (i := 2) (N := some 54) (v := ?_) (a' := ?_) #[true, true, true, false, false, false, false, false, false, false, false, false, false, false, false, false, false, false, false] rfl rfl (by kernel_rfl) (fun _ _ _ h => h) (Or.inl ⟨by rfl, ?_⟩) ?_ ?_
          rotate_left
          · intro w'; go_simp; try with_reducible rfl
          rotate_left
          · simp only [Act.put, List.setIfInBounds_toArray, List.set_cons_zero, List.set_cons_succ]; rfl
          refine take_ (i := 3) (N := some 55) (v := ?_) (a' := ?_) #[true, true, true, true, false, false, false, false, false, false, false, false, false, false, false, false, false, false, false] rfl rfl (by kernel_rfl) (fun _ _ _ h => h) (Or.inl ⟨by rfl, ?_⟩) hHeld ?_ ?_
          rotate_left
          · rintro w' ⟨s0, s1, s2, s3, s4⟩; go_simp; try with_reducible rfl
          rotate_left
          · simp only [Act.put, List.setIfInBounds_toArray, List.set_cons_zero, List.set_cons_succ]; rfl
          refine pure_ (i := 4) (N := some 56) (v := ?_) (a' := ?_) #[true, true, true, true, true, false, false, false, false, false, false, false, false, false, false, false, false, false, false] rfl rfl (by kernel_rfl) (fun _ _ _ h => h) (Or.inl ⟨by rfl, ?_⟩) ?_ ?_
          rotate_left
          · intro w'; go_simp; try with_reducible rfl
          rotate_left
          · simp only [Act.put, List.setIfInBounds_toArray, List.set_cons_zero, List.set_cons_succ]; rfl
          refine take_ (i := 5) (N := some 57) (v := ?_) (a' := ?_) #[true, true, true, true, true, true, false, false, false, false, false, false, false, false, false, false, false, false, false] rfl rfl (by kernel_rfl) (fun _ _ _ h => h) (Or.inl ⟨by rfl, ?_⟩) hHeld ?_ ?_
          rotate_left
          · rintro w' ⟨s0, s1, s2, s3, s4⟩; go_simp; try with_reducible rfl
          rotate_left
          · simp only [Act.put, List.setIfInBounds_toArray, List.set_cons_zero, List.set_cons_succ]; rfl
          refine pure_ (i := 7) (N := some 59) (v := ?_) (a' := ?_) #[true, true, true, true, true, true, false, true, false, false, false, false, false, false, false, false, false, false, false] rfl rfl (by kernel_rfl) (fun _ _ _ h => h) (Or.inl ⟨by rfl, ?_⟩) ?_ ?_
          rotate_left
          · intro w'; go_simp; try with_reducible rfl
          rotate_left
          · simp only [Act.put, List.setIfInBounds_toArray, List.set_cons_zero, List.set_cons_succ]; rfl
          refine take_ (i := 8) (N := some 60) (v := ?_) (a' := ?_) #[true, true, true, true, true, true, false, true, true, false, false, false, false, false, false, false, false, false, false] rfl rfl (by kernel_rfl) (fun _ _ _ h => h) (Or.inl ⟨by rfl, ?_⟩) hHeld ?_ ?_
          rotate_left
          · rintro w' ⟨s0, s1, s2, s3, s4⟩; go_simp; try with_reducible rfl
          rotate_left
          · simp only [Act.put, List.setIfInBounds_toArray, List.set_cons_zero, List.set_cons_succ]; rfl
          refine pure_ (i := 11) (N := some 63) (v := ?_) (a' := ?_) #[true, true, true, true, true, true, false, true, true, false, false, true, false, false, false, false, false, false, false] rfl rfl (by kernel_rfl) (fun _ _ _ h => h) (Or.inl ⟨by rfl, ?_⟩) ?_ ?_
          rotate_left
          · intro w'; go_simp; try with_reducible rfl
          rotate_left
          · simp only [Act.put, List.setIfInBounds_toArray, List.set_cons_zero, List.set_cons_succ]; rfl
          refine take_ (i := 12) (N := some 64) (v := ?_) (a' := ?_) #[true, true, true, true, true, true, false, true, true, false, false, true, true, false, false, false, false, false, false] rfl rfl (by kernel_rfl) (fun _ _ _ h => h) (Or.inl ⟨by rfl, ?_⟩) hHeld ?_ ?_
          rotate_left
          · rintro w' ⟨s0, s1, s2, s3, s4⟩; go_simp; try with_reducible rfl
          rotate_left
          · simp only [Act.put, List.setIfInBounds_toArray, List.set_cons_zero, List.set_cons_succ]; rfl
          refine twoI_ (i := 6) (j := 10) (Ni := some 58) (Nj := some 62) #[true, true, true, true, true, true, true, true, true, false, false, true, true, false, false, false, false, false, false] #[true, true, true, true, true, true, false, true, true, false, true, true, true, false, false, false, false, false, false] rfl rfl rfl rfl (by kernel_rfl) (fun K hK => ?_) (fun K hK => ?_)
          · go_simp
            have h1 := Lib.hid h0.out.emptyC
            refine hK.out _ _ h1.out.S5 (fun hHeld => ?_)
            clear hK K
            refine norm_ (a' := ?_) ?_ ?_
            rotate_left
            · rfl
            refine twoI_ (i := 9) (j := 10) (Ni := some 61) (Nj := some 62) #[true, true, true, true, true, true, true, true, true, true, false, true, true, false, false, false, false, false, false] #[true, true, true, true, true, true, true, true, true, false, true, true, true, false, false, false, false, false, false] rfl rfl rfl rfl (by kernel_rfl) (fun K hK => ?_) (fun K hK => ?_)
            · refine step_conts (B := w2.heap.size) (w0 := w2) (r := r) (by rfl) _ _ rfl A1 cp1 rfl HC1.out (by omega) (Or.inl rfl) h1.out (by first | rfl | (simp only [World.size_alloc]; rfl)) ?_
              intro A6 c6 w6 h2'
              have h2 := Lib.hid h2'
              clear h2'
              refine hK.out _ _ h2.out.S5 (fun hHeld => ?_)
              clear hK K
              refine norm_ (a' := ?_) ?_ ?_
              rotate_left
              · show Act.put _ (some 61) _ = _; simp only [Act.put, List.setIfInBounds_toArray, List.set_cons_zero, List.set_cons_succ]; rfl
              refine one_ (i := 10) (N := some 62) #[true, true, true, true, true, true, true, true, true, true, true, true, true, false, false, false, false, false, false] rfl rfl (by kernel_rfl) (by decide) (fun K hK => ?_)
              go_simp
              have h3 := Lib.hid h2.out.emptyQ
              refine hK.out _ _ h3.out.S5 (fun hHeld => ?_)
              clear hK K
              refine norm_ (a' := ?_) ?_ ?_
              rotate_left
              · rfl
              refine one_ (i := 13) (N := some 65) #[true, true, true, true, true, true, true, true, true, true, true, true, true, true, false, false, false, false, false] rfl rfl (by kernel_rfl) (by decide) (fun K hK => ?_)
              refine step_coils (B := w2.heap.size) (w0 := w2) (r := r) (by rfl) _ _ rfl A2 cp2 rfl HC2.out (by omega) (Or.inl rfl) h3.out (by first | rfl | (simp only [World.size_alloc]; rfl)) ?_
              intro A7 c7 w7 h4'
              have h4 := Lib.hid h4'
              clear h4'
              refine hK.out _ _ h4.out.S5 (fun hHeld => ?_)
              clear hK K
              refine norm_ (a' := ?_) ?_ ?_
              rotate_left
              · show Act.put _ (some 65) _ = _; simp only [Act.put, List.setIfInBounds_toArray, List.set_cons_zero, List.set_cons_succ]; rfl
              refine pure_ (i := 14) (N := some 66) (v := ?_) (a' := ?_) #[true, true, true, true, true, true, true, true, true, true, true, true, true, true, true, false, false, false, false] rfl rfl (by kernel_rfl) (fun _ _ _ h => h) (Or.inl ⟨by rfl, ?_⟩) ?_ ?_
              rotate_left
              · intro w'; go_simp; try with_reducible rfl
              rotate_left
              · simp only [Act.put, List.setIfInBounds_toArray, List.set_cons_zero, List.set_cons_succ]; rfl
              refine one_ (i := 15) (N := some 67) #[true, true, true, true, true, true, true, true, true, true, true, true, true, true, true, true, false, false, false] rfl rfl (by kernel_rfl) (by decide) (fun K hK => ?_)
              go_simp
              refine hK.out _ _ (s5_alloc h4.out.S5) (fun hHeld => ?_)
              clear hK K
              refine norm_ (a' := ?_) ?_ ?_
              rotate_left
              · rfl
              refine lastI_ (i := 16) (N := some 68) #[true, true, true, true, true, true, true, true, true, true, true, true, true, true, true, true, true, false, false] rfl rfl (by kernel_rfl) (by decide) (fun K hK => ?_)
              refine step_push (B := w2.heap.size) (w0 := w2) (xs := x.f3.take k) (r := r) (by rfl) _ _ rfl (by rw [List.length_take]; omega) h4.out (by first | rfl | (simp only [World.size_alloc]; rfl)) (by first | rfl | (simp only [World.size_alloc]; rfl)) ?_
              intro A8 c8 w8 h8
              refine hK.out _ _ ?_
              clear hK K
              refine norm_ (a' := ?_) ?_ ?_
              rotate_left
              · show Act.put _ (some 68) _ = _; simp only [Act.put, List.setIfInBounds_toArray, List.set_cons_zero, List.set_cons_succ]; rfl
              refine pure_ (i := 17) (N := some 69) (v := ?_) (a' := ?_) #[true, true, true, true, true, true, true, true, true, true, true, true, true, true, true, true, true, true, false] rfl rfl (by kernel_rfl) (fun _ _ _ h => h) (Or.inl ⟨by rfl, ?_⟩) ?_ ?_
              rotate_left
              · intro w'; go_simp; try with_reducible rfl
              rotate_left
              · simp only [Act.put, List.setIfInBounds_toArray, List.set_cons_zero, List.set_cons_succ]; rfl
              have z3 := h8.G.cell 3 _ rfl
              have kz := h8.G.frozen 3
              refine lastI_ (i := 18) (N := none) #[true, true, true, true, true, true, true, true, true, true, true, true, true, true, true, true, true, true, true] rfl rfl (by kernel_rfl) (by decide) (fun K hK => ?_)
              go_simp
              refine hK.out _ _ ?_
              clear hK K
              refine norm_ (a' := ?_) ?_ ?_
              rotate_left
              · rfl
              refine done_ (by kernel_rfl) ?_
              clear z3 kz
              go_wp2
              go_roundw
              case rel => exact ⟨k + 1, _, by omega, by go_num, Lib.hid (Cp.next hrk HC.out.gB (hlk ▸ h8))⟩
              case measure => simp [intOf]; omega
            · go_simp
              have h2 := Lib.hid h1.out.emptyQ
              refine hK.out _ _ h2.out.S5 (fun hHeld => ?_)
              clear hK K
              refine norm_ (a' := ?_) ?_ ?_
              rotate_left
              · rfl
              refine one_ (i := 9) (N := some 61) #[true, true, true, true, true, true, true, true, true, true, true, true, true, false, false, false, false, false, false] rfl rfl (by kernel_rfl) (by decide) (fun K hK => ?_)
              refine step_conts (B := w2.heap.size) (w0 := w2) (r := r) (by rfl) _ _ rfl A1 cp1 rfl HC1.out (by omega) (Or.inl rfl) h2.out (by first | rfl | (simp only [World.size_alloc]; rfl)) ?_
              intro A6 c6 w6 h3'
              have h3 := Lib.hid h3'
              clear h3'
              refine hK.out _ _ h3.out.S5 (fun hHeld => ?_)
              clear hK K
              refine norm_ (a' := ?_) ?_ ?_
              rotate_left
              · show Act.put _ (some 61) _ = _; simp only [Act.put, List.setIfInBounds_toArray, List.set_cons_zero, List.set_cons_succ]; rfl
              refine one_ (i := 13) (N := some 65) #[true, true, true, true, true, true, true, true, true, true, true, true, true, true, false, false, false, false, false] rfl rfl (by kernel_rfl) (by decide) (fun K hK => ?_)
              refine step_coils (B := w2.heap.size) (w0 := w2) (r := r) (by rfl) _ _ rfl A2 cp2 rfl HC2.out (by omega) (Or.inl rfl) h3.out (by first | rfl | (simp only [World.size_alloc]; rfl)) ?_
              intro A7 c7 w7 h4'
              have h4 := Lib.hid h4'
              clear h4'
              refine hK.out _ _ h4.out.S5 (fun hHeld => ?_)
              clear hK K
              refine norm_ (a' := ?_) ?_ ?_
              rotate_left
              · show Act.put _ (some 65) _ = _; simp only [Act.put, List.setIfInBounds_toArray, List.set_cons_zero, List.set_cons_succ]; rfl
              refine pure_ (i := 14) (N := some 66) (v := ?_) (a' := ?_) #[true, true, true, true, true, true, true, true, true, true, true, true, true, true, true, false, false, false, false] rfl rfl (by kernel_rfl) (fun _ _ _ h => h) (Or.inl ⟨by rfl, ?_⟩) ?_ ?_
              rotate_left
              · intro w'; go_simp; try with_reducible rfl
              rotate_left
              · simp only [Act.put, List.setIfInBounds_toArray, List.set_cons_zero, List.set_cons_succ]; rfl
              refine one_ (i := 15) (N := some 67) #[true, true, true, true, true, true, true, true, true, true, true, true, true, true, true, true, false, false, false] rfl rfl (by kernel_rfl) (by decide) (fun K hK => ?_)
              go_simp
              refine hK.out _ _ (s5_alloc h4.out.S5) (fun hHeld => ?_)
              clear hK K
              refine norm_ (a' := ?_) ?_ ?_
              rotate_left
              · rfl
              refine lastI_ (i := 16) (N := some 68) #[true, true, true, true, true, true, true, true, true, true, true, true, true, true, true, true, true, false, false] rfl rfl (by kernel_rfl) (by decide) (fun K hK => ?_)
              refine step_push (B := w2.heap.size) (w0 := w2) (xs := x.f3.take k) (r := r) (by rfl) _ _ rfl (by rw [List.length_take]; omega) h4.out (by first | rfl | (simp only [World.size_alloc]; rfl)) (by first | rfl | (simp only [World.size_alloc]; rfl)) ?_
              intro A8 c8 w8 h8
              refine hK.out _ _ ?_
              clear hK K
              refine norm_ (a' := ?_) ?_ ?_
              rotate_left
              · show Act.put _ (some 68) _ = _; simp only [Act.put, List.setIfInBounds_toArray, List.set_cons_zero, List.set_cons_succ]; rfl
              refine pure_ (i := 17) (N := some 69) (v := ?_) (a' := ?_) #[true, true, true, true, true, true, true, true, true, true, true, true, true, true, true, true, true, true, false] rfl rfl (by kernel_rfl) (fun _ _ _ h => h) (Or.inl ⟨by rfl, ?_⟩) ?_ ?_
              rotate_left
              · intro w'; go_simp; try with_reducible rfl
              rotate_left
              · simp only [Act.put, List.setIfInBounds_toArray, List.set_cons_zero, List.set_cons_succ]; rfl
              have z3 := h8.G.cell 3 _ rfl
              have kz := h8.G.frozen 3
              refine lastI_ (i := 18) (N := none) #[true, true, true, true, true, true, true, true, true, true, true, true, true, true, true, true, true, true, true] rfl rfl (by kernel_rfl) (by decide) (fun K hK => ?_)
              go_simp
              refine hK.out _ _ ?_
              clear hK K
              refine norm_ (a' := ?_) ?_ ?_
              rotate_left
              · rfl
              refine done_ (by kernel_rfl) ?_
              clear z3 kz
              go_wp2
              go_roundw
              case rel => exact ⟨k + 1, _, by omega, by go_num, Lib.hid (Cp.next hrk HC.out.gB (hlk ▸ h8))⟩
              case measure => simp [intOf]; omega
          · go_simp
            have h1 := Lib.hid h0.out.emptyQ
            refine hK.out _ _ h1.out.S5 (fun hHeld => ?_)
            clear hK K
            refine norm_ (a' := ?_) ?_ ?_
            rotate_left
            · rfl
            refine one_ (i := 6) (N := some 58) #[true, true, true, true, true, true, true, true, true, false, true, true, true, false, false, false, false, false, false] rfl rfl (by kernel_rfl) (by decide) (fun K hK => ?_)
            go_simp
            have h2 := Lib.hid h1.out.emptyC
            refine hK.out _ _ h2.out.S5 (fun hHeld => ?_)
            clear hK K
            refine norm_ (a' := ?_) ?_ ?_
            rotate_left
            · rfl
            refine one_ (i := 9) (N := some 61) #[true, true, true, true, true, true, true, true, true, true, true, true, true, false, false, false, false, false, false] rfl rfl (by kernel_rfl) (by decide) (fun K hK => ?_)
            refine step_conts (B := w2.heap.size) (w0 := w2) (r := r) (by rfl) _ _ rfl A1 cp1 rfl HC1.out (by omega) (Or.inl rfl) h2.out (by first | rfl | (simp only [World.size_alloc]; rfl)) ?_
            intro A6 c6 w6 h3'
            have h3 := Lib.hid h3'
            clear h3'
            refine hK.out _ _ h3.out.S5 (fun hHeld => ?_)
            clear hK K
            refine norm_ (a' := ?_) ?_ ?_
            rotate_left
            · show Act.put _ (some 61) _ = _; simp only [Act.put, List.setIfInBounds_toArray, List.set_cons_zero, List.set_cons_succ]; rfl
            refine one_ (i := 13) (N := some 65) #[true, true, true, true, true, true, true, true, true, true, true, true, true, true, false, false, false, false, false] rfl rfl (by kernel_rfl) (by decide) (fun K hK => ?_)
            refine step_coils (B := w2.heap.size) (w0 := w2) (r := r) (by rfl) _ _ rfl A2 cp2 rfl HC2.out (by omega) (Or.inl rfl) h3.out (by first | rfl | (simp only [World.size_alloc]; rfl)) ?_
            intro A7 c7 w7 h4'
            have h4 := Lib.hid h4'
            clear h4'
            refine hK.out _ _ h4.out.S5 (fun hHeld => ?_)
            clear hK K
            refine norm_ (a' := ?_) ?_ ?_
            rotate_left
            · show Act.put _ (some 65) _ = _; simp only [Act.put, List.setIfInBounds_toArray, List.set_cons_zero, List.set_cons_succ]; rfl
            refine pure_ (i := 14) (N := some 66) (v := ?_) (a' := ?_) #[true, true, true, true, true, true, true, true, true, true, true, true, true, true, true, false, false, false, false] rfl rfl (by kernel_rfl) (fun _ _ _ h => h) (Or.inl ⟨by rfl, ?_⟩) ?_ ?_
            rotate_left
            · intro w'; go_simp; try with_reducible rfl
            rotate_left
            · simp only [Act.put, List.setIfInBounds_toArray, List.set_cons_zero, List.set_cons_succ]; rfl
            refine one_ (i := 15) (N := some 67) #[true, true, true, true, true, true, true, true, true, true, true, true, true, true, true, true, false, false, false] rfl rfl (by kernel_rfl) (by decide) (fun K hK => ?_)
            go_simp
            refine hK.out _ _ (s5_alloc h4.out.S5) (fun hHeld => ?_)
            clear hK K
            refine norm_ (a' := ?_) ?_ ?_
            rotate_left
            · rfl
            refine lastI_ (i := 16) (N := some 68) #[true, true, true, true, true, true, true, true, true, true, true, true, true, true, true, true, true, false, false] rfl rfl (by kernel_rfl) (by decide) (fun K hK => ?_)
            refine step_push (B := w2.heap.size) (w0 := w2) (xs := x.f3.take k) (r := r) (by rfl) _ _ rfl (by rw [List.length_take]; omega) h4.out (by first | rfl | (simp only [World.size_alloc]; rfl)) (by first | rfl | (simp only [World.size_alloc]; rfl)) ?_
            intro A8 c8 w8 h8
            refine hK.out _ _ ?_
            clear hK K
            refine norm_ (a' := ?_) ?_ ?_
            rotate_left
            · show Act.put _ (some 68) _ = _; simp only [Act.put, List.setIfInBounds_toArray, List.set_cons_zero, List.set_cons_succ]; rfl
            refine pure_ (i := 17) (N := some 69) (v := ?_) (a' := ?_) #[true, true, true, true, true, true, true, true, true, true, true, true, true, true, true, true, true, true, false] rfl rfl (by kernel_rfl) (fun _ _ _ h => h) (Or.inl ⟨by rfl, ?_⟩) ?_ ?_
            rotate_left
            · intro w'; go_simp; try with_reducible rfl
            rotate_left
            · simp only [Act.put, List.setIfInBounds_toArray, List.set_cons_zero, List.set_cons_succ]; rfl
            have z3 := h8.G.cell 3 _ rfl
            have kz := h8.G.frozen 3
            refine lastI_ (i := 18) (N := none) #[true, true, true, true, true, true, true, true, true, true, true, true, true, true, true, true, true, true, true] rfl rfl (by kernel_rfl) (by decide) (fun K hK => ?_)
            go_simp
            refine hK.out _ _ ?_
            clear hK K
            refine norm_ (a' := ?_) ?_ ?_
            rotate_left
            · rfl
            refine done_ (by kernel_rfl) ?_
            clear z3 kz
            go_wp2
            go_roundw
            case rel => exact ⟨k + 1, _, by omega, by go_num, Lib.hid (Cp.next hrk HC.out.gB (hlk ▸ h8))⟩
            case measure => simp [intOf]; omega
end Go.Proofs.YtdbjjbooalkkbaaDoor.P

/- PrinterIsInjective: the walk, as the row asks for it; the parameter that is an array. -/
set_option linter.unusedVariables false
namespace Go.Proofs.YtdbjjbooalkkbaaDoor.P
open Go.RowKit Go.Proofs.YtdbjjbooalkkbaaDoorW.PrintWords

structure SArr8 where
  (f0 f1 : Int)
def kArr8 : Kd SArr8 := Kd.iso (Kd.pair (Kd.int .u8) (Kd.int .u8)) (fun x : SArr8 => (x.f0, x.f1))
theorem kArr8_open {w : World} {x : SArr8} {cs : List Value} (h : kArr8.K w x cs) : cs = [.int .u8 x.f0, .int .u8 x.f1] := by
  obtain ⟨_, _, rfl, rfl, rfl⟩ := h
  rfl
theorem okWide_array {P : Program} {W : World} {r : Reach} {base : Nat} {t : TypeId} {v : Value} {n : Nat} {e : TypeId} (ht : P.underlying t = some (.array n e)) (h : Value.okWide P W r base t v) : ∃ cs, v = .agg cs ∧ cs.size = P.cellsOf t := by
  simp only [Value.okWide, ht] at h
  obtain ⟨cs, h1, h2, _⟩ := h
  exact ⟨cs, h1, h2⟩
theorem two_of (cs : List Value) (h : cs.length = 2) : ∃ a b, cs = [a, b] := by
  rcases cs with _ | ⟨a, _ | ⟨b, _ | ⟨c, r⟩⟩⟩
  · cases h
  · cases h
  · exact ⟨a, b, rfl⟩
  · simp at h
theorem opensArr8 : Opens Tryd.prog 38 kArr8 (fun y => (Lit.int .u8 y.f0).wf = true ∧ (Lit.int .u8 y.f1).wf = true) := by
  intro H enc W sp held fuel cs y hy
  cases fuel with
  | zero => simp [DataW.trod] at hy
  | succ fuel =>
    have hc : Tryd.prog.cellsOf 38 = 2 := by kernel_rfl
    have hc1 : Tryd.prog.cellsOf 5 = 1 := by kernel_rfl
    simp only [DataW.trod, Tryd.underlying38] at hy
    split at hy
    · rename_i hl
      rw [hc] at hl
      obtain ⟨xs, hx, _⟩ := Option.map_eq_some_iff.mp hy
      rw [show List.range 2 = [0, 1] from rfl, hc1] at hx
      simp only [List.mapM_cons, bind, Option.bind_eq_some_iff] at hx
      obtain ⟨y0, h0, _, ⟨y1, h1, _⟩, _⟩ := hx
      obtain ⟨c0, c1, rfl⟩ := two_of cs hl
      obtain ⟨a0, k0, g0⟩ := Opens.int Tryd.underlying5 enc W sp held fuel _ _ h0
      obtain ⟨a1, k1, g1⟩ := Opens.int Tryd.underlying5 enc W sp held fuel _ _ h1
      have e0 : c0 = .int .u8 a0 := by have : [c0] = [.int .u8 a0] := k0; simpa using this
      have e1 : c1 = .int .u8 a1 := by have : [c1] = [.int .u8 a1] := k1; simpa using this
      subst e0
      subst e1
      exact ⟨⟨a0, a1⟩, ⟨_, _, rfl, rfl, rfl⟩, g0, g1⟩
    · cases hy
theorem wf_u8' {a : Int} (h : (Lit.int .u8 a).wf = true) : 0 ≤ a ∧ a ≤ 255 := by
  have h' : (decide ((0 : Int) ≤ a) && decide (a ≤ 255)) = true := h
  simpa using h'
theorem PrinterIsInjective_walk (x0 : SLd) (A0 : Option Addr) (c0 : Nat) (x1 : SArr8) (a2 : Int) (w : World)
    (g0 : x0.f3.length ≤ maxLen ∧ ∀ r ∈ x0.f3, r.f1.length ≤ maxLen ∧ r.f2.length ≤ maxLen) (l0 : x0.f3.length ≤ c0) (r0 : Kd.C k28 w A0 x0.f3.length x0.f3)
    (g1 : (Lit.int .u8 x1.f0).wf = true ∧ (Lit.int .u8 x1.f1).wf = true) (w2 : (Lit.int .u8 a2).wf = true) (hL : Aside0 (LaidW 50 w)) :
    Calls Tryd.prog 4 #[ladV x0 A0 c0, .agg #[.int .u8 x1.f0, .int .u8 x1.f1], .int .u8 a2] w fun e w' => e = .returned (.bool true) ∧ Below w.heap.size w w' :=
  inj_law1 x0 A0 c0 x1.f0 x1.f1 a2 w (Lad.of g0 l0 r0) hL (wf_u8' g1.1) (wf_u8' g1.2) (wf_u8' w2)
end Go.Proofs.YtdbjjbooalkkbaaDoor.P

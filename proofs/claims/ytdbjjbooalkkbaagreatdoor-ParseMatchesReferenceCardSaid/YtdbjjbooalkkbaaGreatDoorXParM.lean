/- The parser's small methods: rung, sizes, address; its closures. -/
import Derived.Test.YtdbjjbooalkkbaaGreatDoorXParP
import Derived.Test.YtdbjjbooalkkbaaGreatDoorXParse
import Derived.Test.YtdbjjbooalkkbaaGreatDoorXName
import Derived.Test.YtdbjjbooalkkbaaGreatDoorXNumber
namespace Go.Proofs.YtdbjjbooalkkbaaGreatDoor.P
open Go.RowKit Go.Shelf Go.Proofs.YtdbjjbooalkkbaaGreatDoorW.PrintWords

theorem rung_walk (g m cap b : Nat) (w : World) (hc : w.cell? ⟨b, 3, none⟩ = some (.slice (some ⟨g, 0, none⟩) (m + 1) cap)) (hm : m ≤ 64) :
    Calls Tryz.prog 77 #[.pointer (some ⟨b, 0, none⟩)] w fun e w' => e = .returned (.pointer (some ⟨g, m * 4, none⟩)) ∧ Below w.heap.size w w' := by
  have h1 : IntKind.i64.wrap (((m + 1 : Nat) : Int) - 1) = (m : Int) := by rw [IntKind.wrap_i64]; omega
  have h2 : (m : Int) < ((m + 1 : Nat) : Int) := by omega
  have h3 : (0 : Int) ≤ (m : Int) := by omega
  have h4 : w.drew.cell? ⟨b, 3, none⟩ = some (.slice (some ⟨g, 0, none⟩) (m + 1) cap) := hc
  go_enter Tryz.func77, Tryz.ntmps77
  go_wp2
  go_quiet (fail)
  go_wp2
  go_ret
  exact ⟨rfl, pw_below_drewN (Below.refl _ _) _⟩
theorem sizes_walk (b : Nat) (I Q M : Int) (w : World) (c0 : w.cell? ⟨b, 0, none⟩ = some (.int .i64 I)) (c1 : w.cell? ⟨b, 1, none⟩ = some (.int .i64 Q)) (c2 : w.cell? ⟨b, 2, none⟩ = some (.int .i64 M)) :
    Calls Tryz.prog 94 #[.pointer (some ⟨b, 0, none⟩)] w fun e w' => e = .returned (.agg #[.int .i64 I, .int .i64 Q, .int .i64 M, .int .i64 0]) ∧ Below w.heap.size w w' := by
  have hb := Below.refl w.heap.size w
  have hlt : b < w.heap.size := World.block_lt_of_cell? _ _ c0
  have hne : b ≠ w.heap.size := Nat.ne_of_lt hlt
  go_enter Tryz.func94, Tryz.ntmps94
  go_wp2
  go_region_held3 (fun w' => w'.cell? ⟨b, 0, none⟩ = some (.int .i64 I) ∧ w'.cell? ⟨b, 1, none⟩ = some (.int .i64 Q) ∧ w'.cell? ⟨b, 2, none⟩ = some (.int .i64 M)) (go_keep) (fail)
  go_wp2
  refine bodyPost_ret (v := .agg #[.int .i64 I, .int .i64 Q, .int .i64 M, .int .i64 0]) (by simp [results, Tryz.results94, go_sem]) rfl ?_
  exact ⟨rfl, below_drew (below_alloc (Below.refl _ _) _)⟩
theorem keep5 {W W' : World} {p0 p1 p2 p3 p4 : Addr} {v0 v1 v2 v3 v4 : Value} (h0 : W.cell? p0 = some v0) (h1 : W.cell? p1 = some v1) (h2 : W.cell? p2 = some v2) (h3 : W.cell? p3 = some v3) (h4 : W.cell? p4 = some v4) (hb : Below W.heap.size W W') :
    W'.cell? p0 = some v0 ∧ W'.cell? p1 = some v1 ∧ W'.cell? p2 = some v2 ∧ W'.cell? p3 = some v3 ∧ W'.cell? p4 = some v4 ∧ Below W.heap.size W W' :=
  ⟨pw_cell_below hb h0, pw_cell_below hb h1, pw_cell_below hb h2, pw_cell_below hb h3, pw_cell_below hb h4, hb⟩
theorem address_walk (s : PSt) (x : ByteArray) (hx : x.size ≤ 65536) (b : Nat) (w : World) (c0 : w.cell? ⟨b, 0, none⟩ = some (.int .i64 s.I)) (c1 : w.cell? ⟨b, 1, none⟩ = some (.int .i64 s.Q)) (c2 : w.cell? ⟨b, 2, none⟩ = some (.int .i64 s.M))
    (hok : OkSize s.I s.Q s.M) (hL : Aside0 (LaidW 6 w)) :
    Calls Tryz.prog 78 #[.pointer (some ⟨b, 0, none⟩), .string x] w fun e w' => e = .returned (.tuple #[.agg #[.int .i64 (addressP s x).1, .int .i64 (addressP s x).2.1], .int .i64 (addressP s x).2.2]) ∧ Below w.heap.size w w' := by
  have HP := Lib.hid (fun W (hb : Below w.heap.size w W) => addr_Parse.calls x (parseAddr x.data.toList).1 (parseAddr x.data.toList).2.1 (parseAddr x.data.toList).2.2 W (LaidW.below hL rfl hb) (by unfold addr_Parse.f; rw [if_pos (by omega)]))
  unfold addressP
  obtain ⟨⟨sp, n, er⟩, ep⟩ : ∃ p, p = parseAddr x.data.toList := ⟨_, rfl⟩
  rw [← ep] at HP ⊢
  clear ep
  simp only at HP ⊢
  have HC := Lib.hid (fun W => addr_CheckAddr.calls s.I s.Q s.M 0 sp n (addrP s.I s.Q s.M sp n) W (addr_eq hok sp n))
  have B0 := Lib.hid (Below.refl w.heap.size w)
  clear hL hok
  by_cases he : er = 0
  · subst he
    rw [if_pos rfl]
    have HS := Lib.hid (fun W d0 d1 d2 => sizes_walk b s.I s.Q s.M W d0 d1 d2)
    go_enter Tryz.func78, Tryz.ntmps78
    go_wp2_with (go_at_call 93; (with_reducible refine (HP.out _ (below_alloc B0.out _)).mono ?_); rintro e w1 ⟨rfl, hb⟩; have B1 := Lib.hid (below_step (below_alloc B0.out _) hb); have Z := Lib.hid (((Bx.new w 49 #[.int .i64 0, .int .i64 0]).on hb).alloc (Obj.cells #[.int .i64 sp, .int .i64 n] 49)); have Y := Lib.hid (Bx.new w1 49 #[.int .i64 sp, .int .i64 n]); clear hb)
    have BB := below_drew (below_alloc B1.out (Obj.cells #[.int .i64 sp, .int .i64 n] 49))
    have KK := Lib.hid (fun W' (hb : Below (w1.alloc (Obj.cells #[.int .i64 sp, .int .i64 n] 49)).drew.heap.size (w1.alloc (Obj.cells #[.int .i64 sp, .int .i64 n] 49)).drew W') => keep5 (pw_cell_below BB c0) (pw_cell_below BB c1) (pw_cell_below BB c2) (Y.out.drew.cell 0 (.int .i64 sp) rfl) (Y.out.drew.cell 1 (.int .i64 n) rfl) hb)
    go_region_held3 (fun w' => w'.cell? ⟨b, 0, none⟩ = some (.int .i64 s.I) ∧ w'.cell? ⟨b, 1, none⟩ = some (.int .i64 s.Q) ∧ w'.cell? ⟨b, 2, none⟩ = some (.int .i64 s.M) ∧ w'.cell? ⟨w1.heap.size, 0, none⟩ = some (.int .i64 sp) ∧ w'.cell? ⟨w1.heap.size, 1, none⟩ = some (.int .i64 n) ∧ Below (w1.alloc (Obj.cells #[.int .i64 sp, .int .i64 n] 49)).drew.heap.size (w1.alloc (Obj.cells #[.int .i64 sp, .int .i64 n] 49)).drew w')
      ((exact KK.out _ (by first | assumption | exact Below.refl _ _)))
      ((first
        | (go_at_call 94; go_split_ands; (with_reducible refine (HS.out _ (by assumption) (by assumption) (by assumption)).mono ?_); rintro e w5 ⟨rfl, hb⟩; have z2 := below_step (by assumption) hb)
        | (go_at_call 87; go_split_ands; (with_reducible refine (HC.out _).mono ?_); rintro e w6 ⟨rfl, hb⟩; have z2 := below_step (by assumption) hb)))
    go_split_ands
    have Z2 := Z.out.drew.on (by assumption)
    have z0 := Z2.cell 0 (.int .i64 0) rfl
    have z1 := Z2.cell 1 (.int .i64 0) rfl
    have f0 := Z2.frozen 0
    have f1 := Z2.frozen 1
    have BE := Lib.hid (below_step BB (by assumption))
    clear Z2
    go_wp2
    refine bodyPost_ret (v := .tuple #[.agg #[.int .i64 sp, .int .i64 n], .int .i64 (addrP s.I s.Q s.M sp n)]) (by simp [results, Tryz.results78, go_sem, z0, z1]) rfl ?_
    exact ⟨rfl, below_set (below_set BE.out (Nat.le_refl _)) (Nat.le_refl _)⟩
  · have he1 : (er == 0) = false := by rw [beq_eq_false_iff_ne]; exact he
    rw [if_neg he]
    clear HC
    go_enter Tryz.func78, Tryz.ntmps78
    go_wp2_with (go_at_call 93; (with_reducible refine (HP.out _ (below_alloc B0.out _)).mono ?_); rintro e w1 ⟨rfl, hb⟩; have B1 := Lib.hid (below_step (below_alloc B0.out _) hb); have Z := ((Bx.new w 49 #[.int .i64 0, .int .i64 0]).on hb).alloc (Obj.cells #[.int .i64 sp, .int .i64 n] 49); have z0 := Z.cell 0 (.int .i64 0) rfl; have z1 := Z.cell 1 (.int .i64 0) rfl; have f0 := Z.frozen 0; have f1 := Z.frozen 1; clear hb Z)
    refine bodyPost_ret (v := .tuple #[.agg #[.int .i64 sp, .int .i64 n], .int .i64 er]) (by simp [results, Tryz.results78, go_sem, z0, z1]) rfl ?_
    exact ⟨rfl, below_set (below_set (below_alloc B1.out _) (Nat.le_refl _)) (Nat.le_refl _)⟩
end Go.Proofs.YtdbjjbooalkkbaaGreatDoor.P

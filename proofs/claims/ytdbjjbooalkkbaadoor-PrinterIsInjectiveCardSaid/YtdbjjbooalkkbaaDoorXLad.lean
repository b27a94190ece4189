/- Ladders as arguments of the laws: TooLarge, alive. -/
import Derived.Test.YtdbjjbooalkkbaaDoorXEvn
import Derived.Test.YtdbjjbooalkkbaaDoorXAlive
namespace Go.Proofs.YtdbjjbooalkkbaaDoor.P
open Go.RowKit Go.Proofs.YtdbjjbooalkkbaaDoorW.PrintWords

abbrev ladV (x : S24) (A : Option Addr) (c : Nat) : Value := .agg #[.int .i64 x.f0, .int .i64 x.f1, .int .i64 x.f2, .slice A x.f3.length c]
abbrev ladC (x : S24) (A : Option Addr) (c : Nat) : Array Value := #[.int .i64 x.f0, .int .i64 x.f1, .int .i64 x.f2, .slice A x.f3.length c]
/-- What the law is told of a ladder. -/
structure Lad (x : S24) (A : Option Addr) (c : Nat) (w : World) : Prop where
  n : x.f3.length ≤ 9223372036854775807
  m : ∀ r ∈ x.f3, r.f1.length ≤ 9223372036854775807 ∧ r.f2.length ≤ 9223372036854775807
  room : x.f3.length ≤ c
  reads : Kd.C k28 w A x.f3.length x.f3
theorem Lad.on {x : S24} {A : Option Addr} {c : Nat} {w w' : World} (h : Lad x A c w) (hs : Since w w') : Lad x A c w' := ⟨h.n, h.m, h.room, Kd.C_below h.reads hs.out⟩
theorem Lad.of {x : S24} {A : Option Addr} {c : Nat} {w : World} (hg : x.f3.length ≤ maxLen ∧ ∀ r ∈ x.f3, r.f1.length ≤ maxLen ∧ r.f2.length ≤ maxLen) (hc : x.f3.length ≤ c) (hr : Kd.C k28 w A x.f3.length x.f3) : Lad x A c w :=
  ⟨Nat.le_trans hg.1 (by decide), fun r h => ⟨Nat.le_trans (hg.2 r h).1 (by decide), Nat.le_trans (hg.2 r h).2 (by decide)⟩, hc, hr⟩
theorem large_call (x : S24) (A : Option Addr) (c : Nat) (u : World) (hx : Lad x A c u) : ∃ t, ∀ w, Since u w →
    Calls Tryd.prog 7 #[ladV x A c] w fun e w' => e = .returned (.int .i64 t) ∧ Below w.heap.size w w' := by
  obtain ⟨k, t, h⟩ := large_some x.f0 x.f1 x.f2 x.f3 hx.n (fun r hr => (hx.m r hr).1)
  exact ⟨t, fun w hs => law11_TooLarge.calls k _ _ _ A c x.f3 t w (hx.on hs).reads hx.room h⟩
theorem alive_call (w u : World) (hL : Aside0 (LaidW 50 u)) (hs : Since u w) : Calls Tryd.prog 8 #[] w fun e w' => e = .returned (.bool true) ∧ Below w.heap.size w w' := law11_alive.calls true w (LaidW.below hL rfl hs.out) rfl
theorem Since.refl (w : World) : Since w w := ⟨Below.refl _ _⟩
end Go.Proofs.YtdbjjbooalkkbaaDoor.P

/- PrinterAppendRung: the walk, as the row asks for it. -/
import Derived.Test.YtdbjjbooalkkbaaDoorXApp
import Derived.Test.YtdbjjbooalkkbaaDoorXRowP
namespace Go.Proofs.YtdbjjbooalkkbaaDoor.P
open Go.RowKit Go.Proofs.YtdbjjbooalkkbaaDoorW.PrintWords

theorem PrinterAppendRung_walk (x0 : SLd) (A0 : Option Addr) (c0 : Nat) (x1 : SRg) (B1 : Option Addr) (d1 : Nat) (B2 : Option Addr) (d2 : Nat) (w : World)
    (g0 : x0.f3.length ≤ maxLen ∧ ∀ r ∈ x0.f3, r.f1.length ≤ maxLen ∧ r.f2.length ≤ maxLen) (l0 : x0.f3.length ≤ c0) (r0 : Kd.C k28 w A0 x0.f3.length x0.f3)
    (g1 : x1.f1.length ≤ maxLen ∧ x1.f2.length ≤ maxLen) (l1 : x1.f1.length ≤ d1) (r1 : Kd.C k44 w B1 x1.f1.length x1.f1) (l2 : x1.f2.length ≤ d2) (r2 : Kd.C k47 w B2 x1.f2.length x1.f2) (hL : Aside0 (LaidW 50 w)) :
    Calls Tryd.prog 3 #[ladV x0 A0 c0, rungV x1 B1 d1 B2 d2] w fun e w' => e = .returned (.bool true) ∧ Below w.heap.size w w' :=
  app_law x0 A0 c0 x1 B1 d1 B2 d2 w (Lad.of g0 l0 r0) ⟨Nat.le_trans g1.1 (by decide), Nat.le_trans g1.2 (by decide), l1, r1, l2, r2⟩ hL
end Go.Proofs.YtdbjjbooalkkbaaDoor.P

/- PrinterRoundTrip: the walk, as the row asks for it. -/
import Derived.Test.YtdbjjbooalkkbaaGreatDoorXRTrip
import Derived.Test.YtdbjjbooalkkbaaGreatDoorXRowO
set_option linter.unusedVariables false
namespace Go.Proofs.YtdbjjbooalkkbaaGreatDoor.P
open Go.RowKit Go.Proofs.YtdbjjbooalkkbaaGreatDoorW.PrintWords

theorem PrinterRoundTrip_walk (x0 : SLd) (A0 : Option Addr) (c0 : Nat) (a1 : ByteArray) (w : World)
    (g0 : x0.f3.length ≤ maxLen ∧ ∀ r ∈ x0.f3, r.f1.length ≤ maxLen ∧ r.f2.length ≤ maxLen) (l0 : x0.f3.length ≤ c0) (r0 : Kd.C k47 w A0 x0.f3.length x0.f3) (w1 : a1.size ≤ 140737488351232) (hL : Aside0 (LaidW 63 w)) :
    Calls Tryz.prog 4 #[ladV x0 A0 c0, .string a1] w fun e w' => e = .returned (.bool true) ∧ Below w.heap.size w w' :=
  round_walk x0 A0 c0 a1 w (Lad.of g0 l0 r0) hL
end Go.Proofs.YtdbjjbooalkkbaaGreatDoor.P

/- ParseFirstError: the walk of the whole law. -/
import Derived.Test.YtmcmpjkfdkogiaaGreatDoorXPFirst2
namespace Go.Proofs.YtmcmpjkfdkogiaaGreatDoor.P
open Go.RowKit Go.Proofs.YtmcmpjkfdkogiaaGreatDoorW.PrintWords
theorem ParseFirstError_walk (a0 : ByteArray) (a1 : Int) (a2 : ByteArray) (w : World) (w0 : a0.size ≤ 140737488351232) (w1 : (Lit.int .u8 a1).wf = true) (w2 : a2.size ≤ 140737488351232) (hL : Aside0 (LaidW 47 w)) :
    Calls Tryz.prog 3 #[.string a0, .int .u8 a1, .string a2] w fun e w' => e = .returned (.bool true) ∧ Below w.heap.size w w' :=
  law10_ParseFirstError.walk law10_ParseFirstError.pure a0 a1 a2 w w0 w1 w2 hL
end Go.Proofs.YtmcmpjkfdkogiaaGreatDoor.P

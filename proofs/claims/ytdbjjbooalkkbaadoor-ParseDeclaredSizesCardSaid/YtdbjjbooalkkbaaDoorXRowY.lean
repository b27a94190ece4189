/- The rows that need every listed variable. -/
import Derived.Test.YtdbjjbooalkkbaaDoorXRowZ
namespace Go.Proofs.YtdbjjbooalkkbaaDoor.P
open Go.RowKit Go.Proofs.YtdbjjbooalkkbaaDoorW.PrintWords Go.WideShapes
def laidY : List (String × DataW Unit) := laidZ
theorem laidY_of {W : World} (hs : W.ShapedOpen Tryd.prog) (h : laidMetH Tryd.prog laidY W) : Aside0 (LaidW 63 W) := laidAll_of hs h
end Go.Proofs.YtdbjjbooalkkbaaDoor.P

/- The parser's method begin: its last region. -/
import Derived.Test.YtdbjjbooalkkbaaGreatDoorXParQ
set_option linter.unusedVariables false
set_option linter.unusedSimpArgs false
namespace Go.Proofs.YtdbjjbooalkkbaaGreatDoor.P
open Go.RowKit Go.Shelf Go.Proofs.YtdbjjbooalkkbaaGreatDoorW.PrintWords Go.Proofs.YtdbjjbooalkkbaaGreatDoorW.PrintLast Go.Proofs.YtdbjjbooalkkbaaGreatDoorW.PrintMore

def bs (n m : Nat) : Array Bool := ((List.range n).map fun i => m.testBit i).toArray
theorem consL_ {P : Program} {ops : Array Oper} {Q : Exit → Act → World → Prop} {md : Region.Mode} {S : World → Prop} {ds : List Nat} {i : Nat} {N : Option Tmp} {oi : Oper} {fuel : Nat} {l : Array Bool} {a : Act} {w : World} {rs : List Nat} (l' : Array Bool) (hi : ops[i]? = some oi) (hN : oi.dst = N) (hl : l.setIfInBounds i true = l') (hd : i ∉ ds)
    (h : ∀ K : Act → World → Prop, Shut (∀ a' w', S w' → (S w' → wpAnyLast P md ops Q S ds fuel l' a' w') → K a' w') → if Region.wanted oi (yielded ops a.tmps) = true then Oper.wp P oi a w K Q else K (a.put N undef) w)
    (hs : AllReadyL P md ops Q S ds fuel l a w rs) : AllReadyL P md ops Q S ds fuel l a w (i :: rs) := by
  subst hN
  subst hl
  exact AllReadyL.cons hi hd (fun K hK => h K hK) hs
end Go.Proofs.YtdbjjbooalkkbaaGreatDoor.P

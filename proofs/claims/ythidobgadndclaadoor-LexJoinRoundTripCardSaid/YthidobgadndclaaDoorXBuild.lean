/- (*strings.Builder).WriteString at this seat: what the shelf's command did not lay. -/
import Derived.Test.YthidobgadndclaaDoorShelf
import Derived.Shelf.Strings.BuilderK
namespace Go.Proofs.YthidobgadndclaaDoor.P
open Go.RowKit
theorem lays166 : Go.Proofs.Lays.n166 Tryd.prog Tryd.lays155_ren := {
  mixed := Tryd.lays155.mixed
  f166 := Tryd.lays155.f166
  f240 := Tryd.lays155.f240
  f276 := Tryd.lays155.f276
  t0 := Tryd.lays155.t0
  a0 := Tryd.lays155.a0
  z0 := Tryd.lays155.z0
  v0 := Tryd.lays155.v0
  t3 := Tryd.lays155.t3
  a3 := Tryd.lays155.a3
  z3 := Tryd.lays155.z3
  v3 := Tryd.lays155.v3
  t4 := Tryd.lays155.t4
  a4 := Tryd.lays155.a4
  z4 := Tryd.lays155.z4
  v4 := Tryd.lays155.v4
  t9 := Tryd.lays155.t9
  a9 := Tryd.lays155.a9
  z9 := Tryd.lays155.z9
  v9 := Tryd.lays155.v9
  t20 := Tryd.lays155.t20
  a20 := Tryd.lays155.a20
  z20 := Tryd.lays155.z20
  v20 := Tryd.lays155.v20
  t37 := Tryd.lays155.t37
  a37 := Tryd.lays155.a37
  z37 := Tryd.lays155.z37
  v37 := Tryd.lays155.v37
  t70 := Tryd.lays155.t70
  a70 := Tryd.lays155.a70
  z70 := Tryd.lays155.z70
  v70 := Tryd.lays155.v70
  t72 := Tryd.lays155.t72
  a72 := Tryd.lays155.a72
  z72 := Tryd.lays155.z72
  v72 := Tryd.lays155.v72
  t75 := Tryd.lays155.t75
  a75 := Tryd.lays155.a75
  z75 := Tryd.lays155.z75
  v75 := Tryd.lays155.v75
  t164 := Tryd.lays155.t164
  a164 := Tryd.lays155.a164
  z164 := Tryd.lays155.z164
  v164 := Tryd.lays155.v164
}
end Go.Proofs.YthidobgadndclaaDoor.P

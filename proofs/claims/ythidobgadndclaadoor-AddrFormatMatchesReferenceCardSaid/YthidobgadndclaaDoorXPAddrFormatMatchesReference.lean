/- AddrFormatMatchesReference: the plain law, and the call of the law's function. -/
import Derived.Test.YthidobgadndclaaDoorXPRef01
import Derived.Test.YthidobgadndclaaDoorXRowA
import Derived.Test.YthidobgadndclaaDoorPA5
namespace Go.Proofs.YthidobgadndclaaDoor.P
open Go.RowKit Go.Proofs.YthidobgadndclaaDoorW.PrintWords

theorem AddrFormatMatchesReference_pure (s n : Int) (x : ByteArray) : law01_AddrFormatMatchesReference.f 3000 s n x = some true := by
  unfold law01_AddrFormatMatchesReference.f
  by_cases hx : (x.size : Int) > 1000
  · rw [if_pos hx, alive01]; rfl
  · have hp : addr_Parse.f x = some (parseAddr x.data.toList) := by unfold addr_Parse.f; rw [if_pos (by omega)]
    have hr : ref01_Parse.f 3000 x = some (parseAddr x.data.toList) := ref_parse x (by omega) 3000 (by omega)
    have hf : ref01_Format.f 3000 s n = addr_Format.f s n := ref_format s n 3000 (by omega)
    obtain ⟨t, ht⟩ : ∃ t, addr_Format.f s n = some t := ⟨_, rfl⟩
    rw [if_neg hx, hp, hr, hf, ht, alive01]
    simp
theorem AddrFormatMatchesReference_walk (x0 : S45) (a1 : ByteArray) (w : World) (_ : (Lit.int .i64 x0.f0).wf = true ∧ (Lit.int .i64 x0.f1).wf = true) (_ : a1.size ≤ 140737488351232) (hL : Aside0 (LaidW 22 w)) :
    Calls Tryd.prog 8 #[.agg #[.int .i64 x0.f0, .int .i64 x0.f1], .string a1] w fun e w' => e = .returned (.bool true) ∧ Below w.heap.size w w' :=
  law01_AddrFormatMatchesReference.calls 3000 x0.f0 x0.f1 a1 true w hL (AddrFormatMatchesReference_pure _ _ _)
end Go.Proofs.YthidobgadndclaaDoor.P

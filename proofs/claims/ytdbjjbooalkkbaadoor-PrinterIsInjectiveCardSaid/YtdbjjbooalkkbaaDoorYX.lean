/- The kit's printed words that this claim uses, those alone. -/
import Derived.ArgAppend
import Derived.Below
import Derived.BigQuiet
import Derived.Deep.AppendLies
import Derived.Deep.CutBlock
import Derived.Deep.DeepCutAuto
import Derived.Deep.Draws
import Derived.Deep.LoopGhost
import Derived.Deep.OwnRows
import Derived.Deep.QuietTactic
import Derived.Deep.RegionHeld3
import Derived.KernelRfl
import Derived.Laws.BitsLemmas
import Derived.Laws.BytesArg
import Derived.Laws.IdiomCopy
import Derived.Laws.MakeOwn
import Derived.Laws.OwnMore
import Derived.Laws.Rows
import Derived.Laws.Slices
import Derived.Laws.StructEq
import Derived.Lib.AppendStr
import Derived.Lib.ConvBytes
import Derived.Maps.AppendAt
import Derived.OrdersHeld
import Derived.OwnWalk
import Derived.RowKit
import Derived.RowKit3
import Derived.Tactics
import Derived.WalkKit
import Derived.WideLaws
import Derived.Test.YtdbjjbooalkkbaaDoorYW
set_option linter.unusedVariables false
set_option linter.unusedSimpArgs false
namespace Go.Proofs.YtdbjjbooalkkbaaDoorW.PrintWords
open Go.RowKit
namespace Kd
end Kd
namespace Kd
end Kd
namespace Kd
end Kd
namespace Kd
end Kd
namespace Kd
end Kd
namespace Kd
end Kd
namespace Kd
end Kd
namespace Kd
end Kd
namespace Kd
end Kd
namespace Kd
end Kd
namespace Kd
end Kd
namespace Kd
end Kd
namespace Kd
end Kd
namespace Kd
end Kd
namespace Kd
end Kd
section
variable {P : Program} {ops : Array Oper} {o : Oper} {a : Act} {Q : Exit → Act → World → Prop} {Kc : Act → World → Prop}
namespace Kd
variable {α : Type}
end Kd
end
namespace Kd
end Kd
end Go.Proofs.YtdbjjbooalkkbaaDoorW.PrintWords
namespace Go.Proofs.YtdbjjbooalkkbaaDoorW.PrintLast
end Go.Proofs.YtdbjjbooalkkbaaDoorW.PrintLast
namespace Go.Proofs.YtdbjjbooalkkbaaDoorW.PrintLast
open Go.Proofs.YtdbjjbooalkkbaaDoorW.PrintWords (Aside0)
section
variable {md : Region.Mode} {ops : Array Oper} {T : Bool × List (List Nat × List Nat)} {l l' li lj lk : Array Bool} {ds : List Nat} {i j k : Nat}
theorem two_of (hT : rtab md ops = T) (h : (readyT T.2 l.toList == [i, j] && l.toList.set i true == li.toList && l.toList.set j true == lj.toList) = true) : (Region.ready md ops l == [i, j] && l.setIfInBounds i true == li && l.setIfInBounds j true == lj) = true := by
  simp only [Bool.and_eq_true] at h ⊢
  obtain ⟨⟨h1, h2⟩, h3⟩ := h
  subst hT
  exact ⟨⟨by rw [ready_eq]; exact h1, set_of h2⟩, set_of h3⟩
end
end Go.Proofs.YtdbjjbooalkkbaaDoorW.PrintLast
namespace Go.Proofs.YtdbjjbooalkkbaaDoorW.PrintLast
end Go.Proofs.YtdbjjbooalkkbaaDoorW.PrintLast
namespace Go.Proofs.YtdbjjbooalkkbaaDoorW.PrintWords
open Go.RowKit
namespace Kd
end Kd
end Go.Proofs.YtdbjjbooalkkbaaDoorW.PrintWords
namespace Go.Proofs.YtdbjjbooalkkbaaDoorW.PrintWords
open Go.RowKit
namespace Kd
section
variable {P : Program} {ops : Array Oper} {rest : List Oper} {o : Oper} {a : Act} {Q : Exit → Act → World → Prop} {Kc : Act → World → Prop} {α : Type}
theorem S_append (d : Kd α) {w0 W : World} (base : Nat) (hgd : o.guard = none) (s x : Operand) (t e : TypeId) (z : Value) (bytes : Nat)
    (ho : o.op = .call { callee := .builtin .append, args := #[s, x], argTypes := #[t, t] })
    (ht : P.underlying t = some (.slice e)) (hinfo : (P.info? e).map (fun i => (i.zero, i.size, i.bytes)) = some (some z, d.sz, bytes)) (hz : z.cells.size = d.sz) (hs0 : 0 < d.sz) (hb0 : 0 < bytes)
    (v : Value) (xs : List α) (p : α) (cs : List Value) (ok okp : Nat → Prop) (hs : a.eval s = v) (hx : a.eval x = .slice (some ⟨W.heap.size, 0, none⟩) 1 1) (hp : d.M W base okp p cs) (hokp : ∀ k, okp k → ok k ∧ some k ≠ v.ownBlock) (hfresh : ∀ k, W.heap.size ≤ k → ok k)
    (HO : S d e W base (fun k => ok k ∧ ¬ okp k) v xs) (HB : Below base w0 W) (hbase : base ≤ W.heap.size) (hl : (xs.length + 1) * bytes ≤ 140737488355328)
    (h : ∀ v1 w1, S d e w1 base ok v1 (xs ++ [p]) → Below base w0 w1 → W.grownBy w1 v.ownBlock → (v1.ownBlock = v.ownBlock ∨ ∃ b, v1.ownBlock = some b ∧ W.heap.size ≤ b) → wpList P ops Q rest (a.put o.dst v1) w1) :
    wpList P ops Q (o :: rest) a (W.alloc (.cells cs.toArray e)) := by
  obtain ⟨f, hf, hR⟩ := S_tag HO xs.length okp (fun _ hk h2 => h2.2 hk)
  refine R_append (tag f d) base hgd s x t e z bytes ho ht hinfo hz hs0 hb0 v xs.zipIdx (p, xs.length) cs ok okp hs hx (d.M_mono (fun k hk => ⟨hk, hf k hk⟩) hp) hokp hfresh (R_mono hR (fun _ hk => hk.1)) HB hbase (by rw [List.length_zipIdx]; exact hl) ?_
  intro v1 w1 hr
  rw [← zip_snoc] at hr
  exact h v1 w1 ⟨f, hr⟩
theorem S_append_step (d : Kd α) {w0 W : World} (base : Nat) (hw : Region.wanted o (yielded ops a.tmps) = true) (s x : Operand) (t e : TypeId) (z : Value) (bytes : Nat)
    (ho : o.op = .call { callee := .builtin .append, args := #[s, x], argTypes := #[t, t] })
    (ht : P.underlying t = some (.slice e)) (hinfo : (P.info? e).map (fun i => (i.zero, i.size, i.bytes)) = some (some z, d.sz, bytes)) (hz : z.cells.size = d.sz) (hs0 : 0 < d.sz) (hb0 : 0 < bytes)
    (v : Value) (xs : List α) (p : α) (cs : List Value) (ok okp : Nat → Prop) (hs : a.eval s = v) (hx : a.eval x = .slice (some ⟨W.heap.size, 0, none⟩) 1 1) (hp : d.M W base okp p cs) (hokp : ∀ k, okp k → ok k ∧ some k ≠ v.ownBlock) (hfresh : ∀ k, W.heap.size ≤ k → ok k)
    (HO : S d e W base (fun k => ok k ∧ ¬ okp k) v xs) (HB : Below base w0 W) (hbase : base ≤ W.heap.size) (hl : (xs.length + 1) * bytes ≤ 140737488355328)
    (h : ∀ v1 w1, S d e w1 base ok v1 (xs ++ [p]) → Below base w0 w1 → W.grownBy w1 v.ownBlock → (v1.ownBlock = v.ownBlock ∨ ∃ b, v1.ownBlock = some b ∧ W.heap.size ≤ b) → Kc (a.put o.dst v1) w1) :
    if Region.wanted o (yielded ops a.tmps) = true then Oper.wp P o a (W.alloc (.cells cs.toArray e)) Kc Q else Kc (a.put o.dst undef) (W.alloc (.cells cs.toArray e)) := by
  obtain ⟨f, hf, hR⟩ := S_tag HO xs.length okp (fun _ hk h2 => h2.2 hk)
  refine R_append_step (tag f d) base hw s x t e z bytes ho ht hinfo hz hs0 hb0 v xs.zipIdx (p, xs.length) cs ok okp hs hx (d.M_mono (fun k hk => ⟨hk, hf k hk⟩) hp) hokp hfresh (R_mono hR (fun _ hk => hk.1)) HB hbase (by rw [List.length_zipIdx]; exact hl) ?_
  intro v1 w1 hr
  rw [← zip_snoc] at hr
  exact h v1 w1 ⟨f, hr⟩
end
section
variable {α β : Type} {d : Kd α} {e e' g n cap : Nat} {w w1 W : World} {base : Nat} {ok ok' oki okp : Nat → Prop} {u v : Value} {xs : List α} {i : Int} {c : List Value}
theorem S_borrow {ad : Addr} (h : S d e W base ok (.slice (some ad) n cap) xs) (z : α) (i : Int) (h0 : 0 ≤ i) (h1 : i < n) :
    ∃ (oki : Nat → Prop) (c : List Value), c.length = d.sz ∧ d.M W base oki (xs.getD i.toNat z) c ∧ (∀ j u, c[j]? = some u → W.cell? (ad.add (i.toNat * d.sz + j)) = some u) ∧ (∀ k, oki k → ok k ∧ some k ≠ (Value.slice (some ad) n cap).ownBlock) ∧
      ∀ {w1 : World} {row : Option Nat} {x' : α}, W.grownBy w1 row → (∀ k, row = some k → oki k) → d.M w1 base oki x' c → S d e w1 base ok (.slice (some ad) n cap) (xs.set i.toNat x') := by
  obtain ⟨g, rfl⟩ := R_head (S_R h)
  obtain ⟨oki, c, hcl, hM, hcc, hoki, hH⟩ := S_lend h z i h0 h1
  refine ⟨oki, c, hcl, hM, fun j u hu => ?_, fun k hk => ⟨(hoki k hk).1, fun he => (hoki k hk).2 ?_⟩, fun hg hrow hM1 => H_back (H_grown hH hg hrow) hM1 (fun _ hk => hk)⟩
  · rw [add_at, Nat.zero_add]
    exact hcc j u hu
  · simpa [Value.ownBlock] using he
end
end Kd
end Go.Proofs.YtdbjjbooalkkbaaDoorW.PrintWords
namespace Go.Proofs.YtdbjjbooalkkbaaDoorW.PrintWords
open Go.RowKit
namespace Kd
end Kd
end Go.Proofs.YtdbjjbooalkkbaaDoorW.PrintWords
namespace Go.Proofs.YtdbjjbooalkkbaaDoorW.PrintWords
open Go.RowKit
namespace Kd
end Kd
end Go.Proofs.YtdbjjbooalkkbaaDoorW.PrintWords
namespace Go.Proofs.YtdbjjbooalkkbaaDoorW.PrintWords
open Go.RowKit
namespace Kd
end Kd
end Go.Proofs.YtdbjjbooalkkbaaDoorW.PrintWords
namespace Go.Proofs.YtdbjjbooalkkbaaDoorW.PrintWords
open Go.RowKit
namespace Kd
end Kd
end Go.Proofs.YtdbjjbooalkkbaaDoorW.PrintWords
namespace Go.Proofs.YtdbjjbooalkkbaaDoorW.PrintWords
open Go.RowKit
namespace Foot
variable {P Q : World → Prop} {W W1 : World} {ok ok' : Nat → Prop}
end Foot
namespace Kd
end Kd
end Go.Proofs.YtdbjjbooalkkbaaDoorW.PrintWords
namespace Go.Proofs.YtdbjjbooalkkbaaDoorW.PrintWords
open Go.RowKit
namespace Kd
end Kd
end Go.Proofs.YtdbjjbooalkkbaaDoorW.PrintWords
namespace Go.Proofs.YtdbjjbooalkkbaaDoorW.PrintWords
open Go.RowKit
namespace Kd
end Kd
end Go.Proofs.YtdbjjbooalkkbaaDoorW.PrintWords
namespace Go.Proofs.YtdbjjbooalkkbaaDoorW.PrintWords
open Go.RowKit
namespace Kd
end Kd
end Go.Proofs.YtdbjjbooalkkbaaDoorW.PrintWords
namespace Go.Proofs.YtdbjjbooalkkbaaDoorW.PrintWords
open Go.RowKit
end Go.Proofs.YtdbjjbooalkkbaaDoorW.PrintWords
namespace Go.Proofs.YtdbjjbooalkkbaaDoorW.PrintWords
end Go.Proofs.YtdbjjbooalkkbaaDoorW.PrintWords
namespace Go.Proofs.YtdbjjbooalkkbaaDoorW.PrintLast
end Go.Proofs.YtdbjjbooalkkbaaDoorW.PrintLast
namespace Go.Proofs.YtdbjjbooalkkbaaDoorW.PrintWords
open Go.RowKit
end Go.Proofs.YtdbjjbooalkkbaaDoorW.PrintWords
namespace Go.Proofs.YtdbjjbooalkkbaaDoorW.PrintLast
end Go.Proofs.YtdbjjbooalkkbaaDoorW.PrintLast
namespace Go.Proofs.YtdbjjbooalkkbaaDoorW.PrintWords
open Go.RowKit
end Go.Proofs.YtdbjjbooalkkbaaDoorW.PrintWords
namespace Go.Proofs.YtdbjjbooalkkbaaDoorW.PrintWords
open Go.RowKit
namespace Kd
end Kd
end Go.Proofs.YtdbjjbooalkkbaaDoorW.PrintWords
namespace Go.Proofs.YtdbjjbooalkkbaaDoorW.PrintMore
open Go.RowKit Go.Proofs.YtdbjjbooalkkbaaDoorW.PrintWords
namespace Kd
open Go.Proofs.YtdbjjbooalkkbaaDoorW.PrintWords.Kd
end Kd
namespace Kd
open Go.Proofs.YtdbjjbooalkkbaaDoorW.PrintWords.Kd
end Kd
end Go.Proofs.YtdbjjbooalkkbaaDoorW.PrintMore
namespace Go.Proofs.YtdbjjbooalkkbaaDoorW.PrintWords
open Go.RowKit
namespace Kd
end Kd
end Go.Proofs.YtdbjjbooalkkbaaDoorW.PrintWords
namespace Go.Proofs.YtdbjjbooalkkbaaDoorW.PrintWords
open Go.RowKit
namespace Kd
end Kd
end Go.Proofs.YtdbjjbooalkkbaaDoorW.PrintWords

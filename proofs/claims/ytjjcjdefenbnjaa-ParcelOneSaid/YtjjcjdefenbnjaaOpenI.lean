/- []int opened. -/
import Derived.Test.YtjjcjdefenbnjaaOpenP
set_option linter.unusedVariables false
set_option linter.unusedSimpArgs false
namespace Go.Proofs.Ytjjcjdefenbnjaa.OpenI
open Go.ChangeShapes Go.WideShapes Go.ChangeAt Go.RowKit Go.Proofs.Ytjjcjdefenbnjaa.Lib Go.Proofs.Ytjjcjdefenbnjaa.Open
section
variable {H : Type} {enc : TypeId × Value → H} {w : World}
set_option maxRecDepth 100000 in
theorem open_i64s {v : Value} {d : DataW H} {p : List MemPlace} {rr : Reach} {b0 : Nat} (hv : Value.okWide Try.prog w rr b0 71 v) (h : DataW.Trod enc Try.prog w 0 (fun _ => true) true 71 v d p) :
    ∃ (a : Option Addr) (n c : Nat) (xs : List Int64), v = .slice a n c ∧ Sl rI64 w (fun k => k < w.heap.size) a n c xs :=
  Opens.param (Opens.i64 Try.underlying3) Try.underlying71 (by kernel_rfl) (by decide) hv h
end
end Go.Proofs.Ytjjcjdefenbnjaa.OpenI

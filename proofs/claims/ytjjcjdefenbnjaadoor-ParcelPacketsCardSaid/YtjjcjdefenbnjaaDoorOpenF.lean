/- []api.Field and [][]byte opened. -/
import Derived.Test.YtjjcjdefenbnjaaDoorOpen
import Derived.Test.YtjjcjdefenbnjaaDoorTlvE
set_option linter.unusedVariables false
set_option linter.unusedSimpArgs false
namespace Go.Proofs.YtjjcjdefenbnjaaDoor.OpenF
open Go.ChangeShapes Go.WideShapes Go.ChangeAt Go.RowKit Go.Proofs.YtjjcjdefenbnjaaDoor.Lib Go.Proofs.YtjjcjdefenbnjaaDoor.Open Go.Proofs.YtjjcjdefenbnjaaDoor.TlvC
section
variable {H : Type} {enc : TypeId × Value → H} {P : Program} {w : World}
/-- The last field. -/
theorem OpensFs.last {α : Type} {f : Field} {off : Nat} {r : Rep α} (ho : f.offset = off) (hC : P.cellsOf f.type = r.sz) (h1 : Opens enc P w f.type r) : OpensFs enc P w [f] off r := by
  intro n cs hl h
  obtain ⟨y, hy⟩ := h 0 f rfl
  obtain ⟨a, ha⟩ := h1 _ _ _ hy
  refine ⟨a, ?_⟩
  rw [ho, hC, List.take_of_length_le (by rw [List.length_drop]; omega)] at ha
  exact ha
end
section
variable {H : Type} {enc : TypeId × Value → H} {w : World}
set_option maxRecDepth 100000 in
theorem opens_bytes : Opens enc Tryd.prog w 22 (Rep.slice rU8) := Opens.slice Tryd.underlying22 (by kernel_rfl) (by decide) (Opens.u8 Tryd.underlying5)
set_option maxRecDepth 100000 in
theorem open_lists {v : Value} {d : DataW H} {p : List MemPlace} {rr : Reach} {b0 : Nat} (hv : Value.okWide Tryd.prog w rr b0 30 v) (h : DataW.Trod enc Tryd.prog w 0 (fun _ => true) true 30 v d p) :
    ∃ (a : Option Addr) (n c : Nat) (xs : List (List UInt8)), v = .slice a n c ∧ Sl (Rep.slice rU8) w (fun k => k < w.heap.size) a n c xs := Opens.param opens_bytes Tryd.underlying30 (by kernel_rfl) (by decide) hv h
end
end Go.Proofs.YtjjcjdefenbnjaaDoor.OpenF

/- []api.Field and [][]byte opened. -/
import Derived.Test.YtjjcjdefenbnjaaOpen
import Derived.Test.YtjjcjdefenbnjaaTlvE
set_option linter.unusedVariables false
set_option linter.unusedSimpArgs false
namespace Go.Proofs.Ytjjcjdefenbnjaa.OpenF
open Go.ChangeShapes Go.WideShapes Go.ChangeAt Go.RowKit Go.Proofs.Ytjjcjdefenbnjaa.Lib Go.Proofs.Ytjjcjdefenbnjaa.Open Go.Proofs.Ytjjcjdefenbnjaa.TlvC
section
variable {H : Type} {enc : TypeId × Value → H} {P : Program} {w : World}
/-- The last field. -/
theorem OpensFs.last {α : Type} {f : Field} {off : Nat} {r : Rep α} (ho : f.offset = off) (hC : P.cellsOf f.type = r.sz) (h1 : Opens enc P w f.type r) : OpensFs enc P w [f] off r := by
  intro n cs hl h
  obtain ⟨y, hy⟩ := h 0 f rfl
  obtain ⟨a, ha⟩ := h1 _ _ _ hy
  refine ⟨a, ?_⟩
  rw [ho, hC, List.take_of_length_le (by rw [List.length_drop]; omega)] at ha
  exact ha
end
section
variable {H : Type} {enc : TypeId × Value → H} {w : World}
set_option maxRecDepth 100000 in
theorem opens_bytes : Opens enc Try.prog w 22 (Rep.slice rU8) := Opens.slice Try.underlying22 (by kernel_rfl) (by decide) (Opens.u8 Try.underlying5)
set_option maxRecDepth 100000 in
theorem opens_field : Opens enc Try.prog w 47 fld :=
  Opens.struct Try.underlying47 (by kernel_rfl) (OpensFs.cons rfl (by kernel_rfl) (Opens.u8 Try.underlying5) (OpensFs.last rfl (by kernel_rfl) opens_bytes))
set_option maxRecDepth 100000 in
theorem open_fields {v : Value} {d : DataW H} {p : List MemPlace} {rr : Reach} {b0 : Nat} (hv : Value.okWide Try.prog w rr b0 45 v) (h : DataW.Trod enc Try.prog w 0 (fun _ => true) true 45 v d p) :
    ∃ (a : Option Addr) (n c : Nat) (xs : List (UInt8 × List UInt8)), v = .slice a n c ∧ Sl fld w (fun k => k < w.heap.size) a n c xs := Opens.param opens_field Try.underlying45 (by kernel_rfl) (by decide) hv h
set_option maxRecDepth 100000 in
theorem open_lists {v : Value} {d : DataW H} {p : List MemPlace} {rr : Reach} {b0 : Nat} (hv : Value.okWide Try.prog w rr b0 49 v) (h : DataW.Trod enc Try.prog w 0 (fun _ => true) true 49 v d p) :
    ∃ (a : Option Addr) (n c : Nat) (xs : List (List UInt8)), v = .slice a n c ∧ Sl (Rep.slice rU8) w (fun k => k < w.heap.size) a n c xs := Opens.param opens_bytes Try.underlying49 (by kernel_rfl) (by decide) hv h
end
end Go.Proofs.Ytjjcjdefenbnjaa.OpenF

/- The listed variable's cell; []Place opened. -/
import Derived.Test.YtkmcjokoinoahaaDoorRows
import Derived.Test.YtkmcjokoinoahaaDoorOpen
import Derived.Test.YtkmcjokoinoahaaDoorFaultG
import Derived.LaidHandle
import Derived.LaidLaws
import Derived.ChangeVars
set_option linter.unusedVariables false
set_option linter.unusedSimpArgs false
namespace Go.Proofs.YtkmcjokoinoahaaDoor.FaultO
open Go.ChangeShapes Go.WideShapes Go.ChangeAt Go.RowKit Go.Proofs.YtkmcjokoinoahaaDoor.Lib Go.Proofs.YtkmcjokoinoahaaDoor.Open Go.Proofs.YtkmcjokoinoahaaDoor.FaultC Go.Proofs.YtkmcjokoinoahaaDoor.FaultG
theorem et : Tryd.prog.globalNamed "errors.errorType" = some 0 := by kernel_rfl
theorem rt : (Tryd.prog.cutTypes.find? (·.1 == "internal/reflectlite.rtype")).map (·.2) = some 148 := by kernel_rfl
theorem tsize : Tryd.prog.types.size = 233 := by kernel_rfl
theorem oneRow : ((List.range 233).filter fun t => Tryd.prog.rowNamed t [101, 114, 114, 111, 114]) = [27] := by kernel_rfl
theorem th : typeHandle Tryd.prog 27 = .pointer (some ⟨4, 27, none⟩) := by kernel_rfl
theorem laid_of {W : World} (h : laidMetH Tryd.prog [("errors.errorType", Rows.laid_errors_errorType)] W) : Laid W := by
  have h' : laidMet Tryd.prog [] W ∧ handlesMet Tryd.prog [("errors.errorType", Rows.laid_errors_errorType)] W := h
  obtain ⟨name, u, ty, e1, e2, e3, e4, e5⟩ := h'.2 _ (List.mem_singleton.2 rfl)
  have en : name = [101, 114, 114, 111, 114] := (Option.some.inj e1).symm
  subst en
  obtain rfl := Option.some.inj (rt.symm.trans e2)
  have hm : ty ∈ (List.range 233).filter fun t => Tryd.prog.rowNamed t [101, 114, 114, 111, 114] := List.mem_filter.2 ⟨List.mem_range.2 (by rw [← tsize]; exact e3), e4⟩
  rw [oneRow] at hm
  obtain rfl := List.mem_singleton.1 hm
  rw [th] at e5
  unfold Laid
  simpa using World.var?_cell et e5 0
section
variable {H : Type} {enc : TypeId × Value → H} {w : World} {P : Program}
theorem last' {α : Type} {f : Field} {off : Nat} {r : Rep α} (ho : f.offset = off) (hC : P.cellsOf f.type = r.sz) (h1 : Opens enc P w f.type r) : OpensFs enc P w [f] off r := by
  intro n cs hl h
  obtain ⟨y, hy⟩ := h 0 f rfl
  obtain ⟨a, ha⟩ := h1 _ _ _ hy
  refine ⟨a, ?_⟩
  rw [ho, hC, List.take_of_length_le (by rw [List.length_drop]; omega)] at ha
  exact ha
set_option maxRecDepth 100000 in
theorem open_places {v : Value} {d : DataW H} {p : List MemPlace} {rr : Reach} {b0 : Nat} (hv : Value.okWide Tryd.prog w rr b0 22 v) (h : DataW.Trod enc Tryd.prog w 0 (fun _ => true) true 22 v d p) :
    ∃ (a : Option Addr) (n c : Nat) (xs : List (ByteArray × Int64 × Bool)), v = .slice a n c ∧ Sl rPl w (fun k => k < w.heap.size) a n c xs :=
  Opens.param (Opens.struct Tryd.underlying32 (by kernel_rfl) (OpensFs.cons rfl (by kernel_rfl) (Opens.str Tryd.underlying9) (OpensFs.cons rfl (by kernel_rfl) (Opens.i64 Tryd.underlying3) (last' rfl (by kernel_rfl) (Opens.bool Tryd.underlying4))))) Tryd.underlying22 (by kernel_rfl) (by decide) hv h
end
end Go.Proofs.YtkmcjokoinoahaaDoor.FaultO

/- What the rows of client lay: the table and the listed variable. -/
import Derived.Test.YtkmcjokoinoahaaDoorRows
import Derived.Test.YtkmcjokoinoahaaDoorShaE
import Derived.Test.YtkmcjokoinoahaaDoorFaultD
import Derived.LaidHandle
import Derived.LaidLaws
import Derived.ChangeVars
set_option linter.unusedVariables false
set_option linter.unusedSimpArgs false
namespace Go.Proofs.YtkmcjokoinoahaaDoor.ClientO
open Go.RowKit Go.Proofs.YtkmcjokoinoahaaDoor.Lib Go.Proofs.YtkmcjokoinoahaaDoor.ShaB Go.Proofs.YtkmcjokoinoahaaDoor.ShaE Go.Proofs.YtkmcjokoinoahaaDoor.FaultC
theorem et : Tryd.prog.globalNamed "errors.errorType" = some 0 := by kernel_rfl
theorem rt : (Tryd.prog.cutTypes.find? (·.1 == "internal/reflectlite.rtype")).map (·.2) = some 148 := by kernel_rfl
theorem tsize : Tryd.prog.types.size = 233 := by kernel_rfl
theorem oneRow : ((List.range 233).filter fun t => Tryd.prog.rowNamed t [101, 114, 114, 111, 114]) = [27] := by kernel_rfl
theorem th : typeHandle Tryd.prog 27 = .pointer (some ⟨4, 27, none⟩) := by kernel_rfl
theorem both {W : World} (h : laidMetH Tryd.prog [("ferryman/sha.words", Rows.laid_ferryman_sha_words), ("errors.errorType", Rows.laid_errors_errorType)] W) : Laid W ∧ LaidW W := by
  have h' : laidMet Tryd.prog [("ferryman/sha.words", Rows.laid_ferryman_sha_words)] W ∧ handlesMet Tryd.prog [("errors.errorType", Rows.laid_errors_errorType)] W := h
  refine ⟨?_, laidW_of h'.1 List.mem_cons_self (by kernel_rfl)⟩
  obtain ⟨name, u, ty, e1, e2, e3, e4, e5⟩ := h'.2 _ (List.mem_singleton.2 rfl)
  have en : name = [101, 114, 114, 111, 114] := (Option.some.inj e1).symm
  subst en
  obtain rfl := Option.some.inj (rt.symm.trans e2)
  have hm : ty ∈ (List.range 233).filter fun t => Tryd.prog.rowNamed t [101, 114, 114, 111, 114] := List.mem_filter.2 ⟨List.mem_range.2 (by rw [← tsize]; exact e3), e4⟩
  rw [oneRow] at hm
  obtain rfl := List.mem_singleton.1 hm
  rw [th] at e5
  unfold Laid
  simpa using World.var?_cell et e5 0
theorem lt_words {W : World} (h : LaidW W) : 3 < W.heap.size := by
  obtain ⟨ty, fr, hh⟩ := h
  exact Go.lt_of_block hh
open Go.Proofs.YtkmcjokoinoahaaDoor.ShaD in
/-- The two tables and the listed variable. -/
theorem all3 {W : World} (h : laidMetH Tryd.prog [("ferryman/ferrymanref01.roots", Rows.laid_ferryman_ferrymanref01_roots), ("ferryman/sha.words", Rows.laid_ferryman_sha_words), ("errors.errorType", Rows.laid_errors_errorType)] W) : Laid W ∧ LaidW W ∧ LaidR W := by
  have h' : laidMet Tryd.prog [("ferryman/ferrymanref01.roots", Rows.laid_ferryman_ferrymanref01_roots), ("ferryman/sha.words", Rows.laid_ferryman_sha_words)] W ∧ handlesMet Tryd.prog [("errors.errorType", Rows.laid_errors_errorType)] W := h
  refine ⟨?_, laidW_of h'.1 (List.mem_cons_of_mem _ List.mem_cons_self) (by kernel_rfl), laidR_of h'.1 List.mem_cons_self (by kernel_rfl)⟩
  obtain ⟨name, u, ty, e1, e2, e3, e4, e5⟩ := h'.2 _ (List.mem_singleton.2 rfl)
  have en : name = [101, 114, 114, 111, 114] := (Option.some.inj e1).symm
  subst en
  obtain rfl := Option.some.inj (rt.symm.trans e2)
  have hm : ty ∈ (List.range 233).filter fun t => Tryd.prog.rowNamed t [101, 114, 114, 111, 114] := List.mem_filter.2 ⟨List.mem_range.2 (by rw [← tsize]; exact e3), e4⟩
  rw [oneRow] at hm
  obtain rfl := List.mem_singleton.1 hm
  rw [th] at e5
  unfold Laid
  simpa using World.var?_cell et e5 0
open Go.Proofs.YtkmcjokoinoahaaDoor.ShaD in
theorem lt_roots {W : World} (h : LaidR W) : 1 < W.heap.size := by
  obtain ⟨ty, fr, hh⟩ := h
  exact Go.lt_of_block hh
end Go.Proofs.YtkmcjokoinoahaaDoor.ClientO

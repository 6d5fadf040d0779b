/- The two tables as the rows lay them. -/
import Derived.Test.YtjjcjdefenbnjaaDoorRows
import Derived.Test.YtjjcjdefenbnjaaDoorShaE
set_option linter.unusedVariables false
set_option linter.unusedSimpArgs false
namespace Go.Proofs.YtjjcjdefenbnjaaDoor.ShaO
open Go.RowKit Go.Proofs.YtjjcjdefenbnjaaDoor.Lib Go.Proofs.YtjjcjdefenbnjaaDoor.PlainS Go.Proofs.YtjjcjdefenbnjaaDoor.ShaB Go.Proofs.YtjjcjdefenbnjaaDoor.ShaD Go.Proofs.YtjjcjdefenbnjaaDoor.ShaE
theorem two {W : World} (h : laidMetH Tryd.prog [("ferryman/ferrymanref01.roots", Rows.laid_ferryman_ferrymanref01_roots), ("ferryman/sha.words", Rows.laid_ferryman_sha_words)] W) : LaidW W ∧ LaidR W := by
  have h : laidMet Tryd.prog [("ferryman/ferrymanref01.roots", Rows.laid_ferryman_ferrymanref01_roots), ("ferryman/sha.words", Rows.laid_ferryman_sha_words)] W := h
  exact ⟨laidW_of h (List.mem_cons_of_mem _ List.mem_cons_self) (by kernel_rfl), laidR_of h List.mem_cons_self (by kernel_rfl)⟩
theorem one {W : World} (h : laidMetH Tryd.prog [("ferryman/sha.words", Rows.laid_ferryman_sha_words)] W) : LaidW W := by
  have h : laidMet Tryd.prog [("ferryman/sha.words", Rows.laid_ferryman_sha_words)] W := h
  exact laidW_of h List.mem_cons_self (by kernel_rfl)
theorem lt_one {W : World} (h : LaidW W) : 1 < W.heap.size := by
  obtain ⟨ty, fr, hh⟩ := h
  exact Go.lt_of_block hh
end Go.Proofs.YtjjcjdefenbnjaaDoor.ShaO

/- ferrymanref01.Put; the awake call of chapter 2: contracts over any world. -/
import Derived.Test.YtjjcjdefenbnjaaDoorTlvG
import Derived.WalkSpells
set_option linter.unusedVariables false
set_option linter.unusedSimpArgs false
namespace Go.Proofs.YtjjcjdefenbnjaaDoor.TlvH
open Go.RowKit Go.Proofs.YtjjcjdefenbnjaaDoor.Lib Go.Proofs.YtjjcjdefenbnjaaDoor.Reg Go.Proofs.YtjjcjdefenbnjaaDoor.TlvA Go.Proofs.YtjjcjdefenbnjaaDoor.TlvB Go.Proofs.YtjjcjdefenbnjaaDoor.TlvF Go.Proofs.YtjjcjdefenbnjaaDoor.TlvG

theorem putL_awake : putL [] 5 [97, 98] = [5, 0, 2, 97, 98] := rfl
theorem numL_awake : numL 258 = [1, 2] := by decide

end Go.Proofs.YtjjcjdefenbnjaaDoor.TlvH

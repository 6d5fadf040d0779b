/- ferrymanref01.Put; the awake call of chapter 2: contracts over any world. -/
import Derived.Test.YtkmcjokoinoahaaDoorTlvG
import Derived.WalkSpells
set_option linter.unusedVariables false
set_option linter.unusedSimpArgs false
namespace Go.Proofs.YtkmcjokoinoahaaDoor.TlvH
open Go.RowKit Go.Proofs.YtkmcjokoinoahaaDoor.Lib Go.Proofs.YtkmcjokoinoahaaDoor.Reg Go.Proofs.YtkmcjokoinoahaaDoor.TlvA Go.Proofs.YtkmcjokoinoahaaDoor.TlvB Go.Proofs.YtkmcjokoinoahaaDoor.TlvF Go.Proofs.YtkmcjokoinoahaaDoor.TlvG

theorem putL_awake : putL [] 5 [97, 98] = [5, 0, 2, 97, 98] := rfl
theorem numL_awake : numL 258 = [1, 2] := by decide

end Go.Proofs.YtkmcjokoinoahaaDoor.TlvH

/- More steps in a region that draws its order. Over any program. -/
import Derived.Test.YtkmcjokoinoahaaDoorReg
set_option linter.unusedVariables false
set_option linter.unusedSimpArgs false
namespace Go.Proofs.YtkmcjokoinoahaaDoor.RegB
open Go.RowKit Go.Proofs.YtkmcjokoinoahaaDoor.Lib Go.Proofs.YtkmcjokoinoahaaDoor.Reg
section
variable {P : Program} {ops : Array Oper} {S : World → Prop} {Q : Exit → Act → World → Prop}
/-- One that turns the world and tells nothing. -/
theorem seq_mute {o : Oper} {rest : List (Oper × Bool)} {a : Act} {w w' : World} (hw : Region.wanted o (yielded ops a.tmps) = true) (hv : (execOp a.eval o).run P w = .ok .skip w') (hS : S w') (h : wpSeqS P ops S Q rest (a.put o.dst undef) w') : wpSeqS P ops S Q ((o, false) :: rest) a w := by
  unfold wpSeqS
  rw [if_pos hw]
  unfold Oper.wp
  rw [hv]
  exact ⟨hS, h⟩
end
end Go.Proofs.YtkmcjokoinoahaaDoor.RegB

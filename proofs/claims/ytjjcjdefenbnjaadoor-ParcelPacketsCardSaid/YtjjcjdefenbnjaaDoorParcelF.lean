/- Packets, answers are read: contracts over any world. -/
import Derived.Test.YtjjcjdefenbnjaaDoorParcelE
set_option linter.unusedVariables false
set_option linter.unusedSimpArgs false
namespace Go.Proofs.YtjjcjdefenbnjaaDoor.ParcelF
open Go.RowKit Go.Proofs.YtjjcjdefenbnjaaDoor.Lib Go.Proofs.YtjjcjdefenbnjaaDoor.Reg Go.Proofs.YtjjcjdefenbnjaaDoor.RegB Go.Proofs.YtjjcjdefenbnjaaDoor.TlvA Go.Proofs.YtjjcjdefenbnjaaDoor.TlvC Go.Proofs.YtjjcjdefenbnjaaDoor.TlvF Go.Proofs.YtjjcjdefenbnjaaDoor.TlvI Go.Proofs.YtjjcjdefenbnjaaDoor.LawNums Go.Proofs.YtjjcjdefenbnjaaDoor.PlainP Go.Proofs.YtjjcjdefenbnjaaDoor.LawOne Go.Proofs.YtjjcjdefenbnjaaDoor.DenomA Go.Proofs.YtjjcjdefenbnjaaDoor.ParcelA Go.Proofs.YtjjcjdefenbnjaaDoor.ParcelB Go.Proofs.YtjjcjdefenbnjaaDoor.ParcelC Go.Proofs.YtjjcjdefenbnjaaDoor.ParcelD Go.Proofs.YtjjcjdefenbnjaaDoor.ParcelE

def ackC (y : Bool) (k : Nat) : Array Value := #[.bool y, .int .i64 (k : Int)]
theorem ack_i (y : Bool) (k : Nat) : (Tryd.prog.info? 56).map (·.size) = some (ackC y k).size := by
  rw [show (ackC y k).size = 2 from rfl]; kernel_rfl
theorem ackC_one (y : Bool) (k : Nat) : (ackC y k).all (·.oneCell') = true := by simp [ackC, Value.oneCell']
theorem rEnd_fail (s : St) {k : Int} (hk : k ≠ 0) : rEnd (rFail s k) ≠ 0 := fun h => rFail_ne hk (rEnd_zero h).2
end Go.Proofs.YtjjcjdefenbnjaaDoor.ParcelF

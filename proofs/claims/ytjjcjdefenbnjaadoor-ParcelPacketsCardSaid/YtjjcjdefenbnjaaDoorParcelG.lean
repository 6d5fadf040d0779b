/- Packets are read: a contract over any world (the channel's number is too great). -/
import Derived.Test.YtjjcjdefenbnjaaDoorParcelK
import Derived.Test.YtjjcjdefenbnjaaDoorRegF
set_option linter.unusedVariables false
set_option linter.unusedSimpArgs false
namespace Go.Proofs.YtjjcjdefenbnjaaDoor.ParcelG
open Go.RowKit Go.Proofs.YtjjcjdefenbnjaaDoor.Lib Go.Proofs.YtjjcjdefenbnjaaDoor.Reg Go.Proofs.YtjjcjdefenbnjaaDoor.RegB Go.Proofs.YtjjcjdefenbnjaaDoor.RegF Go.Proofs.YtjjcjdefenbnjaaDoor.TlvA Go.Proofs.YtjjcjdefenbnjaaDoor.TlvC Go.Proofs.YtjjcjdefenbnjaaDoor.TlvF Go.Proofs.YtjjcjdefenbnjaaDoor.TlvI Go.Proofs.YtjjcjdefenbnjaaDoor.LawNums Go.Proofs.YtjjcjdefenbnjaaDoor.PlainP Go.Proofs.YtjjcjdefenbnjaaDoor.LawOne Go.Proofs.YtjjcjdefenbnjaaDoor.DenomA Go.Proofs.YtjjcjdefenbnjaaDoor.ParcelA Go.Proofs.YtjjcjdefenbnjaaDoor.ParcelB Go.Proofs.YtjjcjdefenbnjaaDoor.ParcelC Go.Proofs.YtjjcjdefenbnjaaDoor.ParcelD Go.Proofs.YtjjcjdefenbnjaaDoor.ParcelE Go.Proofs.YtjjcjdefenbnjaaDoor.ParcelF Go.Proofs.YtjjcjdefenbnjaaDoor.ParcelK

end Go.Proofs.YtjjcjdefenbnjaaDoor.ParcelG

/- Closed facts of the program of this seat: reckoned by the kernel. -/
import Derived.Test.YtidhlagdagbggaaGreatRows
import Derived.WalkKit
import Derived.ProofKit
namespace Go.Proofs.YtidhlagdagbggaaGreat.queryRuns
open Go.RowKit
set_option maxRecDepth 100000
theorem fC : (Tryz.pinned.checked.prog.make == some Rows.queryRunsRow.make) = true := by kernel_rfl
end Go.Proofs.YtidhlagdagbggaaGreat.queryRuns

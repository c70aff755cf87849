/- Closed facts of the program of this seat: reckoned by the kernel. -/
import Derived.Test.YtidhlagdagbggaaRows
import Derived.WalkKit
import Derived.ProofKit
namespace Go.Proofs.Ytidhlagdagbggaa.queryBounds
open Go.RowKit
set_option maxRecDepth 100000
theorem fC : (Try.pinned.checked.prog.make == some Rows.queryBoundsRow.make) = true := by kernel_rfl
end Go.Proofs.Ytidhlagdagbggaa.queryBounds

/- Closed facts of the program of this seat: reckoned by the kernel. -/
import Derived.Test.YtgbbpanapnkdbaaGreatRows
import Derived.WalkKit
import Derived.ProofKit
namespace Go.Proofs.YtgbbpanapnkdbaaGreat.quorumPlays
open Go.RowKit
set_option maxRecDepth 100000
theorem fC : (Tryz.pinned.checked.prog.make == some Rows.quorumPlaysRow.make) = true := by kernel_rfl
end Go.Proofs.YtgbbpanapnkdbaaGreat.quorumPlays

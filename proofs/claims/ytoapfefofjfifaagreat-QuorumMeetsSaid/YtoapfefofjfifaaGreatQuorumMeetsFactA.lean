/- Closed facts of the program of this seat: reckoned by the kernel. -/
import Derived.Test.YtoapfefofjfifaaGreatRows
import Derived.WalkKit
import Derived.ProofKit
namespace Go.Proofs.YtoapfefofjfifaaGreat.quorumMeets
open Go.RowKit
set_option maxRecDepth 100000
theorem fA : Tryz.pinned.checked.prog.mayEnter = true := by kernel_rfl
end Go.Proofs.YtoapfefofjfifaaGreat.quorumMeets

/- Closed facts of the program of this seat: reckoned by the kernel. -/
import Derived.Test.YthjafnfadiijgaaRows
import Derived.WalkKit
import Derived.ProofKit
namespace Go.Proofs.Ythjafnfadiijgaa.raftLives
open Go.RowKit
set_option maxRecDepth 100000
theorem fB : (Rows.raftLivesRow.lifted == Try.pinned.checked.prog.liftsFinal) = true := by kernel_rfl
end Go.Proofs.Ythjafnfadiijgaa.raftLives

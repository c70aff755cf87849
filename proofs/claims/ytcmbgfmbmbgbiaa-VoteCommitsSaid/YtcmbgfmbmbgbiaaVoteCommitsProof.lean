/- The law VoteCommits answers true: what more than half have, and the least, is what the document says; what is committed never sinks when one of them rises. -/
import Derived.Test.YtcmbgfmbmbgbiaaVoteCommitsLift
import Derived.Test.YtcmbgfmbmbgbiaaVoteCommitsFactA
import Derived.Test.YtcmbgfmbmbgbiaaVoteCommitsFactB
import Derived.Test.YtcmbgfmbmbgbiaaVoteCommitsFactC
import Derived.Test.YtcmbgfmbmbgbiaaVoteCommitsFactD
namespace Go.Proofs.Ytcmbgfmbmbgbiaa.voteCommits
open Go.ChangeShapes Go.WideShapes Go.ChangeAt Go.RowKit
set_option linter.unusedVariables false
set_option maxRecDepth 100000
theorem andT {a b : Bool} (h : a = true) (k : b = true) : (a && b) = true := by rw [h, k]; rfl
theorem closed : joinedFacts Try.pinned.checked.prog 9 Try.f9 Rows.voteCommitsSpec Rows.voteCommitsRow = true := by
  unfold joinedFacts
  exact (andT (andT (andT (andT (andT (andT (andT (andT (andT (andT (andT (andT (andT (andT (andT (andT (andT (andT (andT (andT (andT (andT (andT (andT (andT (andT (andT (andT (andT (andT (andT fD0 fD1) fD2) fD3) fD4) fD5) fD6) fD7) fD8) fD9) fD10) fD11) fD12) (by kernel_rfl)) (by kernel_rfl)) (by kernel_rfl)) (by kernel_rfl)) (by kernel_rfl)) (by kernel_rfl)) (by kernel_rfl)) (by kernel_rfl)) (by kernel_rfl)) (by kernel_rfl)) (by kernel_rfl)) (by kernel_rfl)) fA) fB) fC) (by kernel_rfl)) (by kernel_rfl)) (by kernel_rfl)) (by kernel_rfl))
theorem over : Rows.voteCommitsRow.holds Try.pinned (OpenSpec.ofChange Rows.voteCommitsSpec) :=
  OpenClaim.holds_of_wide 9 Try.f9 rfl rfl rfl rfl rfl rfl rfl ⟨rfl, rfl, rfl, rfl, rfl⟩ rfl rfl rfl rfl rfl (by kernel_rfl) Try.func9 closed
    (of_decide_eq_true (by kernel_rfl)) (by unfold Func.isWrapper; first | (rw [if_pos (by decide +kernel)]; kernel_rfl) | (rw [if_neg (by decide +kernel)]; exact ⟨rfl, rfl⟩))
    (fun os started H enc _ => lifted os started H enc)
/-- the statement -/
theorem proved : Rows.VoteCommitsSaid := over
#print axioms proved
end Go.Proofs.Ytcmbgfmbmbgbiaa.voteCommits

/- The law VoteCounts answers true: whoever says yes, in whatever order, and again, is counted as the document says. -/
import Derived.Test.YtcmbgfmbmbgbiaaVoteCountsLift
import Derived.Test.YtcmbgfmbmbgbiaaVoteCountsFactA
import Derived.Test.YtcmbgfmbmbgbiaaVoteCountsFactB
import Derived.Test.YtcmbgfmbmbgbiaaVoteCountsFactC
import Derived.Test.YtcmbgfmbmbgbiaaVoteCountsFactD
namespace Go.Proofs.Ytcmbgfmbmbgbiaa.voteCounts
open Go.ChangeShapes Go.WideShapes Go.ChangeAt Go.RowKit
set_option linter.unusedVariables false
set_option maxRecDepth 100000
theorem andT {a b : Bool} (h : a = true) (k : b = true) : (a && b) = true := by rw [h, k]; rfl
theorem closed : joinedFacts Try.pinned.checked.prog 10 Try.f10 Rows.voteCountsSpec Rows.voteCountsRow = true := by
  unfold joinedFacts
  exact (andT (andT (andT (andT (andT (andT (andT (andT (andT (andT (andT (andT (andT (andT (andT (andT (andT (andT (andT (andT (andT (andT (andT (andT (andT (andT (andT (andT (andT (andT (andT fD0 fD1) fD2) fD3) fD4) fD5) fD6) fD7) fD8) fD9) fD10) fD11) fD12) (by kernel_rfl)) (by kernel_rfl)) (by kernel_rfl)) (by kernel_rfl)) (by kernel_rfl)) (by kernel_rfl)) (by kernel_rfl)) (by kernel_rfl)) (by kernel_rfl)) (by kernel_rfl)) (by kernel_rfl)) (by kernel_rfl)) fA) fB) fC) (by kernel_rfl)) (by kernel_rfl)) (by kernel_rfl)) (by kernel_rfl))
theorem over : Rows.voteCountsRow.holds Try.pinned (OpenSpec.ofChange Rows.voteCountsSpec) :=
  OpenClaim.holds_of_wide 10 Try.f10 rfl rfl rfl rfl rfl rfl rfl ⟨rfl, rfl, rfl, rfl, rfl⟩ rfl rfl rfl rfl rfl (by kernel_rfl) Try.func10 closed
    (of_decide_eq_true (by kernel_rfl)) (by unfold Func.isWrapper; first | (rw [if_pos (by decide +kernel)]; kernel_rfl) | (rw [if_neg (by decide +kernel)]; exact ⟨rfl, rfl⟩))
    (fun os started H enc _ => lifted os started H enc)
/-- the statement -/
theorem proved : Rows.VoteCountsSaid := over
#print axioms proved
end Go.Proofs.Ytcmbgfmbmbgbiaa.voteCounts

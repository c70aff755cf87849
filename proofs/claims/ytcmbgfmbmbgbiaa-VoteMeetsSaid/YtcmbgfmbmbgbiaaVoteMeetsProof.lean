/- The law VoteMeets answers true: two ballots of as many nodes that are both won have a node in common. -/
import Derived.Test.YtcmbgfmbmbgbiaaVoteMeetsLift
import Derived.Test.YtcmbgfmbmbgbiaaVoteMeetsFactA
import Derived.Test.YtcmbgfmbmbgbiaaVoteMeetsFactB
import Derived.Test.YtcmbgfmbmbgbiaaVoteMeetsFactC
import Derived.Test.YtcmbgfmbmbgbiaaVoteMeetsFactD
namespace Go.Proofs.Ytcmbgfmbmbgbiaa.voteMeets
open Go.ChangeShapes Go.WideShapes Go.ChangeAt Go.RowKit
set_option linter.unusedVariables false
set_option maxRecDepth 100000
theorem andT {a b : Bool} (h : a = true) (k : b = true) : (a && b) = true := by rw [h, k]; rfl
theorem closed : joinedFacts Try.pinned.checked.prog 11 Try.f11 Rows.voteMeetsSpec Rows.voteMeetsRow = true := by
  unfold joinedFacts
  exact (andT (andT (andT (andT (andT (andT (andT (andT (andT (andT (andT (andT (andT (andT (andT (andT (andT (andT (andT (andT (andT (andT (andT (andT (andT (andT (andT (andT (andT (andT (andT fD0 fD1) fD2) fD3) fD4) fD5) fD6) fD7) fD8) fD9) fD10) fD11) fD12) (by kernel_rfl)) (by kernel_rfl)) (by kernel_rfl)) (by kernel_rfl)) (by kernel_rfl)) (by kernel_rfl)) (by kernel_rfl)) (by kernel_rfl)) (by kernel_rfl)) (by kernel_rfl)) (by kernel_rfl)) (by kernel_rfl)) fA) fB) fC) (by kernel_rfl)) (by kernel_rfl)) (by kernel_rfl)) (by kernel_rfl))
theorem over : Rows.voteMeetsRow.holds Try.pinned (OpenSpec.ofChange Rows.voteMeetsSpec) :=
  OpenClaim.holds_of_wide 11 Try.f11 rfl rfl rfl rfl rfl rfl rfl ⟨rfl, rfl, rfl, rfl, rfl⟩ rfl rfl rfl rfl rfl (by kernel_rfl) Try.func11 closed
    (of_decide_eq_true (by kernel_rfl)) (by unfold Func.isWrapper; first | (rw [if_pos (by decide +kernel)]; kernel_rfl) | (rw [if_neg (by decide +kernel)]; exact ⟨rfl, rfl⟩))
    (fun os started H enc _ => lifted os started H enc)
/-- the statement -/
theorem proved : Rows.VoteMeetsSaid := over
#print axioms proved
end Go.Proofs.Ytcmbgfmbmbgbiaa.voteMeets

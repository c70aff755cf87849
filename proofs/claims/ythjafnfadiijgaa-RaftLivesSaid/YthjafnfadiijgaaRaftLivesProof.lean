/- Whatever members did, and whatever letters were lost or came again: when then all letters come and all tick, one leads before long, what is proposed to it is committed by all, and all have the same: RaftLives answers true at every input. -/
import Derived.Test.YthjafnfadiijgaaRaftLivesLift
import Derived.Test.YthjafnfadiijgaaRaftLivesFactA
import Derived.Test.YthjafnfadiijgaaRaftLivesFactB
import Derived.Test.YthjafnfadiijgaaRaftLivesFactC
import Derived.Test.YthjafnfadiijgaaRaftLivesFactD
namespace Go.Proofs.Ythjafnfadiijgaa.raftLives
open Go.ChangeShapes Go.WideShapes Go.ChangeAt Go.RowKit
set_option linter.unusedVariables false
set_option maxRecDepth 100000
theorem andT {a b : Bool} (h : a = true) (k : b = true) : (a && b) = true := by rw [h, k]; rfl
theorem closed : joinedFacts Try.pinned.checked.prog 5 Try.f5 Rows.raftLivesSpec Rows.raftLivesRow = true := by
  unfold joinedFacts
  exact (andT (andT (andT (andT (andT (andT (andT (andT (andT (andT (andT (andT (andT (andT (andT (andT (andT (andT (andT (andT (andT (andT (andT (andT (andT (andT (andT (andT (andT (andT (andT fD0 fD1) fD2) fD3) fD4) fD5) fD6) fD7) fD8) fD9) fD10) fD11) fD12) (by kernel_rfl)) (by kernel_rfl)) (by kernel_rfl)) (by kernel_rfl)) (by kernel_rfl)) (by kernel_rfl)) (by kernel_rfl)) (by kernel_rfl)) (by kernel_rfl)) (by kernel_rfl)) (by kernel_rfl)) (by kernel_rfl)) fA) fB) fC) (by kernel_rfl)) (by kernel_rfl)) (by kernel_rfl)) (by kernel_rfl))
theorem over : Rows.raftLivesRow.holds Try.pinned (OpenSpec.ofChange Rows.raftLivesSpec) :=
  OpenClaim.holds_of_wide 5 Try.f5 rfl rfl rfl rfl rfl rfl rfl ⟨rfl, rfl, rfl, rfl, rfl⟩ rfl rfl rfl rfl rfl (by kernel_rfl) Try.func5 closed
    (of_decide_eq_true (by kernel_rfl)) (by unfold Func.isWrapper; first | (rw [if_pos (by decide +kernel)]; kernel_rfl) | (rw [if_neg (by decide +kernel)]; exact ⟨rfl, rfl⟩))
    (fun os started H enc _ => lifted os started H enc)
/-- the statement -/
theorem proved : Rows.RaftLivesSaid := over
#print axioms proved
end Go.Proofs.Ythjafnfadiijgaa.raftLives

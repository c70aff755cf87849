/- Members tick, propose, begin anew with what they stored, cut their logs, whatever letters are lost or come again: never are unlike entries known as committed at one index, never lead two in one term, what is stored is what there is: RaftSafe answers true at every input. -/
import Derived.Test.YthjafnfadiijgaaRaftSafeLift
import Derived.Test.YthjafnfadiijgaaRaftSafeFactA
import Derived.Test.YthjafnfadiijgaaRaftSafeFactB
import Derived.Test.YthjafnfadiijgaaRaftSafeFactC
import Derived.Test.YthjafnfadiijgaaRaftSafeFactD
namespace Go.Proofs.Ythjafnfadiijgaa.raftSafe
open Go.ChangeShapes Go.WideShapes Go.ChangeAt Go.RowKit
set_option linter.unusedVariables false
set_option maxRecDepth 100000
theorem andT {a b : Bool} (h : a = true) (k : b = true) : (a && b) = true := by rw [h, k]; rfl
theorem closed : joinedFacts Try.pinned.checked.prog 6 Try.f6 Rows.raftSafeSpec Rows.raftSafeRow = true := by
  unfold joinedFacts
  exact (andT (andT (andT (andT (andT (andT (andT (andT (andT (andT (andT (andT (andT (andT (andT (andT (andT (andT (andT (andT (andT (andT (andT (andT (andT (andT (andT (andT (andT (andT (andT fD0 fD1) fD2) fD3) fD4) fD5) fD6) fD7) fD8) fD9) fD10) fD11) fD12) (by kernel_rfl)) (by kernel_rfl)) (by kernel_rfl)) (by kernel_rfl)) (by kernel_rfl)) (by kernel_rfl)) (by kernel_rfl)) (by kernel_rfl)) (by kernel_rfl)) (by kernel_rfl)) (by kernel_rfl)) (by kernel_rfl)) fA) fB) fC) (by kernel_rfl)) (by kernel_rfl)) (by kernel_rfl)) (by kernel_rfl))
theorem over : Rows.raftSafeRow.holds Try.pinned (OpenSpec.ofChange Rows.raftSafeSpec) :=
  OpenClaim.holds_of_wide 6 Try.f6 rfl rfl rfl rfl rfl rfl rfl ⟨rfl, rfl, rfl, rfl, rfl⟩ rfl rfl rfl rfl rfl (by kernel_rfl) Try.func6 closed
    (of_decide_eq_true (by kernel_rfl)) (by unfold Func.isWrapper; first | (rw [if_pos (by decide +kernel)]; kernel_rfl) | (rw [if_neg (by decide +kernel)]; exact ⟨rfl, rfl⟩))
    (fun os started H enc _ => lifted os started H enc)
/-- the statement -/
theorem proved : Rows.RaftSafeSaid := over
#print axioms proved
end Go.Proofs.Ythjafnfadiijgaa.raftSafe

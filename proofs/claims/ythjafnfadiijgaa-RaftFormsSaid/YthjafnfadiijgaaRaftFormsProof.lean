/- Any message of a member has the form that the document says, and is read as it was; any bytes are read as the message whose form they are, or refused. -/
import Derived.Test.YthjafnfadiijgaaRaftFormsLift
import Derived.Test.YthjafnfadiijgaaRaftFormsFactA
import Derived.Test.YthjafnfadiijgaaRaftFormsFactB
import Derived.Test.YthjafnfadiijgaaRaftFormsFactC
import Derived.Test.YthjafnfadiijgaaRaftFormsFactD
namespace Go.Proofs.Ythjafnfadiijgaa.raftForms
open Go.ChangeShapes Go.WideShapes Go.ChangeAt Go.RowKit
set_option linter.unusedVariables false
set_option maxRecDepth 100000
theorem andT {a b : Bool} (h : a = true) (k : b = true) : (a && b) = true := by rw [h, k]; rfl
theorem closed : joinedFacts Try.pinned.checked.prog 3 Try.f3 Rows.raftFormsSpec Rows.raftFormsRow = true := by
  unfold joinedFacts
  exact (andT (andT (andT (andT (andT (andT (andT (andT (andT (andT (andT (andT (andT (andT (andT (andT (andT (andT (andT (andT (andT (andT (andT (andT (andT (andT (andT (andT (andT (andT (andT fD0 fD1) fD2) fD3) fD4) fD5) fD6) fD7) fD8) fD9) fD10) fD11) fD12) (by kernel_rfl)) (by kernel_rfl)) (by kernel_rfl)) (by kernel_rfl)) (by kernel_rfl)) (by kernel_rfl)) (by kernel_rfl)) (by kernel_rfl)) (by kernel_rfl)) (by kernel_rfl)) (by kernel_rfl)) (by kernel_rfl)) fA) fB) fC) (by kernel_rfl)) (by kernel_rfl)) (by kernel_rfl)) (by kernel_rfl))
theorem over : Rows.raftFormsRow.holds Try.pinned (OpenSpec.ofChange Rows.raftFormsSpec) :=
  OpenClaim.holds_of_wide 3 Try.f3 rfl rfl rfl rfl rfl rfl rfl ⟨rfl, rfl, rfl, rfl, rfl⟩ rfl rfl rfl rfl rfl (by kernel_rfl) Try.func3 closed
    (of_decide_eq_true (by kernel_rfl)) (by unfold Func.isWrapper; first | (rw [if_pos (by decide +kernel)]; kernel_rfl) | (rw [if_neg (by decide +kernel)]; exact ⟨rfl, rfl⟩))
    (fun os started H enc _ => lifted os started H enc)
/-- the statement -/
theorem proved : Rows.RaftFormsSaid := over
#print axioms proved
end Go.Proofs.Ythjafnfadiijgaa.raftForms

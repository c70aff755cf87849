/- A desk's ops are started, answered and waited for: what is done stays done, and as it is: QuorumStays answers true at every input. -/
import Derived.Test.YtgbbpanapnkdbaaGreatQuorumStaysLift
import Derived.Test.YtgbbpanapnkdbaaGreatQuorumStaysFactA
import Derived.Test.YtgbbpanapnkdbaaGreatQuorumStaysFactB
import Derived.Test.YtgbbpanapnkdbaaGreatQuorumStaysFactC
import Derived.Test.YtgbbpanapnkdbaaGreatQuorumStaysFactD
namespace Go.Proofs.YtgbbpanapnkdbaaGreat.quorumStays
open Go.ChangeShapes Go.WideShapes Go.ChangeAt Go.RowKit
set_option linter.unusedVariables false
set_option maxRecDepth 100000
theorem andT {a b : Bool} (h : a = true) (k : b = true) : (a && b) = true := by rw [h, k]; rfl
theorem closed : joinedFacts Tryz.pinned.checked.prog 3 Tryz.f3 Rows.quorumStaysSpec Rows.quorumStaysRow = true := by
  unfold joinedFacts
  exact (andT (andT (andT (andT (andT (andT (andT (andT (andT (andT (andT (andT (andT (andT (andT (andT (andT (andT (andT (andT (andT (andT (andT (andT (andT (andT (andT (andT (andT (andT (andT fD0 fD1) fD2) fD3) fD4) fD5) fD6) fD7) fD8) fD9) fD10) fD11) fD12) (by kernel_rfl)) (by kernel_rfl)) (by kernel_rfl)) (by kernel_rfl)) (by kernel_rfl)) (by kernel_rfl)) (by kernel_rfl)) (by kernel_rfl)) (by kernel_rfl)) (by kernel_rfl)) (by kernel_rfl)) (by kernel_rfl)) fA) fB) fC) (by kernel_rfl)) (by kernel_rfl)) (by kernel_rfl)) (by kernel_rfl))
theorem over : Rows.quorumStaysRow.holds Tryz.pinned (OpenSpec.ofChange Rows.quorumStaysSpec) :=
  OpenClaim.holds_of_wide 3 Tryz.f3 rfl rfl rfl rfl rfl rfl rfl ⟨rfl, rfl, rfl, rfl, rfl⟩ rfl rfl rfl rfl rfl (by kernel_rfl) Tryz.func3 closed
    (of_decide_eq_true (by kernel_rfl)) (by unfold Func.isWrapper; first | (rw [if_pos (by decide +kernel)]; kernel_rfl) | (rw [if_neg (by decide +kernel)]; exact ⟨rfl, rfl⟩))
    (fun os started H enc _ => lifted os started H enc)
/-- the statement -/
theorem proved : Rows.QuorumStaysSaid := over
#print axioms proved
end Go.Proofs.YtgbbpanapnkdbaaGreat.quorumStays

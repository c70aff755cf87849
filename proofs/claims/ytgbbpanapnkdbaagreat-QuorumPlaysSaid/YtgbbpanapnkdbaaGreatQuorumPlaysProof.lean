/- Whatever is started, answered and waited for at a desk is told as the document's desk tells it: QuorumPlays answers true at every input. -/
import Derived.Test.YtgbbpanapnkdbaaGreatQuorumPlaysLift
import Derived.Test.YtgbbpanapnkdbaaGreatQuorumPlaysFactA
import Derived.Test.YtgbbpanapnkdbaaGreatQuorumPlaysFactB
import Derived.Test.YtgbbpanapnkdbaaGreatQuorumPlaysFactC
import Derived.Test.YtgbbpanapnkdbaaGreatQuorumPlaysFactD
namespace Go.Proofs.YtgbbpanapnkdbaaGreat.quorumPlays
open Go.ChangeShapes Go.WideShapes Go.ChangeAt Go.RowKit
set_option linter.unusedVariables false
set_option maxRecDepth 100000
theorem andT {a b : Bool} (h : a = true) (k : b = true) : (a && b) = true := by rw [h, k]; rfl
theorem closed : joinedFacts Tryz.pinned.checked.prog 4 Tryz.f4 Rows.quorumPlaysSpec Rows.quorumPlaysRow = true := by
  unfold joinedFacts
  exact (andT (andT (andT (andT (andT (andT (andT (andT (andT (andT (andT (andT (andT (andT (andT (andT (andT (andT (andT (andT (andT (andT (andT (andT (andT (andT (andT (andT (andT (andT (andT fD0 fD1) fD2) fD3) fD4) fD5) fD6) fD7) fD8) fD9) fD10) fD11) fD12) (by kernel_rfl)) (by kernel_rfl)) (by kernel_rfl)) (by kernel_rfl)) (by kernel_rfl)) (by kernel_rfl)) (by kernel_rfl)) (by kernel_rfl)) (by kernel_rfl)) (by kernel_rfl)) (by kernel_rfl)) (by kernel_rfl)) fA) fB) fC) (by kernel_rfl)) (by kernel_rfl)) (by kernel_rfl)) (by kernel_rfl))
theorem over : Rows.quorumPlaysRow.holds Tryz.pinned (OpenSpec.ofChange Rows.quorumPlaysSpec) :=
  OpenClaim.holds_of_wide 4 Tryz.f4 rfl rfl rfl rfl rfl rfl rfl ⟨rfl, rfl, rfl, rfl, rfl⟩ rfl rfl rfl rfl rfl (by kernel_rfl) Tryz.func4 closed
    (of_decide_eq_true (by kernel_rfl)) (by unfold Func.isWrapper; first | (rw [if_pos (by decide +kernel)]; kernel_rfl) | (rw [if_neg (by decide +kernel)]; exact ⟨rfl, rfl⟩))
    (fun os started H enc _ => lifted os started H enc)
/-- the statement -/
theorem proved : Rows.QuorumPlaysSaid := over
#print axioms proved
end Go.Proofs.YtgbbpanapnkdbaaGreat.quorumPlays

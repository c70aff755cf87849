/- Of each series that is asked for the least and the greatest value are among its values, none is below the one or above the other, and as many are counted as there are; under the law's own bounds: at most 40 pieces, texts of at most 400 bytes. -/
import Derived.Test.YtidhlagdagbggaaQueryBoundsLift
import Derived.Test.YtidhlagdagbggaaQueryBoundsFactA
import Derived.Test.YtidhlagdagbggaaQueryBoundsFactB
import Derived.Test.YtidhlagdagbggaaQueryBoundsFactC
import Derived.Test.YtidhlagdagbggaaQueryBoundsFactD
namespace Go.Proofs.Ytidhlagdagbggaa.queryBounds
open Go.ChangeShapes Go.WideShapes Go.ChangeAt Go.RowKit
set_option linter.unusedVariables false
set_option maxRecDepth 100000
theorem andT {a b : Bool} (h : a = true) (k : b = true) : (a && b) = true := by rw [h, k]; rfl
theorem closed : joinedFacts Try.pinned.checked.prog 6 Try.f6 Rows.queryBoundsSpec Rows.queryBoundsRow = true := by
  unfold joinedFacts
  exact (andT (andT (andT (andT (andT (andT (andT (andT (andT (andT (andT (andT (andT (andT (andT (andT (andT (andT (andT (andT (andT (andT (andT (andT (andT (andT (andT (andT (andT (andT (andT fD0 fD1) fD2) fD3) fD4) fD5) fD6) fD7) fD8) fD9) fD10) fD11) fD12) (by kernel_rfl)) (by kernel_rfl)) (by kernel_rfl)) (by kernel_rfl)) (by kernel_rfl)) (by kernel_rfl)) (by kernel_rfl)) (by kernel_rfl)) (by kernel_rfl)) (by kernel_rfl)) (by kernel_rfl)) (by kernel_rfl)) fA) fB) fC) (by kernel_rfl)) (by kernel_rfl)) (by kernel_rfl)) (by kernel_rfl))
theorem over : Rows.queryBoundsRow.holds Try.pinned (OpenSpec.ofChange Rows.queryBoundsSpec) :=
  OpenClaim.holds_of_wide 6 Try.f6 rfl rfl rfl rfl rfl rfl rfl ⟨rfl, rfl, rfl, rfl, rfl⟩ rfl rfl rfl rfl rfl (by kernel_rfl) Try.func6 closed
    (of_decide_eq_true (by kernel_rfl)) (by unfold Func.isWrapper; first | (rw [if_pos (by decide +kernel)]; kernel_rfl) | (rw [if_neg (by decide +kernel)]; exact ⟨rfl, rfl⟩))
    (fun os started H enc _ => lifted os started H enc)
/-- the statement -/
theorem proved : Rows.QueryBoundsSaid := over
#print axioms proved
end Go.Proofs.Ytidhlagdagbggaa.queryBounds

/- Of two parts of a time the sums, the counts, and the sums by steps add up to those of all, and a query from a cut on tells the same as one with that horizon; under the law's own bounds: at most 40 pieces, texts of at most 400 bytes. -/
import Derived.Test.YtidhlagdagbggaaQueryPartsLift
import Derived.Test.YtidhlagdagbggaaQueryPartsFactA
import Derived.Test.YtidhlagdagbggaaQueryPartsFactB
import Derived.Test.YtidhlagdagbggaaQueryPartsFactC
import Derived.Test.YtidhlagdagbggaaQueryPartsFactD
namespace Go.Proofs.Ytidhlagdagbggaa.queryParts
open Go.ChangeShapes Go.WideShapes Go.ChangeAt Go.RowKit
set_option linter.unusedVariables false
set_option maxRecDepth 100000
theorem andT {a b : Bool} (h : a = true) (k : b = true) : (a && b) = true := by rw [h, k]; rfl
theorem closed : joinedFacts Try.pinned.checked.prog 5 Try.f5 Rows.queryPartsSpec Rows.queryPartsRow = true := by
  unfold joinedFacts
  exact (andT (andT (andT (andT (andT (andT (andT (andT (andT (andT (andT (andT (andT (andT (andT (andT (andT (andT (andT (andT (andT (andT (andT (andT (andT (andT (andT (andT (andT (andT (andT fD0 fD1) fD2) fD3) fD4) fD5) fD6) fD7) fD8) fD9) fD10) fD11) fD12) (by kernel_rfl)) (by kernel_rfl)) (by kernel_rfl)) (by kernel_rfl)) (by kernel_rfl)) (by kernel_rfl)) (by kernel_rfl)) (by kernel_rfl)) (by kernel_rfl)) (by kernel_rfl)) (by kernel_rfl)) (by kernel_rfl)) fA) fB) fC) (by kernel_rfl)) (by kernel_rfl)) (by kernel_rfl)) (by kernel_rfl))
theorem over : Rows.queryPartsRow.holds Try.pinned (OpenSpec.ofChange Rows.queryPartsSpec) :=
  OpenClaim.holds_of_wide 5 Try.f5 rfl rfl rfl rfl rfl rfl rfl ⟨rfl, rfl, rfl, rfl, rfl⟩ rfl rfl rfl rfl rfl (by kernel_rfl) Try.func5 closed
    (of_decide_eq_true (by kernel_rfl)) (by unfold Func.isWrapper; first | (rw [if_pos (by decide +kernel)]; kernel_rfl) | (rw [if_neg (by decide +kernel)]; exact ⟨rfl, rfl⟩))
    (fun os started H enc _ => lifted os started H enc)
/-- the statement -/
theorem proved : Rows.QueryPartsSaid := over
#print axioms proved
end Go.Proofs.Ytidhlagdagbggaa.queryParts

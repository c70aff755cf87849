/- What is told of a query does not hang on the order of the pieces: run over any pieces and over them turned around, it answers with the same rows and the same error; under the law's own bounds: at most 40 pieces, texts of at most 400 bytes. -/
import Derived.Test.YtidhlagdagbggaaQueryOrderLift
import Derived.Test.YtidhlagdagbggaaQueryOrderFactA
import Derived.Test.YtidhlagdagbggaaQueryOrderFactB
import Derived.Test.YtidhlagdagbggaaQueryOrderFactC
import Derived.Test.YtidhlagdagbggaaQueryOrderFactD
namespace Go.Proofs.Ytidhlagdagbggaa.queryOrder
open Go.ChangeShapes Go.WideShapes Go.ChangeAt Go.RowKit
set_option linter.unusedVariables false
set_option maxRecDepth 100000
theorem andT {a b : Bool} (h : a = true) (k : b = true) : (a && b) = true := by rw [h, k]; rfl
theorem closed : joinedFacts Try.pinned.checked.prog 4 Try.f4 Rows.queryOrderSpec Rows.queryOrderRow = true := by
  unfold joinedFacts
  exact (andT (andT (andT (andT (andT (andT (andT (andT (andT (andT (andT (andT (andT (andT (andT (andT (andT (andT (andT (andT (andT (andT (andT (andT (andT (andT (andT (andT (andT (andT (andT fD0 fD1) fD2) fD3) fD4) fD5) fD6) fD7) fD8) fD9) fD10) fD11) fD12) (by kernel_rfl)) (by kernel_rfl)) (by kernel_rfl)) (by kernel_rfl)) (by kernel_rfl)) (by kernel_rfl)) (by kernel_rfl)) (by kernel_rfl)) (by kernel_rfl)) (by kernel_rfl)) (by kernel_rfl)) (by kernel_rfl)) fA) fB) fC) (by kernel_rfl)) (by kernel_rfl)) (by kernel_rfl)) (by kernel_rfl))
theorem over : Rows.queryOrderRow.holds Try.pinned (OpenSpec.ofChange Rows.queryOrderSpec) :=
  OpenClaim.holds_of_wide 4 Try.f4 rfl rfl rfl rfl rfl rfl rfl ⟨rfl, rfl, rfl, rfl, rfl⟩ rfl rfl rfl rfl rfl (by kernel_rfl) Try.func4 closed
    (of_decide_eq_true (by kernel_rfl)) (by unfold Func.isWrapper; first | (rw [if_pos (by decide +kernel)]; kernel_rfl) | (rw [if_neg (by decide +kernel)]; exact ⟨rfl, rfl⟩))
    (fun os started H enc _ => lifted os started H enc)
/-- the statement -/
theorem proved : Rows.QueryOrderSaid := over
#print axioms proved
end Go.Proofs.Ytidhlagdagbggaa.queryOrder

/- Whether any selector chooses any series is what the document says; without questions, and a name, all are chosen; of at most 20 labels, 20 questions, 100 bytes. -/
import Derived.Test.YtcmbgfmbmbgbiaaLabelChoosesLift
import Derived.Test.YtcmbgfmbmbgbiaaLabelChoosesFactA
import Derived.Test.YtcmbgfmbmbgbiaaLabelChoosesFactB
import Derived.Test.YtcmbgfmbmbgbiaaLabelChoosesFactC
import Derived.Test.YtcmbgfmbmbgbiaaLabelChoosesFactD
namespace Go.Proofs.Ytcmbgfmbmbgbiaa.labelChooses
open Go.ChangeShapes Go.WideShapes Go.ChangeAt Go.RowKit
set_option linter.unusedVariables false
set_option maxRecDepth 100000
theorem andT {a b : Bool} (h : a = true) (k : b = true) : (a && b) = true := by rw [h, k]; rfl
theorem closed : joinedFacts Try.pinned.checked.prog 5 Try.f5 Rows.labelChoosesSpec Rows.labelChoosesRow = true := by
  unfold joinedFacts
  exact (andT (andT (andT (andT (andT (andT (andT (andT (andT (andT (andT (andT (andT (andT (andT (andT (andT (andT (andT (andT (andT (andT (andT (andT (andT (andT (andT (andT (andT (andT (andT fD0 fD1) fD2) fD3) fD4) fD5) fD6) fD7) fD8) fD9) fD10) fD11) fD12) (by kernel_rfl)) (by kernel_rfl)) (by kernel_rfl)) (by kernel_rfl)) (by kernel_rfl)) (by kernel_rfl)) (by kernel_rfl)) (by kernel_rfl)) (by kernel_rfl)) (by kernel_rfl)) (by kernel_rfl)) (by kernel_rfl)) fA) fB) fC) (by kernel_rfl)) (by kernel_rfl)) (by kernel_rfl)) (by kernel_rfl))
theorem over : Rows.labelChoosesRow.holds Try.pinned (OpenSpec.ofChange Rows.labelChoosesSpec) :=
  OpenClaim.holds_of_wide 5 Try.f5 rfl rfl rfl rfl rfl rfl rfl ⟨rfl, rfl, rfl, rfl, rfl⟩ rfl rfl rfl rfl rfl (by kernel_rfl) Try.func5 closed
    (of_decide_eq_true (by kernel_rfl)) (by unfold Func.isWrapper; first | (rw [if_pos (by decide +kernel)]; kernel_rfl) | (rw [if_neg (by decide +kernel)]; exact ⟨rfl, rfl⟩))
    (fun os started H enc _ => lifted os started H enc)
/-- the statement -/
theorem proved : Rows.LabelChoosesSaid := over
#print axioms proved
end Go.Proofs.Ytcmbgfmbmbgbiaa.labelChooses

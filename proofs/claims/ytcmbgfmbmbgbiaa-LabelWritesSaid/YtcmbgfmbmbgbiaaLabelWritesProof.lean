/- Which series may be is what the document says; of those the texts are its, and are read as they were; unlike ones have unlike texts; of at most 20 labels, 100 bytes. -/
import Derived.Test.YtcmbgfmbmbgbiaaLabelWritesLift
import Derived.Test.YtcmbgfmbmbgbiaaLabelWritesFactA
import Derived.Test.YtcmbgfmbmbgbiaaLabelWritesFactB
import Derived.Test.YtcmbgfmbmbgbiaaLabelWritesFactC
import Derived.Test.YtcmbgfmbmbgbiaaLabelWritesFactD
namespace Go.Proofs.Ytcmbgfmbmbgbiaa.labelWrites
open Go.ChangeShapes Go.WideShapes Go.ChangeAt Go.RowKit
set_option linter.unusedVariables false
set_option maxRecDepth 100000
theorem andT {a b : Bool} (h : a = true) (k : b = true) : (a && b) = true := by rw [h, k]; rfl
theorem closed : joinedFacts Try.pinned.checked.prog 8 Try.f8 Rows.labelWritesSpec Rows.labelWritesRow = true := by
  unfold joinedFacts
  exact (andT (andT (andT (andT (andT (andT (andT (andT (andT (andT (andT (andT (andT (andT (andT (andT (andT (andT (andT (andT (andT (andT (andT (andT (andT (andT (andT (andT (andT (andT (andT fD0 fD1) fD2) fD3) fD4) fD5) fD6) fD7) fD8) fD9) fD10) fD11) fD12) (by kernel_rfl)) (by kernel_rfl)) (by kernel_rfl)) (by kernel_rfl)) (by kernel_rfl)) (by kernel_rfl)) (by kernel_rfl)) (by kernel_rfl)) (by kernel_rfl)) (by kernel_rfl)) (by kernel_rfl)) (by kernel_rfl)) fA) fB) fC) (by kernel_rfl)) (by kernel_rfl)) (by kernel_rfl)) (by kernel_rfl))
theorem over : Rows.labelWritesRow.holds Try.pinned (OpenSpec.ofChange Rows.labelWritesSpec) :=
  OpenClaim.holds_of_wide 8 Try.f8 rfl rfl rfl rfl rfl rfl rfl ⟨rfl, rfl, rfl, rfl, rfl⟩ rfl rfl rfl rfl rfl (by kernel_rfl) Try.func8 closed
    (of_decide_eq_true (by kernel_rfl)) (by unfold Func.isWrapper; first | (rw [if_pos (by decide +kernel)]; kernel_rfl) | (rw [if_neg (by decide +kernel)]; exact ⟨rfl, rfl⟩))
    (fun os started H enc _ => lifted os started H enc)
/-- the statement -/
theorem proved : Rows.LabelWritesSaid := over
#print axioms proved
end Go.Proofs.Ytcmbgfmbmbgbiaa.labelWrites

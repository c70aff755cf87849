/- No beginning of a note's form is a note's, and no form with a byte behind it; of notes of at most 40 pieces and 80 ids. -/
import Derived.Test.YtcmbgfmbmbgbiaaPackTornLift
import Derived.Test.YtcmbgfmbmbgbiaaPackTornFactA
import Derived.Test.YtcmbgfmbmbgbiaaPackTornFactB
import Derived.Test.YtcmbgfmbmbgbiaaPackTornFactC
import Derived.Test.YtcmbgfmbmbgbiaaPackTornFactD
namespace Go.Proofs.Ytcmbgfmbmbgbiaa.packTorn
open Go.ChangeShapes Go.WideShapes Go.ChangeAt Go.RowKit
set_option linter.unusedVariables false
set_option maxRecDepth 100000
theorem andT {a b : Bool} (h : a = true) (k : b = true) : (a && b) = true := by rw [h, k]; rfl
theorem closed : joinedFacts Try.pinned.checked.prog 7 Try.f7 Rows.packTornSpec Rows.packTornRow = true := by
  unfold joinedFacts
  exact (andT (andT (andT (andT (andT (andT (andT (andT (andT (andT (andT (andT (andT (andT (andT (andT (andT (andT (andT (andT (andT (andT (andT (andT (andT (andT (andT (andT (andT (andT (andT fD0 fD1) fD2) fD3) fD4) fD5) fD6) fD7) fD8) fD9) fD10) fD11) fD12) (by kernel_rfl)) (by kernel_rfl)) (by kernel_rfl)) (by kernel_rfl)) (by kernel_rfl)) (by kernel_rfl)) (by kernel_rfl)) (by kernel_rfl)) (by kernel_rfl)) (by kernel_rfl)) (by kernel_rfl)) (by kernel_rfl)) fA) fB) fC) (by kernel_rfl)) (by kernel_rfl)) (by kernel_rfl)) (by kernel_rfl))
theorem over : Rows.packTornRow.holds Try.pinned (OpenSpec.ofChange Rows.packTornSpec) :=
  OpenClaim.holds_of_wide 7 Try.f7 rfl rfl rfl rfl rfl rfl rfl ⟨rfl, rfl, rfl, rfl, rfl⟩ rfl rfl rfl rfl rfl (by kernel_rfl) Try.func7 closed
    (of_decide_eq_true (by kernel_rfl)) (by unfold Func.isWrapper; first | (rw [if_pos (by decide +kernel)]; kernel_rfl) | (rw [if_neg (by decide +kernel)]; exact ⟨rfl, rfl⟩))
    (fun os started H enc _ => lifted os started H enc)
/-- the statement -/
theorem proved : Rows.PackTornSaid := over
#print axioms proved
end Go.Proofs.Ytcmbgfmbmbgbiaa.packTorn

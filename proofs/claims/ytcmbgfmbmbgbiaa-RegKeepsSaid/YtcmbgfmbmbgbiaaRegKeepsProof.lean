/- The law RegKeeps answers true: a shredded tenant has no keys, epochs rise one by one, horizons never sink, a copy goes on by itself. -/
import Derived.Test.YtcmbgfmbmbgbiaaRegKeepsLift
import Derived.Test.YtcmbgfmbmbgbiaaRegKeepsFactA
import Derived.Test.YtcmbgfmbmbgbiaaRegKeepsFactB
import Derived.Test.YtcmbgfmbmbgbiaaRegKeepsFactC
import Derived.Test.YtcmbgfmbmbgbiaaRegKeepsFactD
namespace Go.Proofs.Ytcmbgfmbmbgbiaa.regKeeps
open Go.ChangeShapes Go.WideShapes Go.ChangeAt Go.RowKit
set_option linter.unusedVariables false
set_option maxRecDepth 100000
theorem andT {a b : Bool} (h : a = true) (k : b = true) : (a && b) = true := by rw [h, k]; rfl
theorem closed : joinedFacts Try.pinned.checked.prog 17 Try.f17 Rows.regKeepsSpec Rows.regKeepsRow = true := by
  unfold joinedFacts
  exact (andT (andT (andT (andT (andT (andT (andT (andT (andT (andT (andT (andT (andT (andT (andT (andT (andT (andT (andT (andT (andT (andT (andT (andT (andT (andT (andT (andT (andT (andT (andT fD0 fD1) fD2) fD3) fD4) fD5) fD6) fD7) fD8) fD9) fD10) fD11) fD12) (by kernel_rfl)) (by kernel_rfl)) (by kernel_rfl)) (by kernel_rfl)) (by kernel_rfl)) (by kernel_rfl)) (by kernel_rfl)) (by kernel_rfl)) (by kernel_rfl)) (by kernel_rfl)) (by kernel_rfl)) (by kernel_rfl)) fA) fB) fC) (by kernel_rfl)) (by kernel_rfl)) (by kernel_rfl)) (by kernel_rfl))
theorem over : Rows.regKeepsRow.holds Try.pinned (OpenSpec.ofChange Rows.regKeepsSpec) :=
  OpenClaim.holds_of_wide 17 Try.f17 rfl rfl rfl rfl rfl rfl rfl ⟨rfl, rfl, rfl, rfl, rfl⟩ rfl rfl rfl rfl rfl (by kernel_rfl) Try.func17 closed
    (of_decide_eq_true (by kernel_rfl)) (by unfold Func.isWrapper; first | (rw [if_pos (by decide +kernel)]; kernel_rfl) | (rw [if_neg (by decide +kernel)]; exact ⟨rfl, rfl⟩))
    (fun os started H enc _ => lifted os started H enc)
/-- the statement -/
theorem proved : Rows.RegKeepsSaid := over
#print axioms proved
end Go.Proofs.Ytcmbgfmbmbgbiaa.regKeeps

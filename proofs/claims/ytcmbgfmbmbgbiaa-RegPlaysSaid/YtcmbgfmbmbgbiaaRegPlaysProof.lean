/- The law RegPlays answers true: whatever commands are applied, each is answered as the document says, and the tenants are its; the registry's form is its, and is read as the registry. -/
import Derived.Test.YtcmbgfmbmbgbiaaRegPlaysLift
import Derived.Test.YtcmbgfmbmbgbiaaRegPlaysFactA
import Derived.Test.YtcmbgfmbmbgbiaaRegPlaysFactB
import Derived.Test.YtcmbgfmbmbgbiaaRegPlaysFactC
import Derived.Test.YtcmbgfmbmbgbiaaRegPlaysFactD
namespace Go.Proofs.Ytcmbgfmbmbgbiaa.regPlays
open Go.ChangeShapes Go.WideShapes Go.ChangeAt Go.RowKit
set_option linter.unusedVariables false
set_option maxRecDepth 100000
theorem andT {a b : Bool} (h : a = true) (k : b = true) : (a && b) = true := by rw [h, k]; rfl
theorem closed : joinedFacts Try.pinned.checked.prog 18 Try.f18 Rows.regPlaysSpec Rows.regPlaysRow = true := by
  unfold joinedFacts
  exact (andT (andT (andT (andT (andT (andT (andT (andT (andT (andT (andT (andT (andT (andT (andT (andT (andT (andT (andT (andT (andT (andT (andT (andT (andT (andT (andT (andT (andT (andT (andT fD0 fD1) fD2) fD3) fD4) fD5) fD6) fD7) fD8) fD9) fD10) fD11) fD12) (by kernel_rfl)) (by kernel_rfl)) (by kernel_rfl)) (by kernel_rfl)) (by kernel_rfl)) (by kernel_rfl)) (by kernel_rfl)) (by kernel_rfl)) (by kernel_rfl)) (by kernel_rfl)) (by kernel_rfl)) (by kernel_rfl)) fA) fB) fC) (by kernel_rfl)) (by kernel_rfl)) (by kernel_rfl)) (by kernel_rfl))
theorem over : Rows.regPlaysRow.holds Try.pinned (OpenSpec.ofChange Rows.regPlaysSpec) :=
  OpenClaim.holds_of_wide 18 Try.f18 rfl rfl rfl rfl rfl rfl rfl ⟨rfl, rfl, rfl, rfl, rfl⟩ rfl rfl rfl rfl rfl (by kernel_rfl) Try.func18 closed
    (of_decide_eq_true (by kernel_rfl)) (by unfold Func.isWrapper; first | (rw [if_pos (by decide +kernel)]; kernel_rfl) | (rw [if_neg (by decide +kernel)]; exact ⟨rfl, rfl⟩))
    (fun os started H enc _ => lifted os started H enc)
/-- the statement -/
theorem proved : Rows.RegPlaysSaid := over
#print axioms proved
end Go.Proofs.Ytcmbgfmbmbgbiaa.regPlays

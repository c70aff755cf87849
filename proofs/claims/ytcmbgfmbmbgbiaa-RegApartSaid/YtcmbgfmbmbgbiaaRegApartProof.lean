/- The law RegApart answers true: commands to two tenants may be applied in either order. -/
import Derived.Test.YtcmbgfmbmbgbiaaRegApartLift
import Derived.Test.YtcmbgfmbmbgbiaaRegApartFactA
import Derived.Test.YtcmbgfmbmbgbiaaRegApartFactB
import Derived.Test.YtcmbgfmbmbgbiaaRegApartFactC
import Derived.Test.YtcmbgfmbmbgbiaaRegApartFactD
namespace Go.Proofs.Ytcmbgfmbmbgbiaa.regApart
open Go.ChangeShapes Go.WideShapes Go.ChangeAt Go.RowKit
set_option linter.unusedVariables false
set_option maxRecDepth 100000
theorem andT {a b : Bool} (h : a = true) (k : b = true) : (a && b) = true := by rw [h, k]; rfl
theorem closed : joinedFacts Try.pinned.checked.prog 16 Try.f16 Rows.regApartSpec Rows.regApartRow = true := by
  unfold joinedFacts
  exact (andT (andT (andT (andT (andT (andT (andT (andT (andT (andT (andT (andT (andT (andT (andT (andT (andT (andT (andT (andT (andT (andT (andT (andT (andT (andT (andT (andT (andT (andT (andT fD0 fD1) fD2) fD3) fD4) fD5) fD6) fD7) fD8) fD9) fD10) fD11) fD12) (by kernel_rfl)) (by kernel_rfl)) (by kernel_rfl)) (by kernel_rfl)) (by kernel_rfl)) (by kernel_rfl)) (by kernel_rfl)) (by kernel_rfl)) (by kernel_rfl)) (by kernel_rfl)) (by kernel_rfl)) (by kernel_rfl)) fA) fB) fC) (by kernel_rfl)) (by kernel_rfl)) (by kernel_rfl)) (by kernel_rfl))
theorem over : Rows.regApartRow.holds Try.pinned (OpenSpec.ofChange Rows.regApartSpec) :=
  OpenClaim.holds_of_wide 16 Try.f16 rfl rfl rfl rfl rfl rfl rfl ⟨rfl, rfl, rfl, rfl, rfl⟩ rfl rfl rfl rfl rfl (by kernel_rfl) Try.func16 closed
    (of_decide_eq_true (by kernel_rfl)) (by unfold Func.isWrapper; first | (rw [if_pos (by decide +kernel)]; kernel_rfl) | (rw [if_neg (by decide +kernel)]; exact ⟨rfl, rfl⟩))
    (fun os started H enc _ => lifted os started H enc)
/-- the statement -/
theorem proved : Rows.RegApartSaid := over
#print axioms proved
end Go.Proofs.Ytcmbgfmbmbgbiaa.regApart

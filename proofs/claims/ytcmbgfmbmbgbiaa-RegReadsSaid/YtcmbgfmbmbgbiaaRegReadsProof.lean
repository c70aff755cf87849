/- The law RegReads answers true: any bytes are read as a registry whose form they are, or refused. -/
import Derived.Test.YtcmbgfmbmbgbiaaRegReadsLift
import Derived.Test.YtcmbgfmbmbgbiaaRegReadsFactA
import Derived.Test.YtcmbgfmbmbgbiaaRegReadsFactB
import Derived.Test.YtcmbgfmbmbgbiaaRegReadsFactC
import Derived.Test.YtcmbgfmbmbgbiaaRegReadsFactD
namespace Go.Proofs.Ytcmbgfmbmbgbiaa.regReads
open Go.ChangeShapes Go.WideShapes Go.ChangeAt Go.RowKit
set_option linter.unusedVariables false
set_option maxRecDepth 100000
theorem andT {a b : Bool} (h : a = true) (k : b = true) : (a && b) = true := by rw [h, k]; rfl
theorem closed : joinedFacts Try.pinned.checked.prog 19 Try.f19 Rows.regReadsSpec Rows.regReadsRow = true := by
  unfold joinedFacts
  exact (andT (andT (andT (andT (andT (andT (andT (andT (andT (andT (andT (andT (andT (andT (andT (andT (andT (andT (andT (andT (andT (andT (andT (andT (andT (andT (andT (andT (andT (andT (andT fD0 fD1) fD2) fD3) fD4) fD5) fD6) fD7) fD8) fD9) fD10) fD11) fD12) (by kernel_rfl)) (by kernel_rfl)) (by kernel_rfl)) (by kernel_rfl)) (by kernel_rfl)) (by kernel_rfl)) (by kernel_rfl)) (by kernel_rfl)) (by kernel_rfl)) (by kernel_rfl)) (by kernel_rfl)) (by kernel_rfl)) fA) fB) fC) (by kernel_rfl)) (by kernel_rfl)) (by kernel_rfl)) (by kernel_rfl))
theorem over : Rows.regReadsRow.holds Try.pinned (OpenSpec.ofChange Rows.regReadsSpec) :=
  OpenClaim.holds_of_wide 19 Try.f19 rfl rfl rfl rfl rfl rfl rfl ⟨rfl, rfl, rfl, rfl, rfl⟩ rfl rfl rfl rfl rfl (by kernel_rfl) Try.func19 closed
    (of_decide_eq_true (by kernel_rfl)) (by unfold Func.isWrapper; first | (rw [if_pos (by decide +kernel)]; kernel_rfl) | (rw [if_neg (by decide +kernel)]; exact ⟨rfl, rfl⟩))
    (fun os started H enc _ => lifted os started H enc)
/-- the statement -/
theorem proved : Rows.RegReadsSaid := over
#print axioms proved
end Go.Proofs.Ytcmbgfmbmbgbiaa.regReads

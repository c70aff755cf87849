/- Whatever is done to a disk, whenever its power goes off and comes back, each call is answered as the document says, and the sectors are its; of at most 50 acts, 300 bytes. -/
import Derived.Test.YtcmbgfmbmbgbiaaDiskPlaysLift
import Derived.Test.YtcmbgfmbmbgbiaaDiskPlaysFactA
import Derived.Test.YtcmbgfmbmbgbiaaDiskPlaysFactB
import Derived.Test.YtcmbgfmbmbgbiaaDiskPlaysFactC
import Derived.Test.YtcmbgfmbmbgbiaaDiskPlaysFactD
namespace Go.Proofs.Ytcmbgfmbmbgbiaa.diskPlays
open Go.ChangeShapes Go.WideShapes Go.ChangeAt Go.RowKit
set_option linter.unusedVariables false
set_option maxRecDepth 100000
theorem andT {a b : Bool} (h : a = true) (k : b = true) : (a && b) = true := by rw [h, k]; rfl
theorem closed : joinedFacts Try.pinned.checked.prog 13 Try.f13 Rows.diskPlaysSpec Rows.diskPlaysRow = true := by
  unfold joinedFacts
  exact (andT (andT (andT (andT (andT (andT (andT (andT (andT (andT (andT (andT (andT (andT (andT (andT (andT (andT (andT (andT (andT (andT (andT (andT (andT (andT (andT (andT (andT (andT (andT fD0 fD1) fD2) fD3) fD4) fD5) fD6) fD7) fD8) fD9) fD10) fD11) fD12) (by kernel_rfl)) (by kernel_rfl)) (by kernel_rfl)) (by kernel_rfl)) (by kernel_rfl)) (by kernel_rfl)) (by kernel_rfl)) (by kernel_rfl)) (by kernel_rfl)) (by kernel_rfl)) (by kernel_rfl)) (by kernel_rfl)) fA) fB) fC) (by kernel_rfl)) (by kernel_rfl)) (by kernel_rfl)) (by kernel_rfl))
theorem over : Rows.diskPlaysRow.holds Try.pinned (OpenSpec.ofChange Rows.diskPlaysSpec) :=
  OpenClaim.holds_of_wide 13 Try.f13 rfl rfl rfl rfl rfl rfl rfl ⟨rfl, rfl, rfl, rfl, rfl⟩ rfl rfl rfl rfl rfl (by kernel_rfl) Try.func13 closed
    (of_decide_eq_true (by kernel_rfl)) (by unfold Func.isWrapper; first | (rw [if_pos (by decide +kernel)]; kernel_rfl) | (rw [if_neg (by decide +kernel)]; exact ⟨rfl, rfl⟩))
    (fun os started H enc _ => lifted os started H enc)
/-- the statement -/
theorem proved : Rows.DiskPlaysSaid := over
#print axioms proved
end Go.Proofs.Ytcmbgfmbmbgbiaa.diskPlays

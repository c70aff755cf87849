/- Closed facts of the program of this seat: reckoned by the kernel. -/
import Derived.Test.YtcmbgfmbmbgbiaaRows
import Derived.WalkKit
import Derived.ProofKit
namespace Go.Proofs.Ytcmbgfmbmbgbiaa.labelChooses
open Go.RowKit
set_option maxRecDepth 100000
theorem fD0 : (Rows.labelChoosesRow.wf (OpenSpec.ofChange Rows.labelChoosesSpec)) = true := by kernel_rfl
theorem fD1 : (laidOutB Try.pinned.checked.prog) = true := by kernel_rfl
theorem fD2 : (mapsRowed Try.pinned.checked.prog) = true := by kernel_rfl
theorem fD3 : (Try.f5.params.all (Try.pinned.checked.prog.readableRec ·)) = true := by kernel_rfl
theorem fD4 : (namedTie Try.pinned.checked.prog Rows.labelChoosesRow.named Rows.labelChoosesSpec.vars) = true := by kernel_rfl
theorem fD5 : (Rows.labelChoosesRow.stops == []) = true := by kernel_rfl
theorem fD6 : (Try.pinned.checked.prog.stops == []) = true := by kernel_rfl
theorem fD7 : (Rows.labelChoosesRow.knobs == []) = true := by kernel_rfl
theorem fD8 : (Try.pinned.checked.prog.stopKnobs == []) = true := by kernel_rfl
theorem fD9 : (Rows.labelChoosesRow.inPlace == Try.pinned.checked.prog.inPlace 5) = true := by kernel_rfl
theorem fD10 : (Rows.labelChoosesRow.unfollowed == Try.pinned.checked.prog.unfollowed 5) = true := by kernel_rfl
theorem fD11 : (Rows.labelChoosesRow.recurses == Try.pinned.checked.prog.recurses 5) = true := by kernel_rfl
theorem fD12 : (Rows.labelChoosesRow.named == Try.pinned.checked.prog.varsNamed 5) = true := by kernel_rfl
end Go.Proofs.Ytcmbgfmbmbgbiaa.labelChooses

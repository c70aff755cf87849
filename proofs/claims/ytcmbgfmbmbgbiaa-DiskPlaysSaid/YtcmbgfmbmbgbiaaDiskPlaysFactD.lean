/- Closed facts of the program of this seat: reckoned by the kernel. -/
import Derived.Test.YtcmbgfmbmbgbiaaRows
import Derived.WalkKit
import Derived.ProofKit
namespace Go.Proofs.Ytcmbgfmbmbgbiaa.diskPlays
open Go.RowKit
set_option maxRecDepth 100000
theorem fD0 : (Rows.diskPlaysRow.wf (OpenSpec.ofChange Rows.diskPlaysSpec)) = true := by kernel_rfl
theorem fD1 : (laidOutB Try.pinned.checked.prog) = true := by kernel_rfl
theorem fD2 : (mapsRowed Try.pinned.checked.prog) = true := by kernel_rfl
theorem fD3 : (Try.f13.params.all (Try.pinned.checked.prog.readableRec ·)) = true := by kernel_rfl
theorem fD4 : (namedTie Try.pinned.checked.prog Rows.diskPlaysRow.named Rows.diskPlaysSpec.vars) = true := by kernel_rfl
theorem fD5 : (Rows.diskPlaysRow.stops == []) = true := by kernel_rfl
theorem fD6 : (Try.pinned.checked.prog.stops == []) = true := by kernel_rfl
theorem fD7 : (Rows.diskPlaysRow.knobs == []) = true := by kernel_rfl
theorem fD8 : (Try.pinned.checked.prog.stopKnobs == []) = true := by kernel_rfl
theorem fD9 : (Rows.diskPlaysRow.inPlace == Try.pinned.checked.prog.inPlace 13) = true := by kernel_rfl
theorem fD10 : (Rows.diskPlaysRow.unfollowed == Try.pinned.checked.prog.unfollowed 13) = true := by kernel_rfl
theorem fD11 : (Rows.diskPlaysRow.recurses == Try.pinned.checked.prog.recurses 13) = true := by kernel_rfl
theorem fD12 : (Rows.diskPlaysRow.named == Try.pinned.checked.prog.varsNamed 13) = true := by kernel_rfl
end Go.Proofs.Ytcmbgfmbmbgbiaa.diskPlays

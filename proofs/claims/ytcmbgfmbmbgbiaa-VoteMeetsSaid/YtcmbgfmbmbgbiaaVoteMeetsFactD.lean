/- Closed facts of the program of this seat: reckoned by the kernel. -/
import Derived.Test.YtcmbgfmbmbgbiaaRows
import Derived.WalkKit
import Derived.ProofKit
namespace Go.Proofs.Ytcmbgfmbmbgbiaa.voteMeets
open Go.RowKit
set_option maxRecDepth 100000
theorem fD0 : (Rows.voteMeetsRow.wf (OpenSpec.ofChange Rows.voteMeetsSpec)) = true := by kernel_rfl
theorem fD1 : (laidOutB Try.pinned.checked.prog) = true := by kernel_rfl
theorem fD2 : (mapsRowed Try.pinned.checked.prog) = true := by kernel_rfl
theorem fD3 : (Try.f11.params.all (Try.pinned.checked.prog.readableRec ·)) = true := by kernel_rfl
theorem fD4 : (namedTie Try.pinned.checked.prog Rows.voteMeetsRow.named Rows.voteMeetsSpec.vars) = true := by kernel_rfl
theorem fD5 : (Rows.voteMeetsRow.stops == []) = true := by kernel_rfl
theorem fD6 : (Try.pinned.checked.prog.stops == []) = true := by kernel_rfl
theorem fD7 : (Rows.voteMeetsRow.knobs == []) = true := by kernel_rfl
theorem fD8 : (Try.pinned.checked.prog.stopKnobs == []) = true := by kernel_rfl
theorem fD9 : (Rows.voteMeetsRow.inPlace == Try.pinned.checked.prog.inPlace 11) = true := by kernel_rfl
theorem fD10 : (Rows.voteMeetsRow.unfollowed == Try.pinned.checked.prog.unfollowed 11) = true := by kernel_rfl
theorem fD11 : (Rows.voteMeetsRow.recurses == Try.pinned.checked.prog.recurses 11) = true := by kernel_rfl
theorem fD12 : (Rows.voteMeetsRow.named == Try.pinned.checked.prog.varsNamed 11) = true := by kernel_rfl
end Go.Proofs.Ytcmbgfmbmbgbiaa.voteMeets

/- Closed facts of the program of this seat: reckoned by the kernel. -/
import Derived.Test.YtcmbgfmbmbgbiaaRows
import Derived.WalkKit
import Derived.ProofKit
namespace Go.Proofs.Ytcmbgfmbmbgbiaa.diskCopy
open Go.RowKit
set_option maxRecDepth 100000
theorem fD0 : (Rows.diskCopyRow.wf (OpenSpec.ofChange Rows.diskCopySpec)) = true := by kernel_rfl
theorem fD1 : (laidOutB Try.pinned.checked.prog) = true := by kernel_rfl
theorem fD2 : (mapsRowed Try.pinned.checked.prog) = true := by kernel_rfl
theorem fD3 : (Try.f14.params.all (Try.pinned.checked.prog.readableRec ·)) = true := by kernel_rfl
theorem fD4 : (namedTie Try.pinned.checked.prog Rows.diskCopyRow.named Rows.diskCopySpec.vars) = true := by kernel_rfl
theorem fD5 : (Rows.diskCopyRow.stops == []) = true := by kernel_rfl
theorem fD6 : (Try.pinned.checked.prog.stops == []) = true := by kernel_rfl
theorem fD7 : (Rows.diskCopyRow.knobs == []) = true := by kernel_rfl
theorem fD8 : (Try.pinned.checked.prog.stopKnobs == []) = true := by kernel_rfl
theorem fD9 : (Rows.diskCopyRow.inPlace == Try.pinned.checked.prog.inPlace 14) = true := by kernel_rfl
theorem fD10 : (Rows.diskCopyRow.unfollowed == Try.pinned.checked.prog.unfollowed 14) = true := by kernel_rfl
theorem fD11 : (Rows.diskCopyRow.recurses == Try.pinned.checked.prog.recurses 14) = true := by kernel_rfl
theorem fD12 : (Rows.diskCopyRow.named == Try.pinned.checked.prog.varsNamed 14) = true := by kernel_rfl
end Go.Proofs.Ytcmbgfmbmbgbiaa.diskCopy

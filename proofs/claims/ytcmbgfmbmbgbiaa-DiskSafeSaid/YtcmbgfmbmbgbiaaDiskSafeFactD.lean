/- Closed facts of the program of this seat: reckoned by the kernel. -/
import Derived.Test.YtcmbgfmbmbgbiaaRows
import Derived.WalkKit
import Derived.ProofKit
namespace Go.Proofs.Ytcmbgfmbmbgbiaa.diskSafe
open Go.RowKit
set_option maxRecDepth 100000
theorem fD0 : (Rows.diskSafeRow.wf (OpenSpec.ofChange Rows.diskSafeSpec)) = true := by kernel_rfl
theorem fD1 : (laidOutB Try.pinned.checked.prog) = true := by kernel_rfl
theorem fD2 : (mapsRowed Try.pinned.checked.prog) = true := by kernel_rfl
theorem fD3 : (Try.f12.params.all (Try.pinned.checked.prog.readableRec ·)) = true := by kernel_rfl
theorem fD4 : (namedTie Try.pinned.checked.prog Rows.diskSafeRow.named Rows.diskSafeSpec.vars) = true := by kernel_rfl
theorem fD5 : (Rows.diskSafeRow.stops == []) = true := by kernel_rfl
theorem fD6 : (Try.pinned.checked.prog.stops == []) = true := by kernel_rfl
theorem fD7 : (Rows.diskSafeRow.knobs == []) = true := by kernel_rfl
theorem fD8 : (Try.pinned.checked.prog.stopKnobs == []) = true := by kernel_rfl
theorem fD9 : (Rows.diskSafeRow.inPlace == Try.pinned.checked.prog.inPlace 12) = true := by kernel_rfl
theorem fD10 : (Rows.diskSafeRow.unfollowed == Try.pinned.checked.prog.unfollowed 12) = true := by kernel_rfl
theorem fD11 : (Rows.diskSafeRow.recurses == Try.pinned.checked.prog.recurses 12) = true := by kernel_rfl
theorem fD12 : (Rows.diskSafeRow.named == Try.pinned.checked.prog.varsNamed 12) = true := by kernel_rfl
end Go.Proofs.Ytcmbgfmbmbgbiaa.diskSafe

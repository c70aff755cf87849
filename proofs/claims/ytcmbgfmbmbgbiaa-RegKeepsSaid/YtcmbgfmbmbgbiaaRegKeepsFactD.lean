/- Closed facts of the program of this seat: reckoned by the kernel. -/
import Derived.Test.YtcmbgfmbmbgbiaaRows
import Derived.WalkKit
import Derived.ProofKit
namespace Go.Proofs.Ytcmbgfmbmbgbiaa.regKeeps
open Go.RowKit
set_option maxRecDepth 100000
theorem fD0 : (Rows.regKeepsRow.wf (OpenSpec.ofChange Rows.regKeepsSpec)) = true := by kernel_rfl
theorem fD1 : (laidOutB Try.pinned.checked.prog) = true := by kernel_rfl
theorem fD2 : (mapsRowed Try.pinned.checked.prog) = true := by kernel_rfl
theorem fD3 : (Try.f17.params.all (Try.pinned.checked.prog.readableRec ·)) = true := by kernel_rfl
theorem fD4 : (namedTie Try.pinned.checked.prog Rows.regKeepsRow.named Rows.regKeepsSpec.vars) = true := by kernel_rfl
theorem fD5 : (Rows.regKeepsRow.stops == []) = true := by kernel_rfl
theorem fD6 : (Try.pinned.checked.prog.stops == []) = true := by kernel_rfl
theorem fD7 : (Rows.regKeepsRow.knobs == []) = true := by kernel_rfl
theorem fD8 : (Try.pinned.checked.prog.stopKnobs == []) = true := by kernel_rfl
theorem fD9 : (Rows.regKeepsRow.inPlace == Try.pinned.checked.prog.inPlace 17) = true := by kernel_rfl
theorem fD10 : (Rows.regKeepsRow.unfollowed == Try.pinned.checked.prog.unfollowed 17) = true := by kernel_rfl
theorem fD11 : (Rows.regKeepsRow.recurses == Try.pinned.checked.prog.recurses 17) = true := by kernel_rfl
theorem fD12 : (Rows.regKeepsRow.named == Try.pinned.checked.prog.varsNamed 17) = true := by kernel_rfl
end Go.Proofs.Ytcmbgfmbmbgbiaa.regKeeps

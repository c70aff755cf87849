/- Closed facts of the program of this seat: reckoned by the kernel. -/
import Derived.Test.YtcmbgfmbmbgbiaaRows
import Derived.WalkKit
import Derived.ProofKit
namespace Go.Proofs.Ytcmbgfmbmbgbiaa.labelWrites
open Go.RowKit
set_option maxRecDepth 100000
theorem fD0 : (Rows.labelWritesRow.wf (OpenSpec.ofChange Rows.labelWritesSpec)) = true := by kernel_rfl
theorem fD1 : (laidOutB Try.pinned.checked.prog) = true := by kernel_rfl
theorem fD2 : (mapsRowed Try.pinned.checked.prog) = true := by kernel_rfl
theorem fD3 : (Try.f8.params.all (Try.pinned.checked.prog.readableRec ·)) = true := by kernel_rfl
theorem fD4 : (namedTie Try.pinned.checked.prog Rows.labelWritesRow.named Rows.labelWritesSpec.vars) = true := by kernel_rfl
theorem fD5 : (Rows.labelWritesRow.stops == []) = true := by kernel_rfl
theorem fD6 : (Try.pinned.checked.prog.stops == []) = true := by kernel_rfl
theorem fD7 : (Rows.labelWritesRow.knobs == []) = true := by kernel_rfl
theorem fD8 : (Try.pinned.checked.prog.stopKnobs == []) = true := by kernel_rfl
theorem fD9 : (Rows.labelWritesRow.inPlace == Try.pinned.checked.prog.inPlace 8) = true := by kernel_rfl
theorem fD10 : (Rows.labelWritesRow.unfollowed == Try.pinned.checked.prog.unfollowed 8) = true := by kernel_rfl
theorem fD11 : (Rows.labelWritesRow.recurses == Try.pinned.checked.prog.recurses 8) = true := by kernel_rfl
theorem fD12 : (Rows.labelWritesRow.named == Try.pinned.checked.prog.varsNamed 8) = true := by kernel_rfl
end Go.Proofs.Ytcmbgfmbmbgbiaa.labelWrites

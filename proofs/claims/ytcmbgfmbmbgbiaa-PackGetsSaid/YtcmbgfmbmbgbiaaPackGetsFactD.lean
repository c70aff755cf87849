/- Closed facts of the program of this seat: reckoned by the kernel. -/
import Derived.Test.YtcmbgfmbmbgbiaaRows
import Derived.WalkKit
import Derived.ProofKit
namespace Go.Proofs.Ytcmbgfmbmbgbiaa.packGets
open Go.RowKit
set_option maxRecDepth 100000
theorem fD0 : (Rows.packGetsRow.wf (OpenSpec.ofChange Rows.packGetsSpec)) = true := by kernel_rfl
theorem fD1 : (laidOutB Try.pinned.checked.prog) = true := by kernel_rfl
theorem fD2 : (mapsRowed Try.pinned.checked.prog) = true := by kernel_rfl
theorem fD3 : (Try.f6.params.all (Try.pinned.checked.prog.readableRec ·)) = true := by kernel_rfl
theorem fD4 : (namedTie Try.pinned.checked.prog Rows.packGetsRow.named Rows.packGetsSpec.vars) = true := by kernel_rfl
theorem fD5 : (Rows.packGetsRow.stops == []) = true := by kernel_rfl
theorem fD6 : (Try.pinned.checked.prog.stops == []) = true := by kernel_rfl
theorem fD7 : (Rows.packGetsRow.knobs == []) = true := by kernel_rfl
theorem fD8 : (Try.pinned.checked.prog.stopKnobs == []) = true := by kernel_rfl
theorem fD9 : (Rows.packGetsRow.inPlace == Try.pinned.checked.prog.inPlace 6) = true := by kernel_rfl
theorem fD10 : (Rows.packGetsRow.unfollowed == Try.pinned.checked.prog.unfollowed 6) = true := by kernel_rfl
theorem fD11 : (Rows.packGetsRow.recurses == Try.pinned.checked.prog.recurses 6) = true := by kernel_rfl
theorem fD12 : (Rows.packGetsRow.named == Try.pinned.checked.prog.varsNamed 6) = true := by kernel_rfl
end Go.Proofs.Ytcmbgfmbmbgbiaa.packGets

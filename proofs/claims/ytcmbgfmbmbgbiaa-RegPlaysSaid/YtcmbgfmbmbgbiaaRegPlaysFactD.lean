/- Closed facts of the program of this seat: reckoned by the kernel. -/
import Derived.Test.YtcmbgfmbmbgbiaaRows
import Derived.WalkKit
import Derived.ProofKit
namespace Go.Proofs.Ytcmbgfmbmbgbiaa.regPlays
open Go.RowKit
set_option maxRecDepth 100000
theorem fD0 : (Rows.regPlaysRow.wf (OpenSpec.ofChange Rows.regPlaysSpec)) = true := by kernel_rfl
theorem fD1 : (laidOutB Try.pinned.checked.prog) = true := by kernel_rfl
theorem fD2 : (mapsRowed Try.pinned.checked.prog) = true := by kernel_rfl
theorem fD3 : (Try.f18.params.all (Try.pinned.checked.prog.readableRec ·)) = true := by kernel_rfl
theorem fD4 : (namedTie Try.pinned.checked.prog Rows.regPlaysRow.named Rows.regPlaysSpec.vars) = true := by kernel_rfl
theorem fD5 : (Rows.regPlaysRow.stops == []) = true := by kernel_rfl
theorem fD6 : (Try.pinned.checked.prog.stops == []) = true := by kernel_rfl
theorem fD7 : (Rows.regPlaysRow.knobs == []) = true := by kernel_rfl
theorem fD8 : (Try.pinned.checked.prog.stopKnobs == []) = true := by kernel_rfl
theorem fD9 : (Rows.regPlaysRow.inPlace == Try.pinned.checked.prog.inPlace 18) = true := by kernel_rfl
theorem fD10 : (Rows.regPlaysRow.unfollowed == Try.pinned.checked.prog.unfollowed 18) = true := by kernel_rfl
theorem fD11 : (Rows.regPlaysRow.recurses == Try.pinned.checked.prog.recurses 18) = true := by kernel_rfl
theorem fD12 : (Rows.regPlaysRow.named == Try.pinned.checked.prog.varsNamed 18) = true := by kernel_rfl
end Go.Proofs.Ytcmbgfmbmbgbiaa.regPlays

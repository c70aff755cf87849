/- Closed facts of the program of this seat: reckoned by the kernel. -/
import Derived.Test.YtcmbgfmbmbgbiaaRows
import Derived.WalkKit
import Derived.ProofKit
namespace Go.Proofs.Ytcmbgfmbmbgbiaa.diskNil
open Go.RowKit
set_option maxRecDepth 100000
theorem fD0 : (Rows.diskNilRow.wf (OpenSpec.ofChange Rows.diskNilSpec)) = true := by kernel_rfl
theorem fD1 : (laidOutB Try.pinned.checked.prog) = true := by kernel_rfl
theorem fD2 : (mapsRowed Try.pinned.checked.prog) = true := by kernel_rfl
theorem fD3 : (Try.f15.params.all (Try.pinned.checked.prog.readableRec ·)) = true := by kernel_rfl
theorem fD4 : (namedTie Try.pinned.checked.prog Rows.diskNilRow.named Rows.diskNilSpec.vars) = true := by kernel_rfl
theorem fD5 : (Rows.diskNilRow.stops == []) = true := by kernel_rfl
theorem fD6 : (Try.pinned.checked.prog.stops == []) = true := by kernel_rfl
theorem fD7 : (Rows.diskNilRow.knobs == []) = true := by kernel_rfl
theorem fD8 : (Try.pinned.checked.prog.stopKnobs == []) = true := by kernel_rfl
theorem fD9 : (Rows.diskNilRow.inPlace == Try.pinned.checked.prog.inPlace 15) = true := by kernel_rfl
theorem fD10 : (Rows.diskNilRow.unfollowed == Try.pinned.checked.prog.unfollowed 15) = true := by kernel_rfl
theorem fD11 : (Rows.diskNilRow.recurses == Try.pinned.checked.prog.recurses 15) = true := by kernel_rfl
theorem fD12 : (Rows.diskNilRow.named == Try.pinned.checked.prog.varsNamed 15) = true := by kernel_rfl
end Go.Proofs.Ytcmbgfmbmbgbiaa.diskNil

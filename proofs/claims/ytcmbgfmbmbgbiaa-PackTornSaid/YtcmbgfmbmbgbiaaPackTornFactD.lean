/- Closed facts of the program of this seat: reckoned by the kernel. -/
import Derived.Test.YtcmbgfmbmbgbiaaRows
import Derived.WalkKit
import Derived.ProofKit
namespace Go.Proofs.Ytcmbgfmbmbgbiaa.packTorn
open Go.RowKit
set_option maxRecDepth 100000
theorem fD0 : (Rows.packTornRow.wf (OpenSpec.ofChange Rows.packTornSpec)) = true := by kernel_rfl
theorem fD1 : (laidOutB Try.pinned.checked.prog) = true := by kernel_rfl
theorem fD2 : (mapsRowed Try.pinned.checked.prog) = true := by kernel_rfl
theorem fD3 : (Try.f7.params.all (Try.pinned.checked.prog.readableRec ·)) = true := by kernel_rfl
theorem fD4 : (namedTie Try.pinned.checked.prog Rows.packTornRow.named Rows.packTornSpec.vars) = true := by kernel_rfl
theorem fD5 : (Rows.packTornRow.stops == []) = true := by kernel_rfl
theorem fD6 : (Try.pinned.checked.prog.stops == []) = true := by kernel_rfl
theorem fD7 : (Rows.packTornRow.knobs == []) = true := by kernel_rfl
theorem fD8 : (Try.pinned.checked.prog.stopKnobs == []) = true := by kernel_rfl
theorem fD9 : (Rows.packTornRow.inPlace == Try.pinned.checked.prog.inPlace 7) = true := by kernel_rfl
theorem fD10 : (Rows.packTornRow.unfollowed == Try.pinned.checked.prog.unfollowed 7) = true := by kernel_rfl
theorem fD11 : (Rows.packTornRow.recurses == Try.pinned.checked.prog.recurses 7) = true := by kernel_rfl
theorem fD12 : (Rows.packTornRow.named == Try.pinned.checked.prog.varsNamed 7) = true := by kernel_rfl
end Go.Proofs.Ytcmbgfmbmbgbiaa.packTorn

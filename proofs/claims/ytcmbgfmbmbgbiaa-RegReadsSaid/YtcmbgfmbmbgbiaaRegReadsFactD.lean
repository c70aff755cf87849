/- Closed facts of the program of this seat: reckoned by the kernel. -/
import Derived.Test.YtcmbgfmbmbgbiaaRows
import Derived.WalkKit
import Derived.ProofKit
namespace Go.Proofs.Ytcmbgfmbmbgbiaa.regReads
open Go.RowKit
set_option maxRecDepth 100000
theorem fD0 : (Rows.regReadsRow.wf (OpenSpec.ofChange Rows.regReadsSpec)) = true := by kernel_rfl
theorem fD1 : (laidOutB Try.pinned.checked.prog) = true := by kernel_rfl
theorem fD2 : (mapsRowed Try.pinned.checked.prog) = true := by kernel_rfl
theorem fD3 : (Try.f19.params.all (Try.pinned.checked.prog.readableRec ·)) = true := by kernel_rfl
theorem fD4 : (namedTie Try.pinned.checked.prog Rows.regReadsRow.named Rows.regReadsSpec.vars) = true := by kernel_rfl
theorem fD5 : (Rows.regReadsRow.stops == []) = true := by kernel_rfl
theorem fD6 : (Try.pinned.checked.prog.stops == []) = true := by kernel_rfl
theorem fD7 : (Rows.regReadsRow.knobs == []) = true := by kernel_rfl
theorem fD8 : (Try.pinned.checked.prog.stopKnobs == []) = true := by kernel_rfl
theorem fD9 : (Rows.regReadsRow.inPlace == Try.pinned.checked.prog.inPlace 19) = true := by kernel_rfl
theorem fD10 : (Rows.regReadsRow.unfollowed == Try.pinned.checked.prog.unfollowed 19) = true := by kernel_rfl
theorem fD11 : (Rows.regReadsRow.recurses == Try.pinned.checked.prog.recurses 19) = true := by kernel_rfl
theorem fD12 : (Rows.regReadsRow.named == Try.pinned.checked.prog.varsNamed 19) = true := by kernel_rfl
end Go.Proofs.Ytcmbgfmbmbgbiaa.regReads

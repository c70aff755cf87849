/- Closed facts of the program of this seat: reckoned by the kernel. -/
import Derived.Test.YtcmbgfmbmbgbiaaRows
import Derived.WalkKit
import Derived.ProofKit
namespace Go.Proofs.Ytcmbgfmbmbgbiaa.voteCounts
open Go.RowKit
set_option maxRecDepth 100000
theorem fD0 : (Rows.voteCountsRow.wf (OpenSpec.ofChange Rows.voteCountsSpec)) = true := by kernel_rfl
theorem fD1 : (laidOutB Try.pinned.checked.prog) = true := by kernel_rfl
theorem fD2 : (mapsRowed Try.pinned.checked.prog) = true := by kernel_rfl
theorem fD3 : (Try.f10.params.all (Try.pinned.checked.prog.readableRec ·)) = true := by kernel_rfl
theorem fD4 : (namedTie Try.pinned.checked.prog Rows.voteCountsRow.named Rows.voteCountsSpec.vars) = true := by kernel_rfl
theorem fD5 : (Rows.voteCountsRow.stops == []) = true := by kernel_rfl
theorem fD6 : (Try.pinned.checked.prog.stops == []) = true := by kernel_rfl
theorem fD7 : (Rows.voteCountsRow.knobs == []) = true := by kernel_rfl
theorem fD8 : (Try.pinned.checked.prog.stopKnobs == []) = true := by kernel_rfl
theorem fD9 : (Rows.voteCountsRow.inPlace == Try.pinned.checked.prog.inPlace 10) = true := by kernel_rfl
theorem fD10 : (Rows.voteCountsRow.unfollowed == Try.pinned.checked.prog.unfollowed 10) = true := by kernel_rfl
theorem fD11 : (Rows.voteCountsRow.recurses == Try.pinned.checked.prog.recurses 10) = true := by kernel_rfl
theorem fD12 : (Rows.voteCountsRow.named == Try.pinned.checked.prog.varsNamed 10) = true := by kernel_rfl
end Go.Proofs.Ytcmbgfmbmbgbiaa.voteCounts

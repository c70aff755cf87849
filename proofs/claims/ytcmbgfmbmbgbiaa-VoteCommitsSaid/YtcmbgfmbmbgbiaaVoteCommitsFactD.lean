/- Closed facts of the program of this seat: reckoned by the kernel. -/
import Derived.Test.YtcmbgfmbmbgbiaaRows
import Derived.WalkKit
import Derived.ProofKit
namespace Go.Proofs.Ytcmbgfmbmbgbiaa.voteCommits
open Go.RowKit
set_option maxRecDepth 100000
theorem fD0 : (Rows.voteCommitsRow.wf (OpenSpec.ofChange Rows.voteCommitsSpec)) = true := by kernel_rfl
theorem fD1 : (laidOutB Try.pinned.checked.prog) = true := by kernel_rfl
theorem fD2 : (mapsRowed Try.pinned.checked.prog) = true := by kernel_rfl
theorem fD3 : (Try.f9.params.all (Try.pinned.checked.prog.readableRec ·)) = true := by kernel_rfl
theorem fD4 : (namedTie Try.pinned.checked.prog Rows.voteCommitsRow.named Rows.voteCommitsSpec.vars) = true := by kernel_rfl
theorem fD5 : (Rows.voteCommitsRow.stops == []) = true := by kernel_rfl
theorem fD6 : (Try.pinned.checked.prog.stops == []) = true := by kernel_rfl
theorem fD7 : (Rows.voteCommitsRow.knobs == []) = true := by kernel_rfl
theorem fD8 : (Try.pinned.checked.prog.stopKnobs == []) = true := by kernel_rfl
theorem fD9 : (Rows.voteCommitsRow.inPlace == Try.pinned.checked.prog.inPlace 9) = true := by kernel_rfl
theorem fD10 : (Rows.voteCommitsRow.unfollowed == Try.pinned.checked.prog.unfollowed 9) = true := by kernel_rfl
theorem fD11 : (Rows.voteCommitsRow.recurses == Try.pinned.checked.prog.recurses 9) = true := by kernel_rfl
theorem fD12 : (Rows.voteCommitsRow.named == Try.pinned.checked.prog.varsNamed 9) = true := by kernel_rfl
end Go.Proofs.Ytcmbgfmbmbgbiaa.voteCommits

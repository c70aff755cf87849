/- Closed facts of the program of this seat: reckoned by the kernel. -/
import Derived.Test.YthjafnfadiijgaaRows
import Derived.WalkKit
import Derived.ProofKit
namespace Go.Proofs.Ythjafnfadiijgaa.raftSafe
open Go.RowKit
set_option maxRecDepth 100000
theorem fD0 : (Rows.raftSafeRow.wf (OpenSpec.ofChange Rows.raftSafeSpec)) = true := by kernel_rfl
theorem fD1 : (laidOutB Try.pinned.checked.prog) = true := by kernel_rfl
theorem fD2 : (mapsRowed Try.pinned.checked.prog) = true := by kernel_rfl
theorem fD3 : (Try.f6.params.all (Try.pinned.checked.prog.readableRec ·)) = true := by kernel_rfl
theorem fD4 : (namedTie Try.pinned.checked.prog Rows.raftSafeRow.named Rows.raftSafeSpec.vars) = true := by kernel_rfl
theorem fD5 : (Rows.raftSafeRow.stops == []) = true := by kernel_rfl
theorem fD6 : (Try.pinned.checked.prog.stops == []) = true := by kernel_rfl
theorem fD7 : (Rows.raftSafeRow.knobs == []) = true := by kernel_rfl
theorem fD8 : (Try.pinned.checked.prog.stopKnobs == []) = true := by kernel_rfl
theorem fD9 : (Rows.raftSafeRow.inPlace == Try.pinned.checked.prog.inPlace 6) = true := by kernel_rfl
theorem fD10 : (Rows.raftSafeRow.unfollowed == Try.pinned.checked.prog.unfollowed 6) = true := by kernel_rfl
theorem fD11 : (Rows.raftSafeRow.recurses == Try.pinned.checked.prog.recurses 6) = true := by kernel_rfl
theorem fD12 : (Rows.raftSafeRow.named == Try.pinned.checked.prog.varsNamed 6) = true := by kernel_rfl
end Go.Proofs.Ythjafnfadiijgaa.raftSafe

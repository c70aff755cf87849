/- Closed facts of the program of this seat: reckoned by the kernel. -/
import Derived.Test.YthjafnfadiijgaaRows
import Derived.WalkKit
import Derived.ProofKit
namespace Go.Proofs.Ythjafnfadiijgaa.raftLives
open Go.RowKit
set_option maxRecDepth 100000
theorem fD0 : (Rows.raftLivesRow.wf (OpenSpec.ofChange Rows.raftLivesSpec)) = true := by kernel_rfl
theorem fD1 : (laidOutB Try.pinned.checked.prog) = true := by kernel_rfl
theorem fD2 : (mapsRowed Try.pinned.checked.prog) = true := by kernel_rfl
theorem fD3 : (Try.f5.params.all (Try.pinned.checked.prog.readableRec ·)) = true := by kernel_rfl
theorem fD4 : (namedTie Try.pinned.checked.prog Rows.raftLivesRow.named Rows.raftLivesSpec.vars) = true := by kernel_rfl
theorem fD5 : (Rows.raftLivesRow.stops == []) = true := by kernel_rfl
theorem fD6 : (Try.pinned.checked.prog.stops == []) = true := by kernel_rfl
theorem fD7 : (Rows.raftLivesRow.knobs == []) = true := by kernel_rfl
theorem fD8 : (Try.pinned.checked.prog.stopKnobs == []) = true := by kernel_rfl
theorem fD9 : (Rows.raftLivesRow.inPlace == Try.pinned.checked.prog.inPlace 5) = true := by kernel_rfl
theorem fD10 : (Rows.raftLivesRow.unfollowed == Try.pinned.checked.prog.unfollowed 5) = true := by kernel_rfl
theorem fD11 : (Rows.raftLivesRow.recurses == Try.pinned.checked.prog.recurses 5) = true := by kernel_rfl
theorem fD12 : (Rows.raftLivesRow.named == Try.pinned.checked.prog.varsNamed 5) = true := by kernel_rfl
end Go.Proofs.Ythjafnfadiijgaa.raftLives

/- Closed facts of the program of this seat: reckoned by the kernel. -/
import Derived.Test.YtgbbpanapnkdbaaGreatRows
import Derived.WalkKit
import Derived.ProofKit
namespace Go.Proofs.YtgbbpanapnkdbaaGreat.quorumPlays
open Go.RowKit
set_option maxRecDepth 100000
theorem fD0 : (Rows.quorumPlaysRow.wf (OpenSpec.ofChange Rows.quorumPlaysSpec)) = true := by kernel_rfl
theorem fD1 : (laidOutB Tryz.pinned.checked.prog) = true := by kernel_rfl
theorem fD2 : (mapsRowed Tryz.pinned.checked.prog) = true := by kernel_rfl
theorem fD3 : (Tryz.f4.params.all (Tryz.pinned.checked.prog.readableRec ·)) = true := by kernel_rfl
theorem fD4 : (namedTie Tryz.pinned.checked.prog Rows.quorumPlaysRow.named Rows.quorumPlaysSpec.vars) = true := by kernel_rfl
theorem fD5 : (Rows.quorumPlaysRow.stops == []) = true := by kernel_rfl
theorem fD6 : (Tryz.pinned.checked.prog.stops == []) = true := by kernel_rfl
theorem fD7 : (Rows.quorumPlaysRow.knobs == []) = true := by kernel_rfl
theorem fD8 : (Tryz.pinned.checked.prog.stopKnobs == []) = true := by kernel_rfl
theorem fD9 : (Rows.quorumPlaysRow.inPlace == Tryz.pinned.checked.prog.inPlace 4) = true := by kernel_rfl
theorem fD10 : (Rows.quorumPlaysRow.unfollowed == Tryz.pinned.checked.prog.unfollowed 4) = true := by kernel_rfl
theorem fD11 : (Rows.quorumPlaysRow.recurses == Tryz.pinned.checked.prog.recurses 4) = true := by kernel_rfl
theorem fD12 : (Rows.quorumPlaysRow.named == Tryz.pinned.checked.prog.varsNamed 4) = true := by kernel_rfl
end Go.Proofs.YtgbbpanapnkdbaaGreat.quorumPlays

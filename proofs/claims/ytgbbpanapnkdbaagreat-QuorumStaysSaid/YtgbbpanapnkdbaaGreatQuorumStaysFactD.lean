/- Closed facts of the program of this seat: reckoned by the kernel. -/
import Derived.Test.YtgbbpanapnkdbaaGreatRows
import Derived.WalkKit
import Derived.ProofKit
namespace Go.Proofs.YtgbbpanapnkdbaaGreat.quorumStays
open Go.RowKit
set_option maxRecDepth 100000
theorem fD0 : (Rows.quorumStaysRow.wf (OpenSpec.ofChange Rows.quorumStaysSpec)) = true := by kernel_rfl
theorem fD1 : (laidOutB Tryz.pinned.checked.prog) = true := by kernel_rfl
theorem fD2 : (mapsRowed Tryz.pinned.checked.prog) = true := by kernel_rfl
theorem fD3 : (Tryz.f3.params.all (Tryz.pinned.checked.prog.readableRec ·)) = true := by kernel_rfl
theorem fD4 : (namedTie Tryz.pinned.checked.prog Rows.quorumStaysRow.named Rows.quorumStaysSpec.vars) = true := by kernel_rfl
theorem fD5 : (Rows.quorumStaysRow.stops == []) = true := by kernel_rfl
theorem fD6 : (Tryz.pinned.checked.prog.stops == []) = true := by kernel_rfl
theorem fD7 : (Rows.quorumStaysRow.knobs == []) = true := by kernel_rfl
theorem fD8 : (Tryz.pinned.checked.prog.stopKnobs == []) = true := by kernel_rfl
theorem fD9 : (Rows.quorumStaysRow.inPlace == Tryz.pinned.checked.prog.inPlace 3) = true := by kernel_rfl
theorem fD10 : (Rows.quorumStaysRow.unfollowed == Tryz.pinned.checked.prog.unfollowed 3) = true := by kernel_rfl
theorem fD11 : (Rows.quorumStaysRow.recurses == Tryz.pinned.checked.prog.recurses 3) = true := by kernel_rfl
theorem fD12 : (Rows.quorumStaysRow.named == Tryz.pinned.checked.prog.varsNamed 3) = true := by kernel_rfl
end Go.Proofs.YtgbbpanapnkdbaaGreat.quorumStays

/- Closed facts of the program of this seat: reckoned by the kernel. -/
import Derived.Test.YtoapfefofjfifaaGreatRows
import Derived.WalkKit
import Derived.ProofKit
namespace Go.Proofs.YtoapfefofjfifaaGreat.quorumNil
open Go.RowKit
set_option maxRecDepth 100000
theorem fD0 : (Rows.quorumNilRow.wf (OpenSpec.ofChange Rows.quorumNilSpec)) = true := by kernel_rfl
theorem fD1 : (laidOutB Tryz.pinned.checked.prog) = true := by kernel_rfl
theorem fD2 : (mapsRowed Tryz.pinned.checked.prog) = true := by kernel_rfl
theorem fD3 : (Tryz.f4.params.all (Tryz.pinned.checked.prog.readableRec ·)) = true := by kernel_rfl
theorem fD4 : (namedTie Tryz.pinned.checked.prog Rows.quorumNilRow.named Rows.quorumNilSpec.vars) = true := by kernel_rfl
theorem fD5 : (Rows.quorumNilRow.stops == []) = true := by kernel_rfl
theorem fD6 : (Tryz.pinned.checked.prog.stops == []) = true := by kernel_rfl
theorem fD7 : (Rows.quorumNilRow.knobs == []) = true := by kernel_rfl
theorem fD8 : (Tryz.pinned.checked.prog.stopKnobs == []) = true := by kernel_rfl
theorem fD9 : (Rows.quorumNilRow.inPlace == Tryz.pinned.checked.prog.inPlace 4) = true := by kernel_rfl
theorem fD10 : (Rows.quorumNilRow.unfollowed == Tryz.pinned.checked.prog.unfollowed 4) = true := by kernel_rfl
theorem fD11 : (Rows.quorumNilRow.recurses == Tryz.pinned.checked.prog.recurses 4) = true := by kernel_rfl
theorem fD12 : (Rows.quorumNilRow.named == Tryz.pinned.checked.prog.varsNamed 4) = true := by kernel_rfl
end Go.Proofs.YtoapfefofjfifaaGreat.quorumNil

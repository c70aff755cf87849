/- Closed facts of the program of this seat: reckoned by the kernel. -/
import Derived.Test.YtidhlagdagbggaaRows
import Derived.WalkKit
import Derived.ProofKit
namespace Go.Proofs.Ytidhlagdagbggaa.queryParts
open Go.RowKit
set_option maxRecDepth 100000
theorem fD0 : (Rows.queryPartsRow.wf (OpenSpec.ofChange Rows.queryPartsSpec)) = true := by kernel_rfl
theorem fD1 : (laidOutB Try.pinned.checked.prog) = true := by kernel_rfl
theorem fD2 : (mapsRowed Try.pinned.checked.prog) = true := by kernel_rfl
theorem fD3 : (Try.f5.params.all (Try.pinned.checked.prog.readableRec ·)) = true := by kernel_rfl
theorem fD4 : (namedTie Try.pinned.checked.prog Rows.queryPartsRow.named Rows.queryPartsSpec.vars) = true := by kernel_rfl
theorem fD5 : (Rows.queryPartsRow.stops == []) = true := by kernel_rfl
theorem fD6 : (Try.pinned.checked.prog.stops == []) = true := by kernel_rfl
theorem fD7 : (Rows.queryPartsRow.knobs == []) = true := by kernel_rfl
theorem fD8 : (Try.pinned.checked.prog.stopKnobs == []) = true := by kernel_rfl
theorem fD9 : (Rows.queryPartsRow.inPlace == Try.pinned.checked.prog.inPlace 5) = true := by kernel_rfl
theorem fD10 : (Rows.queryPartsRow.unfollowed == Try.pinned.checked.prog.unfollowed 5) = true := by kernel_rfl
theorem fD11 : (Rows.queryPartsRow.recurses == Try.pinned.checked.prog.recurses 5) = true := by kernel_rfl
theorem fD12 : (Rows.queryPartsRow.named == Try.pinned.checked.prog.varsNamed 5) = true := by kernel_rfl
end Go.Proofs.Ytidhlagdagbggaa.queryParts

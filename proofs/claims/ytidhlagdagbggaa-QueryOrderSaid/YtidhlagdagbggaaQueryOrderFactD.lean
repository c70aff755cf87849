/- Closed facts of the program of this seat: reckoned by the kernel. -/
import Derived.Test.YtidhlagdagbggaaRows
import Derived.WalkKit
import Derived.ProofKit
namespace Go.Proofs.Ytidhlagdagbggaa.queryOrder
open Go.RowKit
set_option maxRecDepth 100000
theorem fD0 : (Rows.queryOrderRow.wf (OpenSpec.ofChange Rows.queryOrderSpec)) = true := by kernel_rfl
theorem fD1 : (laidOutB Try.pinned.checked.prog) = true := by kernel_rfl
theorem fD2 : (mapsRowed Try.pinned.checked.prog) = true := by kernel_rfl
theorem fD3 : (Try.f4.params.all (Try.pinned.checked.prog.readableRec ·)) = true := by kernel_rfl
theorem fD4 : (namedTie Try.pinned.checked.prog Rows.queryOrderRow.named Rows.queryOrderSpec.vars) = true := by kernel_rfl
theorem fD5 : (Rows.queryOrderRow.stops == []) = true := by kernel_rfl
theorem fD6 : (Try.pinned.checked.prog.stops == []) = true := by kernel_rfl
theorem fD7 : (Rows.queryOrderRow.knobs == []) = true := by kernel_rfl
theorem fD8 : (Try.pinned.checked.prog.stopKnobs == []) = true := by kernel_rfl
theorem fD9 : (Rows.queryOrderRow.inPlace == Try.pinned.checked.prog.inPlace 4) = true := by kernel_rfl
theorem fD10 : (Rows.queryOrderRow.unfollowed == Try.pinned.checked.prog.unfollowed 4) = true := by kernel_rfl
theorem fD11 : (Rows.queryOrderRow.recurses == Try.pinned.checked.prog.recurses 4) = true := by kernel_rfl
theorem fD12 : (Rows.queryOrderRow.named == Try.pinned.checked.prog.varsNamed 4) = true := by kernel_rfl
end Go.Proofs.Ytidhlagdagbggaa.queryOrder

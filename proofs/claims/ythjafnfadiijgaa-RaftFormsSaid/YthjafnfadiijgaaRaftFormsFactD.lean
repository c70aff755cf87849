/- Closed facts of the program of this seat: reckoned by the kernel. -/
import Derived.Test.YthjafnfadiijgaaRows
import Derived.WalkKit
import Derived.ProofKit
namespace Go.Proofs.Ythjafnfadiijgaa.raftForms
open Go.RowKit
set_option maxRecDepth 100000
theorem fD0 : (Rows.raftFormsRow.wf (OpenSpec.ofChange Rows.raftFormsSpec)) = true := by kernel_rfl
theorem fD1 : (laidOutB Try.pinned.checked.prog) = true := by kernel_rfl
theorem fD2 : (mapsRowed Try.pinned.checked.prog) = true := by kernel_rfl
theorem fD3 : (Try.f3.params.all (Try.pinned.checked.prog.readableRec ·)) = true := by kernel_rfl
theorem fD4 : (namedTie Try.pinned.checked.prog Rows.raftFormsRow.named Rows.raftFormsSpec.vars) = true := by kernel_rfl
theorem fD5 : (Rows.raftFormsRow.stops == []) = true := by kernel_rfl
theorem fD6 : (Try.pinned.checked.prog.stops == []) = true := by kernel_rfl
theorem fD7 : (Rows.raftFormsRow.knobs == []) = true := by kernel_rfl
theorem fD8 : (Try.pinned.checked.prog.stopKnobs == []) = true := by kernel_rfl
theorem fD9 : (Rows.raftFormsRow.inPlace == Try.pinned.checked.prog.inPlace 3) = true := by kernel_rfl
theorem fD10 : (Rows.raftFormsRow.unfollowed == Try.pinned.checked.prog.unfollowed 3) = true := by kernel_rfl
theorem fD11 : (Rows.raftFormsRow.recurses == Try.pinned.checked.prog.recurses 3) = true := by kernel_rfl
theorem fD12 : (Rows.raftFormsRow.named == Try.pinned.checked.prog.varsNamed 3) = true := by kernel_rfl
end Go.Proofs.Ythjafnfadiijgaa.raftForms

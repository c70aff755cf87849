/- Closed facts of the program of this seat: reckoned by the kernel. -/
import Derived.Test.YtcmbgfmbmbgbiaaRows
import Derived.WalkKit
import Derived.ProofKit
namespace Go.Proofs.Ytcmbgfmbmbgbiaa.regApart
open Go.RowKit
set_option maxRecDepth 100000
theorem fD0 : (Rows.regApartRow.wf (OpenSpec.ofChange Rows.regApartSpec)) = true := by kernel_rfl
theorem fD1 : (laidOutB Try.pinned.checked.prog) = true := by kernel_rfl
theorem fD2 : (mapsRowed Try.pinned.checked.prog) = true := by kernel_rfl
theorem fD3 : (Try.f16.params.all (Try.pinned.checked.prog.readableRec ·)) = true := by kernel_rfl
theorem fD4 : (namedTie Try.pinned.checked.prog Rows.regApartRow.named Rows.regApartSpec.vars) = true := by kernel_rfl
theorem fD5 : (Rows.regApartRow.stops == []) = true := by kernel_rfl
theorem fD6 : (Try.pinned.checked.prog.stops == []) = true := by kernel_rfl
theorem fD7 : (Rows.regApartRow.knobs == []) = true := by kernel_rfl
theorem fD8 : (Try.pinned.checked.prog.stopKnobs == []) = true := by kernel_rfl
theorem fD9 : (Rows.regApartRow.inPlace == Try.pinned.checked.prog.inPlace 16) = true := by kernel_rfl
theorem fD10 : (Rows.regApartRow.unfollowed == Try.pinned.checked.prog.unfollowed 16) = true := by kernel_rfl
theorem fD11 : (Rows.regApartRow.recurses == Try.pinned.checked.prog.recurses 16) = true := by kernel_rfl
theorem fD12 : (Rows.regApartRow.named == Try.pinned.checked.prog.varsNamed 16) = true := by kernel_rfl
end Go.Proofs.Ytcmbgfmbmbgbiaa.regApart

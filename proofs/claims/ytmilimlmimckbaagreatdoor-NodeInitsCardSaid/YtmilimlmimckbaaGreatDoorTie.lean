/-
  DERIVED. GIVEN WITH THE SEED: THE PROGRAM's TIES (one call each: nine closed facts by the kernel) AND EACH ROW's TIE, after the 31st guide's Derived/Test/Toyas{Tie, Card}.lean. No idea stands in it: it is a product of the set-up. Laid BY PROGRAM, IN A SANDBOX (cutbox-door.mjs). By AI agents, Wed Nov 11 2026. No macro, syntax, notation, axiom, sorry.
-/
import Derived.Test.YtmilimlmimckbaaGreatDoorRows
import Derived.LaidByTextLater
import Derived.SevenTiedAt
import Derived.LaidSub
import Derived.LaidOnce
namespace Go.Proofs.YtmilimlmimckbaaGreatDoor
open Go
set_option maxRecDepth 100000
theorem seatTie1 : Tryz.prog.laidByTextLater [("quaestor/chacha.quarters", Rows.laid_quaestor_chacha_quarters), ("quaestor/sha.rounds", Rows.laid_quaestor_sha_rounds)] [.data, .data] true :=
  Program.laidByTextLater_by_one 27 8 65 (by kernel_rfl) (by kernel_rfl) (by kernel_rfl) (by kernel_rfl) (by kernel_rfl) (by kernel_rfl) (fun _ _ => by kernel_rfl)
theorem noOwnUnsafe : Tryz.pinned.checked.prog.headLifts.contains "ownunsafe" = false := by kernel_rfl
theorem tie : Tryz.prog.laidByTextLater [("quaestor/chacha.quarters", Rows.laid_quaestor_chacha_quarters), ("quaestor/sha.rounds", Rows.laid_quaestor_sha_rounds)] [.data, .data] true :=
  Program.laidByTextLater.sub seatTie1 ["quaestor/chacha.quarters", "quaestor/sha.rounds"] (by kernel_rfl) (by kernel_rfl)
theorem nodeInits_row_tie : Rows.nodeInitsRow.laidByTextAt .later Tryz.pinned [.data, .data] true :=
  OpenClaim.laidByTextAt_later rfl rfl tie noOwnUnsafe
theorem nodeInitsUpto_row_tie : Rows.nodeInitsUptoRow.laidByTextAt .later Tryz.pinned [.data, .data] true :=
  OpenClaim.laidByTextAt_later rfl rfl tie noOwnUnsafe
end Go.Proofs.YtmilimlmimckbaaGreatDoor

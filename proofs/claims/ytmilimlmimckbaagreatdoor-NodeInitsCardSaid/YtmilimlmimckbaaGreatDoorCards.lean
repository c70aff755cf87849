/-
  DERIVED. GIVEN WITH THE SEED: THE CARDS: each row of YtmilimlmimckbaaGreatDoorRows.lean that lists a variable, with what it lists TIED to the program's text (the seventh form; the later family's looks); each row that meets fmt, with fmt's text TOLD by the authors' own Lean function (tested against real Go, not proved from fmt's source: count such statements apart). THE CARD IS WHAT COUNTS. Prove the row's statement (the work); the ties are given (YtmilimlmimckbaaGreatDoorTie.lean); close each card by the builder's one call (the guide's Derived/Test/ToyasCard.lean, 'card_holds'). Laid BY PROGRAM, IN A SANDBOX (cutbox-door.mjs). By AI agents, Wed Nov 11 2026. No macro, syntax, notation, axiom, sorry.
-/
import Derived.Test.YtmilimlmimckbaaGreatDoorRows
import GoSem.ClaimSeven
namespace Go.Proofs.YtmilimlmimckbaaGreatDoor
namespace Rows

/-- THE TIED CARD OF 'quaestorlaw32.NodeInits'. -/
def nodeInitsCard : Claim7 := { stood := { row := nodeInitsRow, standIns := [], harness := (true, "75647ffee25c3ed181a084ecfdba3ffa3c171fdbeb1377875d6655eaabae7257"), looks := true }, kinds := [], alts := [], laidByText := true, laidKinds := [.data, .data], laidTests := true, laidLooks := .later }
def NodeInitsCardSaid : Prop := Claim7.holds Tryz.pinned (.plain (OpenSpec.ofChange nodeInitsSpec)) nodeInitsCard

/-- THE SECOND FORM's CARD OF 'quaestorlaw32.NodeInits'. -/
def nodeInitsUptoCard : Claim7 := { stood := { row := nodeInitsUptoRow, standIns := [], harness := (true, "75647ffee25c3ed181a084ecfdba3ffa3c171fdbeb1377875d6655eaabae7257"), looks := true }, kinds := [], alts := [], laidByText := true, laidKinds := [.data, .data], laidTests := true, laidLooks := .later }
def NodeInitsUptoCardSaid : Prop := Claim7.holds Tryz.pinned (.plain (OpenSpec.upto nodeInitsSpec)) nodeInitsUptoCard
end Rows
end Go.Proofs.YtmilimlmimckbaaGreatDoor

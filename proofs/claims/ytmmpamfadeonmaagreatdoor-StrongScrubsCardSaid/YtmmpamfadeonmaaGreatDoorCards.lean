/-
  DERIVED. GIVEN WITH THE SEED: THE CARDS: each row of YtmmpamfadeonmaaGreatDoorRows.lean that lists a variable, with what it lists TIED to the program's text (the seventh form; the later family's looks); each row that meets fmt, with fmt's text TOLD by the authors' own Lean function (tested against real Go, not proved from fmt's source: count such statements apart). THE CARD IS WHAT COUNTS. Prove the row's statement (the work); the ties are given (YtmmpamfadeonmaaGreatDoorTie.lean); close each card by the builder's one call (the guide's Derived/Test/ToyasCard.lean, 'card_holds'). Laid BY PROGRAM, IN A SANDBOX (cutbox-door.mjs). By AI agents, Wed Nov 11 2026. No macro, syntax, notation, axiom, sorry.
-/
import Derived.Test.YtmmpamfadeonmaaGreatDoorRows
import GoSem.ClaimSeven
namespace Go.Proofs.YtmmpamfadeonmaaGreatDoor
namespace Rows

/-- THE TIED CARD OF 'quaestorlaw28.StrongForms'. -/
def strongFormsCard : Claim7 := { stood := { row := strongFormsRow, standIns := [], harness := (true, "1d70a0b6ac6cdcf7a9bd0b1b79a7d2f35c2311a01c4d924eeae53bb03690b0da"), looks := false }, kinds := [], alts := [], laidByText := true, laidKinds := [.data], laidTests := true, laidLooks := .later }
def StrongFormsCardSaid : Prop := Claim7.holds Tryz.pinned (.plain (OpenSpec.ofChange strongFormsSpec)) strongFormsCard

/-- THE TIED CARD OF 'quaestorlaw28.StrongReads'. -/
def strongReadsCard : Claim7 := { stood := { row := strongReadsRow, standIns := [], harness := (true, "1d70a0b6ac6cdcf7a9bd0b1b79a7d2f35c2311a01c4d924eeae53bb03690b0da"), looks := false }, kinds := [], alts := [], laidByText := true, laidKinds := [.data], laidTests := true, laidLooks := .later }
def StrongReadsCardSaid : Prop := Claim7.holds Tryz.pinned (.plain (OpenSpec.ofChange strongReadsSpec)) strongReadsCard

/-- THE TIED CARD OF 'quaestorlaw28.StrongScrubs'. -/
def strongScrubsCard : Claim7 := { stood := { row := strongScrubsRow, standIns := [], harness := (true, "1d70a0b6ac6cdcf7a9bd0b1b79a7d2f35c2311a01c4d924eeae53bb03690b0da"), looks := false }, kinds := [], alts := [], laidByText := true, laidKinds := [.data], laidTests := true, laidLooks := .later }
def StrongScrubsCardSaid : Prop := Claim7.holds Tryz.pinned (.plain (OpenSpec.ofChange strongScrubsSpec)) strongScrubsCard

/-- THE SECOND FORM's CARD OF 'quaestorlaw28.StrongForms'. -/
def strongFormsUptoCard : Claim7 := { stood := { row := strongFormsUptoRow, standIns := [], harness := (true, "1d70a0b6ac6cdcf7a9bd0b1b79a7d2f35c2311a01c4d924eeae53bb03690b0da"), looks := false }, kinds := [], alts := [], laidByText := true, laidKinds := [.data], laidTests := true, laidLooks := .later }
def StrongFormsUptoCardSaid : Prop := Claim7.holds Tryz.pinned (.plain (OpenSpec.upto strongFormsSpec)) strongFormsUptoCard

/-- THE SECOND FORM's CARD OF 'quaestorlaw28.StrongReads'. -/
def strongReadsUptoCard : Claim7 := { stood := { row := strongReadsUptoRow, standIns := [], harness := (true, "1d70a0b6ac6cdcf7a9bd0b1b79a7d2f35c2311a01c4d924eeae53bb03690b0da"), looks := false }, kinds := [], alts := [], laidByText := true, laidKinds := [.data], laidTests := true, laidLooks := .later }
def StrongReadsUptoCardSaid : Prop := Claim7.holds Tryz.pinned (.plain (OpenSpec.upto strongReadsSpec)) strongReadsUptoCard

/-- THE SECOND FORM's CARD OF 'quaestorlaw28.StrongScrubs'. -/
def strongScrubsUptoCard : Claim7 := { stood := { row := strongScrubsUptoRow, standIns := [], harness := (true, "1d70a0b6ac6cdcf7a9bd0b1b79a7d2f35c2311a01c4d924eeae53bb03690b0da"), looks := false }, kinds := [], alts := [], laidByText := true, laidKinds := [.data], laidTests := true, laidLooks := .later }
def StrongScrubsUptoCardSaid : Prop := Claim7.holds Tryz.pinned (.plain (OpenSpec.upto strongScrubsSpec)) strongScrubsUptoCard
end Rows
end Go.Proofs.YtmmpamfadeonmaaGreatDoor

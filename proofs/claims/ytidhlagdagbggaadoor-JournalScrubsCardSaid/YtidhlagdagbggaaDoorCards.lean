/-
  DERIVED. GIVEN WITH THE SEED: THE CARDS: each row of YtidhlagdagbggaaDoorRows.lean that lists a variable, with what it lists TIED to the program's text (the seventh form; the later family's looks); each row that meets fmt, with fmt's text TOLD by the authors' own Lean function (tested against real Go, not proved from fmt's source: count such statements apart). THE CARD IS WHAT COUNTS. Prove the row's statement (the work); the ties are given (YtidhlagdagbggaaDoorTie.lean); close each card by the builder's one call (the guide's Derived/Test/ToyasCard.lean, 'card_holds'). Laid BY PROGRAM, IN A SANDBOX (cutbox-door.mjs). By AI agents, Wed Nov 11 2026. No macro, syntax, notation, axiom, sorry.
-/
import Derived.Test.YtidhlagdagbggaaDoorRows
import GoSem.ClaimSeven
namespace Go.Proofs.YtidhlagdagbggaaDoor
namespace Rows

/-- THE TIED CARD OF 'quaestorlaw11.JournalKeeps'. -/
def journalKeepsCard : Claim7 := { stood := { row := journalKeepsRow, standIns := [], harness := (true, "b88ef8aaac2a2985e59dbbf3af7c5a6919127e62c39593ebd60d3d8917a8d1a3"), looks := false }, kinds := [], alts := [], laidByText := true, laidKinds := [.data], laidTests := true, laidLooks := .later }
def JournalKeepsCardSaid : Prop := Claim7.holds Tryd.pinned (.plain (OpenSpec.ofChange journalKeepsSpec)) journalKeepsCard

/-- THE TIED CARD OF 'quaestorlaw11.JournalScrubs'. -/
def journalScrubsCard : Claim7 := { stood := { row := journalScrubsRow, standIns := [], harness := (true, "b88ef8aaac2a2985e59dbbf3af7c5a6919127e62c39593ebd60d3d8917a8d1a3"), looks := false }, kinds := [], alts := [], laidByText := true, laidKinds := [.data], laidTests := true, laidLooks := .later }
def JournalScrubsCardSaid : Prop := Claim7.holds Tryd.pinned (.plain (OpenSpec.ofChange journalScrubsSpec)) journalScrubsCard

/-- THE SECOND FORM's CARD OF 'quaestorlaw11.JournalKeeps'. -/
def journalKeepsUptoCard : Claim7 := { stood := { row := journalKeepsUptoRow, standIns := [], harness := (true, "b88ef8aaac2a2985e59dbbf3af7c5a6919127e62c39593ebd60d3d8917a8d1a3"), looks := false }, kinds := [], alts := [], laidByText := true, laidKinds := [.data], laidTests := true, laidLooks := .later }
def JournalKeepsUptoCardSaid : Prop := Claim7.holds Tryd.pinned (.plain (OpenSpec.upto journalKeepsSpec)) journalKeepsUptoCard

/-- THE SECOND FORM's CARD OF 'quaestorlaw11.JournalScrubs'. -/
def journalScrubsUptoCard : Claim7 := { stood := { row := journalScrubsUptoRow, standIns := [], harness := (true, "b88ef8aaac2a2985e59dbbf3af7c5a6919127e62c39593ebd60d3d8917a8d1a3"), looks := false }, kinds := [], alts := [], laidByText := true, laidKinds := [.data], laidTests := true, laidLooks := .later }
def JournalScrubsUptoCardSaid : Prop := Claim7.holds Tryd.pinned (.plain (OpenSpec.upto journalScrubsSpec)) journalScrubsUptoCard
end Rows
end Go.Proofs.YtidhlagdagbggaaDoor

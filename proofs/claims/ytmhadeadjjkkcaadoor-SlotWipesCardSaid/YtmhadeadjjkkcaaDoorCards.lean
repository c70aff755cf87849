/-
  DERIVED. GIVEN WITH THE SEED: THE CARDS: each row of YtmhadeadjjkkcaaDoorRows.lean that lists a variable, with what it lists TIED to the program's text (the seventh form; the later family's looks); each row that meets fmt, with fmt's text TOLD by the authors' own Lean function (tested against real Go, not proved from fmt's source: count such statements apart). THE CARD IS WHAT COUNTS. Prove the row's statement (the work); the ties are given (YtmhadeadjjkkcaaDoorTie.lean); close each card by the builder's one call (the guide's Derived/Test/ToyasCard.lean, 'card_holds'). Laid BY PROGRAM, IN A SANDBOX (cutbox-door.mjs). By AI agents, Wed Nov 11 2026. No macro, syntax, notation, axiom, sorry.
-/
import Derived.Test.YtmhadeadjjkkcaaDoorRows
import GoSem.ClaimSeven
namespace Go.Proofs.YtmhadeadjjkkcaaDoor
namespace Rows

/-- THE TIED CARD OF 'quaestorlaw10.SlotWhole'. -/
def slotWholeCard : Claim7 := { stood := { row := slotWholeRow, standIns := [], harness := (true, "367fd2b3354dd1f8d52730a3066e4dc2a23211b013a61b07220bc49da8ee3134"), looks := false }, kinds := [], alts := [], laidByText := true, laidKinds := [.data], laidTests := true, laidLooks := .later }
def SlotWholeCardSaid : Prop := Claim7.holds Tryd.pinned (.plain (OpenSpec.ofChange slotWholeSpec)) slotWholeCard

/-- THE TIED CARD OF 'quaestorlaw10.SlotWipes'. -/
def slotWipesCard : Claim7 := { stood := { row := slotWipesRow, standIns := [], harness := (true, "367fd2b3354dd1f8d52730a3066e4dc2a23211b013a61b07220bc49da8ee3134"), looks := false }, kinds := [], alts := [], laidByText := true, laidKinds := [.data], laidTests := true, laidLooks := .later }
def SlotWipesCardSaid : Prop := Claim7.holds Tryd.pinned (.plain (OpenSpec.ofChange slotWipesSpec)) slotWipesCard

/-- THE TIED CARD OF 'quaestorlaw10.SlotOpens'. -/
def slotOpensCard : Claim7 := { stood := { row := slotOpensRow, standIns := [], harness := (true, "367fd2b3354dd1f8d52730a3066e4dc2a23211b013a61b07220bc49da8ee3134"), looks := false }, kinds := [], alts := [], laidByText := true, laidKinds := [.data], laidTests := true, laidLooks := .later }
def SlotOpensCardSaid : Prop := Claim7.holds Tryd.pinned (.plain (OpenSpec.ofChange slotOpensSpec)) slotOpensCard

/-- THE SECOND FORM's CARD OF 'quaestorlaw10.SlotWhole'. -/
def slotWholeUptoCard : Claim7 := { stood := { row := slotWholeUptoRow, standIns := [], harness := (true, "367fd2b3354dd1f8d52730a3066e4dc2a23211b013a61b07220bc49da8ee3134"), looks := false }, kinds := [], alts := [], laidByText := true, laidKinds := [.data], laidTests := true, laidLooks := .later }
def SlotWholeUptoCardSaid : Prop := Claim7.holds Tryd.pinned (.plain (OpenSpec.upto slotWholeSpec)) slotWholeUptoCard

/-- THE SECOND FORM's CARD OF 'quaestorlaw10.SlotWipes'. -/
def slotWipesUptoCard : Claim7 := { stood := { row := slotWipesUptoRow, standIns := [], harness := (true, "367fd2b3354dd1f8d52730a3066e4dc2a23211b013a61b07220bc49da8ee3134"), looks := false }, kinds := [], alts := [], laidByText := true, laidKinds := [.data], laidTests := true, laidLooks := .later }
def SlotWipesUptoCardSaid : Prop := Claim7.holds Tryd.pinned (.plain (OpenSpec.upto slotWipesSpec)) slotWipesUptoCard

/-- THE SECOND FORM's CARD OF 'quaestorlaw10.SlotOpens'. -/
def slotOpensUptoCard : Claim7 := { stood := { row := slotOpensUptoRow, standIns := [], harness := (true, "367fd2b3354dd1f8d52730a3066e4dc2a23211b013a61b07220bc49da8ee3134"), looks := false }, kinds := [], alts := [], laidByText := true, laidKinds := [.data], laidTests := true, laidLooks := .later }
def SlotOpensUptoCardSaid : Prop := Claim7.holds Tryd.pinned (.plain (OpenSpec.upto slotOpensSpec)) slotOpensUptoCard
end Rows
end Go.Proofs.YtmhadeadjjkkcaaDoor

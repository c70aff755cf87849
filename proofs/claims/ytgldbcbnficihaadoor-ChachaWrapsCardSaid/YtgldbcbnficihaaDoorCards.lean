/-
  DERIVED. GIVEN WITH THE SEED: THE CARDS: each row of YtgldbcbnficihaaDoorRows.lean that lists a variable, with what it lists TIED to the program's text (the seventh form; the later family's looks); each row that meets fmt, with fmt's text TOLD by the authors' own Lean function (tested against real Go, not proved from fmt's source: count such statements apart). THE CARD IS WHAT COUNTS. Prove the row's statement (the work); the ties are given (YtgldbcbnficihaaDoorTie.lean); close each card by the builder's one call (the guide's Derived/Test/ToyasCard.lean, 'card_holds'). Laid BY PROGRAM, IN A SANDBOX (cutbox-door.mjs). By AI agents, Wed Nov 11 2026. No macro, syntax, notation, axiom, sorry.
-/
import Derived.Test.YtgldbcbnficihaaDoorRows
import GoSem.ClaimSeven
namespace Go.Proofs.YtgldbcbnficihaaDoor
namespace Rows

/-- THE TIED CARD OF 'quaestorlaw04.ChachaBlocks'. -/
def chachaBlocksCard : Claim7 := { stood := { row := chachaBlocksRow, standIns := [], harness := (true, "9ca3145aac95a419ea9e33d450bc628d57af1c6f1dae89c386d19567f99d9486"), looks := false }, kinds := [], alts := [], laidByText := true, laidKinds := [.data], laidTests := true, laidLooks := .later }
def ChachaBlocksCardSaid : Prop := Claim7.holds Tryd.pinned (.plain (OpenSpec.ofChange chachaBlocksSpec)) chachaBlocksCard

/-- THE TIED CARD OF 'quaestorlaw04.ChachaStreams'. -/
def chachaStreamsCard : Claim7 := { stood := { row := chachaStreamsRow, standIns := [], harness := (true, "9ca3145aac95a419ea9e33d450bc628d57af1c6f1dae89c386d19567f99d9486"), looks := false }, kinds := [], alts := [], laidByText := true, laidKinds := [.data], laidTests := true, laidLooks := .later }
def ChachaStreamsCardSaid : Prop := Claim7.holds Tryd.pinned (.plain (OpenSpec.ofChange chachaStreamsSpec)) chachaStreamsCard

/-- THE TIED CARD OF 'quaestorlaw04.ChachaParts'. -/
def chachaPartsCard : Claim7 := { stood := { row := chachaPartsRow, standIns := [], harness := (true, "9ca3145aac95a419ea9e33d450bc628d57af1c6f1dae89c386d19567f99d9486"), looks := false }, kinds := [], alts := [], laidByText := true, laidKinds := [.data], laidTests := true, laidLooks := .later }
def ChachaPartsCardSaid : Prop := Claim7.holds Tryd.pinned (.plain (OpenSpec.ofChange chachaPartsSpec)) chachaPartsCard

/-- THE TIED CARD OF 'quaestorlaw04.ChachaWraps'. -/
def chachaWrapsCard : Claim7 := { stood := { row := chachaWrapsRow, standIns := [], harness := (true, "9ca3145aac95a419ea9e33d450bc628d57af1c6f1dae89c386d19567f99d9486"), looks := false }, kinds := [], alts := [], laidByText := true, laidKinds := [.data], laidTests := true, laidLooks := .later }
def ChachaWrapsCardSaid : Prop := Claim7.holds Tryd.pinned (.plain (OpenSpec.ofChange chachaWrapsSpec)) chachaWrapsCard

/-- THE SECOND FORM's CARD OF 'quaestorlaw04.ChachaBlocks'. -/
def chachaBlocksUptoCard : Claim7 := { stood := { row := chachaBlocksUptoRow, standIns := [], harness := (true, "9ca3145aac95a419ea9e33d450bc628d57af1c6f1dae89c386d19567f99d9486"), looks := false }, kinds := [], alts := [], laidByText := true, laidKinds := [.data], laidTests := true, laidLooks := .later }
def ChachaBlocksUptoCardSaid : Prop := Claim7.holds Tryd.pinned (.plain (OpenSpec.upto chachaBlocksSpec)) chachaBlocksUptoCard

/-- THE SECOND FORM's CARD OF 'quaestorlaw04.ChachaStreams'. -/
def chachaStreamsUptoCard : Claim7 := { stood := { row := chachaStreamsUptoRow, standIns := [], harness := (true, "9ca3145aac95a419ea9e33d450bc628d57af1c6f1dae89c386d19567f99d9486"), looks := false }, kinds := [], alts := [], laidByText := true, laidKinds := [.data], laidTests := true, laidLooks := .later }
def ChachaStreamsUptoCardSaid : Prop := Claim7.holds Tryd.pinned (.plain (OpenSpec.upto chachaStreamsSpec)) chachaStreamsUptoCard

/-- THE SECOND FORM's CARD OF 'quaestorlaw04.ChachaParts'. -/
def chachaPartsUptoCard : Claim7 := { stood := { row := chachaPartsUptoRow, standIns := [], harness := (true, "9ca3145aac95a419ea9e33d450bc628d57af1c6f1dae89c386d19567f99d9486"), looks := false }, kinds := [], alts := [], laidByText := true, laidKinds := [.data], laidTests := true, laidLooks := .later }
def ChachaPartsUptoCardSaid : Prop := Claim7.holds Tryd.pinned (.plain (OpenSpec.upto chachaPartsSpec)) chachaPartsUptoCard

/-- THE SECOND FORM's CARD OF 'quaestorlaw04.ChachaWraps'. -/
def chachaWrapsUptoCard : Claim7 := { stood := { row := chachaWrapsUptoRow, standIns := [], harness := (true, "9ca3145aac95a419ea9e33d450bc628d57af1c6f1dae89c386d19567f99d9486"), looks := false }, kinds := [], alts := [], laidByText := true, laidKinds := [.data], laidTests := true, laidLooks := .later }
def ChachaWrapsUptoCardSaid : Prop := Claim7.holds Tryd.pinned (.plain (OpenSpec.upto chachaWrapsSpec)) chachaWrapsUptoCard
end Rows
end Go.Proofs.YtgldbcbnficihaaDoor

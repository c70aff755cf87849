/-
  No cell of these rows narrows 'for every input' (looked for: loops, veiled, ifaces, maps, wideKeys, modest, calm, conditions, laid).
  DERIVED. THE GIVEN ROWS OF THIS SEAT. 4 by the template 'for every input the law returns true; each argument reads behind the call as it read before'; 0 by the template 'total and deterministic' (their statements: YtidhlagdagbggaaTotals.lean).
  GIVEN WITH THE SEED: the statements are not yours to turn. If you find one false, say at which input.
  Laid BY PROGRAM, IN A SANDBOX (cutbox-rows.mjs): the forced cells as the released guide's own fill.sh prints them over the translation d87cce8e3a6cc6b2… (all of the seat's roots in one cut). By AI agents, Wed Nov 11 2026. No macro, syntax, notation, axiom, sorry.
-/
import Derived.Test.YtidhlagdagbggaaChecked
import GoSem.Claim
import GoSem.ClaimJoined
import GoSem.ClaimMapViews
import Derived.JoinedTies
import Derived.KernelRfl
namespace Go.Proofs.Ytidhlagdagbggaa
/- THE CELL 'sum', in the pinned program and in every row, IS THE sha256 OF THE DUMP (.gsa) THAT YtidhlagdagbggaaProg.lean LOADS. Nothing in Lean hashes anything: it is a label: what it is worth is what the hold of that sum in a sandbox is worth. -/
noncomputable def Try.pinned : Pinned := { name := "ytidhlagdagbggaa", sum := "d87cce8e3a6cc6b2b791675a7901986e91d32b42a8f5ed7e4fa1a44023fcefe7", checked := Try.checked }
namespace Rows
def none {H : Type} : Left H := { results := [], args := [] }

/-- 'quaestorlaw26.RaftForms': WHATEVER THE INPUT: true; the input reads as it did. -/
def raftFormsSpec : ChangeSpec := { name := "raftForms", fn := fun _ => fun
  | [d1, d2] => { results := [.lit (.bool true)], args := [d1, d2] }
  | _ => none }
def raftFormsRow : OpenClaim := { program := "ytidhlagdagbggaa", sum := "d87cce8e3a6cc6b2b791675a7901986e91d32b42a8f5ed7e4fa1a44023fcefe7", func := "quaestor/quaestorlaw26.RaftForms", spec := "raftForms", unfollowed := true, recurses := true, plainKeys := false, apart := false }
def RaftFormsSaid : Prop := raftFormsRow.holds Try.pinned (OpenSpec.ofChange raftFormsSpec)

/-- ITS FALSE NEIGHBOUR: 'it returns false'. Refute it at one input. -/
def raftFormsWrong : ChangeSpec := { name := "raftForms", fn := fun _ => fun
  | [d1, d2] => { results := [.lit (.bool false)], args := [d1, d2] }
  | _ => none }
def RaftFormsWrongFalsely : Prop := raftFormsRow.holds Try.pinned (OpenSpec.ofChange raftFormsWrong)

/-- 'quaestorlaw19.QueryOrder': WHATEVER THE INPUT: true; the input reads as it did. -/
def queryOrderSpec : ChangeSpec := { name := "queryOrder", fn := fun _ => fun
  | [d1, d2, d3, d4] => { results := [.lit (.bool true)], args := [d1, d2, d3, d4] }
  | _ => none }
def queryOrderRow : OpenClaim := { program := "ytidhlagdagbggaa", sum := "d87cce8e3a6cc6b2b791675a7901986e91d32b42a8f5ed7e4fa1a44023fcefe7", func := "quaestor/quaestorlaw19.QueryOrder", spec := "queryOrder", inPlace := ["internal/bytealg.IndexByteString", "internal/bytealg.IndexString", "math/bits.Add64"], unfollowed := true, recurses := true, named := ["internal/bytealg.MaxLen"], plainKeys := false, apart := false }
def QueryOrderSaid : Prop := queryOrderRow.holds Try.pinned (OpenSpec.ofChange queryOrderSpec)

/-- ITS FALSE NEIGHBOUR: 'it returns false'. Refute it at one input. -/
def queryOrderWrong : ChangeSpec := { name := "queryOrder", fn := fun _ => fun
  | [d1, d2, d3, d4] => { results := [.lit (.bool false)], args := [d1, d2, d3, d4] }
  | _ => none }
def QueryOrderWrongFalsely : Prop := queryOrderRow.holds Try.pinned (OpenSpec.ofChange queryOrderWrong)

/-- 'quaestorlaw19.QueryParts': WHATEVER THE INPUT: true; the input reads as it did. -/
def queryPartsSpec : ChangeSpec := { name := "queryParts", fn := fun _ => fun
  | [d1, d2, d3, d4] => { results := [.lit (.bool true)], args := [d1, d2, d3, d4] }
  | _ => none }
def queryPartsRow : OpenClaim := { program := "ytidhlagdagbggaa", sum := "d87cce8e3a6cc6b2b791675a7901986e91d32b42a8f5ed7e4fa1a44023fcefe7", func := "quaestor/quaestorlaw19.QueryParts", spec := "queryParts", inPlace := ["internal/bytealg.IndexByteString", "internal/bytealg.IndexString", "math/bits.Add64"], unfollowed := true, recurses := true, named := ["internal/bytealg.MaxLen"], plainKeys := false, apart := false }
def QueryPartsSaid : Prop := queryPartsRow.holds Try.pinned (OpenSpec.ofChange queryPartsSpec)

/-- ITS FALSE NEIGHBOUR: 'it returns false'. Refute it at one input. -/
def queryPartsWrong : ChangeSpec := { name := "queryParts", fn := fun _ => fun
  | [d1, d2, d3, d4] => { results := [.lit (.bool false)], args := [d1, d2, d3, d4] }
  | _ => none }
def QueryPartsWrongFalsely : Prop := queryPartsRow.holds Try.pinned (OpenSpec.ofChange queryPartsWrong)

/-- 'quaestorlaw19.QueryBounds': WHATEVER THE INPUT: true; the input reads as it did. -/
def queryBoundsSpec : ChangeSpec := { name := "queryBounds", fn := fun _ => fun
  | [d1, d2, d3] => { results := [.lit (.bool true)], args := [d1, d2, d3] }
  | _ => none }
def queryBoundsRow : OpenClaim := { program := "ytidhlagdagbggaa", sum := "d87cce8e3a6cc6b2b791675a7901986e91d32b42a8f5ed7e4fa1a44023fcefe7", func := "quaestor/quaestorlaw19.QueryBounds", spec := "queryBounds", inPlace := ["internal/bytealg.IndexByteString", "internal/bytealg.IndexString", "math/bits.Add64"], unfollowed := true, recurses := true, named := ["internal/bytealg.MaxLen"], plainKeys := false, apart := false }
def QueryBoundsSaid : Prop := queryBoundsRow.holds Try.pinned (OpenSpec.ofChange queryBoundsSpec)

/-- ITS FALSE NEIGHBOUR: 'it returns false'. Refute it at one input. -/
def queryBoundsWrong : ChangeSpec := { name := "queryBounds", fn := fun _ => fun
  | [d1, d2, d3] => { results := [.lit (.bool false)], args := [d1, d2, d3] }
  | _ => none }
def QueryBoundsWrongFalsely : Prop := queryBoundsRow.holds Try.pinned (OpenSpec.ofChange queryBoundsWrong)

/- THE SECOND FORM. 'bulk': how many values and letters a reading holds, each counted each time it is reached (what is shared counts as often as it is met; a slice's spare places count too). A statement '..UptoSaid' is the law's where the arguments, and the package variables that the reading takes, are together of bulk at most 1048576: NARROWER than '..Said'. Prove '..Said' where nothing that the law and all that it calls make is longer than what came in: it says more and counts as full. Else prove '..UptoSaid'. A law counts once. -/
mutual
def uptoBulk {H : Type} : DataW H → Nat
  | .lit (.string bytes) => bytes.length + 1
  | .lit _ => 1
  | .nil => 1
  | .ptr d => uptoBulk d + 1
  | .slice elems spare => uptoBulkAll elems + uptoBulkAll spare + 1
  | .agg parts => uptoBulkAll parts + 1
  | .iface _ d => uptoBulk d + 1
  | .map entries => uptoBulkEntries entries + 1
  | .held _ => 1
def uptoBulkAll {H : Type} : List (DataW H) → Nat
  | [] => 0
  | d :: r => uptoBulk d + uptoBulkAll r
def uptoBulkEntries {H : Type} : List (Lit × DataW H) → Nat
  | [] => 0
  | x :: r => uptoBulkEntry x + uptoBulkEntries r
def uptoBulkEntry {H : Type} : Lit × DataW H → Nat
  | (.string bytes, d) => bytes.length + uptoBulk d + 1
  | (_, d) => uptoBulk d + 1
 end
def uptoSmall : (H : Type) → List (DataW H) → Bool := fun _ ds => decide (uptoBulkAll ds ≤ 1048576)
def OpenSpec.upto (s : _root_.Go.ChangeSpec) : _root_.Go.OpenSpec := { _root_.Go.OpenSpec.ofChange s with cond := some uptoSmall }

/-- 'quaestorlaw26.RaftForms', WHERE WHAT IT READS IS OF BULK AT MOST 1048576: true; the input reads as it did. -/
def raftFormsUptoRow : OpenClaim := { program := "ytidhlagdagbggaa", sum := "d87cce8e3a6cc6b2b791675a7901986e91d32b42a8f5ed7e4fa1a44023fcefe7", func := "quaestor/quaestorlaw26.RaftForms", spec := "raftForms", unfollowed := true, recurses := true, plainKeys := false, apart := false, narrowed := true }
def RaftFormsUptoSaid : Prop := raftFormsUptoRow.holds Try.pinned (OpenSpec.upto raftFormsSpec)

/-- 'quaestorlaw19.QueryOrder', WHERE WHAT IT READS IS OF BULK AT MOST 1048576: true; the input reads as it did. -/
def queryOrderUptoRow : OpenClaim := { program := "ytidhlagdagbggaa", sum := "d87cce8e3a6cc6b2b791675a7901986e91d32b42a8f5ed7e4fa1a44023fcefe7", func := "quaestor/quaestorlaw19.QueryOrder", spec := "queryOrder", inPlace := ["internal/bytealg.IndexByteString", "internal/bytealg.IndexString", "math/bits.Add64"], unfollowed := true, recurses := true, named := ["internal/bytealg.MaxLen"], plainKeys := false, apart := false, narrowed := true }
def QueryOrderUptoSaid : Prop := queryOrderUptoRow.holds Try.pinned (OpenSpec.upto queryOrderSpec)

/-- 'quaestorlaw19.QueryParts', WHERE WHAT IT READS IS OF BULK AT MOST 1048576: true; the input reads as it did. -/
def queryPartsUptoRow : OpenClaim := { program := "ytidhlagdagbggaa", sum := "d87cce8e3a6cc6b2b791675a7901986e91d32b42a8f5ed7e4fa1a44023fcefe7", func := "quaestor/quaestorlaw19.QueryParts", spec := "queryParts", inPlace := ["internal/bytealg.IndexByteString", "internal/bytealg.IndexString", "math/bits.Add64"], unfollowed := true, recurses := true, named := ["internal/bytealg.MaxLen"], plainKeys := false, apart := false, narrowed := true }
def QueryPartsUptoSaid : Prop := queryPartsUptoRow.holds Try.pinned (OpenSpec.upto queryPartsSpec)

/-- 'quaestorlaw19.QueryBounds', WHERE WHAT IT READS IS OF BULK AT MOST 1048576: true; the input reads as it did. -/
def queryBoundsUptoRow : OpenClaim := { program := "ytidhlagdagbggaa", sum := "d87cce8e3a6cc6b2b791675a7901986e91d32b42a8f5ed7e4fa1a44023fcefe7", func := "quaestor/quaestorlaw19.QueryBounds", spec := "queryBounds", inPlace := ["internal/bytealg.IndexByteString", "internal/bytealg.IndexString", "math/bits.Add64"], unfollowed := true, recurses := true, named := ["internal/bytealg.MaxLen"], plainKeys := false, apart := false, narrowed := true }
def QueryBoundsUptoSaid : Prop := queryBoundsUptoRow.holds Try.pinned (OpenSpec.upto queryBoundsSpec)

end Rows
end Go.Proofs.Ytidhlagdagbggaa

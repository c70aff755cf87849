/-
  No cell of these rows narrows 'for every input' (looked for: loops, veiled, ifaces, maps, wideKeys, modest, calm, conditions, laid).
  DERIVED. THE GIVEN ROWS OF THIS SEAT. 6 by the template 'for every input the law returns true; each argument reads behind the call as it read before'; 0 by the template 'total and deterministic' (their statements: YtgldbcbnficihaaTotals.lean).
  GIVEN WITH THE SEED: the statements are not yours to turn. If you find one false, say at which input.
  Laid BY PROGRAM, IN A SANDBOX (cutbox-rows.mjs): the forced cells as the released guide's own fill.sh prints them over the translation f40b87a54c8a8869… (all of the seat's roots in one cut). By AI agents, Wed Nov 11 2026. No macro, syntax, notation, axiom, sorry.
-/
import Derived.Test.YtgldbcbnficihaaChecked
import GoSem.Claim
import GoSem.ClaimJoined
import GoSem.ClaimMapViews
import Derived.JoinedTies
import Derived.KernelRfl
namespace Go.Proofs.Ytgldbcbnficihaa
/- THE CELL 'sum', in the pinned program and in every row, IS THE sha256 OF THE DUMP (.gsa) THAT YtgldbcbnficihaaProg.lean LOADS. Nothing in Lean hashes anything: it is a label: what it is worth is what the hold of that sum in a sandbox is worth. -/
noncomputable def Try.pinned : Pinned := { name := "ytgldbcbnficihaa", sum := "f40b87a54c8a8869c534feae0fbc48bf4d0448f1fa9e6ef51c11aa2980c07260", checked := Try.checked }
namespace Rows
def none {H : Type} : Left H := { results := [], args := [] }

/-- 'quaestorlaw12.LeaseOnce': WHATEVER THE INPUT: true; the input reads as it did. -/
def leaseOnceSpec : ChangeSpec := { name := "leaseOnce", fn := fun _ => fun
  | [d1, d2, d3, d4] => { results := [.lit (.bool true)], args := [d1, d2, d3, d4] }
  | _ => none }
def leaseOnceRow : OpenClaim := { program := "ytgldbcbnficihaa", sum := "f40b87a54c8a8869c534feae0fbc48bf4d0448f1fa9e6ef51c11aa2980c07260", func := "quaestor/quaestorlaw12.LeaseOnce", spec := "leaseOnce", apart := false }
def LeaseOnceSaid : Prop := leaseOnceRow.holds Try.pinned (OpenSpec.ofChange leaseOnceSpec)

/-- ITS FALSE NEIGHBOUR: 'it returns false'. Refute it at one input. -/
def leaseOnceWrong : ChangeSpec := { name := "leaseOnce", fn := fun _ => fun
  | [d1, d2, d3, d4] => { results := [.lit (.bool false)], args := [d1, d2, d3, d4] }
  | _ => none }
def LeaseOnceWrongFalsely : Prop := leaseOnceRow.holds Try.pinned (OpenSpec.ofChange leaseOnceWrong)

/-- 'quaestorlaw12.LeasePlays': WHATEVER THE INPUT: true; the input reads as it did. -/
def leasePlaysSpec : ChangeSpec := { name := "leasePlays", fn := fun _ => fun
  | [d1, d2, d3] => { results := [.lit (.bool true)], args := [d1, d2, d3] }
  | _ => none }
def leasePlaysRow : OpenClaim := { program := "ytgldbcbnficihaa", sum := "f40b87a54c8a8869c534feae0fbc48bf4d0448f1fa9e6ef51c11aa2980c07260", func := "quaestor/quaestorlaw12.LeasePlays", spec := "leasePlays", apart := false }
def LeasePlaysSaid : Prop := leasePlaysRow.holds Try.pinned (OpenSpec.ofChange leasePlaysSpec)

/-- ITS FALSE NEIGHBOUR: 'it returns false'. Refute it at one input. -/
def leasePlaysWrong : ChangeSpec := { name := "leasePlays", fn := fun _ => fun
  | [d1, d2, d3] => { results := [.lit (.bool false)], args := [d1, d2, d3] }
  | _ => none }
def LeasePlaysWrongFalsely : Prop := leasePlaysRow.holds Try.pinned (OpenSpec.ofChange leasePlaysWrong)

/-- 'quaestorlaw12.LeaseEnds': WHATEVER THE INPUT: true; the input reads as it did. -/
def leaseEndsSpec : ChangeSpec := { name := "leaseEnds", fn := fun _ => fun
  | [d1, d2, d3] => { results := [.lit (.bool true)], args := [d1, d2, d3] }
  | _ => none }
def leaseEndsRow : OpenClaim := { program := "ytgldbcbnficihaa", sum := "f40b87a54c8a8869c534feae0fbc48bf4d0448f1fa9e6ef51c11aa2980c07260", func := "quaestor/quaestorlaw12.LeaseEnds", spec := "leaseEnds", apart := false }
def LeaseEndsSaid : Prop := leaseEndsRow.holds Try.pinned (OpenSpec.ofChange leaseEndsSpec)

/-- ITS FALSE NEIGHBOUR: 'it returns false'. Refute it at one input. -/
def leaseEndsWrong : ChangeSpec := { name := "leaseEnds", fn := fun _ => fun
  | [d1, d2, d3] => { results := [.lit (.bool false)], args := [d1, d2, d3] }
  | _ => none }
def LeaseEndsWrongFalsely : Prop := leaseEndsRow.holds Try.pinned (OpenSpec.ofChange leaseEndsWrong)

/-- 'quaestorlaw23.RlogCuts': WHATEVER THE INPUT: true; the input reads as it did. -/
def rlogCutsSpec : ChangeSpec := { name := "rlogCuts", fn := fun _ => fun
  | [d1, d2, d3, d4, d5] => { results := [.lit (.bool true)], args := [d1, d2, d3, d4, d5] }
  | _ => none }
def rlogCutsRow : OpenClaim := { program := "ytgldbcbnficihaa", sum := "f40b87a54c8a8869c534feae0fbc48bf4d0448f1fa9e6ef51c11aa2980c07260", func := "quaestor/quaestorlaw23.RlogCuts", spec := "rlogCuts", apart := false }
def RlogCutsSaid : Prop := rlogCutsRow.holds Try.pinned (OpenSpec.ofChange rlogCutsSpec)

/-- ITS FALSE NEIGHBOUR: 'it returns false'. Refute it at one input. -/
def rlogCutsWrong : ChangeSpec := { name := "rlogCuts", fn := fun _ => fun
  | [d1, d2, d3, d4, d5] => { results := [.lit (.bool false)], args := [d1, d2, d3, d4, d5] }
  | _ => none }
def RlogCutsWrongFalsely : Prop := rlogCutsRow.holds Try.pinned (OpenSpec.ofChange rlogCutsWrong)

/-- 'quaestorlaw23.RlogMatches': WHATEVER THE INPUT: true; the input reads as it did. -/
def rlogMatchesSpec : ChangeSpec := { name := "rlogMatches", fn := fun _ => fun
  | [d1, d2] => { results := [.lit (.bool true)], args := [d1, d2] }
  | _ => none }
def rlogMatchesRow : OpenClaim := { program := "ytgldbcbnficihaa", sum := "f40b87a54c8a8869c534feae0fbc48bf4d0448f1fa9e6ef51c11aa2980c07260", func := "quaestor/quaestorlaw23.RlogMatches", spec := "rlogMatches", apart := false }
def RlogMatchesSaid : Prop := rlogMatchesRow.holds Try.pinned (OpenSpec.ofChange rlogMatchesSpec)

/-- ITS FALSE NEIGHBOUR: 'it returns false'. Refute it at one input. -/
def rlogMatchesWrong : ChangeSpec := { name := "rlogMatches", fn := fun _ => fun
  | [d1, d2] => { results := [.lit (.bool false)], args := [d1, d2] }
  | _ => none }
def RlogMatchesWrongFalsely : Prop := rlogMatchesRow.holds Try.pinned (OpenSpec.ofChange rlogMatchesWrong)

/-- 'quaestorlaw23.RlogPlays': WHATEVER THE INPUT: true; the input reads as it did. -/
def rlogPlaysSpec : ChangeSpec := { name := "rlogPlays", fn := fun _ => fun
  | [d1, d2, d3, d4, d5, d6] => { results := [.lit (.bool true)], args := [d1, d2, d3, d4, d5, d6] }
  | _ => none }
def rlogPlaysRow : OpenClaim := { program := "ytgldbcbnficihaa", sum := "f40b87a54c8a8869c534feae0fbc48bf4d0448f1fa9e6ef51c11aa2980c07260", func := "quaestor/quaestorlaw23.RlogPlays", spec := "rlogPlays", apart := false }
def RlogPlaysSaid : Prop := rlogPlaysRow.holds Try.pinned (OpenSpec.ofChange rlogPlaysSpec)

/-- ITS FALSE NEIGHBOUR: 'it returns false'. Refute it at one input. -/
def rlogPlaysWrong : ChangeSpec := { name := "rlogPlays", fn := fun _ => fun
  | [d1, d2, d3, d4, d5, d6] => { results := [.lit (.bool false)], args := [d1, d2, d3, d4, d5, d6] }
  | _ => none }
def RlogPlaysWrongFalsely : Prop := rlogPlaysRow.holds Try.pinned (OpenSpec.ofChange rlogPlaysWrong)

/- THE SECOND FORM. 'bulk': how many values and letters a reading holds, each counted each time it is reached (what is shared counts as often as it is met; a slice's spare places count too). A statement '..UptoSaid' is the law's where the arguments, and the package variables that the reading takes, are together of bulk at most 1048576: NARROWER than '..Said'. Prove '..Said' where nothing that the law and all that it calls make is longer than what came in: it says more and counts as full. Else prove '..UptoSaid'. A law counts once. -/
mutual
def uptoBulk {H : Type} : DataW H → Nat
  | .lit (.string bytes) => bytes.length + 1
  | .lit _ => 1
  | .nil => 1
  | .ptr d => uptoBulk d + 1
  | .slice elems spare => uptoBulkAll elems + uptoBulkAll spare + 1
  | .agg parts => uptoBulkAll parts + 1
  | .iface _ d => uptoBulk d + 1
  | .map entries => uptoBulkEntries entries + 1
  | .held _ => 1
def uptoBulkAll {H : Type} : List (DataW H) → Nat
  | [] => 0
  | d :: r => uptoBulk d + uptoBulkAll r
def uptoBulkEntries {H : Type} : List (Lit × DataW H) → Nat
  | [] => 0
  | x :: r => uptoBulkEntry x + uptoBulkEntries r
def uptoBulkEntry {H : Type} : Lit × DataW H → Nat
  | (.string bytes, d) => bytes.length + uptoBulk d + 1
  | (_, d) => uptoBulk d + 1
 end
def uptoSmall : (H : Type) → List (DataW H) → Bool := fun _ ds => decide (uptoBulkAll ds ≤ 1048576)
def OpenSpec.upto (s : _root_.Go.ChangeSpec) : _root_.Go.OpenSpec := { _root_.Go.OpenSpec.ofChange s with cond := some uptoSmall }

/-- 'quaestorlaw12.LeaseOnce', WHERE WHAT IT READS IS OF BULK AT MOST 1048576: true; the input reads as it did. -/
def leaseOnceUptoRow : OpenClaim := { program := "ytgldbcbnficihaa", sum := "f40b87a54c8a8869c534feae0fbc48bf4d0448f1fa9e6ef51c11aa2980c07260", func := "quaestor/quaestorlaw12.LeaseOnce", spec := "leaseOnce", apart := false, narrowed := true }
def LeaseOnceUptoSaid : Prop := leaseOnceUptoRow.holds Try.pinned (OpenSpec.upto leaseOnceSpec)

/-- 'quaestorlaw12.LeasePlays', WHERE WHAT IT READS IS OF BULK AT MOST 1048576: true; the input reads as it did. -/
def leasePlaysUptoRow : OpenClaim := { program := "ytgldbcbnficihaa", sum := "f40b87a54c8a8869c534feae0fbc48bf4d0448f1fa9e6ef51c11aa2980c07260", func := "quaestor/quaestorlaw12.LeasePlays", spec := "leasePlays", apart := false, narrowed := true }
def LeasePlaysUptoSaid : Prop := leasePlaysUptoRow.holds Try.pinned (OpenSpec.upto leasePlaysSpec)

/-- 'quaestorlaw12.LeaseEnds', WHERE WHAT IT READS IS OF BULK AT MOST 1048576: true; the input reads as it did. -/
def leaseEndsUptoRow : OpenClaim := { program := "ytgldbcbnficihaa", sum := "f40b87a54c8a8869c534feae0fbc48bf4d0448f1fa9e6ef51c11aa2980c07260", func := "quaestor/quaestorlaw12.LeaseEnds", spec := "leaseEnds", apart := false, narrowed := true }
def LeaseEndsUptoSaid : Prop := leaseEndsUptoRow.holds Try.pinned (OpenSpec.upto leaseEndsSpec)

/-- 'quaestorlaw23.RlogCuts', WHERE WHAT IT READS IS OF BULK AT MOST 1048576: true; the input reads as it did. -/
def rlogCutsUptoRow : OpenClaim := { program := "ytgldbcbnficihaa", sum := "f40b87a54c8a8869c534feae0fbc48bf4d0448f1fa9e6ef51c11aa2980c07260", func := "quaestor/quaestorlaw23.RlogCuts", spec := "rlogCuts", apart := false, narrowed := true }
def RlogCutsUptoSaid : Prop := rlogCutsUptoRow.holds Try.pinned (OpenSpec.upto rlogCutsSpec)

/-- 'quaestorlaw23.RlogMatches', WHERE WHAT IT READS IS OF BULK AT MOST 1048576: true; the input reads as it did. -/
def rlogMatchesUptoRow : OpenClaim := { program := "ytgldbcbnficihaa", sum := "f40b87a54c8a8869c534feae0fbc48bf4d0448f1fa9e6ef51c11aa2980c07260", func := "quaestor/quaestorlaw23.RlogMatches", spec := "rlogMatches", apart := false, narrowed := true }
def RlogMatchesUptoSaid : Prop := rlogMatchesUptoRow.holds Try.pinned (OpenSpec.upto rlogMatchesSpec)

/-- 'quaestorlaw23.RlogPlays', WHERE WHAT IT READS IS OF BULK AT MOST 1048576: true; the input reads as it did. -/
def rlogPlaysUptoRow : OpenClaim := { program := "ytgldbcbnficihaa", sum := "f40b87a54c8a8869c534feae0fbc48bf4d0448f1fa9e6ef51c11aa2980c07260", func := "quaestor/quaestorlaw23.RlogPlays", spec := "rlogPlays", apart := false, narrowed := true }
def RlogPlaysUptoSaid : Prop := rlogPlaysUptoRow.holds Try.pinned (OpenSpec.upto rlogPlaysSpec)

end Rows
end Go.Proofs.Ytgldbcbnficihaa

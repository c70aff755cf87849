/-
  No cell of these rows narrows 'for every input' (looked for: loops, veiled, ifaces, maps, wideKeys, modest, calm, conditions, laid).
  DERIVED. THE GIVEN ROWS OF THIS SEAT. 4 by the template 'for every input the law returns true; each argument reads behind the call as it read before'; 0 by the template 'total and deterministic' (their statements: YthjafnfadiijgaaTotals.lean).
  GIVEN WITH THE SEED: the statements are not yours to turn. If you find one false, say at which input.
  Laid BY PROGRAM, IN A SANDBOX (cutbox-rows.mjs): the forced cells as the released guide's own fill.sh prints them over the translation b36e3e51e41b0fa6… (all of the seat's roots in one cut). By AI agents, Wed Nov 11 2026. No macro, syntax, notation, axiom, sorry.
-/
import Derived.Test.YthjafnfadiijgaaChecked
import GoSem.Claim
import GoSem.ClaimJoined
import GoSem.ClaimMapViews
import Derived.JoinedTies
import Derived.KernelRfl
namespace Go.Proofs.Ythjafnfadiijgaa
/- THE CELL 'sum', in the pinned program and in every row, IS THE sha256 OF THE DUMP (.gsa) THAT YthjafnfadiijgaaProg.lean LOADS. Nothing in Lean hashes anything: it is a label: what it is worth is what the hold of that sum in a sandbox is worth. -/
noncomputable def Try.pinned : Pinned := { name := "ythjafnfadiijgaa", sum := "b36e3e51e41b0fa697aacbd7b2d550d67fe123d7c899aac18272020f202ad66d", checked := Try.checked }
namespace Rows
def none {H : Type} : Left H := { results := [], args := [] }

/-- 'quaestorlaw26.RaftForms': WHATEVER THE INPUT: true; the input reads as it did. -/
def raftFormsSpec : ChangeSpec := { name := "raftForms", fn := fun _ => fun
  | [d1, d2] => { results := [.lit (.bool true)], args := [d1, d2] }
  | _ => none }
def raftFormsRow : OpenClaim := { program := "ythjafnfadiijgaa", sum := "b36e3e51e41b0fa697aacbd7b2d550d67fe123d7c899aac18272020f202ad66d", func := "quaestor/quaestorlaw26.RaftForms", spec := "raftForms", unfollowed := true, recurses := true, apart := false }
def RaftFormsSaid : Prop := raftFormsRow.holds Try.pinned (OpenSpec.ofChange raftFormsSpec)

/-- ITS FALSE NEIGHBOUR: 'it returns false'. Refute it at one input. -/
def raftFormsWrong : ChangeSpec := { name := "raftForms", fn := fun _ => fun
  | [d1, d2] => { results := [.lit (.bool false)], args := [d1, d2] }
  | _ => none }
def RaftFormsWrongFalsely : Prop := raftFormsRow.holds Try.pinned (OpenSpec.ofChange raftFormsWrong)

/-- 'quaestorlaw26.RaftTakes': WHATEVER THE INPUT: true; the input reads as it did. -/
def raftTakesSpec : ChangeSpec := { name := "raftTakes", fn := fun _ => fun
  | [d1, d2, d3, d4, d5, d6] => { results := [.lit (.bool true)], args := [d1, d2, d3, d4, d5, d6] }
  | _ => none }
def raftTakesRow : OpenClaim := { program := "ythjafnfadiijgaa", sum := "b36e3e51e41b0fa697aacbd7b2d550d67fe123d7c899aac18272020f202ad66d", func := "quaestor/quaestorlaw26.RaftTakes", spec := "raftTakes", unfollowed := true, recurses := true, apart := false }
def RaftTakesSaid : Prop := raftTakesRow.holds Try.pinned (OpenSpec.ofChange raftTakesSpec)

/-- ITS FALSE NEIGHBOUR: 'it returns false'. Refute it at one input. -/
def raftTakesWrong : ChangeSpec := { name := "raftTakes", fn := fun _ => fun
  | [d1, d2, d3, d4, d5, d6] => { results := [.lit (.bool false)], args := [d1, d2, d3, d4, d5, d6] }
  | _ => none }
def RaftTakesWrongFalsely : Prop := raftTakesRow.holds Try.pinned (OpenSpec.ofChange raftTakesWrong)

/-- 'quaestorlaw26.RaftLives': WHATEVER THE INPUT: true; the input reads as it did. -/
def raftLivesSpec : ChangeSpec := { name := "raftLives", fn := fun _ => fun
  | [d1, d2] => { results := [.lit (.bool true)], args := [d1, d2] }
  | _ => none }
def raftLivesRow : OpenClaim := { program := "ythjafnfadiijgaa", sum := "b36e3e51e41b0fa697aacbd7b2d550d67fe123d7c899aac18272020f202ad66d", func := "quaestor/quaestorlaw26.RaftLives", spec := "raftLives", unfollowed := true, recurses := true, apart := false }
def RaftLivesSaid : Prop := raftLivesRow.holds Try.pinned (OpenSpec.ofChange raftLivesSpec)

/-- ITS FALSE NEIGHBOUR: 'it returns false'. Refute it at one input. -/
def raftLivesWrong : ChangeSpec := { name := "raftLives", fn := fun _ => fun
  | [d1, d2] => { results := [.lit (.bool false)], args := [d1, d2] }
  | _ => none }
def RaftLivesWrongFalsely : Prop := raftLivesRow.holds Try.pinned (OpenSpec.ofChange raftLivesWrong)

/-- 'quaestorlaw26.RaftSafe': WHATEVER THE INPUT: true; the input reads as it did. -/
def raftSafeSpec : ChangeSpec := { name := "raftSafe", fn := fun _ => fun
  | [d1, d2] => { results := [.lit (.bool true)], args := [d1, d2] }
  | _ => none }
def raftSafeRow : OpenClaim := { program := "ythjafnfadiijgaa", sum := "b36e3e51e41b0fa697aacbd7b2d550d67fe123d7c899aac18272020f202ad66d", func := "quaestor/quaestorlaw26.RaftSafe", spec := "raftSafe", unfollowed := true, recurses := true, apart := false }
def RaftSafeSaid : Prop := raftSafeRow.holds Try.pinned (OpenSpec.ofChange raftSafeSpec)

/-- ITS FALSE NEIGHBOUR: 'it returns false'. Refute it at one input. -/
def raftSafeWrong : ChangeSpec := { name := "raftSafe", fn := fun _ => fun
  | [d1, d2] => { results := [.lit (.bool false)], args := [d1, d2] }
  | _ => none }
def RaftSafeWrongFalsely : Prop := raftSafeRow.holds Try.pinned (OpenSpec.ofChange raftSafeWrong)

/- THE SECOND FORM. 'bulk': how many values and letters a reading holds, each counted each time it is reached (what is shared counts as often as it is met; a slice's spare places count too). A statement '..UptoSaid' is the law's where the arguments, and the package variables that the reading takes, are together of bulk at most 1048576: NARROWER than '..Said'. Prove '..Said' where nothing that the law and all that it calls make is longer than what came in: it says more and counts as full. Else prove '..UptoSaid'. A law counts once. -/
mutual
def uptoBulk {H : Type} : DataW H → Nat
  | .lit (.string bytes) => bytes.length + 1
  | .lit _ => 1
  | .nil => 1
  | .ptr d => uptoBulk d + 1
  | .slice elems spare => uptoBulkAll elems + uptoBulkAll spare + 1
  | .agg parts => uptoBulkAll parts + 1
  | .iface _ d => uptoBulk d + 1
  | .map entries => uptoBulkEntries entries + 1
  | .held _ => 1
def uptoBulkAll {H : Type} : List (DataW H) → Nat
  | [] => 0
  | d :: r => uptoBulk d + uptoBulkAll r
def uptoBulkEntries {H : Type} : List (Lit × DataW H) → Nat
  | [] => 0
  | x :: r => uptoBulkEntry x + uptoBulkEntries r
def uptoBulkEntry {H : Type} : Lit × DataW H → Nat
  | (.string bytes, d) => bytes.length + uptoBulk d + 1
  | (_, d) => uptoBulk d + 1
 end
def uptoSmall : (H : Type) → List (DataW H) → Bool := fun _ ds => decide (uptoBulkAll ds ≤ 1048576)
def OpenSpec.upto (s : _root_.Go.ChangeSpec) : _root_.Go.OpenSpec := { _root_.Go.OpenSpec.ofChange s with cond := some uptoSmall }

/-- 'quaestorlaw26.RaftForms', WHERE WHAT IT READS IS OF BULK AT MOST 1048576: true; the input reads as it did. -/
def raftFormsUptoRow : OpenClaim := { program := "ythjafnfadiijgaa", sum := "b36e3e51e41b0fa697aacbd7b2d550d67fe123d7c899aac18272020f202ad66d", func := "quaestor/quaestorlaw26.RaftForms", spec := "raftForms", unfollowed := true, recurses := true, apart := false, narrowed := true }
def RaftFormsUptoSaid : Prop := raftFormsUptoRow.holds Try.pinned (OpenSpec.upto raftFormsSpec)

/-- 'quaestorlaw26.RaftTakes', WHERE WHAT IT READS IS OF BULK AT MOST 1048576: true; the input reads as it did. -/
def raftTakesUptoRow : OpenClaim := { program := "ythjafnfadiijgaa", sum := "b36e3e51e41b0fa697aacbd7b2d550d67fe123d7c899aac18272020f202ad66d", func := "quaestor/quaestorlaw26.RaftTakes", spec := "raftTakes", unfollowed := true, recurses := true, apart := false, narrowed := true }
def RaftTakesUptoSaid : Prop := raftTakesUptoRow.holds Try.pinned (OpenSpec.upto raftTakesSpec)

/-- 'quaestorlaw26.RaftLives', WHERE WHAT IT READS IS OF BULK AT MOST 1048576: true; the input reads as it did. -/
def raftLivesUptoRow : OpenClaim := { program := "ythjafnfadiijgaa", sum := "b36e3e51e41b0fa697aacbd7b2d550d67fe123d7c899aac18272020f202ad66d", func := "quaestor/quaestorlaw26.RaftLives", spec := "raftLives", unfollowed := true, recurses := true, apart := false, narrowed := true }
def RaftLivesUptoSaid : Prop := raftLivesUptoRow.holds Try.pinned (OpenSpec.upto raftLivesSpec)

/-- 'quaestorlaw26.RaftSafe', WHERE WHAT IT READS IS OF BULK AT MOST 1048576: true; the input reads as it did. -/
def raftSafeUptoRow : OpenClaim := { program := "ythjafnfadiijgaa", sum := "b36e3e51e41b0fa697aacbd7b2d550d67fe123d7c899aac18272020f202ad66d", func := "quaestor/quaestorlaw26.RaftSafe", spec := "raftSafe", unfollowed := true, recurses := true, apart := false, narrowed := true }
def RaftSafeUptoSaid : Prop := raftSafeUptoRow.holds Try.pinned (OpenSpec.upto raftSafeSpec)

end Rows
end Go.Proofs.Ythjafnfadiijgaa

/-
  No cell of these rows narrows 'for every input' (looked for: loops, veiled, ifaces, maps, wideKeys, modest, calm, conditions, laid).
  DERIVED. THE GIVEN ROWS OF THIS SEAT. 17 by the template 'for every input the law returns true; each argument reads behind the call as it read before'; 0 by the template 'total and deterministic' (their statements: YtcmbgfmbmbgbiaaTotals.lean).
  GIVEN WITH THE SEED: the statements are not yours to turn. If you find one false, say at which input.
  Laid BY PROGRAM, IN A SANDBOX (cutbox-rows.mjs): the forced cells as the released guide's own fill.sh prints them over the translation cb5956927f0a4511… (all of the seat's roots in one cut). By AI agents, Wed Nov 11 2026. No macro, syntax, notation, axiom, sorry.
-/
import Derived.Test.YtcmbgfmbmbgbiaaChecked
import GoSem.Claim
import GoSem.ClaimJoined
import GoSem.ClaimMapViews
import Derived.JoinedTies
import Derived.KernelRfl
namespace Go.Proofs.Ytcmbgfmbmbgbiaa
/- THE CELL 'sum', in the pinned program and in every row, IS THE sha256 OF THE DUMP (.gsa) THAT YtcmbgfmbmbgbiaaProg.lean LOADS. Nothing in Lean hashes anything: it is a label: what it is worth is what the hold of that sum in a sandbox is worth. -/
noncomputable def Try.pinned : Pinned := { name := "ytcmbgfmbmbgbiaa", sum := "cb5956927f0a451161b90513a004ae95fe5ac3627bcc118ed22cfe706934c9ce", checked := Try.checked }
namespace Rows
def none {H : Type} : Left H := { results := [], args := [] }

/-- 'quaestorlaw27.PackEven': WHATEVER THE INPUT: true; the input reads as it did. -/
def packEvenSpec : ChangeSpec := { name := "packEven", fn := fun _ => fun
  | [d1, d2] => { results := [.lit (.bool true)], args := [d1, d2] }
  | _ => none }
def packEvenRow : OpenClaim := { program := "ytcmbgfmbmbgbiaa", sum := "cb5956927f0a451161b90513a004ae95fe5ac3627bcc118ed22cfe706934c9ce", func := "quaestor/quaestorlaw27.PackEven", spec := "packEven", unfollowed := true, recurses := true, apart := false }
def PackEvenSaid : Prop := packEvenRow.holds Try.pinned (OpenSpec.ofChange packEvenSpec)

/-- ITS FALSE NEIGHBOUR: 'it returns false'. Refute it at one input. -/
def packEvenWrong : ChangeSpec := { name := "packEven", fn := fun _ => fun
  | [d1, d2] => { results := [.lit (.bool false)], args := [d1, d2] }
  | _ => none }
def PackEvenWrongFalsely : Prop := packEvenRow.holds Try.pinned (OpenSpec.ofChange packEvenWrong)

/-- 'quaestorlaw25.RegForms': WHATEVER THE INPUT: true; the input reads as it did. -/
def regFormsSpec : ChangeSpec := { name := "regForms", fn := fun _ => fun
  | [d1, d2] => { results := [.lit (.bool true)], args := [d1, d2] }
  | _ => none }
def regFormsRow : OpenClaim := { program := "ytcmbgfmbmbgbiaa", sum := "cb5956927f0a451161b90513a004ae95fe5ac3627bcc118ed22cfe706934c9ce", func := "quaestor/quaestorlaw25.RegForms", spec := "regForms", unfollowed := true, recurses := true, apart := false }
def RegFormsSaid : Prop := regFormsRow.holds Try.pinned (OpenSpec.ofChange regFormsSpec)

/-- ITS FALSE NEIGHBOUR: 'it returns false'. Refute it at one input. -/
def regFormsWrong : ChangeSpec := { name := "regForms", fn := fun _ => fun
  | [d1, d2] => { results := [.lit (.bool false)], args := [d1, d2] }
  | _ => none }
def RegFormsWrongFalsely : Prop := regFormsRow.holds Try.pinned (OpenSpec.ofChange regFormsWrong)

/-- 'quaestorlaw15.LabelChooses': WHATEVER THE INPUT: true; the input reads as it did. -/
def labelChoosesSpec : ChangeSpec := { name := "labelChooses", fn := fun _ => fun
  | [d1, d2] => { results := [.lit (.bool true)], args := [d1, d2] }
  | _ => none }
def labelChoosesRow : OpenClaim := { program := "ytcmbgfmbmbgbiaa", sum := "cb5956927f0a451161b90513a004ae95fe5ac3627bcc118ed22cfe706934c9ce", func := "quaestor/quaestorlaw15.LabelChooses", spec := "labelChooses", inPlace := ["internal/bytealg.IndexByteString", "internal/bytealg.IndexString"], unfollowed := true, recurses := true, named := ["internal/bytealg.MaxLen"], apart := false }
def LabelChoosesSaid : Prop := labelChoosesRow.holds Try.pinned (OpenSpec.ofChange labelChoosesSpec)

/-- ITS FALSE NEIGHBOUR: 'it returns false'. Refute it at one input. -/
def labelChoosesWrong : ChangeSpec := { name := "labelChooses", fn := fun _ => fun
  | [d1, d2] => { results := [.lit (.bool false)], args := [d1, d2] }
  | _ => none }
def LabelChoosesWrongFalsely : Prop := labelChoosesRow.holds Try.pinned (OpenSpec.ofChange labelChoosesWrong)

/-- 'quaestorlaw27.PackGets': WHATEVER THE INPUT: true; the input reads as it did. -/
def packGetsSpec : ChangeSpec := { name := "packGets", fn := fun _ => fun
  | [d] => { results := [.lit (.bool true)], args := [d] }
  | _ => none }
def packGetsRow : OpenClaim := { program := "ytcmbgfmbmbgbiaa", sum := "cb5956927f0a451161b90513a004ae95fe5ac3627bcc118ed22cfe706934c9ce", func := "quaestor/quaestorlaw27.PackGets", spec := "packGets", unfollowed := true, recurses := true, apart := false }
def PackGetsSaid : Prop := packGetsRow.holds Try.pinned (OpenSpec.ofChange packGetsSpec)

/-- ITS FALSE NEIGHBOUR: 'it returns false'. Refute it at one input. -/
def packGetsWrong : ChangeSpec := { name := "packGets", fn := fun _ => fun
  | [d] => { results := [.lit (.bool false)], args := [d] }
  | _ => none }
def PackGetsWrongFalsely : Prop := packGetsRow.holds Try.pinned (OpenSpec.ofChange packGetsWrong)

/-- 'quaestorlaw27.PackTorn': WHATEVER THE INPUT: true; the input reads as it did. -/
def packTornSpec : ChangeSpec := { name := "packTorn", fn := fun _ => fun
  | [d1, d2] => { results := [.lit (.bool true)], args := [d1, d2] }
  | _ => none }
def packTornRow : OpenClaim := { program := "ytcmbgfmbmbgbiaa", sum := "cb5956927f0a451161b90513a004ae95fe5ac3627bcc118ed22cfe706934c9ce", func := "quaestor/quaestorlaw27.PackTorn", spec := "packTorn", unfollowed := true, recurses := true, apart := false }
def PackTornSaid : Prop := packTornRow.holds Try.pinned (OpenSpec.ofChange packTornSpec)

/-- ITS FALSE NEIGHBOUR: 'it returns false'. Refute it at one input. -/
def packTornWrong : ChangeSpec := { name := "packTorn", fn := fun _ => fun
  | [d1, d2] => { results := [.lit (.bool false)], args := [d1, d2] }
  | _ => none }
def PackTornWrongFalsely : Prop := packTornRow.holds Try.pinned (OpenSpec.ofChange packTornWrong)

/-- 'quaestorlaw15.LabelWrites': WHATEVER THE INPUT: true; the input reads as it did. -/
def labelWritesSpec : ChangeSpec := { name := "labelWrites", fn := fun _ => fun
  | [d1, d2] => { results := [.lit (.bool true)], args := [d1, d2] }
  | _ => none }
def labelWritesRow : OpenClaim := { program := "ytcmbgfmbmbgbiaa", sum := "cb5956927f0a451161b90513a004ae95fe5ac3627bcc118ed22cfe706934c9ce", func := "quaestor/quaestorlaw15.LabelWrites", spec := "labelWrites", inPlace := ["internal/bytealg.IndexByteString", "internal/bytealg.IndexString", "internal/abi.NoEscape", "internal/bytealg.MakeNoZero"], unfollowed := true, recurses := true, named := ["internal/bytealg.MaxLen"], apart := false }
def LabelWritesSaid : Prop := labelWritesRow.holds Try.pinned (OpenSpec.ofChange labelWritesSpec)

/-- ITS FALSE NEIGHBOUR: 'it returns false'. Refute it at one input. -/
def labelWritesWrong : ChangeSpec := { name := "labelWrites", fn := fun _ => fun
  | [d1, d2] => { results := [.lit (.bool false)], args := [d1, d2] }
  | _ => none }
def LabelWritesWrongFalsely : Prop := labelWritesRow.holds Try.pinned (OpenSpec.ofChange labelWritesWrong)

/-- 'quaestorlaw24.VoteCommits': WHATEVER THE INPUT: true; the input reads as it did. -/
def voteCommitsSpec : ChangeSpec := { name := "voteCommits", fn := fun _ => fun
  | [d1, d2, d3] => { results := [.lit (.bool true)], args := [d1, d2, d3] }
  | _ => none }
def voteCommitsRow : OpenClaim := { program := "ytcmbgfmbmbgbiaa", sum := "cb5956927f0a451161b90513a004ae95fe5ac3627bcc118ed22cfe706934c9ce", func := "quaestor/quaestorlaw24.VoteCommits", spec := "voteCommits", unfollowed := true, recurses := true, apart := false }
def VoteCommitsSaid : Prop := voteCommitsRow.holds Try.pinned (OpenSpec.ofChange voteCommitsSpec)

/-- ITS FALSE NEIGHBOUR: 'it returns false'. Refute it at one input. -/
def voteCommitsWrong : ChangeSpec := { name := "voteCommits", fn := fun _ => fun
  | [d1, d2, d3] => { results := [.lit (.bool false)], args := [d1, d2, d3] }
  | _ => none }
def VoteCommitsWrongFalsely : Prop := voteCommitsRow.holds Try.pinned (OpenSpec.ofChange voteCommitsWrong)

/-- 'quaestorlaw24.VoteCounts': WHATEVER THE INPUT: true; the input reads as it did. -/
def voteCountsSpec : ChangeSpec := { name := "voteCounts", fn := fun _ => fun
  | [d1, d2] => { results := [.lit (.bool true)], args := [d1, d2] }
  | _ => none }
def voteCountsRow : OpenClaim := { program := "ytcmbgfmbmbgbiaa", sum := "cb5956927f0a451161b90513a004ae95fe5ac3627bcc118ed22cfe706934c9ce", func := "quaestor/quaestorlaw24.VoteCounts", spec := "voteCounts", unfollowed := true, recurses := true, apart := false }
def VoteCountsSaid : Prop := voteCountsRow.holds Try.pinned (OpenSpec.ofChange voteCountsSpec)

/-- ITS FALSE NEIGHBOUR: 'it returns false'. Refute it at one input. -/
def voteCountsWrong : ChangeSpec := { name := "voteCounts", fn := fun _ => fun
  | [d1, d2] => { results := [.lit (.bool false)], args := [d1, d2] }
  | _ => none }
def VoteCountsWrongFalsely : Prop := voteCountsRow.holds Try.pinned (OpenSpec.ofChange voteCountsWrong)

/-- 'quaestorlaw24.VoteMeets': WHATEVER THE INPUT: true; the input reads as it did. -/
def voteMeetsSpec : ChangeSpec := { name := "voteMeets", fn := fun _ => fun
  | [d1, d2, d3] => { results := [.lit (.bool true)], args := [d1, d2, d3] }
  | _ => none }
def voteMeetsRow : OpenClaim := { program := "ytcmbgfmbmbgbiaa", sum := "cb5956927f0a451161b90513a004ae95fe5ac3627bcc118ed22cfe706934c9ce", func := "quaestor/quaestorlaw24.VoteMeets", spec := "voteMeets", unfollowed := true, recurses := true, apart := false }
def VoteMeetsSaid : Prop := voteMeetsRow.holds Try.pinned (OpenSpec.ofChange voteMeetsSpec)

/-- ITS FALSE NEIGHBOUR: 'it returns false'. Refute it at one input. -/
def voteMeetsWrong : ChangeSpec := { name := "voteMeets", fn := fun _ => fun
  | [d1, d2, d3] => { results := [.lit (.bool false)], args := [d1, d2, d3] }
  | _ => none }
def VoteMeetsWrongFalsely : Prop := voteMeetsRow.holds Try.pinned (OpenSpec.ofChange voteMeetsWrong)

/-- 'quaestorlaw09.DiskSafe': WHATEVER THE INPUT: true; the input reads as it did. -/
def diskSafeSpec : ChangeSpec := { name := "diskSafe", fn := fun _ => fun
  | [d1, d2, d3, d4] => { results := [.lit (.bool true)], args := [d1, d2, d3, d4] }
  | _ => none }
def diskSafeRow : OpenClaim := { program := "ytcmbgfmbmbgbiaa", sum := "cb5956927f0a451161b90513a004ae95fe5ac3627bcc118ed22cfe706934c9ce", func := "quaestor/quaestorlaw09.DiskSafe", spec := "diskSafe", unfollowed := true, recurses := true, apart := false }
def DiskSafeSaid : Prop := diskSafeRow.holds Try.pinned (OpenSpec.ofChange diskSafeSpec)

/-- ITS FALSE NEIGHBOUR: 'it returns false'. Refute it at one input. -/
def diskSafeWrong : ChangeSpec := { name := "diskSafe", fn := fun _ => fun
  | [d1, d2, d3, d4] => { results := [.lit (.bool false)], args := [d1, d2, d3, d4] }
  | _ => none }
def DiskSafeWrongFalsely : Prop := diskSafeRow.holds Try.pinned (OpenSpec.ofChange diskSafeWrong)

/-- 'quaestorlaw09.DiskPlays': WHATEVER THE INPUT: true; the input reads as it did. -/
def diskPlaysSpec : ChangeSpec := { name := "diskPlays", fn := fun _ => fun
  | [d1, d2] => { results := [.lit (.bool true)], args := [d1, d2] }
  | _ => none }
def diskPlaysRow : OpenClaim := { program := "ytcmbgfmbmbgbiaa", sum := "cb5956927f0a451161b90513a004ae95fe5ac3627bcc118ed22cfe706934c9ce", func := "quaestor/quaestorlaw09.DiskPlays", spec := "diskPlays", unfollowed := true, recurses := true, apart := false }
def DiskPlaysSaid : Prop := diskPlaysRow.holds Try.pinned (OpenSpec.ofChange diskPlaysSpec)

/-- ITS FALSE NEIGHBOUR: 'it returns false'. Refute it at one input. -/
def diskPlaysWrong : ChangeSpec := { name := "diskPlays", fn := fun _ => fun
  | [d1, d2] => { results := [.lit (.bool false)], args := [d1, d2] }
  | _ => none }
def DiskPlaysWrongFalsely : Prop := diskPlaysRow.holds Try.pinned (OpenSpec.ofChange diskPlaysWrong)

/-- 'quaestorlaw09.DiskCopy': WHATEVER THE INPUT: true; the input reads as it did. -/
def diskCopySpec : ChangeSpec := { name := "diskCopy", fn := fun _ => fun
  | [d1, d2, d3] => { results := [.lit (.bool true)], args := [d1, d2, d3] }
  | _ => none }
def diskCopyRow : OpenClaim := { program := "ytcmbgfmbmbgbiaa", sum := "cb5956927f0a451161b90513a004ae95fe5ac3627bcc118ed22cfe706934c9ce", func := "quaestor/quaestorlaw09.DiskCopy", spec := "diskCopy", inPlace := ["maps.clone"], unfollowed := true, recurses := true, apart := false }
def DiskCopySaid : Prop := diskCopyRow.holds Try.pinned (OpenSpec.ofChange diskCopySpec)

/-- ITS FALSE NEIGHBOUR: 'it returns false'. Refute it at one input. -/
def diskCopyWrong : ChangeSpec := { name := "diskCopy", fn := fun _ => fun
  | [d1, d2, d3] => { results := [.lit (.bool false)], args := [d1, d2, d3] }
  | _ => none }
def DiskCopyWrongFalsely : Prop := diskCopyRow.holds Try.pinned (OpenSpec.ofChange diskCopyWrong)

/-- 'quaestorlaw09.DiskNil': WHATEVER THE INPUT: true; the input reads as it did. -/
def diskNilSpec : ChangeSpec := { name := "diskNil", fn := fun _ => fun
  | [d] => { results := [.lit (.bool true)], args := [d] }
  | _ => none }
def diskNilRow : OpenClaim := { program := "ytcmbgfmbmbgbiaa", sum := "cb5956927f0a451161b90513a004ae95fe5ac3627bcc118ed22cfe706934c9ce", func := "quaestor/quaestorlaw09.DiskNil", spec := "diskNil", inPlace := ["maps.clone"], unfollowed := true, recurses := true, apart := false }
def DiskNilSaid : Prop := diskNilRow.holds Try.pinned (OpenSpec.ofChange diskNilSpec)

/-- ITS FALSE NEIGHBOUR: 'it returns false'. Refute it at one input. -/
def diskNilWrong : ChangeSpec := { name := "diskNil", fn := fun _ => fun
  | [d] => { results := [.lit (.bool false)], args := [d] }
  | _ => none }
def DiskNilWrongFalsely : Prop := diskNilRow.holds Try.pinned (OpenSpec.ofChange diskNilWrong)

/-- 'quaestorlaw25.RegApart': WHATEVER THE INPUT: true; the input reads as it did. -/
def regApartSpec : ChangeSpec := { name := "regApart", fn := fun _ => fun
  | [d1, d2, d3] => { results := [.lit (.bool true)], args := [d1, d2, d3] }
  | _ => none }
def regApartRow : OpenClaim := { program := "ytcmbgfmbmbgbiaa", sum := "cb5956927f0a451161b90513a004ae95fe5ac3627bcc118ed22cfe706934c9ce", func := "quaestor/quaestorlaw25.RegApart", spec := "regApart", unfollowed := true, recurses := true, apart := false }
def RegApartSaid : Prop := regApartRow.holds Try.pinned (OpenSpec.ofChange regApartSpec)

/-- ITS FALSE NEIGHBOUR: 'it returns false'. Refute it at one input. -/
def regApartWrong : ChangeSpec := { name := "regApart", fn := fun _ => fun
  | [d1, d2, d3] => { results := [.lit (.bool false)], args := [d1, d2, d3] }
  | _ => none }
def RegApartWrongFalsely : Prop := regApartRow.holds Try.pinned (OpenSpec.ofChange regApartWrong)

/-- 'quaestorlaw25.RegKeeps': WHATEVER THE INPUT: true; the input reads as it did. -/
def regKeepsSpec : ChangeSpec := { name := "regKeeps", fn := fun _ => fun
  | [d] => { results := [.lit (.bool true)], args := [d] }
  | _ => none }
def regKeepsRow : OpenClaim := { program := "ytcmbgfmbmbgbiaa", sum := "cb5956927f0a451161b90513a004ae95fe5ac3627bcc118ed22cfe706934c9ce", func := "quaestor/quaestorlaw25.RegKeeps", spec := "regKeeps", inPlace := ["maps.clone"], unfollowed := true, recurses := true, apart := false }
def RegKeepsSaid : Prop := regKeepsRow.holds Try.pinned (OpenSpec.ofChange regKeepsSpec)

/-- ITS FALSE NEIGHBOUR: 'it returns false'. Refute it at one input. -/
def regKeepsWrong : ChangeSpec := { name := "regKeeps", fn := fun _ => fun
  | [d] => { results := [.lit (.bool false)], args := [d] }
  | _ => none }
def RegKeepsWrongFalsely : Prop := regKeepsRow.holds Try.pinned (OpenSpec.ofChange regKeepsWrong)

/-- 'quaestorlaw25.RegPlays': WHATEVER THE INPUT: true; the input reads as it did. -/
def regPlaysSpec : ChangeSpec := { name := "regPlays", fn := fun _ => fun
  | [d1, d2] => { results := [.lit (.bool true)], args := [d1, d2] }
  | _ => none }
def regPlaysRow : OpenClaim := { program := "ytcmbgfmbmbgbiaa", sum := "cb5956927f0a451161b90513a004ae95fe5ac3627bcc118ed22cfe706934c9ce", func := "quaestor/quaestorlaw25.RegPlays", spec := "regPlays", unfollowed := true, recurses := true, apart := false }
def RegPlaysSaid : Prop := regPlaysRow.holds Try.pinned (OpenSpec.ofChange regPlaysSpec)

/-- ITS FALSE NEIGHBOUR: 'it returns false'. Refute it at one input. -/
def regPlaysWrong : ChangeSpec := { name := "regPlays", fn := fun _ => fun
  | [d1, d2] => { results := [.lit (.bool false)], args := [d1, d2] }
  | _ => none }
def RegPlaysWrongFalsely : Prop := regPlaysRow.holds Try.pinned (OpenSpec.ofChange regPlaysWrong)

/-- 'quaestorlaw25.RegReads': WHATEVER THE INPUT: true; the input reads as it did. -/
def regReadsSpec : ChangeSpec := { name := "regReads", fn := fun _ => fun
  | [d] => { results := [.lit (.bool true)], args := [d] }
  | _ => none }
def regReadsRow : OpenClaim := { program := "ytcmbgfmbmbgbiaa", sum := "cb5956927f0a451161b90513a004ae95fe5ac3627bcc118ed22cfe706934c9ce", func := "quaestor/quaestorlaw25.RegReads", spec := "regReads", unfollowed := true, recurses := true, apart := false }
def RegReadsSaid : Prop := regReadsRow.holds Try.pinned (OpenSpec.ofChange regReadsSpec)

/-- ITS FALSE NEIGHBOUR: 'it returns false'. Refute it at one input. -/
def regReadsWrong : ChangeSpec := { name := "regReads", fn := fun _ => fun
  | [d] => { results := [.lit (.bool false)], args := [d] }
  | _ => none }
def RegReadsWrongFalsely : Prop := regReadsRow.holds Try.pinned (OpenSpec.ofChange regReadsWrong)

/- THE SECOND FORM. 'bulk': how many values and letters a reading holds, each counted each time it is reached (what is shared counts as often as it is met; a slice's spare places count too). A statement '..UptoSaid' is the law's where the arguments, and the package variables that the reading takes, are together of bulk at most 1048576: NARROWER than '..Said'. Prove '..Said' where nothing that the law and all that it calls make is longer than what came in: it says more and counts as full. Else prove '..UptoSaid'. A law counts once. -/
mutual
def uptoBulk {H : Type} : DataW H → Nat
  | .lit (.string bytes) => bytes.length + 1
  | .lit _ => 1
  | .nil => 1
  | .ptr d => uptoBulk d + 1
  | .slice elems spare => uptoBulkAll elems + uptoBulkAll spare + 1
  | .agg parts => uptoBulkAll parts + 1
  | .iface _ d => uptoBulk d + 1
  | .map entries => uptoBulkEntries entries + 1
  | .held _ => 1
def uptoBulkAll {H : Type} : List (DataW H) → Nat
  | [] => 0
  | d :: r => uptoBulk d + uptoBulkAll r
def uptoBulkEntries {H : Type} : List (Lit × DataW H) → Nat
  | [] => 0
  | x :: r => uptoBulkEntry x + uptoBulkEntries r
def uptoBulkEntry {H : Type} : Lit × DataW H → Nat
  | (.string bytes, d) => bytes.length + uptoBulk d + 1
  | (_, d) => uptoBulk d + 1
 end
def uptoSmall : (H : Type) → List (DataW H) → Bool := fun _ ds => decide (uptoBulkAll ds ≤ 1048576)
def OpenSpec.upto (s : _root_.Go.ChangeSpec) : _root_.Go.OpenSpec := { _root_.Go.OpenSpec.ofChange s with cond := some uptoSmall }

/-- 'quaestorlaw27.PackEven', WHERE WHAT IT READS IS OF BULK AT MOST 1048576: true; the input reads as it did. -/
def packEvenUptoRow : OpenClaim := { program := "ytcmbgfmbmbgbiaa", sum := "cb5956927f0a451161b90513a004ae95fe5ac3627bcc118ed22cfe706934c9ce", func := "quaestor/quaestorlaw27.PackEven", spec := "packEven", unfollowed := true, recurses := true, apart := false, narrowed := true }
def PackEvenUptoSaid : Prop := packEvenUptoRow.holds Try.pinned (OpenSpec.upto packEvenSpec)

/-- 'quaestorlaw25.RegForms', WHERE WHAT IT READS IS OF BULK AT MOST 1048576: true; the input reads as it did. -/
def regFormsUptoRow : OpenClaim := { program := "ytcmbgfmbmbgbiaa", sum := "cb5956927f0a451161b90513a004ae95fe5ac3627bcc118ed22cfe706934c9ce", func := "quaestor/quaestorlaw25.RegForms", spec := "regForms", unfollowed := true, recurses := true, apart := false, narrowed := true }
def RegFormsUptoSaid : Prop := regFormsUptoRow.holds Try.pinned (OpenSpec.upto regFormsSpec)

/-- 'quaestorlaw15.LabelChooses', WHERE WHAT IT READS IS OF BULK AT MOST 1048576: true; the input reads as it did. -/
def labelChoosesUptoRow : OpenClaim := { program := "ytcmbgfmbmbgbiaa", sum := "cb5956927f0a451161b90513a004ae95fe5ac3627bcc118ed22cfe706934c9ce", func := "quaestor/quaestorlaw15.LabelChooses", spec := "labelChooses", inPlace := ["internal/bytealg.IndexByteString", "internal/bytealg.IndexString"], unfollowed := true, recurses := true, named := ["internal/bytealg.MaxLen"], apart := false, narrowed := true }
def LabelChoosesUptoSaid : Prop := labelChoosesUptoRow.holds Try.pinned (OpenSpec.upto labelChoosesSpec)

/-- 'quaestorlaw27.PackGets', WHERE WHAT IT READS IS OF BULK AT MOST 1048576: true; the input reads as it did. -/
def packGetsUptoRow : OpenClaim := { program := "ytcmbgfmbmbgbiaa", sum := "cb5956927f0a451161b90513a004ae95fe5ac3627bcc118ed22cfe706934c9ce", func := "quaestor/quaestorlaw27.PackGets", spec := "packGets", unfollowed := true, recurses := true, apart := false, narrowed := true }
def PackGetsUptoSaid : Prop := packGetsUptoRow.holds Try.pinned (OpenSpec.upto packGetsSpec)

/-- 'quaestorlaw27.PackTorn', WHERE WHAT IT READS IS OF BULK AT MOST 1048576: true; the input reads as it did. -/
def packTornUptoRow : OpenClaim := { program := "ytcmbgfmbmbgbiaa", sum := "cb5956927f0a451161b90513a004ae95fe5ac3627bcc118ed22cfe706934c9ce", func := "quaestor/quaestorlaw27.PackTorn", spec := "packTorn", unfollowed := true, recurses := true, apart := false, narrowed := true }
def PackTornUptoSaid : Prop := packTornUptoRow.holds Try.pinned (OpenSpec.upto packTornSpec)

/-- 'quaestorlaw15.LabelWrites', WHERE WHAT IT READS IS OF BULK AT MOST 1048576: true; the input reads as it did. -/
def labelWritesUptoRow : OpenClaim := { program := "ytcmbgfmbmbgbiaa", sum := "cb5956927f0a451161b90513a004ae95fe5ac3627bcc118ed22cfe706934c9ce", func := "quaestor/quaestorlaw15.LabelWrites", spec := "labelWrites", inPlace := ["internal/bytealg.IndexByteString", "internal/bytealg.IndexString", "internal/abi.NoEscape", "internal/bytealg.MakeNoZero"], unfollowed := true, recurses := true, named := ["internal/bytealg.MaxLen"], apart := false, narrowed := true }
def LabelWritesUptoSaid : Prop := labelWritesUptoRow.holds Try.pinned (OpenSpec.upto labelWritesSpec)

/-- 'quaestorlaw24.VoteCommits', WHERE WHAT IT READS IS OF BULK AT MOST 1048576: true; the input reads as it did. -/
def voteCommitsUptoRow : OpenClaim := { program := "ytcmbgfmbmbgbiaa", sum := "cb5956927f0a451161b90513a004ae95fe5ac3627bcc118ed22cfe706934c9ce", func := "quaestor/quaestorlaw24.VoteCommits", spec := "voteCommits", unfollowed := true, recurses := true, apart := false, narrowed := true }
def VoteCommitsUptoSaid : Prop := voteCommitsUptoRow.holds Try.pinned (OpenSpec.upto voteCommitsSpec)

/-- 'quaestorlaw24.VoteCounts', WHERE WHAT IT READS IS OF BULK AT MOST 1048576: true; the input reads as it did. -/
def voteCountsUptoRow : OpenClaim := { program := "ytcmbgfmbmbgbiaa", sum := "cb5956927f0a451161b90513a004ae95fe5ac3627bcc118ed22cfe706934c9ce", func := "quaestor/quaestorlaw24.VoteCounts", spec := "voteCounts", unfollowed := true, recurses := true, apart := false, narrowed := true }
def VoteCountsUptoSaid : Prop := voteCountsUptoRow.holds Try.pinned (OpenSpec.upto voteCountsSpec)

/-- 'quaestorlaw24.VoteMeets', WHERE WHAT IT READS IS OF BULK AT MOST 1048576: true; the input reads as it did. -/
def voteMeetsUptoRow : OpenClaim := { program := "ytcmbgfmbmbgbiaa", sum := "cb5956927f0a451161b90513a004ae95fe5ac3627bcc118ed22cfe706934c9ce", func := "quaestor/quaestorlaw24.VoteMeets", spec := "voteMeets", unfollowed := true, recurses := true, apart := false, narrowed := true }
def VoteMeetsUptoSaid : Prop := voteMeetsUptoRow.holds Try.pinned (OpenSpec.upto voteMeetsSpec)

/-- 'quaestorlaw09.DiskSafe', WHERE WHAT IT READS IS OF BULK AT MOST 1048576: true; the input reads as it did. -/
def diskSafeUptoRow : OpenClaim := { program := "ytcmbgfmbmbgbiaa", sum := "cb5956927f0a451161b90513a004ae95fe5ac3627bcc118ed22cfe706934c9ce", func := "quaestor/quaestorlaw09.DiskSafe", spec := "diskSafe", unfollowed := true, recurses := true, apart := false, narrowed := true }
def DiskSafeUptoSaid : Prop := diskSafeUptoRow.holds Try.pinned (OpenSpec.upto diskSafeSpec)

/-- 'quaestorlaw09.DiskPlays', WHERE WHAT IT READS IS OF BULK AT MOST 1048576: true; the input reads as it did. -/
def diskPlaysUptoRow : OpenClaim := { program := "ytcmbgfmbmbgbiaa", sum := "cb5956927f0a451161b90513a004ae95fe5ac3627bcc118ed22cfe706934c9ce", func := "quaestor/quaestorlaw09.DiskPlays", spec := "diskPlays", unfollowed := true, recurses := true, apart := false, narrowed := true }
def DiskPlaysUptoSaid : Prop := diskPlaysUptoRow.holds Try.pinned (OpenSpec.upto diskPlaysSpec)

/-- 'quaestorlaw09.DiskCopy', WHERE WHAT IT READS IS OF BULK AT MOST 1048576: true; the input reads as it did. -/
def diskCopyUptoRow : OpenClaim := { program := "ytcmbgfmbmbgbiaa", sum := "cb5956927f0a451161b90513a004ae95fe5ac3627bcc118ed22cfe706934c9ce", func := "quaestor/quaestorlaw09.DiskCopy", spec := "diskCopy", inPlace := ["maps.clone"], unfollowed := true, recurses := true, apart := false, narrowed := true }
def DiskCopyUptoSaid : Prop := diskCopyUptoRow.holds Try.pinned (OpenSpec.upto diskCopySpec)

/-- 'quaestorlaw09.DiskNil', WHERE WHAT IT READS IS OF BULK AT MOST 1048576: true; the input reads as it did. -/
def diskNilUptoRow : OpenClaim := { program := "ytcmbgfmbmbgbiaa", sum := "cb5956927f0a451161b90513a004ae95fe5ac3627bcc118ed22cfe706934c9ce", func := "quaestor/quaestorlaw09.DiskNil", spec := "diskNil", inPlace := ["maps.clone"], unfollowed := true, recurses := true, apart := false, narrowed := true }
def DiskNilUptoSaid : Prop := diskNilUptoRow.holds Try.pinned (OpenSpec.upto diskNilSpec)

/-- 'quaestorlaw25.RegApart', WHERE WHAT IT READS IS OF BULK AT MOST 1048576: true; the input reads as it did. -/
def regApartUptoRow : OpenClaim := { program := "ytcmbgfmbmbgbiaa", sum := "cb5956927f0a451161b90513a004ae95fe5ac3627bcc118ed22cfe706934c9ce", func := "quaestor/quaestorlaw25.RegApart", spec := "regApart", unfollowed := true, recurses := true, apart := false, narrowed := true }
def RegApartUptoSaid : Prop := regApartUptoRow.holds Try.pinned (OpenSpec.upto regApartSpec)

/-- 'quaestorlaw25.RegKeeps', WHERE WHAT IT READS IS OF BULK AT MOST 1048576: true; the input reads as it did. -/
def regKeepsUptoRow : OpenClaim := { program := "ytcmbgfmbmbgbiaa", sum := "cb5956927f0a451161b90513a004ae95fe5ac3627bcc118ed22cfe706934c9ce", func := "quaestor/quaestorlaw25.RegKeeps", spec := "regKeeps", inPlace := ["maps.clone"], unfollowed := true, recurses := true, apart := false, narrowed := true }
def RegKeepsUptoSaid : Prop := regKeepsUptoRow.holds Try.pinned (OpenSpec.upto regKeepsSpec)

/-- 'quaestorlaw25.RegPlays', WHERE WHAT IT READS IS OF BULK AT MOST 1048576: true; the input reads as it did. -/
def regPlaysUptoRow : OpenClaim := { program := "ytcmbgfmbmbgbiaa", sum := "cb5956927f0a451161b90513a004ae95fe5ac3627bcc118ed22cfe706934c9ce", func := "quaestor/quaestorlaw25.RegPlays", spec := "regPlays", unfollowed := true, recurses := true, apart := false, narrowed := true }
def RegPlaysUptoSaid : Prop := regPlaysUptoRow.holds Try.pinned (OpenSpec.upto regPlaysSpec)

/-- 'quaestorlaw25.RegReads', WHERE WHAT IT READS IS OF BULK AT MOST 1048576: true; the input reads as it did. -/
def regReadsUptoRow : OpenClaim := { program := "ytcmbgfmbmbgbiaa", sum := "cb5956927f0a451161b90513a004ae95fe5ac3627bcc118ed22cfe706934c9ce", func := "quaestor/quaestorlaw25.RegReads", spec := "regReads", unfollowed := true, recurses := true, apart := false, narrowed := true }
def RegReadsUptoSaid : Prop := regReadsUptoRow.holds Try.pinned (OpenSpec.upto regReadsSpec)

end Rows
end Go.Proofs.Ytcmbgfmbmbgbiaa

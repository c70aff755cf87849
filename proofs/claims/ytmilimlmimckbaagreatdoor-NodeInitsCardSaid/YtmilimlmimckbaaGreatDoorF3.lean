/- A part of the proof of statements of this seat: closed facts of the row, no statement of their own. -/
import Derived.Test.YtmilimlmimckbaaGreatDoorRows
import Derived.JoinedCond
set_option maxRecDepth 100000
namespace Go.Proofs.YtmilimlmimckbaaGreatDoor.nodeInits
theorem j13 : ((Rows.nodeInitsRow.named == Tryz.pinned.checked.prog.varsNamed 3)) = true := by kernel_rfl
end Go.Proofs.YtmilimlmimckbaaGreatDoor.nodeInits

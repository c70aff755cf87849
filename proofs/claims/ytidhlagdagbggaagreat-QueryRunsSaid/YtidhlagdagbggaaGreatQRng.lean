/- A part of the proof of statements of this seat: lemmas, no statement of their own. -/
import Derived.Test.YtidhlagdagbggaaGreatQMap
import Derived.Maps.RangeRun
set_option linter.unusedVariables false
set_option linter.unusedSimpArgs false
/- A range over a map. -/
namespace Go.Q
section
variable {P : Program} {e : Env} {h : Heap} {o : Oper}
end
end Go.Q

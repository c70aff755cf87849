/- A part of the proof of statements of this seat: lemmas, no statement of their own. -/
import Derived.Test.YtidhlagdagbggaaGreatQPure
import Derived.OpenShut
/- Arguments that are arrays of numbers. -/
namespace Go.Q
open Go.ChangeShapes Go.WideShapes
set_option linter.unusedVariables false
section
variable {H : Type} {enc : TypeId × Value → H} {P : Program} {t e : TypeId} {n : Nat} {q : IntKind} {w W : World} {base : Nat} {sp : Nat → Bool} {held : Bool}
end
end Go.Q

/- A part of the proof of statements of this seat: lemmas, no statement of their own. -/
import Derived.Test.YtmhadeadjjkkcaaDoorYeTbl
import Derived.Test.YtmhadeadjjkkcaaDoorYeFj
namespace Go.Q.Ye
end Go.Q.Ye

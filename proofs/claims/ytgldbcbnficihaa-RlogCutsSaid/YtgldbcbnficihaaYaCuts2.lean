/- A part of the proof of statements of this seat: lemmas, no statement of their own. -/
import Derived.Test.YtgldbcbnficihaaYaCuts
set_option linter.unusedVariables false
set_option linter.unusedSimpArgs false
namespace Go.Q.Ya
/-- entries that came in: below B, and there while nothing below B turns -/
structure ArgE (B : Nat) (h : Heap) (s : Slc) (es : List Ent) : Prop where
  at' : ∀ h', Ext B h h' → EntsAt h' s es
  cap : s.len ≤ s.cap
  ok : small es → esOk es
  l : es.length ≤ 9223372036854775807
theorem ArgE.ext {B : Nat} {h h' : Heap} {s : Slc} {es : List Ent} (a : ArgE B h s es) (X : Ext B h h') : ArgE B h' s es := ⟨fun h2 Y => a.at' h2 (X.trans Y), a.cap, a.ok, a.l⟩
theorem ArgE.ents {B : Nat} {h : Heap} {s : Slc} {es : List Ent} (a : ArgE B h s es) : EntsAt h s es := a.at' h (Ext.refl _ _)
end Go.Q.Ya

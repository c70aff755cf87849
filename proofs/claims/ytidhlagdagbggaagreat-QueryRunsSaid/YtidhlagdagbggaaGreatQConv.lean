/- A part of the proof of statements of this seat: lemmas, no statement of their own. -/
import Derived.Test.YtidhlagdagbggaaGreatQApp
import Derived.Test.YtidhlagdagbggaaGreatQDraw
/- Conversions between strings and slices of bytes. -/
namespace Go.Q
set_option linter.unusedVariables false
set_option linter.unusedSimpArgs false
section
variable {P : Program} {T : Tab} {e : Env} {h : Heap} {o : Oper}
theorem y_rem {t ty : Nat} {x y : Operand} {k : IntKind} {a b : Int} (ho : o.op = .binOp .rem t x y ty) (hx : evO e x = some (.int k a)) (hy : evO e y = some (.int k b)) (hb : b ≠ 0) : Yl P e h o (.int k (a.tmod b)) := by
  intro ρ w hA hw
  simp [execOp, ho, hA _ _ hx, hA _ _ hy, binOp, Op.intDiv, hb, run_eqGuard_ok]
theorem y_quo {t ty : Nat} {x y : Operand} {k : IntKind} {a b : Int} (ho : o.op = .binOp .quo t x y ty) (hx : evO e x = some (.int k a)) (hy : evO e y = some (.int k b)) (hb : b ≠ 0) : Yl P e h o (.int k (k.wrap (a.tdiv b))) := by
  intro ρ w hA hw
  simp [execOp, ho, hA _ _ hx, hA _ _ hy, binOp, Op.intDiv, hb, run_eqGuard_ok]
end
end Go.Q

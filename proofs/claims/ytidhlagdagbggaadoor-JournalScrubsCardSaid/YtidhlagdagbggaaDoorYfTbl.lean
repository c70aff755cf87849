/- A part of the proof of statements of this seat: lemmas, no statement of their own. -/
import Derived.Test.YtidhlagdagbggaaDoorYfSe
import Derived.Test.YtidhlagdagbggaaDoorQArgA
import Derived.Lib.LaidTab
set_option linter.unusedVariables false
/- Slot: what the row's list gives: the rounds' constants in memory. -/
namespace Go.Q
theorem rounds_of {P : Program} {W : World} {A C : TypeId}
    (hg : P.globalNamed "quaestor/sha.rounds" = some 0) (hty : (P.globals[0]?).map (·.type) = some A) (ht : P.underlying A = some (.array 64 C)) (he : P.underlying C = some (.int .u32)) (hce : P.cellsOf C = 1) (hct : P.cellsOf A = 64)
    (h : laidMet P [("quaestor/sha.rounds", Lib.tabData .u32 Yf.rcL)] W) : Yf.R0 W.heap := by
  obtain ⟨ps, ⟨g', t', cs, fuel, p, q, hg', ht', hvar, hd, _, _⟩, _⟩ := h
  obtain rfl := Option.some.inj (hg.symm.trans hg')
  obtain rfl := Option.some.inj (hty.symm.trans ht')
  have h1 := Lib.cells_of_tab ht he hce hct hd
  intro j v hj
  have := World.var?_cell hg hvar j
  rw [add_mk, Nat.zero_add]
  rw [cell_eq] at this
  rw [this, ← Array.getElem?_toList, h1]
  exact hj
end Go.Q

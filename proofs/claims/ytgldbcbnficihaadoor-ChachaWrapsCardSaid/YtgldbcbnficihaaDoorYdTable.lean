/- A part of the proof of statements of this seat: lemmas, no statement of their own. -/
import Derived.Test.YtgldbcbnficihaaDoorYdLaw7
import Derived.Test.YtgldbcbnficihaaDoorQArgA
import Derived.Lib.LaidTab
set_option linter.unusedVariables false
namespace Go.Q
theorem chunks {m : Nat} : ∀ (n : Nat) (cs : List Value), cs.length = n * m → cs = ((List.range n).map fun i => (cs.drop (i * m)).take m).flatten
  | 0, cs, h => by simp at h; simp [h]
  | n + 1, cs, h => by
    rw [List.range_succ_eq_map, List.map_cons, List.flatten_cons, List.map_map]
    have h2 := chunks (m := m) n (cs.drop m) (by rw [List.length_drop, h, Nat.succ_mul, Nat.add_sub_cancel])
    have h3 : ((List.range n).map ((fun i => (cs.drop (i * m)).take m) ∘ Nat.succ)) = (List.range n).map fun i => ((cs.drop m).drop (i * m)).take m := by
      apply List.map_congr_left
      intro i _
      simp only [Function.comp, List.drop_drop, Nat.succ_mul]
      rw [Nat.add_comm m]
    rw [h3, ← h2, Nat.zero_mul, List.drop_zero, List.take_append_drop]
/-- an array of arrays of integers that reads as a table holds the table's numbers -/
theorem cells_of_tab2 {H : Type} {enc : TypeId × Value → H} {P : Program} {w : World} {base : Nat} {sp : Nat → Bool} {held : Bool} {fuel : Nat} {t u e : TypeId} {n m : Nat} {k : IntKind} {cs : List Value} {zs : List (List Int)} {p : List MemPlace}
    (ht : P.underlying t = some (.array n u)) (hu : P.underlying u = some (.array m e)) (he : P.underlying e = some (.int k)) (hce : P.cellsOf e = 1) (hcu : P.cellsOf u = m) (hct : P.cellsOf t = n * m)
    (h : DataW.trod enc P w base sp held fuel t cs = some (.agg (zs.map (Lib.tabData k)), p)) : cs = (zs.flatten).map fun z => Value.int k z := by
  obtain ⟨xs, f, rfl, hx, hl, hxl, hg⟩ := DataW.trod_array ht h
  simp only [Prod.mk.injEq, DataW.agg.injEq] at hx
  have hzl : zs.length = n := by have := congrArg List.length hx.1; simp at this; omega
  rw [hct] at hl
  rw [chunks n cs hl]
  have : ((List.range n).map fun i => (cs.drop (i * m)).take m) = zs.map fun z => z.map (Value.int k) := by
    apply List.ext_getElem?
    intro i
    rcases Nat.lt_or_ge i n with hi | hi
    · have h1 := hg i hi
      rw [hcu] at h1
      have hxi : i < xs.length := by omega
      have hzi : i < zs.length := by omega
      have h2 : xs[i]? = some (Lib.tabData k zs[i], xs[i].2) := by
        have h3 : (xs.map (·.1))[i]? = (zs.map (Lib.tabData (H := H) k))[i]? := by rw [hx.1]
        simp [hxi, hzi] at h3
        rw [List.getElem?_eq_getElem hxi, ← h3]
      rw [h2] at h1
      have h4 := Lib.cells_of_tab hu he hce hcu h1
      simp [hi, hzi, h4]
    · rw [List.getElem?_eq_none (by simp; omega), List.getElem?_eq_none (by simp; omega)]
  rw [this, List.map_flatten]
theorem quarters_of {P : Program} {W : World} {A B C : TypeId}
    (hg : P.globalNamed "quaestor/chacha.quarters" = some 0) (hty : (P.globals[0]?).map (·.type) = some A) (ht : P.underlying A = some (.array 8 B)) (hu : P.underlying B = some (.array 4 C)) (he : P.underlying C = some (.int .i64)) (hce : P.cellsOf C = 1) (hcu : P.cellsOf B = 4) (hct : P.cellsOf A = 32)
    (h : laidMet P [("quaestor/chacha.quarters", .agg (([[0, 4, 8, 12], [1, 5, 9, 13], [2, 6, 10, 14], [3, 7, 11, 15], [0, 5, 10, 15], [1, 6, 11, 12], [2, 7, 8, 13], [3, 4, 9, 14]] : List (List Int)).map (Lib.tabData .i64)))] W) : Yd.Q0 W.heap := by
  obtain ⟨ps, ⟨g', t', cs, fuel, p, q, hg', ht', hvar, hd, _, _⟩, _⟩ := h
  obtain rfl := Option.some.inj (hg.symm.trans hg')
  obtain rfl := Option.some.inj (hty.symm.trans ht')
  have h1 := cells_of_tab2 (m := 4) ht hu he hce hcu hct hd
  intro j v hj
  have := World.var?_cell hg hvar j
  rw [add_mk, Nat.zero_add]
  rw [cell_eq] at this
  rw [this, ← Array.getElem?_toList, h1]
  exact hj
end Go.Q

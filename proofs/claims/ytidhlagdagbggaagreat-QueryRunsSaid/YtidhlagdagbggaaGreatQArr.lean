/- A part of the proof of statements of this seat: lemmas, no statement of their own. -/
import Derived.Test.YtidhlagdagbggaaGreatQApp
import Derived.ChangeKeysEq
/- Arrays: equality, make, copy, slices as arrays. -/
namespace Go.Q
set_option linter.unusedVariables false
set_option linter.unusedSimpArgs false
section
variable {P : Program} {T : Tab} {e : Env} {h : Heap} {o : Oper}
def RV (T : Tab) (e : Env) (h : Heap) : ResultVar → Value → Prop
  | .tmp t, v => lkO e t = some v
  | .cell a t, v => ∃ ad i, lkO e a = some (.pointer (some ad)) ∧ tlk T t = some i ∧ ((isA i.d = false ∧ cellH h ad = some v) ∨ (isA i.d = true ∧ ∃ vs, v = .agg vs.toArray ∧ vs.length = i.n ∧ CellsAt h ad vs))
def RVs (T : Tab) (e : Env) (h : Heap) : List ResultVar → List Value → Prop
  | [], [] => True
  | r :: rs, v :: vs => RV T e h r v ∧ RVs T e h rs vs
  | _, _ => False
theorem run_RVs (hT : TOk P T) {N : Nat} {a : Act} (fa : Fr N e a) {w : World} (hw : w.heap = h) (g : ResultVar → Sem Value) (hg : ∀ t, g (.tmp t) = pure (a.tmps.getD t undef))
    (hg2 : ∀ x t, g (.cell x t) = (do loadVar t (← asAddr (a.tmps.getD x undef)))) : ∀ (rs : List ResultVar) (vs : List Value), RVs T e h rs vs → (rs.mapM (m := Sem) g).run P w = .ok vs w
  | [], [], _ => by simp
  | [], _ :: _, k => k.elim
  | _ :: _, [], k => k.elim
  | r :: rs, v :: vs, ⟨k, ks⟩ => by
    have ih := run_RVs hT fa hw g hg hg2 rs vs ks
    have hr : (g r).run P w = .ok v w := by
      cases r with
      | tmp t =>
        have hv := fa.l t v k
        rw [hg, Array.getD_eq_getD_getElem?, hv]; rfl
      | cell x t =>
        obtain ⟨ad, i, k1, k2, k3⟩ := k
        have hv := fa.l x _ k1
        rw [hg2, Array.getD_eq_getD_getElem?, hv]
        subst hw
        rcases k3 with ⟨k3, k4⟩ | ⟨k3, us, rfl, k4, k5⟩
        · simp [asAddr, loadVar, run_isAgg (hT _ _ k2), k3, load, Sem.run, cell_eq, k4]
        · have := run_loadCells_list (P := P) (w := w) ad us k5
          rw [k4] at this
          simp [asAddr, loadVar, run_isAgg (hT _ _ k2), k3, run_sizeOf' (hT _ _ k2), this]
    simp [hr, ih]
theorem x_retc {D : Bool} (hT : TOk P T) {fn : Func} {w0 : World} {Φ : Value → Heap → Prop} {N : Nat} (rs : List ResultVar) (hrs : fn.results = rs.toArray) (vs : List Value) (hv : RVs T e h rs vs) (H : Φ (tup vs) h) :
    gex ⟨P, N, w0, D⟩ (bodyPost P fn (Rt D w0 Φ)) .ret e h := by
  intro a w fa fw
  refine ⟨fa.d, tup vs, ?_, _, rfl, ?_, ?_⟩
  · unfold results
    rw [hrs]
    simp only [List.mapM_toArray, Sem.run_bind, Sem.run_map]
    rw [run_RVs hT fa fw.heap _ (fun t => rfl) (fun x t => rfl) rs vs hv]
    match vs with
    | [] => simp [tup]
    | [v] => simp [tup]
    | v :: u :: r => simp [tup]
  · rw [fw.heap]; exact fw
  · rw [fw.heap]; exact H
end
end Go.Q

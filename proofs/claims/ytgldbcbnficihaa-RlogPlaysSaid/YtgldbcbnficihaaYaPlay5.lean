/- A part of the proof of statements of this seat: lemmas, no statement of their own. -/
import Derived.Test.YtgldbcbnficihaaYaPlay4
import Derived.Test.YtgldbcbnficihaaYaArgE
set_option linter.unusedVariables false
set_option linter.unusedSimpArgs false
namespace Go.Q.Ya
open Go.ChangeShapes Go.WideShapes
section
variable {H : Type} {enc : TypeId × Value → H} {P : Program} {t e : TypeId} {w : World} {base : Nat} {sp : Nat → Bool} {held : Bool}
theorem open_act {f0 f1 f2 f3 : Field} {fuel : Nat} {cs : List Value} {x : DataW H × List MemPlace} (ht : P.underlying t = some (.struct #[f0, f1, f2, f3])) (h0 : P.underlying f0.type = some (.int .i64)) (h1 : P.underlying f1.type = some (.int .u64)) (h2 : P.underlying f2.type = some (.int .u64))
    (o0 : f0.offset = 0) (o1 : f1.offset = 1) (o2 : f2.offset = 2) (o3 : f3.offset = 3) (c0 : P.cellsOf f0.type = 1) (c1 : P.cellsOf f1.type = 1) (c2 : P.cellsOf f2.type = 1) (c3 : P.cellsOf f3.type = 1) (ct : P.cellsOf t = 4)
    (he : ∀ {fuel : Nat} {cs : List Value} {x : DataW H × List MemPlace}, DataW.trod enc P w base sp held fuel f3.type cs = some x → ∃ (s : Slc) (es : List Ent), cs = [Slc.v s] ∧ ArgE w.heap.size w.heap s es) (h : DataW.trod enc P w base sp held fuel t cs = some x) :
    ∃ (x : Act), cs = S_quaestorlaw23_Act.cs x.1 ∧ actOk x ∧ ArgE w.heap.size w.heap x.1.f_L x.2 := by
  obtain ⟨xs, n, _, _, hl, hxl, hf⟩ := DataW.trod_struct ht h
  have g : ∀ (i : Nat) f, #[f0, f1, f2, f3][i]? = some f → ∃ y, DataW.trod enc P w base sp held n f.type ((cs.drop f.offset).take (P.cellsOf f.type)) = some y := fun i f hi => by
    have := hf i f hi
    have hi2 : i < xs.length := by rw [hxl]; exact (Array.getElem?_eq_some_iff.1 hi).1
    exact ⟨xs[i], by rw [this]; simp⟩
  obtain ⟨y0, g0⟩ := g 0 f0 rfl
  obtain ⟨y1, g1⟩ := g 1 f1 rfl
  obtain ⟨y2, g2⟩ := g 2 f2 rfl
  obtain ⟨y3, g3⟩ := g 3 f3 rfl
  rw [o0, c0] at g0
  rw [o1, c1] at g1
  rw [o2, c2] at g2
  rw [o3, c3] at g3
  obtain ⟨a, e0, _, w0⟩ := DataW.trod_int h0 g0
  obtain ⟨b, e1, _, w1⟩ := DataW.trod_int h1 g1
  obtain ⟨c, e2, _, w2⟩ := DataW.trod_int h2 g2
  obtain ⟨s, es, e3, A⟩ := he g3
  refine ⟨(⟨a, b, c, s⟩, es), ?_, ⟨wf_u64 w1, wf_u64 w2⟩, A⟩
  rw [ct] at hl
  match cs, hl with
  | [u, v, x, y], _ =>
    simp at e0 e1 e2 e3
    subst e0; subst e1; subst e2; subst e3; rfl
theorem open_acts {fuel : Nat} {cs : List Value} {x : DataW H × List MemPlace} (hs : P.underlying t = some (.slice e)) (ct : P.cellsOf e = 4)
    (he : ∀ {fuel : Nat} {cs : List Value} {x : DataW H × List MemPlace}, DataW.trod enc P w base sp held fuel e cs = some x → ∃ (x : Act), cs = S_quaestorlaw23_Act.cs x.1 ∧ actOk x ∧ ArgE w.heap.size w.heap x.1.f_L x.2) (h : DataW.trod enc P w base sp held fuel t cs = some x) :
    ∃ (s : Slc) (acts : List Act), cs = [Slc.v s] ∧ ArgA w.heap.size w.heap s acts ∧ acts.length ≤ 9223372036854775807 := by
  obtain ⟨s, rfl, q1, q2, q3, q4⟩ := open_sl hs h
  have hm : maxLen = 9223372036854775807 := rfl
  cases ha : s.a with
  | none =>
    have := q3 ha
    exact ⟨s, [], rfl, ⟨by simp [this], fun _ => rfl, (fun a hh => by rw [ha] at hh; cases hh), fun i x hx => by simp at hx⟩, by simp⟩
  | some a =>
    rw [ct] at q4
    obtain ⟨acts, hl, hz⟩ := choose_list (R := fun i (x : Act) => CellsAt w.heap (a.add (i * 4)) (S_quaestorlaw23_Act.cs x.1) ∧ actOk x ∧ ArgE w.heap.size w.heap x.1.f_L x.2) s.len fun i hi => by
      obtain ⟨es, f, y, e1, e2, e3⟩ := q4 a ha i hi
      obtain ⟨x, rfl, r1, r2⟩ := he e3
      exact ⟨x, e2, r1, r2⟩
    refine ⟨s, acts, rfl, ⟨hl.symm, (fun hn => by rw [ha] at hn; cases hn), fun b hb i x hx h' X j v hj => ?_, fun i x hx => ?_⟩, by omega⟩
    · rw [ha] at hb; cases hb
      exact X.cellAt ((hz i x hx).1 j v hj)
    · obtain ⟨_, r1, r2⟩ := hz i x hx
      obtain ⟨vm, _, R⟩ := RE.of_arg r2
      exact ⟨r1, r2.at', r2.ok, r2.l, vm, R⟩
end
end Go.Q.Ya

/- A part of the proof of statements of this seat: lemmas, no statement of their own. -/
import Derived.Test.YtidhlagdagbggaaGreatQArgA
import Derived.Test.YtidhlagdagbggaaGreatQArg
import Derived.Test.YtidhlagdagbggaaGreatQLs
set_option linter.unusedVariables false
set_option linter.unusedSimpArgs false
/- Arguments that came in, opened by their types. -/
namespace Go.Q
open Go.ChangeShapes Go.WideShapes
theorem choose_list {α : Type} {R : Nat → α → Prop} : ∀ n : Nat, (∀ i, i < n → ∃ y, R i y) → ∃ ys : List α, ys.length = n ∧ ∀ i y, ys[i]? = some y → R i y
  | 0, _ => ⟨[], rfl, by simp⟩
  | n + 1, h => by
    obtain ⟨ys, hl, hy⟩ := choose_list n fun i hi => h i (by omega)
    obtain ⟨y, hR⟩ := h n (by omega)
    refine ⟨ys ++ [y], by simp [hl], fun i z hz => ?_⟩
    rcases Nat.lt_trichotomy i n with hi | hi | hi
    · rw [List.getElem?_append_left (by omega)] at hz; exact hy i z hz
    · subst hi
      rw [List.getElem?_append_right (by omega), hl] at hz
      simp at hz; subst hz; exact hR
    · rw [List.getElem?_eq_none (by simp; omega)] at hz; cases hz
section
variable {H : Type} {enc : TypeId × Value → H} {P : Program} {t e : TypeId} {w : World} {base : Nat} {sp : Nat → Bool} {held : Bool}
theorem mapM_get {α β : Type} {f : α → Option β} : ∀ {l : List α} {ys : List β}, l.mapM f = some ys → ys.length = l.length ∧ ∀ (i : Nat) x, l[i]? = some x → ∃ y, f x = some y ∧ ys[i]? = some y
  | [], ys, h => by simp at h; subst h; simp
  | a :: l, ys, h => by
    rw [List.mapM_cons] at h
    cases ha : f a with
    | none => simp [ha] at h
    | some b =>
      cases hl : l.mapM f with
      | none => simp [ha, hl] at h
      | some zs =>
        simp [ha, hl] at h
        subst h
        obtain ⟨h1, h2⟩ := mapM_get hl
        refine ⟨by simp [h1], fun i x hx => ?_⟩
        cases i with
        | zero => simp at hx; subst hx; exact ⟨b, ha, rfl⟩
        | succ i => simp at hx; simpa using h2 i x hx
theorem cells_get {w : World} {base : Nat} {a : Addr} {n : Nat} {cs : List Value} (h : w.cells? base a n = some cs) : cs.length = n ∧ CellsAt w.heap a cs := by
  unfold World.cells? at h
  split at h
  · obtain ⟨h1, h2⟩ := mapM_get h
    rw [List.length_range] at h1
    refine ⟨h1, fun i v hv => ?_⟩
    have hi : i < n := by have := (List.getElem?_eq_some_iff.1 hv).1; omega
    obtain ⟨y, e1, e2⟩ := h2 i i (by simp [hi])
    rw [hv] at e2; cases e2
    exact e1
  · cases h
/-- a slice that came in -/
theorem open_sl {fuel : Nat} {cs : List Value} {x : DataW H × List MemPlace} (ht : P.underlying t = some (.slice e)) (h : DataW.trod enc P w base sp held fuel t cs = some x) :
    ∃ s : Slc, cs = [Slc.v s] ∧ s.len ≤ s.cap ∧ s.cap ≤ maxLen ∧ (s.a = none → s.len = 0 ∧ s.cap = 0) ∧
      ∀ a, s.a = some a → ∀ i, i < s.len → ∃ es f y, es.length = P.cellsOf e ∧ CellsAt w.heap (a.add (i * P.cellsOf e)) es ∧ DataW.trod enc P w base sp held f e es = some y := by
  rcases DataW.trod_slice ht h with ⟨rfl, _⟩ | ⟨a, len, cap, elems, rest, n, _, rfl, _, hb, hl, hm, hlen, hel, _⟩
  · exact ⟨⟨none, 0, 0⟩, rfl, Nat.le_refl _, by simp [maxLen], fun _ => ⟨rfl, rfl⟩, fun a ha => by cases ha⟩
  · refine ⟨⟨some a, len, cap⟩, rfl, hl, hm, (fun hn => by cases hn), fun b hb i hi => ?_⟩
    cases hb
    have hi : i < len := hi
    have := hel i hi
    rw [List.getElem?_eq_getElem (by omega), Option.bind_eq_some_iff] at this
    obtain ⟨es, h1, h2⟩ := this
    exact ⟨es, n, _, (cells_get h1).1, (cells_get h1).2, h2⟩
/-- bytes that came in, or other integers -/
theorem open_is {q : IntKind} {fuel : Nat} {cs : List Value} {x : DataW H × List MemPlace} (ht : P.underlying t = some (.slice e)) (he : P.underlying e = some (.int q)) (ce : P.cellsOf e = 1) (h : DataW.trod enc P w base sp held fuel t cs = some x) :
    ∃ (s : Slc) (zs : List Int), cs = [Slc.v s] ∧ s.len ≤ s.cap ∧ s.cap ≤ maxLen ∧ s.len = zs.length ∧ SlcAt w.heap s (zs.map (Value.int q)) ∧ ∀ n ∈ zs, (Lit.int q n).wf = true := by
  obtain ⟨s, rfl, h1, h2, h3, h4⟩ := open_sl ht h
  cases ha : s.a with
  | none =>
    have := h3 ha
    exact ⟨s, [], rfl, h1, h2, by simp [this], ⟨fun _ => rfl, fun b hb => by rw [ha] at hb; cases hb⟩, by simp⟩
  | some a =>
    obtain ⟨zs, hl, hz⟩ := choose_list (R := fun i n => cellH w.heap (a.add i) = some (.int q n) ∧ (Lit.int q n).wf = true) s.len fun i hi => by
      obtain ⟨es, f, y, e1, e2, e3⟩ := h4 a ha i hi
      obtain ⟨n, rfl, _, hw⟩ := DataW.trod_int he e3
      rw [ce, Nat.mul_one] at e2
      exact ⟨n, by have := e2 0 _ rfl; rwa [show (a.add i).add 0 = a.add i from by simp [Addr.add]] at this, hw⟩
    refine ⟨s, zs, rfl, h1, h2, hl.symm, ⟨(fun hn => by rw [ha] at hn; cases hn), fun b hb j v hv => ?_⟩, fun n hn => ?_⟩
    · rw [ha] at hb; cases hb
      rw [List.getElem?_map, Option.map_eq_some_iff] at hv
      obtain ⟨n, hn, rfl⟩ := hv
      exact (hz j n hn).1
    · obtain ⟨i, hi⟩ := List.getElem?_of_mem hn
      exact (hz i n hi).2
/-- the parts of a struct -/
theorem open_fs {fs : Array Field} {fuel : Nat} {cs : List Value} {x : DataW H × List MemPlace} (ht : P.underlying t = some (.struct fs)) (h : DataW.trod enc P w base sp held fuel t cs = some x) :
    ∃ n, cs.length = P.cellsOf t ∧ ∀ (i : Nat) f, fs[i]? = some f → ∃ y, DataW.trod enc P w base sp held n f.type ((cs.drop f.offset).take (P.cellsOf f.type)) = some y := by
  obtain ⟨xs, n, _, _, hl, hxl, hf⟩ := DataW.trod_struct ht h
  refine ⟨n, hl, fun i f hi => ?_⟩
  have := hf i f hi
  have hi2 : i < xs.length := by rw [hxl]; exact (Array.getElem?_eq_some_iff.1 hi).1
  exact ⟨xs[i], by rw [this]; simp⟩
theorem cat_part {cs a : List Value} {o n : Nat} (h : (cs.drop o).take n = a) : cs.drop o = a ++ cs.drop (o + n) := by
  rw [← h, ← List.drop_drop, List.take_append_drop]
theorem cat_end {cs : List Value} {n : Nat} (h : cs.length = n) : cs.drop n = [] := by rw [← h]; exact List.drop_length
theorem open_arr {n : Nat} {q : IntKind} {fuel : Nat} {cs : List Value} {x : DataW H × List MemPlace} (ht : P.underlying t = some (.array n e)) (he : P.underlying e = some (.int q)) (ct : P.cellsOf t = n) (ce : P.cellsOf e = 1)
    (h : DataW.trod enc P w base sp held fuel t cs = some x) : ∃ zs : List Int, cs = arr n q zs ∧ zs.length = n ∧ ∀ x ∈ zs, (Lit.int q x).wf = true := by
  obtain ⟨xs, m, _, _, hl, hxl, hg⟩ := DataW.trod_array ht h
  rw [ct] at hl
  obtain ⟨zs, zl, hz⟩ := choose_list (R := fun i a => cs[i]? = some (.int q a) ∧ (Lit.int q a).wf = true) n fun i hi => by
    have h1 := hg i hi
    rw [ce, Nat.mul_one] at h1
    have hi' : i < cs.length := by omega
    have h2 : (cs.drop i).take 1 = [cs[i]] := by rw [List.drop_eq_getElem_cons hi']; rfl
    rw [h2, List.getElem?_eq_getElem (by omega)] at h1
    obtain ⟨a, ea, _, wa⟩ := DataW.trod_int he h1
    simp only [List.cons.injEq, and_true] at ea
    exact ⟨a, by rw [List.getElem?_eq_getElem hi', ea], wa⟩
  refine ⟨zs, ?_, zl, fun a ha => ?_⟩
  · rw [arr_id zl]
    apply List.ext_getElem?
    intro i
    rw [List.getElem?_map]
    by_cases hi : i < n
    · have hzi : zs[i]? = some zs[i] := by simp
      rw [hzi, (hz i _ hzi).1]; rfl
    · rw [List.getElem?_eq_none (by omega), List.getElem?_eq_none (by omega)]; rfl
  · obtain ⟨i, hi⟩ := List.getElem?_of_mem ha
    exact (hz i a hi).2
theorem open_ls {α : Type} {cs : α → List Value} {w' : Nat} {Ok : α → Prop} {fuel : Nat} {c : List Value} {x : DataW H × List MemPlace} (ht : P.underlying t = some (.slice e)) (hc : P.cellsOf e = w')
    (he : ∀ {fuel : Nat} {cs' : List Value} {x : DataW H × List MemPlace}, DataW.trod enc P w base sp held fuel e cs' = some x → ∃ y : α, cs' = cs y ∧ Ok y) (h : DataW.trod enc P w base sp held fuel t c = some x) :
    ∃ s : Slc, c = [Slc.v s] ∧ s.len ≤ s.cap ∧ s.cap ≤ maxLen ∧ ∃ ys : List α, LsAt cs w' w.heap s ys ∧ ∀ y ∈ ys, Ok y := by
  obtain ⟨s, rfl, q1, q2, q3, q4⟩ := open_sl ht h
  rw [hc] at q4
  cases ha : s.a with
  | none =>
    have := q3 ha
    exact ⟨s, rfl, q1, q2, [], ⟨by simp [this], fun i y hy => by simp at hy⟩, by simp⟩
  | some a =>
    obtain ⟨ys, hl, hz⟩ := choose_list (R := fun i (y : α) => CellsAt w.heap (a.add (i * w')) (cs y) ∧ Ok y) s.len fun i hi => by
      obtain ⟨es, f, y, e1, e2, e3⟩ := q4 a ha i hi
      obtain ⟨z, rfl, r⟩ := he e3
      exact ⟨z, e2, r⟩
    refine ⟨s, rfl, q1, q2, ys, ⟨hl.symm, fun i y hy => ⟨a, ha, (hz i y hy).1⟩⟩, fun y hy => ?_⟩
    obtain ⟨i, hi⟩ := List.getElem?_of_mem hy
    exact (hz i y hi).2
/-- a slice of integers that came in -/
def SlI (q : IntKind) (h : Heap) (s : Slc) (zs : List Int) : Prop := s.len = zs.length ∧ SlcAt h s (zs.map (Value.int q)) ∧ ∀ n ∈ zs, (Lit.int q n).wf = true
theorem open_si {q : IntKind} {fuel : Nat} {cs : List Value} {x : DataW H × List MemPlace} (ht : P.underlying t = some (.slice e)) (he : P.underlying e = some (.int q)) (ce : P.cellsOf e = 1) (h : DataW.trod enc P w base sp held fuel t cs = some x) :
    ∃ s : Slc, cs = [Slc.v s] ∧ s.len ≤ s.cap ∧ s.cap ≤ maxLen ∧ ∃ zs, SlI q w.heap s zs := by
  obtain ⟨s, zs, a, b, c, d, e, f⟩ := open_is ht he ce h
  exact ⟨s, a, b, c, zs, d, e, f⟩
end
end Go.Q

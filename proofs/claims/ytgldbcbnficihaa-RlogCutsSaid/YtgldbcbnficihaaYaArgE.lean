/- A part of the proof of statements of this seat: lemmas, no statement of their own. -/
import Derived.Test.YtgldbcbnficihaaYaCuts2
import Derived.Test.YtgldbcbnficihaaQArgA
set_option linter.unusedVariables false
set_option linter.unusedSimpArgs false
namespace Go.Q
open Go.ChangeShapes Go.WideShapes
theorem choose_list {α : Type} {R : Nat → α → Prop} : ∀ n : Nat, (∀ i, i < n → ∃ y, R i y) → ∃ ys : List α, ys.length = n ∧ ∀ i y, ys[i]? = some y → R i y
  | 0, _ => ⟨[], rfl, by simp⟩
  | n + 1, h => by
    obtain ⟨ys, hl, hy⟩ := choose_list n fun i hi => h i (by omega)
    obtain ⟨y, hR⟩ := h n (by omega)
    refine ⟨ys ++ [y], by simp [hl], fun i z hz => ?_⟩
    rcases Nat.lt_trichotomy i n with hi | hi | hi
    · rw [List.getElem?_append_left (by omega)] at hz; exact hy i z hz
    · subst hi
      rw [List.getElem?_append_right (by omega), hl] at hz
      simp at hz; subst hz; exact hR
    · rw [List.getElem?_eq_none (by simp; omega)] at hz; cases hz
section
variable {H : Type} {enc : TypeId × Value → H} {P : Program} {t e : TypeId} {w : World} {base : Nat} {sp : Nat → Bool} {held : Bool}
theorem mapM_get {α β : Type} {f : α → Option β} : ∀ {l : List α} {ys : List β}, l.mapM f = some ys → ys.length = l.length ∧ ∀ (i : Nat) x, l[i]? = some x → ∃ y, f x = some y ∧ ys[i]? = some y
  | [], ys, h => by simp at h; subst h; simp
  | a :: l, ys, h => by
    rw [List.mapM_cons] at h
    cases ha : f a with
    | none => simp [ha] at h
    | some b =>
      cases hl : l.mapM f with
      | none => simp [ha, hl] at h
      | some zs =>
        simp [ha, hl] at h
        subst h
        obtain ⟨h1, h2⟩ := mapM_get hl
        refine ⟨by simp [h1], fun i x hx => ?_⟩
        cases i with
        | zero => simp at hx; subst hx; exact ⟨b, ha, rfl⟩
        | succ i => simp at hx; simpa using h2 i x hx
theorem cells_get {w : World} {base : Nat} {a : Addr} {n : Nat} {cs : List Value} (h : w.cells? base a n = some cs) : cs.length = n ∧ CellsAt w.heap a cs := by
  unfold World.cells? at h
  split at h
  · obtain ⟨h1, h2⟩ := mapM_get h
    rw [List.length_range] at h1
    refine ⟨h1, fun i v hv => ?_⟩
    have hi : i < n := by have := (List.getElem?_eq_some_iff.1 hv).1; omega
    obtain ⟨y, e1, e2⟩ := h2 i i (by simp [hi])
    rw [hv] at e2; cases e2
    exact e1
  · cases h
/-- a slice that came in -/
theorem open_sl {fuel : Nat} {cs : List Value} {x : DataW H × List MemPlace} (ht : P.underlying t = some (.slice e)) (h : DataW.trod enc P w base sp held fuel t cs = some x) :
    ∃ s : Slc, cs = [Slc.v s] ∧ s.len ≤ s.cap ∧ s.cap ≤ maxLen ∧ (s.a = none → s.len = 0 ∧ s.cap = 0) ∧
      ∀ a, s.a = some a → ∀ i, i < s.len → ∃ es f y, es.length = P.cellsOf e ∧ CellsAt w.heap (a.add (i * P.cellsOf e)) es ∧ DataW.trod enc P w base sp held f e es = some y := by
  rcases DataW.trod_slice ht h with ⟨rfl, _⟩ | ⟨a, len, cap, elems, rest, n, _, rfl, _, hb, hl, hm, hlen, hel, _⟩
  · exact ⟨⟨none, 0, 0⟩, rfl, Nat.le_refl _, by simp [maxLen], fun _ => ⟨rfl, rfl⟩, fun a ha => by cases ha⟩
  · refine ⟨⟨some a, len, cap⟩, rfl, hl, hm, (fun hn => by cases hn), fun b hb i hi => ?_⟩
    cases hb
    have hi : i < len := hi
    have := hel i hi
    rw [List.getElem?_eq_getElem (by omega), Option.bind_eq_some_iff] at this
    obtain ⟨es, h1, h2⟩ := this
    exact ⟨es, n, _, (cells_get h1).1, (cells_get h1).2, h2⟩
/-- bytes that came in, or other integers -/
theorem open_is {q : IntKind} {fuel : Nat} {cs : List Value} {x : DataW H × List MemPlace} (ht : P.underlying t = some (.slice e)) (he : P.underlying e = some (.int q)) (ce : P.cellsOf e = 1) (h : DataW.trod enc P w base sp held fuel t cs = some x) :
    ∃ (s : Slc) (zs : List Int), cs = [Slc.v s] ∧ s.len ≤ s.cap ∧ s.cap ≤ maxLen ∧ s.len = zs.length ∧ SlcAt w.heap s (zs.map (Value.int q)) ∧ ∀ n ∈ zs, (Lit.int q n).wf = true := by
  obtain ⟨s, rfl, h1, h2, h3, h4⟩ := open_sl ht h
  cases ha : s.a with
  | none =>
    have := h3 ha
    exact ⟨s, [], rfl, h1, h2, by simp [this], ⟨fun _ => rfl, fun b hb => by rw [ha] at hb; cases hb⟩, by simp⟩
  | some a =>
    obtain ⟨zs, hl, hz⟩ := choose_list (R := fun i n => cellH w.heap (a.add i) = some (.int q n) ∧ (Lit.int q n).wf = true) s.len fun i hi => by
      obtain ⟨es, f, y, e1, e2, e3⟩ := h4 a ha i hi
      obtain ⟨n, rfl, _, hw⟩ := DataW.trod_int he e3
      rw [ce, Nat.mul_one] at e2
      exact ⟨n, by have := e2 0 _ rfl; rwa [show (a.add i).add 0 = a.add i from by simp [Addr.add]] at this, hw⟩
    refine ⟨s, zs, rfl, h1, h2, hl.symm, ⟨(fun hn => by rw [ha] at hn; cases hn), fun b hb j v hv => ?_⟩, fun n hn => ?_⟩
    · rw [ha] at hb; cases hb
      rw [List.getElem?_map, Option.map_eq_some_iff] at hv
      obtain ⟨n, hn, rfl⟩ := hv
      exact (hz j n hn).1
    · obtain ⟨i, hi⟩ := List.getElem?_of_mem hn
      exact (hz i n hi).2
end
end Go.Q
namespace Go.Q.Ya
open Go.ChangeShapes Go.WideShapes
section
variable {H : Type} {enc : TypeId × Value → H} {P : Program} {t e : TypeId} {w : World} {base : Nat} {sp : Nat → Bool} {held : Bool}
theorem open_ent {f0 f1 : Field} {c : TypeId} {fuel : Nat} {cs : List Value} {x : DataW H × List MemPlace} (ht : P.underlying t = some (.struct #[f0, f1])) (h0 : P.underlying f0.type = some (.int .u64)) (h1 : P.underlying f1.type = some (.slice c)) (hc : P.underlying c = some (.int .u8))
    (o0 : f0.offset = 0) (o1 : f1.offset = 1) (c0 : P.cellsOf f0.type = 1) (c1 : P.cellsOf f1.type = 1) (cc : P.cellsOf c = 1) (ct : P.cellsOf t = 2) (h : DataW.trod enc P w base sp held fuel t cs = some x) :
    ∃ (v : S_api_Entry) (en : Ent), cs = S_api_Entry.cs v ∧ EntAt w.heap v en ∧ (0 ≤ en.1 ∧ en.1 < 18446744073709551616) ∧ isB en.2 := by
  obtain ⟨y0, y1, n, _, hl, g0, g1⟩ := trod_struct2 ht h
  rw [o0, c0] at g0
  rw [o1, c1] at g1
  obtain ⟨a, ea, _, wa⟩ := DataW.trod_int h0 g0
  obtain ⟨s, zs, es, q1, q2, q3, q4, q5⟩ := open_is h1 hc cc g1
  refine ⟨⟨a, s⟩, ⟨a, zs⟩, ?_, ⟨rfl, q4, q3⟩, wf_u64 wa, wf_isB q5⟩
  rw [ct] at hl
  match cs, hl with
  | [u, v], _ =>
    simp at ea es
    subst ea; subst es; rfl
theorem open_ents {f0 f1 : Field} {c : TypeId} {fuel : Nat} {cs : List Value} {x : DataW H × List MemPlace} (hs : P.underlying t = some (.slice e)) (ht : P.underlying e = some (.struct #[f0, f1])) (h0 : P.underlying f0.type = some (.int .u64)) (h1 : P.underlying f1.type = some (.slice c)) (hc : P.underlying c = some (.int .u8))
    (o0 : f0.offset = 0) (o1 : f1.offset = 1) (c0 : P.cellsOf f0.type = 1) (c1 : P.cellsOf f1.type = 1) (cc : P.cellsOf c = 1) (ct : P.cellsOf e = 2) (h : DataW.trod enc P w base sp held fuel t cs = some x) :
    ∃ (s : Slc) (es : List Ent), cs = [Slc.v s] ∧ ArgE w.heap.size w.heap s es := by
  obtain ⟨s, rfl, q1, q2, q3, q4⟩ := open_sl hs h
  have hm : maxLen = 9223372036854775807 := rfl
  cases ha : s.a with
  | none =>
    have := q3 ha
    exact ⟨s, [], rfl, ⟨fun h' X => ⟨by simp [this], fun _ => rfl, (fun a hh => by rw [ha] at hh; cases hh)⟩, q1, (fun _ => by intro e he; cases he), by simp⟩⟩
  | some a =>
    rw [ct] at q4
    obtain ⟨es, hl, hz⟩ := choose_list (R := fun i en => ∃ v, CellsAt w.heap (a.add (i * 2)) (S_api_Entry.cs v) ∧ EntAt w.heap v en ∧ (0 ≤ en.1 ∧ en.1 < 18446744073709551616) ∧ isB en.2) s.len fun i hi => by
      obtain ⟨es, f, y, e1, e2, e3⟩ := q4 a ha i hi
      obtain ⟨v, en, rfl, r1, r2⟩ := open_ent ht h0 h1 hc o0 o1 c0 c1 cc ct e3
      exact ⟨en, v, e2, r1, r2⟩
    have E : EntsAt w.heap s es := ⟨hl.symm, (fun hn => by rw [ha] at hn; cases hn), fun b hb i en he => by
      rw [ha] at hb; cases hb
      obtain ⟨v, r1, r2, _⟩ := hz i en he
      exact ⟨v, r1, r2⟩⟩
    refine ⟨s, es, rfl, ⟨fun h' X => E.ext X, q1, fun hs en he => ?_, by omega⟩⟩
    obtain ⟨i, hi⟩ := List.getElem?_of_mem he
    obtain ⟨v, _, _, r⟩ := hz i en hi
    exact ⟨r.1, r.2, by have := hs.2 en he; omega⟩
end
end Go.Q.Ya

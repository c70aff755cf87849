/- A part of the proof of statements of this seat: lemmas, no statement of their own. -/
import Derived.Test.YtgldbcbnficihaaYaRlog
import Derived.Test.YtgldbcbnficihaaQPure
set_option linter.unusedVariables false
set_option linter.unusedSimpArgs false
namespace Go.Q.Ya
abbrev Ent := Int × List Int
def esOk (es : List Ent) : Prop := ∀ e ∈ es, (0 ≤ e.1 ∧ e.1 < 18446744073709551616) ∧ isB e.2 ∧ e.2.length ≤ 1099511627776
abbrev ecs (vs : List S_api_Entry) : List Value := vs.flatMap S_api_Entry.cs
theorem ecs_get : ∀ (vs : List S_api_Entry) (i j : Nat), j < 2 → (ecs vs)[i * 2 + j]? = (vs[i]?).bind fun v => (S_api_Entry.cs v)[j]?
  | [], i, j, h => by simp
  | v :: r, 0, j, h => by
    simp only [ecs, List.flatMap_cons, Nat.zero_mul, Nat.zero_add, List.getElem?_cons_zero, Option.bind_some]
    rw [List.getElem?_append_left (by simp [S_api_Entry.cs]; exact h)]
  | v :: r, i + 1, j, h => by
    simp only [ecs, List.flatMap_cons, List.getElem?_cons_succ]
    rw [List.getElem?_append_right (by simp [S_api_Entry.cs]; omega)]
    have := ecs_get r i j h
    rw [← this]
    congr 1
    simp [S_api_Entry.cs]; omega
theorem ecs_len (vs : List S_api_Entry) : (ecs vs).length = vs.length * 2 := by
  induction vs with
  | nil => rfl
  | cons v r ih => simp only [ecs, List.flatMap_cons, List.length_append, List.length_cons] at ih ⊢; rw [ih]; simp [S_api_Entry.cs]; omega
/-- an entry that may be read -/
structure EntAt (h : Heap) (v : S_api_Entry) (e : Ent) : Prop where
  t : v.f_Term = e.1
  c : SlcAt h v.f_Cmd (b8 e.2)
  l : v.f_Cmd.len = e.2.length
theorem EntAt.ext {h h' : Heap} {v : S_api_Entry} {e : Ent} (a : EntAt h v e) (X : Ext h.size h h') : EntAt h' v e := ⟨a.t, ⟨a.c.1, fun b hb j w hj => X.cellAt (a.c.2 b hb j w hj)⟩, a.l⟩
/-- entries that may be read -/
structure EntsAt (h : Heap) (s : Slc) (es : List Ent) : Prop where
  l : s.len = es.length
  n : s.a = none → es = []
  at' : ∀ a, s.a = some a → ∀ (i : Nat) e, es[i]? = some e → ∃ v, CellsAt h (a.add (i * 2)) (S_api_Entry.cs v) ∧ EntAt h v e
theorem EntsAt.ext {h h' : Heap} {s : Slc} {es : List Ent} (a : EntsAt h s es) (X : Ext h.size h h') : EntsAt h' s es :=
  ⟨a.l, a.n, fun b hb i e he => by
    obtain ⟨v, h1, h2⟩ := a.at' b hb i e he
    exact ⟨v, fun j w hj => X.cellAt (h1 j w hj), h2.ext X⟩⟩
/-- entries in memory of one's own -/
structure Own (B : Nat) (h : Heap) (s : Slc) (es : List Ent) (vs : List S_api_Entry) : Prop where
  r : Row B h 64 2 s (ecs vs)
  l : vs.length = es.length
  e : ∀ (i : Nat) v e, vs[i]? = some v → es[i]? = some e → v.f_Term = e.1 ∧ Row B h 5 1 v.f_Cmd (b8 e.2)
theorem add_add' (b : Addr) (m n : Nat) : (b.add m).add n = b.add (m + n) := by
  unfold Addr.add
  by_cases h0 : m = 0 <;> by_cases h1 : n = 0 <;> simp [h0, h1, Nat.add_assoc]
theorem Own.len {B : Nat} {h : Heap} {s : Slc} {es : List Ent} {vs : List S_api_Entry} (o : Own B h s es vs) : s.len = es.length := by
  have := o.r.1; rw [ecs_len, o.l] at this; omega
theorem Own.ents {B : Nat} {h : Heap} {s : Slc} {es : List Ent} {vs : List S_api_Entry} (o : Own B h s es vs) : EntsAt h s es := by
  refine ⟨o.len, fun hn => ?_, fun a ha i e he => ?_⟩
  · have := o.r.slc.1 hn
    have h2 := ecs_len vs
    rw [this] at h2
    have h3 := o.l
    simp at h2
    exact List.eq_nil_of_length_eq_zero (by omega)
  · have hi : i < vs.length := by rw [o.l]; exact (List.getElem?_eq_some_iff.1 he).1
    have hv : vs[i]? = some vs[i] := by simp [hi]
    obtain ⟨h1, h2⟩ := o.e i _ e hv he
    refine ⟨vs[i], fun j w hj => ?_, h1, h2.slc, by simpa using h2.len⟩
    have hj2 : j < 2 := by have := (List.getElem?_eq_some_iff.1 hj).1; simpa [S_api_Entry.cs] using this
    rw [add_add']
    refine o.r.slc.2 a ha _ w ?_
    rw [ecs_get vs i j hj2, hv]
    exact hj
theorem Own.ext {B : Nat} {h h' : Heap} {s : Slc} {es : List Ent} {vs : List S_api_Entry} (o : Own B h s es vs) (X : Ext h.size h h') : Own B h' s es vs :=
  ⟨o.r.ext X fun g hg => (o.r.bd hg).2, o.l, fun i v e hv he => ⟨(o.e i v e hv he).1, (o.e i v e hv he).2.ext X fun g hg => ((o.e i v e hv he).2.bd hg).2⟩⟩
end Go.Q.Ya

/- A part of the proof of statements of this seat: lemmas, no statement of their own. -/
import Derived.Test.YtcmbgfmbmbgbiaaQMap
/- An entry of a map is looked for, then written into. -/
namespace Go.Q
open Go.MapKept
set_option linter.unusedVariables false
set_option linter.unusedSimpArgs false
/-- the stamp of a key's entry, or the one that it will get -/
def stampOf (h : Heap) (r : Nat) (key : Value) : Int :=
  match h[r]? with
  | some (.map es ck) => (match es.toList.findIdx? (fun e => keyIs key e.key) with
    | some i => ((((es[i]?).map (·.born)).getD 0 : Nat) : Int)
    | none => (ck : Int))
  | _ => 0
/-- a key's entry has this stamp -/
def StampAt (h : Heap) (r : Nat) (key : Value) (n : Int) : Prop :=
  ∃ es ck j e, h[r]? = some (.map es ck) ∧ es.toList.findIdx? (fun e => keyIs key e.key) = some j ∧ es[j]? = some e ∧ e.key = key ∧ es.findIdx? (fun e => (e.born : Int) == n) = some j
theorem StampAt.old {h h' : Heap} {r : Nat} {key : Value} {n : Int} (S : StampAt h r key n) (e : h'[r]? = h[r]?) : StampAt h' r key n := by
  obtain ⟨es, ck, j, x, h1, h2⟩ := S; exact ⟨es, ck, j, x, e.trans h1, h2⟩
theorem find_born {es : Array MapEntry} {j : Nat} {e : MapEntry} {n : Int} (hb : (es.toList.map (·.born)).Nodup) (hj : es[j]? = some e) (hn : (e.born : Int) = n) : es.findIdx? (fun e => (e.born : Int) == n) = some j := by
  have hl : j < es.size := (Array.getElem?_eq_some_iff.1 hj).1
  have he : es[j] = e := (Array.getElem?_eq_some_iff.1 hj).2
  rw [Array.findIdx?_eq_some_iff_getElem]
  refine ⟨hl, by rw [he]; simpa using hn, fun i hi hc => ?_⟩
  have hc' : ((es[i]'(by omega)).born : Int) = n := by simpa using hc
  have : (es[i]'(by omega)).born = es[j].born := by rw [he]; omega
  have hnd := List.pairwise_iff_getElem.1 (List.nodup_iff_pairwise_ne.1 hb) i j (by simp; omega) (by simp; omega) hi
  simp only [List.getElem_map, Array.getElem_toList] at hnd
  exact hnd this
theorem StampAt.of {K V : Type} [DecidableEq K] {d : TypeDesc} {kf : K → Value} {vf : V → Value} {h : Heap} {r : Nat} {l : List (K × V)} (KO : KOk d kf) (M : MapAt d kf vf h (some r) l) (k : K) (v : V) :
    StampAt (setM h r (kf k) (vf v)) r (kf k) (stampOf h r (kf k)) := by
  obtain ⟨es, ck, h1, h2, h3, h4, hl, hn, C⟩ := MapH.find KO M k
  have M2 := MapH.put KO M k v
  obtain ⟨es', ck', g1, g2, g3, g4, gl, gn, D⟩ := MapH.find KO M2 k
  have hs := setM_at (k := kf k) (v := vf v) h1
  have key : ∃ (j : Nat) (e : MapEntry), es'[j]? = some e ∧ e.key = kf k ∧ (e.born : Int) = stampOf h r (kf k) := by
    unfold stampOf
    rw [h1]
    dsimp only
    rcases C with ⟨c1, c2, _⟩ | ⟨j, u, e, c1, c2, c3, c4, c5, _⟩
    · rw [c1] at hs ⊢
      rw [hs] at g1
      injection g1 with g1; injection g1 with e1 _
      subst e1
      exact ⟨es.size, { key := kf k, val := vf v, born := ck }, by simp, rfl, rfl⟩
    · rw [c1] at hs ⊢
      rw [hs] at g1
      injection g1 with g1; injection g1 with e1 _
      subst e1
      refine ⟨j, { e with key := kf k, val := vf v }, by rw [Array.getElem?_modify, if_pos rfl, c3]; rfl, rfl, ?_⟩
      dsimp only
      rw [c3]; rfl
  obtain ⟨j, e, hj, hk, hb⟩ := key
  have hj2 : es'.toList[j]? = some e := by simpa using hj
  have hlt : j < es'.size := (Array.getElem?_eq_some_iff.1 hj).1
  rcases D with ⟨d1, _⟩ | ⟨i, u, x, d1, _, d3, d4, _⟩
  · have := (List.findIdx?_eq_none_iff.1 d1) e (List.mem_of_getElem? hj2)
    rw [(keyIs_iff (KO.isK k) (by rw [hk]; exact KO.isK k)).2 hk.symm] at this
    cases this
  · have ij : i = j := by
      have hi2 : es'.toList[i]? = some x := by simpa using d3
      have hilt : i < es'.size := (Array.getElem?_eq_some_iff.1 d3).1
      have a := List.pairwise_iff_getElem.1 (List.nodup_iff_pairwise_ne.1 g2.2.2)
      rcases Nat.lt_trichotomy i j with hlt' | he | hlt'
      · have := a i j (by simp; omega) (by simp; omega) hlt'
        simp only [List.getElem_map, Array.getElem_toList] at this
        rw [(Array.getElem?_eq_some_iff.1 hj).2, (Array.getElem?_eq_some_iff.1 d3).2, d4, hk] at this
        exact absurd rfl this
      · exact he
      · have := a j i (by simp; omega) (by simp; omega) hlt'
        simp only [List.getElem_map, Array.getElem_toList] at this
        rw [(Array.getElem?_eq_some_iff.1 hj).2, (Array.getElem?_eq_some_iff.1 d3).2, d4, hk] at this
        exact absurd rfl this
    subst ij
    exact ⟨es', ck', i, e, g1, d1, hj, hk, find_born g2.2.1 hj hb⟩
section
variable {P : Program} {T : Tab} {e : Env} {h : Heap} {o : Oper} {K V : Type} {d : TypeDesc} {kf : K → Value} {vf : V → Value} {m : Option Nat} {l : List (K × V)}
theorem set_eq {h g : Heap} {r : Nat} {o' : Obj} (hlt : r < h.size) (hr : g[r]? = some o') (hz : g.size = h.size) (ho : ∀ i, i ≠ r → g[i]? = h[i]?) : h.setIfInBounds r o' = g := by
  apply Array.ext_getElem?
  intro i
  by_cases hi : i = r
  · subst hi; rw [hr]; simp [hlt]
  · rw [ho i hi]; simp [Ne.symm hi]
theorem h_me [DecidableEq K] {t kt et r : Nat} {x y : Operand} {k : K} {z : V} {h' : Heap} (ho : o.op = .mapEntry t x y) (hx : evO e x = some (.map m)) (hy : evO e y = some (kf k)) (ht : P.underlying t = some (.map kt et)) (hk : P.underlying kt = some d) (KO : KOk d kf)
    (hz : ∀ w, (zeroValue et).run P w = .ok (vf z) w) (hr : m = some r) (hm : MapAt d kf vf h (some r) l) (he : h' = setM h r (kf k) (vf ((mget l k).getD z))) : Yh P e h o (.tuple #[vf ((mget l k).getD z), .int .i64 (stampOf h r (kf k))]) h' := by
  intro ρ w hA hw
  subst he; subst hw; subst hr
  obtain ⟨es, ck, h1, h2, h3, h4, hl, hn, C⟩ := MapH.find KO hm k
  have hlt := (Array.getElem?_eq_some_iff.1 h1).1
  have hs : ∀ v o', (setM w.heap r (kf k) v)[r]? = some o' → w.heap.setIfInBounds r o' = setM w.heap r (kf k) v := fun v o' h => set_eq hlt h setM_size fun i hi => setM_other hi
  refine ⟨{ w with heap := setM w.heap r (kf k) (vf ((mget l k).getD z)) }, ⟨rfl, rfl, rfl, rfl⟩, .inl ?_⟩
  have hat := setM_at (k := kf k) (v := vf ((mget l k).getD z)) h1
  rcases C with ⟨c1, c2, c3⟩ | ⟨j, u, e', c1, c2, c4, c5, c6, c3⟩
  · rw [c1] at hat
    have hfk := run_findKey (w := w) hk c3
    have hst : stampOf w.heap r (kf k) = ck := by unfold stampOf; rw [h1]; dsimp only; rw [c1]
    have hg : (mget l k).getD z = z := by rw [mget_none c2]; rfl
    rw [hg] at hat ⊢
    simp [execOp, ho, hA _ _ hx, hA _ _ hy, Instr.mapEntry, run_underlying ht, MapKept.run_getObj_map h1, run_checkKey hk (KO.isK k), hfk, hz, MapKept.run_setObj_map _ h1, hs _ _ hat, Result.andThen, goInt, hst]
  · rw [c1] at hat
    have hfk := run_findKey (w := w) hk c3
    have hst : stampOf w.heap r (kf k) = e'.born := by unfold stampOf; rw [h1]; dsimp only; rw [c1]; dsimp only; rw [c4]; rfl
    have hky : (Instr.keyThatStays (kf k) (kf k)).run P w = .ok (kf k) w := run_keyThatStays (KO.isK k)
    have hg : (mget l k).getD z = u := by rw [(mget_at c2 hn).1]; rfl
    rw [hg] at hat ⊢
    have hat2 : (setM w.heap r (kf k) (vf u))[r]? = some (.map (es.modify j fun e => { e with key := kf k }) ck) := by
      rw [hat]
      dsimp only
      congr 2
      apply Array.ext_getElem?
      intro i
      rw [Array.getElem?_modify, Array.getElem?_modify]
      by_cases hij : j = i
      · subst hij
        rw [if_pos rfl, if_pos rfl, c4]
        simp [← c6]
      · rw [if_neg hij, if_neg hij]
    simp [execOp, ho, hA _ _ hx, hA _ _ hy, Instr.mapEntry, run_underlying ht, MapKept.run_getObj_map h1, run_checkKey hk (KO.isK k), hfk, c4, c5, hky, MapKept.run_setObj_map _ h1, hs _ _ hat2, Result.andThen, goInt, hst]
theorem h_es {t r : Nat} {x s y : Operand} {key v : Value} {n : Int} {h' : Heap} (ho : o.op = .entryStore t x s y) (hx : evO e x = some (.map m)) (hs : evO e s = some (.int .i64 n)) (hy : evO e y = some v) (hr : m = some r) (S : StampAt h r key n) (he : h' = setM h r key v) : Yh P e h o undef h' := by
  intro ρ w hA hw
  subst he; subst hw; subst hr
  obtain ⟨es, ck, j, x', h1, h2, h3, h4, h5⟩ := S
  have hlt := (Array.getElem?_eq_some_iff.1 h1).1
  have hat := setM_at (k := key) (v := v) h1
  rw [h2] at hat
  have hat2 : (setM w.heap r key v)[r]? = some (.map (es.modify j fun e => { e with val := v }) ck) := by
    rw [hat]
    dsimp only
    congr 2
    apply Array.ext_getElem?
    intro i
    rw [Array.getElem?_modify, Array.getElem?_modify]
    by_cases hij : j = i
    · subst hij
      rw [if_pos rfl, if_pos rfl, h3]
      simp [← h4]
    · rw [if_neg hij, if_neg hij]
  have hset := set_eq hlt hat2 setM_size fun i hi => setM_other hi
  refine ⟨{ w with heap := setM w.heap r key v }, ⟨rfl, rfl, rfl, rfl⟩, .inr ⟨?_, rfl⟩⟩
  simp [execOp, ho, hA _ _ hx, hA _ _ hs, hA _ _ hy, Instr.entryStore, MapKept.run_getObj_map h1, asInt, asIntOf, h5, MapKept.run_setObj_map _ h1, hset, Result.andThen]
end
end Go.Q

/- A part of the proof of statements of this seat: lemmas, no statement of their own. -/
import Derived.Test.YtgldbcbnficihaaYaApp4
set_option linter.unusedVariables false
set_option linter.unusedSimpArgs false
namespace Go.Q.Ya
theorem CloneE_ok {p0 : Slc} {vs : List S_api_Entry} {k : Slc → Heap → Prop} {h : Heap} (hl : p0.len = vs.length) (hs : SlcAt h p0 (ecs vs)) (hsz : vs.length ≤ 1099511627776)
    (H : ∀ s' h', Row h.size h' 64 2 s' (ecs vs) → Ext h.size h h' → k s' h') : slices_Clone_api_Entry_api_Entry p0 k h := by
  unfold slices_Clone_api_Entry_api_Entry
  cases ha : p0.a with
  | none =>
    rw [if_pos (by simp)]
    have hn := hs.1 ha
    rw [hn] at H
    exact H _ _ (Row.nil _ _ _ _) (Ext.refl _ _)
  | some a =>
    rw [if_neg (by simp)]
    have hp : ∀ o : Obj, Ext h.size h (h.push o) := fun o => Ext.push h o (Nat.le_refl _)
    refine ⟨_, _, rfl, rfl, ecs vs, hs.ext (hp _), ?_⟩
    have R : Row h.size (h.push (.cells ([] : List Value).toArray 64)) 64 2 ⟨some ⟨h.size, 0, none⟩, 0, 0⟩ [] :=
      ⟨by simp, by simp [maxLen], .inr ⟨h.size, [], rfl, Nat.le_refl _, Blk.push _ _ _, Nat.le_refl _, by simp, by simp⟩⟩
    refine App.row R (by simp) rfl (by rw [ecs_len, hl]) (ecs_one _) (by simp only; omega) (by simp only [maxLen]; omega) fun s' h' R' _ hsz' ho _ => ?_
    refine H s' h' (by simpa using R') ⟨by simp at hsz'; omega, fun i hi => ?_⟩
    rw [ho i (by simp; omega) (by simp [Slc.blk]; omega), (hp _).block i hi]
theorem ecs_drop (vs : List S_api_Entry) (n : Nat) : (ecs vs).drop (n * 2) = ecs (vs.drop n) := by
  apply List.ext_getElem?
  intro j
  have e1 := ecs_get (vs.drop n) (j / 2) (j % 2) (by omega)
  have e2 := ecs_get vs (n + j / 2) (j % 2) (by omega)
  rw [show j / 2 * 2 + j % 2 = j from by omega] at e1
  rw [show (n + j / 2) * 2 + j % 2 = n * 2 + j from by omega] at e2
  rw [e1, List.getElem?_drop, e2, List.getElem?_drop]
/-- what a cut leaves: the base, its term, the entries; and the answer -/
def cutRes (ix tm : Int) (es : List Ent) (p : Int) : Int × Int × List Ent × Int :=
  if (termOf ix tm es p).2 ≠ 0 then (ix, tm, es, (termOf ix tm es p).2) else (p, (termOf ix tm es p).1, es.drop (p - ix).toNat, 0)
theorem termOf_ok {ix tm : Int} {es : List Ent} {p : Int} (h : (termOf ix tm es p).2 = 0) : ix ≤ p ∧ p ≤ ix + es.length := by
  unfold termOf at h
  split at h
  · simp at h
  · split at h
    · simp at h
    · omega
theorem Cut_ok {B b : Nat} {ix tm p : Int} {es : List Ent} {s : Slc} {vs : List S_api_Entry} {k : Int → Heap → Prop} {h : Heap} (L : LogAt B h b ix tm es s vs) (hB : B ≤ h.size)
    (x0 : 0 ≤ ix) (x1 : ix ≤ 4611686018427387904) (p0 : 0 ≤ p) (p1 : p < 18446744073709551616) (hl : es.length ≤ 1000000)
    (H : ∀ h' s' vs', LogAt B h' b (cutRes ix tm es p).1 (cutRes ix tm es p).2.1 (cutRes ix tm es p).2.2.1 s' vs' → LFr b s h h' → (∀ g, s'.blk = some g → s.blk = some g ∨ h.size ≤ g) → k (cutRes ix tm es p).2.2.2 h') : rlog_Log_Cut (some ⟨b, 0, none⟩) p k h := by
  unfold rlog_Log_Cut
  rw [if_neg (by simp)]
  refine Term_ok L x0 x1 (by omega) p0 p1 ?_
  by_cases ht : (termOf ix tm es p).2 = 0
  · have e : cutRes ix tm es p = (p, (termOf ix tm es p).1, es.drop (p - ix).toNat, 0) := by unfold cutRes; rw [if_neg (by simp [ht])]
    rw [e] at H
    have hb := termOf_ok ht
    have hc := L.o.r.cap
    have hln := L.o.len
    rw [if_neg (by simp [ht])]
    refine ⟨_, rfl, s, L.c2, ix, L.c0, ?_⟩
    rw [wrapU64 (x := p - ix) (by omega) (by omega)]
    have s1 := L.o.r.slc.sub (w := 2) (l := (p - ix).toNat) (u := (s.len : Int).toNat) (m := (s.cap : Int).toNat) (by omega) (by omega)
    have e1 : ((ecs vs).drop ((p - ix).toNat * 2)).take (((s.len : Int).toNat - (p - ix).toNat) * 2) = ecs (vs.drop (p - ix).toNat) := by
      rw [ecs_drop, List.take_of_length_le (by rw [ecs_len, List.length_drop, L.o.l]; omega)]
    rw [e1] at s1
    refine ⟨_, by omega, by omega, by omega, Int.le_refl _, rfl, CloneE_ok (by rw [subS_len, List.length_drop, L.o.l]; omega) s1 (by rw [List.length_drop, L.o.l]; omega) fun r h1 R X => ?_⟩
    have L1 := L.ext X
    have z := X.size
    have K1 := L1.k.set (i := 2) (v := Slc.v r)
    have K2 := K1.set (i := 0) (v := .int .u64 p)
    have K3 := K2.set (i := 1) (v := .int .u64 (termOf ix tm es p).1)
    have o1 : ∀ (h : Heap) (i : Nat) (v : Value) (j : Nat), j ≠ b → (setH h ⟨b, i, none⟩ v)[j]? = h[j]? := fun h i v j hj => setH_other (by simpa using hj)
    refine ⟨_, by rw [add_mk]; exact L1.k.wr (by simp), rfl, _, by rw [add_mk]; exact K1.wr (by simp), rfl, _, by rw [add_mk, add_mk]; exact K2.wr (by simp), rfl, ?_⟩
    simp only [add_mk, Nat.zero_add]
    have old : ∀ j, j ≠ b → (setH (setH (setH h1 ⟨b, 2, none⟩ (Slc.v r)) ⟨b, 0, none⟩ (.int .u64 p)) ⟨b, 1, none⟩ (.int .u64 (termOf ix tm es p).1))[j]? = h1[j]? := fun j hj => by rw [o1 _ _ _ j hj, o1 _ _ _ j hj, o1 _ _ _ j hj]
    have hlt := L.k.lt
    refine H _ r (vs.drop (p - ix).toNat) ⟨K3, ⟨(R.mono hB).keep fun g hg => old g fun e => by have := (R.bd hg).1; omega, by simp [L.o.l], fun i v e hv he => ?_⟩, L.hb⟩ ⟨by simp only [setH_size]; exact z, fun j hj hjb _ => by rw [old j hjb]; exact X.block j hj⟩ ?_
    · rw [List.getElem?_drop] at hv he
      obtain ⟨q1, q2⟩ := L1.o.e _ v e hv he
      refine ⟨q1, q2.keep fun g hg => old g fun e2 => ?_⟩
      subst e2
      exact q2.ne_blk L1.k (by decide) hg
    · exact fun g hg => .inr (R.bd hg).1
  · have e : cutRes ix tm es p = (ix, tm, es, (termOf ix tm es p).2) := by unfold cutRes; rw [if_pos ht]
    rw [e] at H
    rw [if_pos (by simpa using ht)]
    exact H h s vs L (LFr.refl _ _ _) fun g hg => .inl hg
end Go.Q.Ya

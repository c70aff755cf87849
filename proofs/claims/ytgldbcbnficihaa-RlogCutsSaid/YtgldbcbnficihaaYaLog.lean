/- A part of the proof of statements of this seat: lemmas, no statement of their own. -/
import Derived.Test.YtgldbcbnficihaaYaEntLaw
set_option linter.unusedVariables false
set_option linter.unusedSimpArgs false
namespace Go.Q.Ya
theorem EntsAt.get {h : Heap} {s : Slc} {es : List Ent} (A : EntsAt h s es) {i : Nat} {e : Ent} (he : es[i]? = some e) : ∃ a v, s.a = some a ∧ cellH h (a.add (i * 2)) = some (.int .u64 e.1) ∧ cellH h ((a.add (i * 2)).add 1) = some (Slc.v v) ∧ SlcAt h v (b8 e.2) ∧ v.len = e.2.length ∧ CellsAt h (a.add (i * 2)) (S_api_Entry.cs ⟨e.1, v⟩) := by
  have na : s.a ≠ none := fun hn => by have := A.n hn; simp [this] at he
  obtain ⟨a, ha⟩ := Option.ne_none_iff_exists'.1 na
  obtain ⟨v, c1, c2⟩ := A.at' a ha i e he
  refine ⟨a, v.f_Cmd, ha, ?_, c1 1 _ rfl, c2.c, c2.l, ?_⟩
  · rw [← c2.t]; exact c1 0 _ rfl
  · rw [← c2.t]; exact c1
theorem entSame_ok {p0 p1 : Slc} {es fs : List Ent} {k : Bool → Heap → Prop} {h : Heap} (A : EntsAt h p0 es) (C : EntsAt h p1 fs) (ok : esOk es) (hl : es.length ≤ 1099511627776) (H : k (decide (es = fs)) h) : ref23_Same p0 p1 k h := by
  unfold ref23_Same
  by_cases hlm : es.length = fs.length
  · rw [if_neg (by simp [A.l, C.l, hlm])]
    refine ⟨fun i h' => 0 ≤ i ∧ i ≤ es.length ∧ es.take i.toNat = fs.take i.toNat ∧ h' = h, fun i _ => (es.length - i).toNat, ⟨by omega, by omega, by simp, rfl⟩, ?_⟩
    rintro i h' ⟨i0, i1, hq, rfl⟩
    unfold ref23_Same_l1b
    by_cases hi : i < es.length
    · rw [if_pos (by simp [A.l]; omega)]
      have h1 : i.toNat < es.length := by omega
      have h2 : i.toNat < fs.length := by omega
      obtain ⟨a, v, a1, a2, a3, a4, a5, _⟩ := A.get (i := i.toNat) (e := es[i.toNat]) (by simp [h1])
      obtain ⟨b, w, c1, c2, c3, c4, c5, _⟩ := C.get (i := i.toNat) (e := fs[i.toNat]) (by simp [h2])
      have oke := ok es[i.toNat] (List.getElem_mem h1)
      have ia : i < p0.len := by rw [A.l]; exact hi
      have ib : i < p1.len := by rw [C.l]; omega
      have no : es[i.toNat] ≠ fs[i.toNat] → decide (es = fs) = false := fun hne => by
        rw [decide_eq_false_iff_not]; rintro rfl; exact hne rfl
      refine ⟨a, a1, i0, ia, _, a2, b, c1, i0, ib, _, c2, ?_⟩
      by_cases ht : es[i.toNat].1 = fs[i.toNat].1
      · rw [if_neg (by simp [ht])]
        refine ⟨a, a1, i0, ia, _, a3, b, c1, i0, ib, _, c3, Same_ok a4 a5 c4 c5 (by omega) ?_⟩
        unfold ref23_Same_j2
        by_cases hc : es[i.toNat].2 = fs[i.toNat].2
        · rw [show decide (es[i.toNat].2 = fs[i.toNat].2) = true from by simpa using hc]
          rw [if_neg (by simp), wrapI64 (by omega) (by omega)]
          refine ⟨_, rfl, ⟨by omega, by omega, ?_, rfl⟩, by dsimp only; omega⟩
          rw [show (i + 1).toNat = i.toNat + 1 from by omega, List.take_succ_eq_append_getElem h1, List.take_succ_eq_append_getElem h2, hq, Prod.ext ht hc]
        · rw [show decide (es[i.toNat].2 = fs[i.toNat].2) = false from by simpa using hc]
          rw [if_pos (by simp), ← no fun e => hc (by rw [e])]
          exact H
      · rw [if_pos (by simpa using ht)]
        unfold ref23_Same_j2
        rw [if_pos rfl, ← no fun e => ht (by rw [e])]
        exact H
    · rw [if_neg (by simp [A.l]; omega)]
      have : es = fs := by
        have e1 : es.take i.toNat = es := List.take_of_length_le (by omega)
        have e2 : fs.take i.toNat = fs := List.take_of_length_le (by omega)
        rw [e1, e2] at hq; exact hq
      simpa [this] using H
  · rw [if_pos (by simp [A.l, C.l]; omega)]
    have : decide (es = fs) = false := by rw [decide_eq_false_iff_not]; rintro rfl; exact hlm rfl
    rw [← this]; exact H
/-- what is looked at is not great -/
def small (es : List Ent) : Prop := es.length ≤ 100 ∧ ∀ e ∈ es, e.2.length ≤ 300
theorem Great_ok {p0 : Slc} {es : List Ent} {k : Bool → Heap → Prop} {h : Heap} (A : EntsAt h p0 es) (hl : es.length ≤ 9223372036854775807) (H : ∀ r, (r = false → small es) → k r h) : ref23_Great p0 k h := by
  unfold ref23_Great
  refine ⟨fun i h' => 0 ≤ i ∧ i ≤ es.length ∧ (∀ j e, j < i.toNat → es[j]? = some e → e.2.length ≤ 300) ∧ h' = h, fun i _ => (es.length - i).toNat, ⟨by omega, by omega, by intro j e hj; simp at hj, rfl⟩, ?_⟩
  rintro i h' ⟨i0, i1, hs, rfl⟩
  unfold ref23_Great_l1b
  by_cases hi : i < es.length ∧ i < 100
  · rw [if_pos (by simp [A.l]; omega)]
    have h1 : i.toNat < es.length := by omega
    obtain ⟨a, v, a1, a2, a3, a4, a5, _⟩ := A.get (i := i.toNat) (e := es[i.toNat]) (by simp [h1])
    refine ⟨a, a1, i0, by rw [A.l]; exact hi.1, v, a3, ?_⟩
    by_cases hv : v.len > 300
    · rw [if_pos (by simp; omega)]
      exact H true fun e => by cases e
    · rw [if_neg (by simp; omega), wrapI64 (by omega) (by omega)]
      refine ⟨_, rfl, ⟨by omega, by omega, fun j e hj he => ?_, rfl⟩, by dsimp only; omega⟩
      rcases Nat.lt_or_ge j i.toNat with hji | hji
      · exact hs j e hji he
      · have : j = i.toNat := by omega
        subst this
        simp [h1] at he
        subst he; omega
  · rw [if_neg (by simp [A.l]; omega)]
    refine H _ fun hr => ?_
    have hr' : ¬ ((p0.len : Int) > 100) := by simpa using hr
    rw [A.l] at hr'
    have hi2 : i.toNat = es.length := by omega
    refine ⟨by omega, fun e he => ?_⟩
    obtain ⟨j, hj⟩ := List.getElem?_of_mem he
    exact hs j e (by rw [hi2]; exact (List.getElem?_eq_some_iff.1 hj).1) hj
/-- a log -/
structure LogAt (B : Nat) (h : Heap) (b : Nat) (ix tm : Int) (es : List Ent) (s : Slc) (vs : List S_api_Entry) : Prop where
  k : Blk h b [.int .u64 ix, .int .u64 tm, Slc.v s] 88
  o : Own B h s es vs
  hb : B ≤ b
theorem LogAt.ext {B : Nat} {h h' : Heap} {b : Nat} {ix tm : Int} {es : List Ent} {s : Slc} {vs : List S_api_Entry} (L : LogAt B h b ix tm es s vs) (X : Ext h.size h h') : LogAt B h' b ix tm es s vs := ⟨L.k.ext X L.k.lt, L.o.ext X, L.hb⟩
theorem New_ok {ix tm : Int} {p2 : Slc} {es : List Ent} {k : Option Addr → Heap → Prop} {h : Heap} (A : EntsAt h p2 es) (ok : esOk es) (hl : es.length ≤ 1099511627776)
    (H : ∀ b h' s vs, LogAt h.size h' b ix tm es s vs → Ext h.size h h' → k (some ⟨b, 0, none⟩) h') : rlog_New ix tm p2 k h := by
  unfold rlog_New
  refine copied_ok A ok hl fun s h1 vs O X => ⟨_, _, rfl, rfl, H _ _ s vs ⟨Blk.push h1 [.int .u64 ix, .int .u64 tm, Slc.v s] 88, O.ext (Ext.push h1 _ (Nat.le_refl _)), X.size⟩ (X.trans (Ext.push h1 _ X.size))⟩
def lastT (tm : Int) (es : List Ent) : Int := match es.getLast? with | some e => e.1 | none => tm
def termOf (ix tm : Int) (es : List Ent) (p : Int) : Int × Int :=
  if p < ix then (0, 13) else if p > ix + es.length then (0, 6) else if p = ix then (tm, 0) else ((es.getD (p - ix - 1).toNat (0, [])).1, 0)
section
variable {B b : Nat} {h : Heap} {ix tm : Int} {es : List Ent} {s : Slc} {vs : List S_api_Entry}
theorem LogAt.c0 (L : LogAt B h b ix tm es s vs) : cellH h ⟨b, 0, none⟩ = some (.int .u64 ix) := by rw [L.k.cell]; rfl
theorem LogAt.c1 (L : LogAt B h b ix tm es s vs) : cellH h ((⟨b, 0, none⟩ : Addr).add 1) = some (.int .u64 tm) := by rw [add_mk, L.k.cell]; rfl
theorem LogAt.c2 (L : LogAt B h b ix tm es s vs) : cellH h ((⟨b, 0, none⟩ : Addr).add 2) = some (Slc.v s) := by rw [add_mk, L.k.cell]; rfl
theorem Base_ok {k : Int × Int → Heap → Prop} (L : LogAt B h b ix tm es s vs) (H : k (ix, tm) h) : rlog_Log_Base (some ⟨b, 0, none⟩) k h := by
  unfold rlog_Log_Base
  rw [if_neg (by simp)]
  exact ⟨_, rfl, _, L.c0, _, L.c1, H⟩
theorem Last_ok {k : Int × Int → Heap → Prop} (L : LogAt B h b ix tm es s vs) (x0 : 0 ≤ ix) (x1 : ix ≤ 4611686018427387904) (hl : es.length ≤ 1099511627776) (H : k (ix + es.length, lastT tm es) h) : rlog_Log_Last (some ⟨b, 0, none⟩) k h := by
  unfold rlog_Log_Last
  rw [if_neg (by simp)]
  have A := L.o.ents
  refine ⟨_, rfl, _, L.c2, _, rfl, ?_⟩
  rw [A.l]
  by_cases hn : es.length > 0
  · rw [if_pos (by simp; omega)]
    have he : es[es.length - 1]? = some (es[es.length - 1]'(by omega)) := by simp
    obtain ⟨a, v, a1, a2, _⟩ := A.get he
    have hlt : lastT tm es = es[es.length - 1].1 := by
      unfold lastT
      rw [List.getLast?_eq_getElem?, he]
    rw [wrapI64 (by omega) (by omega), wrapU64 (x := (es.length : Int)) (by omega) (by omega)]
    refine ⟨ix, L.c0, s, L.c2, a, a1, by omega, by rw [A.l]; omega, (es[es.length - 1]'(by omega)).1, ?_, ?_⟩
    · rw [show ((es.length : Int) - 1).toNat = es.length - 1 from by omega]; exact a2
    · rw [← hlt, wrapU64 (by omega) (by omega)]; exact H
  · rw [if_neg (show ¬ (decide ((es.length : Int) > 0) = true) from by rw [decide_eq_true_eq]; omega)]
    have : es = [] := List.eq_nil_of_length_eq_zero (by omega)
    subst this
    refine ⟨ix, L.c0, tm, L.c1, ?_⟩
    simpa [lastT] using H
theorem Term_ok {p : Int} {k : Int × Int → Heap → Prop} (L : LogAt B h b ix tm es s vs) (x0 : 0 ≤ ix) (x1 : ix ≤ 4611686018427387904) (hl : es.length ≤ 1099511627776) (p0 : 0 ≤ p) (p1 : p < 18446744073709551616) (H : k (termOf ix tm es p) h) : rlog_Log_Term (some ⟨b, 0, none⟩) p k h := by
  unfold rlog_Log_Term
  refine Base_ok L (Last_ok L x0 x1 hl ?_)
  dsimp only
  unfold termOf at H
  by_cases h1 : p < ix
  · rw [if_pos (by simpa using h1)]; rw [if_pos h1] at H; exact H
  · rw [if_neg (by simpa using h1)]; rw [if_neg h1] at H
    by_cases h2 : p > ix + es.length
    · rw [if_pos (by simpa using h2)]; rw [if_pos h2] at H; exact H
    · rw [if_neg (by simpa using h2)]; rw [if_neg h2] at H
      by_cases h3 : p = ix
      · rw [if_pos (by simpa using h3)]; rw [if_pos h3] at H; exact H
      · rw [if_neg (by simpa using h3)]; rw [if_neg h3] at H
        have A := L.o.ents
        rw [wrapU64 (x := p - ix) (by omega) (by omega), wrapU64 (by omega) (by omega)]
        have hi : (p - ix - 1).toNat < es.length := by omega
        have he : es[(p - ix - 1).toNat]? = some es[(p - ix - 1).toNat] := by simp [hi]
        obtain ⟨a, v, a1, a2, _⟩ := A.get he
        refine ⟨_, rfl, _, L.c2, a, a1, by omega, by rw [A.l]; omega, _, a2, ?_⟩
        have e : (es.getD (p - ix - 1).toNat (0, [])) = es[(p - ix - 1).toNat] := by rw [List.getD_eq_getElem?_getD, List.getElem?_eq_getElem hi]; rfl
        rw [e] at H; exact H
theorem Entries_ok {k : Slc → Heap → Prop} (L : LogAt B h b ix tm es s vs) (ok : esOk es) (hl : es.length ≤ 1099511627776) (H : ∀ s' h' vs', Own h.size h' s' es vs' → Ext h.size h h' → k s' h') : rlog_Log_Entries (some ⟨b, 0, none⟩) k h := by
  unfold rlog_Log_Entries
  rw [if_neg (by simp)]
  exact ⟨_, rfl, _, L.c2, copied_ok L.o.ents ok hl H⟩
theorem Match_ok {p t : Int} {k : Bool → Heap → Prop} (L : LogAt B h b ix tm es s vs) (x0 : 0 ≤ ix) (x1 : ix ≤ 4611686018427387904) (hl : es.length ≤ 1099511627776) (p0 : 0 ≤ p) (p1 : p < 18446744073709551616) (H : k (((termOf ix tm es p).2 == 0) && ((termOf ix tm es p).1 == t)) h) : rlog_Log_Match (some ⟨b, 0, none⟩) p t k h := by
  unfold rlog_Log_Match
  exact Term_ok L x0 x1 hl p0 p1 H
theorem Newer_ok {p t : Int} {k : Bool → Heap → Prop} (L : LogAt B h b ix tm es s vs) (x0 : 0 ≤ ix) (x1 : ix ≤ 4611686018427387904) (hl : es.length ≤ 1099511627776) (H : k ((decide (t > lastT tm es)) || ((t == lastT tm es) && (decide (p ≥ ix + es.length)))) h) : rlog_Log_Newer (some ⟨b, 0, none⟩) p t k h := by
  unfold rlog_Log_Newer
  exact Last_ok L x0 x1 hl H
end
end Go.Q.Ya

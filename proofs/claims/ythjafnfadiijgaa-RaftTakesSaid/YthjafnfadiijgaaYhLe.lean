/- A part of the proof of statements of this seat: lemmas, no statement of their own. -/
import Derived.Test.YthjafnfadiijgaaYhLg
import Derived.Test.YthjafnfadiijgaaYhCl
import Derived.Test.YthjafnfadiijgaaQOwn
import Derived.Test.YthjafnfadiijgaaRfA
set_option linter.unusedVariables false
set_option linter.unusedSimpArgs false
set_option maxRecDepth 100000
/- Entries and logs in memory. -/
namespace Go.Q
theorem SlcAt.imm_row {O : BSet} {B E w : Nat} {s : Slc} {xs : List Value} {h : Heap} (R : Row B h E w s xs) (hb : ∀ g, s.blk = some g → ¬ O g) : Imm O h fun h' => SlcAt h' s xs := fun h' p => (p.row R hb).slc
theorem Blk.put {h : Heap} {b E i : Nat} {cs : List Value} {v : Value} (K : Blk h b cs E) (hi : i < cs.length) : WrH h ((⟨b, 0, none⟩ : Addr).add i) ∧ ∀ h2, h2 = setH h ((⟨b, 0, none⟩ : Addr).add i) v → Blk h2 b (cs.set i v) E ∧ Upd b h h2 := by
  rw [add_mk, Nat.zero_add]
  refine ⟨K.wr hi, fun h2 e => ?_⟩
  subst e
  exact ⟨K.set, ⟨by rw [setH_size]; exact Nat.le_refl _, fun j _ hne => setH_other (by simpa using hne)⟩⟩
theorem Blk.get {h : Heap} {b E : Nat} {cs : List Value} (K : Blk h b cs E) (i : Nat) : cellH h ((⟨b, 0, none⟩ : Addr).add i) = cs[i]? := by
  rw [add_mk, Nat.zero_add, K.cell]
theorem Row.blkOf {B E w g : Nat} {h : Heap} {s : Slc} {xs : List Value} (r : Row B h E w s xs) (hg : s.blk = some g) : ∃ cur, Blk h g cur E := by
  rcases r.2.2 with ⟨k, _⟩ | ⟨g', cur, a1, a2, a3, _⟩
  · simp [Slc.blk, k] at hg
  · simp [Slc.blk, a1] at hg; subst hg
    exact ⟨cur, a3⟩
theorem Row.of_pushE {E w : Nat} (h : Heap) (cs : List Value) (n : Nat) (hn : n * w = cs.length) (hm : n ≤ maxLen) : Row h.size (h.push (.cells cs.toArray E)) E w ⟨some ⟨h.size, 0, none⟩, n, n⟩ cs :=
  ⟨hn.symm, hm, .inr ⟨h.size, cs, rfl, Nat.le_refl _, Blk.push _ _ _, Nat.le_refl _, by show n * w ≤ _; omega, by show cs.take (n * w) = cs; rw [hn, List.take_length]⟩⟩
namespace Yh
open Rf (Lg)
def esOk (es : List Ent) : Prop := ∀ e ∈ es, (0 ≤ e.1 ∧ e.1 < 18446744073709551616) ∧ isB e.2 ∧ e.2.length ≤ 1099511627776
theorem esOk.app {x y : List Ent} (h : esOk x) (k : esOk y) : esOk (x ++ y) := fun e he => (List.mem_append.1 he).elim (h e) (k e)
theorem esOk.take {x : List Ent} (h : esOk x) (n : Nat) : esOk (x.take n) := fun e he => h e (List.mem_of_mem_take he)
theorem esOk.drop {x : List Ent} (h : esOk x) (n : Nat) : esOk (x.drop n) := fun e he => h e (List.mem_of_mem_drop he)
abbrev ecs (vs : List S_api_Entry) : List Value := vs.flatMap S_api_Entry.cs
theorem ecs_len (vs : List S_api_Entry) : (ecs vs).length = vs.length * 2 := fm_len (w := 2) (fun _ => rfl) vs
theorem ecs_get (vs : List S_api_Entry) (i j : Nat) (hj : j < 2) : (ecs vs)[i * 2 + j]? = (vs[i]?).bind fun v => (S_api_Entry.cs v)[j]? := fm_get (w := 2) (fun _ => rfl) vs i j hj
theorem ecs_snoc (vs : List S_api_Entry) (v : S_api_Entry) : ecs (vs ++ [v]) = ecs vs ++ S_api_Entry.cs v := by simp [ecs]
theorem ecs_take (vs : List S_api_Entry) (n : Nat) : (ecs vs).take (n * 2) = ecs (vs.take n) := Rw.fm_take (w := 2) (fun _ => rfl) vs n
theorem ecs_drop (vs : List S_api_Entry) (n : Nat) : (ecs vs).drop (n * 2) = ecs (vs.drop n) := by
  have h := List.take_append_drop (n * 2) (ecs vs)
  have k : ecs vs = ecs (vs.take n) ++ ecs (vs.drop n) := by rw [← List.flatMap_append, List.take_append_drop]
  rw [ecs_take] at h
  exact List.append_cancel_left (h.trans k)
theorem ecs_one (vs : List S_api_Entry) : ∀ x ∈ ecs vs, x.oneCell' = true := by
  intro x hx
  obtain ⟨v, _, hv⟩ := List.mem_flatMap.1 hx
  exact oneC (l := S_api_Entry.cs v) (by simp [S_api_Entry.cs, Value.oneCell']) x hv
/-- an entry that may be read -/
structure EntAt (h : Heap) (v : S_api_Entry) (e : Ent) : Prop where
  t : v.f_Term = e.1
  c : SlcAt h v.f_Cmd (b8 e.2)
  l : v.f_Cmd.len = e.2.length
theorem EntAt.ext {h h' : Heap} {v : S_api_Entry} {e : Ent} (a : EntAt h v e) (X : Ext h.size h h') : EntAt h' v e := ⟨a.t, a.c.ext X, a.l⟩
def Each (h : Heap) (vs : List S_api_Entry) (es : List Ent) : Prop := vs.length = es.length ∧ ∀ (i : Nat) v e, vs[i]? = some v → es[i]? = some e → EntAt h v e
theorem Each.nil (h : Heap) : Each h [] [] := ⟨rfl, by simp⟩
theorem Each.ext {h h' : Heap} {vs : List S_api_Entry} {es : List Ent} (a : Each h vs es) (X : Ext h.size h h') : Each h' vs es := ⟨a.1, fun i v e hv he => (a.2 i v e hv he).ext X⟩
theorem Each.take {h : Heap} {vs : List S_api_Entry} {es : List Ent} (a : Each h vs es) (n : Nat) : Each h (vs.take n) (es.take n) :=
  ⟨by simp [a.1], fun i v e hv he => by
    rw [List.getElem?_take] at hv he
    split at hv
    · rename_i hi; rw [if_pos hi] at he; exact a.2 i v e hv he
    · cases hv⟩
theorem Each.drop {h : Heap} {vs : List S_api_Entry} {es : List Ent} (a : Each h vs es) (n : Nat) : Each h (vs.drop n) (es.drop n) :=
  ⟨by simp [a.1], fun i v e hv he => by rw [List.getElem?_drop] at hv he; exact a.2 _ v e hv he⟩
theorem Each.app {h : Heap} {vs us : List S_api_Entry} {es fs : List Ent} (a : Each h vs es) (b : Each h us fs) : Each h (vs ++ us) (es ++ fs) := by
  refine ⟨by simp [a.1, b.1], fun i v e hv he => ?_⟩
  rcases Nat.lt_or_ge i vs.length with hi | hi
  · rw [List.getElem?_append_left hi] at hv
    rw [List.getElem?_append_left (by rw [← a.1]; exact hi)] at he
    exact a.2 i v e hv he
  · rw [List.getElem?_append_right hi] at hv
    rw [List.getElem?_append_right (by rw [← a.1]; exact hi), ← a.1] at he
    exact b.2 _ v e hv he
theorem Each.one {h : Heap} {v : S_api_Entry} {e : Ent} (a : EntAt h v e) : Each h [v] [e] := ⟨rfl, fun i w f hw hf => by
  cases i with
  | zero => simp at hw hf; subst hw; subst hf; exact a
  | succ i => simp at hw⟩
/-- entries that may be read -/
structure EntsAt (h : Heap) (s : Slc) (es : List Ent) : Prop where
  l : s.len = es.length
  c : s.len ≤ s.cap
  e : ∃ vs, SlcAt h s (ecs vs) ∧ Each h vs es
theorem EntsAt.ext {h h' : Heap} {s : Slc} {es : List Ent} (a : EntsAt h s es) (X : Ext h.size h h') : EntsAt h' s es := by
  obtain ⟨vs, S, E⟩ := a.e
  exact ⟨a.l, a.c, vs, S.ext X, E.ext X⟩
theorem EntsAt.nil (h : Heap) : EntsAt h ⟨none, 0, 0⟩ [] := ⟨rfl, Nat.le_refl _, [], ⟨fun _ => rfl, fun a ha => by cases ha⟩, Each.nil h⟩
theorem EntsAt.get {h : Heap} {s : Slc} {es : List Ent} (A : EntsAt h s es) {i : Nat} {e : Ent} (he : es[i]? = some e) : ∃ a v, s.a = some a ∧ CellsAt h (a.add (i * 2)) (S_api_Entry.cs v) ∧ EntAt h v e := by
  obtain ⟨vs, S, E⟩ := A.e
  have hi : i < vs.length := by rw [E.1]; exact (List.getElem?_eq_some_iff.1 he).1
  obtain ⟨v, hv⟩ : ∃ v, vs[i]? = some v := ⟨_, List.getElem?_eq_getElem hi⟩
  have L := LsAt.of_slc (w := 2) (fun x => rfl) S (by rw [A.l, E.1]) (by decide)
  obtain ⟨a, ha, C⟩ := L.at' i v hv
  exact ⟨a, v, ha, C, E.2 i v e hv he⟩
/-- a part of entries -/
theorem EntsAt.sub {h : Heap} {s : Slc} {es : List Ent} (A : EntsAt h s es) {l u m : Nat} (h1 : l ≤ u) (h2 : u ≤ es.length) (h3 : u ≤ m) (h4 : m ≤ s.cap) : EntsAt h (subS s 2 l u m) ((es.drop l).take (u - l)) := by
  obtain ⟨vs, S, E⟩ := A.e
  have hl := E.1
  refine ⟨by simp [subS]; omega, by simp [subS]; omega, (vs.drop l).take (u - l), ⟨fun hn => ?_, fun a ha j v hj => ?_⟩, (E.drop l).take (u - l)⟩
  · have : s.a = none := by simp only [subS] at hn; split at hn <;> simpa using hn
    have h0 := S.1 this
    have := ecs_len vs
    rw [h0] at this
    simp at this
    have : vs = [] := List.eq_nil_of_length_eq_zero (by omega)
    simp [this]
  · cases hs : s.a with
    | none => simp [subS, hs] at ha
    | some b =>
      by_cases hm : m = l
      · rw [show u - l = 0 from by omega] at hj; simp at hj
      simp [subS, hs, hm] at ha
      subst ha
      rw [← ecs_take, ← ecs_drop, List.getElem?_take] at hj
      split at hj
      · rw [List.getElem?_drop] at hj
        rw [add_add2]
        exact S.2 b hs _ v hj
      · cases hj
/-- entries in new memory -/
structure EntsF (B : Nat) (h : Heap) (s : Slc) (es : List Ent) (vs : List S_api_Entry) : Prop where
  r : Row B h 65 2 s (ecs vs)
  l : vs.length = es.length
  e : ∀ (i : Nat) v e, vs[i]? = some v → es[i]? = some e → v.f_Term = e.1 ∧ Row B h 5 1 v.f_Cmd (b8 e.2)
theorem EntsF.len {B : Nat} {h : Heap} {s : Slc} {es : List Ent} {vs : List S_api_Entry} (o : EntsF B h s es vs) : s.len = es.length := by
  have := o.r.1; rw [ecs_len, o.l] at this; omega
theorem EntsF.each {B : Nat} {h : Heap} {s : Slc} {es : List Ent} {vs : List S_api_Entry} (o : EntsF B h s es vs) : Each h vs es :=
  ⟨o.l, fun i v e hv he => ⟨(o.e i v e hv he).1, (o.e i v e hv he).2.slc, by simpa using (o.e i v e hv he).2.len⟩⟩
theorem EntsF.ents {B : Nat} {h : Heap} {s : Slc} {es : List Ent} {vs : List S_api_Entry} (o : EntsF B h s es vs) : EntsAt h s es := ⟨o.len, o.r.cap, vs, o.r.slc, o.each⟩
theorem EntsF.keep {B : Nat} {h h' : Heap} {s : Slc} {es : List Ent} {vs : List S_api_Entry} (o : EntsF B h s es vs) (k : ∀ g, B ≤ g → g < h.size → h'[g]? = h[g]?) : EntsF B h' s es vs :=
  ⟨o.r.keep fun g hg => k g (o.r.bd hg).1 (o.r.bd hg).2, o.l, fun i v e hv he => ⟨(o.e i v e hv he).1, (o.e i v e hv he).2.keep fun g hg => k g ((o.e i v e hv he).2.bd hg).1 ((o.e i v e hv he).2.bd hg).2⟩⟩
theorem EntsF.ext {B : Nat} {h h' : Heap} {s : Slc} {es : List Ent} {vs : List S_api_Entry} (o : EntsF B h s es vs) (X : Ext h.size h h') : EntsF B h' s es vs := o.keep fun g _ hg => X.block g hg
theorem EntsF.imm {O : BSet} {B : Nat} {h : Heap} {s : Slc} {es : List Ent} {vs : List S_api_Entry} (o : EntsF B h s es vs) (hO : ∀ g, O g → g < B) : Imm O h fun h' => EntsAt h' s es :=
  fun h' p => (o.keep fun g hB hg => p.block g hg fun hg' => by have := hO g hg'; omega).ents
theorem EntsF.immEach {O : BSet} {B : Nat} {h : Heap} {s : Slc} {es : List Ent} {vs : List S_api_Entry} (o : EntsF B h s es vs) (hO : ∀ g, O g → s.blk = some g ∨ g < B) (hb : ∀ g, s.blk = some g → O g) : Imm O h fun h' => Each h' vs es :=
  fun h' p => ⟨o.l, fun i v e hv he => by
    obtain ⟨h1, h2⟩ := o.e i v e hv he
    have := p.row h2 fun g hg hO' => by
      rcases hO g hO' with h3 | h3
      · exact h2.ne_row o.r (by decide) hg h3
      · have := (h2.bd hg).1; omega
    exact ⟨h1, this.slc, by simpa using this.len⟩⟩
theorem copied_ok {p0 : Slc} {es : List Ent} {k : Slc → Heap → Prop} {h : Heap} (A : EntsAt h p0 es) (ok : esOk es) (hl : es.length ≤ 1099511627776)
    (H : ∀ s' h' vs, EntsF h.size h' s' es vs → Ext h.size h h' → k s' h') : rlog_copied p0 k h := by
  unfold rlog_copied
  rw [A.l]
  refine ⟨fun q h' => ∃ vs, 0 ≤ q.2 ∧ q.2 ≤ es.length ∧ EntsF h.size h' q.1 (es.take q.2.toNat) vs ∧ Ext h.size h h', fun q _ => (es.length - q.2).toNat, ⟨[], by simp, by simp, ⟨Row.nil _ _ _ _, by simp, by simp⟩, Ext.refl _ _⟩, ?_⟩
  rintro out i h1 ⟨vs, i0, i1, O, X⟩
  simp only at i0 i1 O
  unfold rlog_copied_l1b
  by_cases hi : i < es.length
  · rw [if_pos (by simpa using hi)]
    have hie : i.toNat < es.length := by omega
    have he : es[i.toNat]? = some es[i.toNat] := by simp [hie]
    generalize es[i.toNat] = e at he
    obtain ⟨a, v, ha, c1, c2⟩ := (A.ext X).get he
    have oke := ok e (List.mem_of_getElem? he)
    refine ⟨a, ha, i0, by rw [A.l]; exact hi, v, c1, _, _, rfl, rfl, ?_⟩
    have P0 := Blk.push h1 (S_api_Entry.cs ⟨0, ⟨none, 0, 0⟩⟩) 65
    have P1 := P0.sets_all (vs := S_api_Entry.cs v) (by simp [S_api_Entry.cs])
    have X2 : Ext h1.size h1 (setsH (h1.push (.cells (S_api_Entry.cs ⟨0, ⟨none, 0, 0⟩⟩).toArray 65)) ⟨h1.size, 0, none⟩ 0 (S_api_Entry.cs v)) := (Ext.push h1 _ (Nat.le_refl _)).trans (Ext.sets _ _ _ (Nat.le_refl _))
    refine ⟨_, WrsAt.of_blk P0 (by simp [S_api_Entry.cs]), rfl, ?_⟩
    have z2 := X2.size
    have zp : h1.size < (setsH (h1.push (.cells (S_api_Entry.cs ⟨0, ⟨none, 0, 0⟩⟩).toArray 65)) ⟨h1.size, 0, none⟩ 0 (S_api_Entry.cs v)).size := P1.lt
    generalize setsH (h1.push (.cells (S_api_Entry.cs ⟨0, ⟨none, 0, 0⟩⟩).toArray 65)) ⟨h1.size, 0, none⟩ 0 (S_api_Entry.cs v) = h2 at *
    refine ⟨v.f_Term, by rw [P1.cell]; rfl, v.f_Cmd, by rw [add_mk, P1.cell]; rfl, Clone_ok c2.l (c2.c.ext X2) (by omega) fun r h3 R3 X3 => ?_⟩
    have z3 := X3.size
    refine ⟨by rw [(P1.ext X3 zp).cell]; rfl, _, _, rfl, rfl, ?_⟩
    have O2 := (O.ext X2).ext X3
    have ol := O.len
    simp at ol
    have z1 := X.size
    refine App.row (O2.r.pushed _) (by simp; omega) rfl rfl (oneC (by kernel_rfl)) (by omega) (by simp only [maxLen]; omega) fun s' h4 R4 _ z4 ho _ => ?_
    have z4' : h3.size + 1 ≤ h4.size := by simpa using z4
    have old : ∀ g, g < h3.size → out.blk ≠ some g → h4[g]? = h3[g]? := fun g hg hne => by
      rw [ho g (by simp; omega) hne, Array.getElem?_push, if_neg (by omega)]
    have kr : ∀ {s : Slc} {xs : List Value} {C : Nat}, Row C h3 5 1 s xs → Row C h4 5 1 s xs := fun R => R.keep fun g hg => old g (R.bd hg).2 fun e => R.ne_row O2.r (by decide) hg e
    rw [wrapI64 (by omega) (by omega)]
    refine ⟨⟨vs ++ [⟨v.f_Term, r⟩], by dsimp only; omega, by dsimp only; omega, ?_, ?_⟩, by dsimp only; omega⟩
    · dsimp only
      rw [show (i + 1).toNat = i.toNat + 1 from by omega, List.take_add_one, he]
      refine ⟨by rw [ecs_snoc]; exact R4, by simp [O2.l], fun j w f hw hf => ?_⟩
      rcases Nat.lt_or_ge j vs.length with hj | hj
      · rw [List.getElem?_append_left hj] at hw
        rw [List.getElem?_append_left (by rw [← O2.l]; exact hj)] at hf
        obtain ⟨k1, k2⟩ := O2.e j w f hw hf
        exact ⟨k1, kr k2⟩
      · rw [List.getElem?_append_right hj] at hw
        rw [List.getElem?_append_right (by rw [← O2.l]; exact hj)] at hf
        have hi2 : j = vs.length := by
          have := (List.getElem?_eq_some_iff.1 hw).1
          simp at this; omega
        rw [hi2] at hw
        rw [hi2, ← O2.l] at hf
        simp at hw hf
        subst hw; subst hf
        exact ⟨c2.t, kr (R3.mono (by omega))⟩
    · exact X.trans ((X2.mono (by omega)).trans ((X3.mono (by omega)).trans ⟨by omega, fun j hj => old j (by omega) fun e => by have := (O2.r.bd e).1; omega⟩))
  · rw [if_neg (by simpa using hi)]
    have : i.toNat = es.length := by omega
    rw [this, List.take_length] at O
    exact H _ _ vs O X
/-- a log in memory: its own blocks are b, and the entries' row -/
structure LogAt (O : BSet) (h : Heap) (b : Nat) (s : Slc) (l : Lg) : Prop where
  k : Blk h b (S_rlog_Log.cs ⟨l.ix, l.tm, s⟩) 117
  r : ∃ vs, Row 0 h 65 2 s (ecs vs) ∧ Imm O h fun h' => Each h' vs l.es
  ob : O b
  os : ∀ g, s.blk = some g → O g
  x0 : 0 ≤ l.ix
  x1 : l.ix + l.es.length < 18446744073709551616
  t0 : 0 ≤ l.tm ∧ l.tm < 18446744073709551616
  ok : esOk l.es
  sz : l.es.length ≤ 1000
section
variable {O O' S : BSet} {h h' : Heap} {b : Nat} {s : Slc} {l : Lg} {p t : Int}
theorem LogAt.len (L : LogAt O h b s l) : s.len = l.es.length := by
  obtain ⟨vs, R, I⟩ := L.r
  have := R.1; rw [ecs_len, I.now.1] at this; omega
theorem LogAt.ents (L : LogAt O h b s l) : EntsAt h s l.es := by
  obtain ⟨vs, R, I⟩ := L.r
  exact ⟨L.len, R.cap, vs, R.slc, I.now⟩
theorem LogAt.stp (L : LogAt O h b s l) (p : Stp S h h') (hS : ∀ g, S g → O g ∨ h.size ≤ g) (hb : ¬ S b) (hs : ∀ g, s.blk = some g → ¬ S g) : LogAt O h' b s l := by
  obtain ⟨vs, R, I⟩ := L.r
  exact ⟨p.blk L.k hb, ⟨vs, p.row R hs, I.stp (p.mono hS)⟩, L.ob, L.os, L.x0, L.x1, L.t0, L.ok, L.sz⟩
theorem LogAt.ext (L : LogAt O h b s l) (X : Ext h.size h h') : LogAt O h' b s l := L.stp (S := fun _ => False) (.of_ext X) (fun _ h => h.elim) (fun h => h) (fun _ _ h => h)
theorem LogAt.sub (L : LogAt O h b s l) (hO : ∀ g, O' g → O g ∨ h.size ≤ g) (hb : O' b) (hs : ∀ g, s.blk = some g → O' g) : LogAt O' h b s l := by
  obtain ⟨vs, R, I⟩ := L.r
  exact ⟨L.k, ⟨vs, R, I.mono hO⟩, hb, hs, L.x0, L.x1, L.t0, L.ok, L.sz⟩
theorem LogAt.c0 (L : LogAt O h b s l) : cellH h ⟨b, 0, none⟩ = some (.int .u64 l.ix) := by rw [L.k.cell]; rfl
theorem LogAt.c1 (L : LogAt O h b s l) : cellH h ((⟨b, 0, none⟩ : Addr).add 1) = some (.int .u64 l.tm) := by rw [add_mk, L.k.cell]; rfl
theorem LogAt.c2 (L : LogAt O h b s l) : cellH h ((⟨b, 0, none⟩ : Addr).add 2) = some (Slc.v s) := by rw [add_mk, L.k.cell]; rfl
theorem Base_ok {k : Int × Int → Heap → Prop} (L : LogAt O h b s l) (H : k (l.ix, l.tm) h) : rlog_Log_Base (some ⟨b, 0, none⟩) k h := by
  unfold rlog_Log_Base
  rw [if_neg (by simp)]
  exact ⟨_, rfl, _, L.c0, _, L.c1, H⟩
theorem LogAt.term (L : LogAt O h b s l) {i : Nat} {e : Ent} (he : l.es[i]? = some e) : ∃ a, s.a = some a ∧ cellH h (a.add (i * 2)) = some (.int .u64 e.1) := by
  obtain ⟨a, v, ha, C, E⟩ := L.ents.get he
  refine ⟨a, ha, ?_⟩
  have := C 0 (.int .u64 v.f_Term) rfl
  rwa [add_add2, Nat.add_zero, E.t] at this
theorem Last_ok {k : Int × Int → Heap → Prop} (L : LogAt O h b s l) (H : k (l.last, l.lastT) h) : rlog_Log_Last (some ⟨b, 0, none⟩) k h := by
  have hl := L.len
  have x0 := L.x0; have x1 := L.x1; have sz := L.sz
  unfold rlog_Log_Last
  rw [if_neg (by simp)]
  refine ⟨_, rfl, s, L.c2, _, rfl, ?_⟩
  rw [hl]
  by_cases hz : l.es.length = 0
  · rw [if_neg (by simpa using hz)]
    refine ⟨_, L.c0, _, L.c1, ?_⟩
    have e0 : l.es = [] := List.eq_nil_of_length_eq_zero hz
    have : l.last = l.ix ∧ l.lastT = l.tm := by unfold Lg.last Lg.lastT; rw [e0]; simp
    rw [this.1, this.2] at H; exact H
  · rw [if_pos (by simp; omega)]
    obtain ⟨e, he⟩ : ∃ e, l.es[l.es.length - 1]? = some e := ⟨_, List.getElem?_eq_getElem (by omega)⟩
    obtain ⟨a, ha, hc⟩ := L.term he
    rw [wrapI64 (by omega) (by omega), show ((l.es.length : Int) - 1).toNat = l.es.length - 1 from by omega, wrapU64 (x := (l.es.length : Int)) (by omega) (by omega)]
    refine ⟨_, L.c0, s, L.c2, a, ha, by omega, by omega, _, hc, ?_⟩
    rw [wrapU64 (by omega) (by omega)]
    have : l.last = l.ix + l.es.length ∧ l.lastT = e.1 := ⟨rfl, by unfold Lg.lastT; rw [List.getLast?_eq_getElem?, he]⟩
    rw [this.1, this.2] at H; exact H
theorem LogAt.last_bd (L : LogAt O h b s l) : 0 ≤ l.last ∧ l.last < 18446744073709551616 := by
  have := L.x0; have := L.x1; unfold Lg.last; omega
theorem Term_ok {k : Int × Int → Heap → Prop} (L : LogAt O h b s l) (p0 : 0 ≤ p) (p1 : p < 18446744073709551616) (H : k (l.termOf p) h) : rlog_Log_Term (some ⟨b, 0, none⟩) p k h := by
  have x0 := L.x0; have x1 := L.x1; have sz := L.sz
  unfold rlog_Log_Term
  refine Base_ok L (Last_ok L ?_)
  unfold Lg.termOf at H
  by_cases h1 : p < l.ix
  · rw [if_pos (by simpa using h1)]; rw [if_pos h1] at H; exact H
  rw [if_neg (by simpa using h1)]; rw [if_neg h1] at H
  by_cases h2 : p > l.last
  · rw [if_pos (by simpa using h2)]; rw [if_pos h2] at H; exact H
  rw [if_neg (by simpa using h2)]; rw [if_neg h2] at H
  by_cases h3 : p = l.ix
  · rw [if_pos (by simpa using h3)]; rw [if_pos h3] at H; exact H
  rw [if_neg (by simpa using h3)]; rw [if_neg h3] at H
  have hlast : l.last = l.ix + l.es.length := rfl
  obtain ⟨e, he⟩ : ∃ e, l.es[(p - l.ix - 1).toNat]? = some e := ⟨_, List.getElem?_eq_getElem (by omega)⟩
  obtain ⟨a, ha, hc⟩ := L.term he
  rw [wrapU64 (x := p - l.ix) (by omega) (by omega), wrapU64 (x := p - l.ix - 1) (by omega) (by omega)]
  refine ⟨_, rfl, s, L.c2, a, ha, by omega, by rw [L.len]; omega, _, hc, ?_⟩
  rw [List.getD_eq_getElem?_getD, he] at H
  exact H
theorem Match_ok {k : Bool → Heap → Prop} (L : LogAt O h b s l) (p0 : 0 ≤ p) (p1 : p < 18446744073709551616) (H : k (l.mat p t) h) : rlog_Log_Match (some ⟨b, 0, none⟩) p t k h := by
  unfold rlog_Log_Match
  exact Term_ok L p0 p1 H
theorem Newer_ok {k : Bool → Heap → Prop} (L : LogAt O h b s l) (H : k (l.newer p t) h) : rlog_Log_Newer (some ⟨b, 0, none⟩) p t k h := by
  unfold rlog_Log_Newer
  exact Last_ok L H
theorem termOf_ok {l : Lg} (h : (l.termOf p).2 = 0) : l.ix ≤ p ∧ p ≤ l.ix + l.es.length := by
  unfold Lg.termOf Lg.last at h
  split at h
  · simp at h
  · split at h
    · simp at h
    · omega
theorem From_ok {most : Int} {k : Slc × Int → Heap → Prop} (L : LogAt O h b s l) (p0 : 0 ≤ p) (p1 : p < 18446744073709551616) (m0 : 0 ≤ most) (m1 : most ≤ 64)
    (H : ∀ s' h' vs, EntsF h.size h' s' (l.frm p most).1 vs → Ext h.size h h' → k (s', (l.frm p most).2) h') : rlog_Log_From (some ⟨b, 0, none⟩) p most k h := by
  have x0 := L.x0; have x1 := L.x1; have sz := L.sz
  have nl : EntsF h.size h ⟨none, 0, 0⟩ [] [] := ⟨Row.nil _ _ _ _, rfl, by simp⟩
  unfold rlog_Log_From
  unfold Lg.frm at H
  by_cases hp : p = 0
  · rw [if_pos (by simpa using hp)]; rw [if_pos hp] at H
    exact H _ _ [] nl (Ext.refl _ _)
  rw [if_neg (by simpa using hp), wrapU64 (x := p - 1) (by omega) (by omega)]; rw [if_neg hp] at H
  refine Term_ok L (by omega) (by omega) ?_
  by_cases ht : (l.termOf (p - 1)).2 = 0
  · rw [if_neg (by simpa using ht)]; rw [if_neg (by simpa using ht)] at H
    obtain ⟨h1, h2⟩ := termOf_ok ht
    have hl := L.len
    have hc := L.ents.c
    rw [if_neg (by simp)]
    refine ⟨_, rfl, s, L.c2, _, L.c0, ?_⟩
    rw [wrapU64 (x := p - 1 - l.ix) (by omega) (by omega)]
    refine ⟨_, by omega, by omega, by omega, by omega, rfl, ?_⟩
    have A1 := L.ents.sub (l := (p - 1 - l.ix).toNat) (u := (s.len : Int).toNat) (m := (s.cap : Int).toNat) (by omega) (by omega) (by omega) (by omega)
    generalize subS s 2 (p - 1 - l.ix).toNat (s.len : Int).toNat (s.cap : Int).toNat = s6 at A1 ⊢
    have hA1 := A1.l
    rw [List.take_of_length_le (by simp; omega)] at A1 hA1
    have hc1 := A1.c
    have e : (if (if (s6.len : Int) < most then (s6.len : Int) else most) > 0 then (if (s6.len : Int) < most then (s6.len : Int) else most) else 0) = ((min s6.len most.toNat : Nat) : Int) := by
      split <;> split <;> omega
    rw [e]
    refine ⟨_, by omega, by omega, by omega, by omega, rfl, ?_⟩
    have A2 := A1.sub (l := 0) (u := ((min s6.len most.toNat : Nat) : Int).toNat) (m := (s6.cap : Int).toNat) (by omega) (by omega) (by omega) (by omega)
    rw [List.drop_zero] at A2
    have e2 : (l.es.drop (p - 1 - l.ix).toNat).take (((min s6.len most.toNat : Nat) : Int).toNat - 0) = (l.es.drop (p - 1 - l.ix).toNat).take most.toNat := by
      rcases Nat.le_total s6.len most.toNat with hm | hm
      · rw [Nat.min_eq_left hm, List.take_of_length_le (by omega), List.take_of_length_le (by omega)]
      · rw [Nat.min_eq_right hm]; congr 1
    rw [e2] at A2
    exact copied_ok A2 ((L.ok.drop _).take _) (by simp; omega) fun s' h' vs F X => H s' h' vs F X
  · rw [if_pos (by simpa using ht)]; rw [if_pos (by simpa using ht)] at H
    exact H _ _ [] nl (Ext.refl _ _)
theorem Entries_ok {k : Slc → Heap → Prop} (L : LogAt O h b s l) (H : ∀ s' h' vs, EntsF h.size h' s' l.es vs → Ext h.size h h' → k s' h') : rlog_Log_Entries (some ⟨b, 0, none⟩) k h := by
  unfold rlog_Log_Entries
  rw [if_neg (by simp)]
  exact ⟨_, rfl, s, L.c2, copied_ok L.ents L.ok (by have := L.sz; omega) H⟩
/-- a new log -/
theorem New_ok {ix tm : Int} {p2 : Slc} {es : List Ent} {k : Option Addr → Heap → Prop} (A : EntsAt h p2 es) (ok : esOk es) (sz : es.length ≤ 1000) (x0 : 0 ≤ ix) (x1 : ix + es.length < 18446744073709551616) (t0 : 0 ≤ tm ∧ tm < 18446744073709551616)
    (H : ∀ b s' h', (∀ O : BSet, (∀ g, O g → g < h.size) → LogAt (fun g => O g ∨ g = b ∨ s'.blk = some g) h' b s' ⟨ix, tm, es⟩) → h.size ≤ b → (∀ g, s'.blk = some g → h.size ≤ g) → Ext h.size h h' → k (some ⟨b, 0, none⟩) h') : rlog_New ix tm p2 k h := by
  unfold rlog_New
  refine copied_ok A ok (by omega) fun s1 h1 vs F X => ?_
  refine ⟨_, _, rfl, rfl, ?_⟩
  have X2 := Ext.push h1 (.cells (S_rlog_Log.cs ⟨ix, tm, s1⟩).toArray 117) (Nat.le_refl _)
  have z1 := X.size
  have F2 := F.ext X2
  have K := Blk.push h1 (S_rlog_Log.cs ⟨ix, tm, s1⟩) 117
  generalize h1.push (.cells (S_rlog_Log.cs ⟨ix, tm, s1⟩).toArray 117) = h2 at *
  refine H h1.size s1 h2 (fun O hO => ⟨K, ⟨vs, F2.r.mono (Nat.zero_le _), fun h' p => ⟨F2.l, fun i v e hv he => ?_⟩⟩, .inr (.inl rfl), fun g hg => .inr (.inr hg), x0, x1, t0, ok, sz⟩) z1 (fun g hg => (F2.r.bd hg).1) (X.trans (X2.mono z1))
  obtain ⟨k1, k2⟩ := F2.e i v e hv he
  have := p.row k2 fun g hg hO' => by
    rcases hO' with h3 | h3 | h3
    · have := (k2.bd hg).1; have := hO g h3; omega
    · subst h3; exact k2.ne_blk K (by decide) hg
    · exact k2.ne_row F2.r (by decide) hg h3
  exact ⟨k1, this.slc, by simpa using this.len⟩
end
end Yh
end Go.Q

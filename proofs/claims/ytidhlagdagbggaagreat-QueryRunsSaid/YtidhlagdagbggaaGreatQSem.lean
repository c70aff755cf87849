/- A part of the proof of statements of this seat: lemmas, no statement of their own. -/
import Derived.Test.YtidhlagdagbggaaGreatQApp
/- Reasoning on heaps, for the plain laws. -/
namespace Go.Q
set_option linter.unusedVariables false
set_option linter.unusedSimpArgs false
/-- below block number B nothing has turned -/
structure Ext (B : Nat) (h h' : Heap) : Prop where
  size : h.size ≤ h'.size
  block : ∀ i, i < B → h'[i]? = h[i]?
theorem Ext.refl (B : Nat) (h : Heap) : Ext B h h := ⟨Nat.le_refl _, fun _ _ => rfl⟩
theorem Ext.trans {B : Nat} {a b c : Heap} (p : Ext B a b) (q : Ext B b c) : Ext B a c := ⟨Nat.le_trans p.size q.size, fun i hi => (q.block i hi).trans (p.block i hi)⟩
theorem Ext.mono {B B' : Nat} {a b : Heap} (p : Ext B a b) (h : B' ≤ B) : Ext B' a b := ⟨p.size, fun i hi => p.block i (Nat.lt_of_lt_of_le hi h)⟩
theorem Ext.push (h : Heap) (o : Obj) {B : Nat} (hB : B ≤ h.size) : Ext B h (h.push o) :=
  ⟨by simp, fun i hi => by rw [Array.getElem?_push, if_neg (by omega)]⟩
theorem setH_other {h : Heap} {a : Addr} {v : Value} {i : Nat} (hi : i ≠ a.block) : (setH h a v)[i]? = h[i]? := by
  unfold setH
  rw [Array.getElem?_modify, if_neg (fun e => hi e.symm)]
theorem setH_size {h : Heap} {a : Addr} {v : Value} : (setH h a v).size = h.size := by simp [setH]
theorem Ext.set (h : Heap) {a : Addr} (v : Value) {B : Nat} (hB : B ≤ a.block) : Ext B h (setH h a v) :=
  ⟨by rw [setH_size]; exact Nat.le_refl _, fun i hi => setH_other (by omega)⟩
theorem cellH_of {h h' : Heap} {a : Addr} (e : h'[a.block]? = h[a.block]?) : cellH h' a = cellH h a := by simp [cellH, e]
theorem Ext.cell {B : Nat} {h h' : Heap} (p : Ext B h h') {a : Addr} (ha : a.block < B) : cellH h' a = cellH h a := cellH_of (p.block _ ha)
theorem cellH_lt {h : Heap} {a : Addr} {v : Value} (hc : cellH h a = some v) : a.block < h.size := by
  unfold cellH at hc
  rcases Nat.lt_or_ge a.block h.size with h1 | h1
  · exact h1
  · rw [Array.getElem?_eq_none h1] at hc; cases hc
theorem Ext.cellAt {h h' : Heap} (p : Ext h.size h h') {a : Addr} {v : Value} (hc : cellH h a = some v) : cellH h' a = some v := by rw [p.cell (cellH_lt hc)]; exact hc
@[simp] theorem add_mk (b o i : Nat) : (⟨b, o, none⟩ : Addr).add i = ⟨b, o + i, none⟩ := by unfold Addr.add; split <;> simp_all
@[simp] theorem add_block (a : Addr) (i : Nat) : (a.add i).block = a.block := by unfold Addr.add; split <;> rfl
/-- a block of cells, none of them frozen -/
def Blk (h : Heap) (b : Nat) (cs : List Value) (E : Nat) : Prop := ∃ lo hi, h[b]? = some (.cells cs.toArray E (lo, hi)) ∧ (hi ≤ lo ∨ cs.length ≤ lo)
theorem Blk.lt {h : Heap} {b E : Nat} {cs : List Value} (k : Blk h b cs E) : b < h.size := by obtain ⟨_, _, k, _⟩ := k; exact (Array.getElem?_eq_some_iff.1 k).1
theorem Blk.cell {h : Heap} {b E i : Nat} {cs : List Value} (k : Blk h b cs E) : cellH h ⟨b, i, none⟩ = cs[i]? := by obtain ⟨_, _, k, _⟩ := k; simp [cellH, show h[b]? = _ from k]
theorem Blk.froz {h : Heap} {b E i : Nat} {cs : List Value} (k : Blk h b cs E) (hi : i < cs.length) : frozH h ⟨b, i, none⟩ = false := by obtain ⟨lo, hh, k, d⟩ := k; simp [frozH, show h[b]? = _ from k]; omega
theorem Blk.wr {h : Heap} {b E i : Nat} {cs : List Value} (k : Blk h b cs E) (hi : i < cs.length) : WrH h ⟨b, i, none⟩ := ⟨⟨cs[i], by rw [k.cell]; simp [hi]⟩, k.froz hi⟩
theorem Blk.push (h : Heap) (cs : List Value) (E : Nat) : Blk (h.push (.cells cs.toArray E)) h.size cs E := ⟨0, 0, by simp, .inl (Nat.le_refl _)⟩
theorem Blk.old {h h' : Heap} {b E : Nat} {cs : List Value} (k : Blk h b cs E) (e : h'[b]? = h[b]?) : Blk h' b cs E := by rw [Blk, e]; exact k
theorem Blk.ext {h h' : Heap} {b B E : Nat} {cs : List Value} (k : Blk h b cs E) (p : Ext B h h') (hb : b < B) : Blk h' b cs E := k.old (p.block b hb)
theorem Blk.pushed {h : Heap} {b E : Nat} {cs : List Value} (k : Blk h b cs E) (o : Obj) : Blk (h.push o) b cs E := k.old ((Ext.push h o (Nat.le_refl _)).block b k.lt)
theorem Blk.set {h : Heap} {b E i : Nat} {cs : List Value} {v : Value} (k : Blk h b cs E) : Blk (setH h ⟨b, i, none⟩ v) b (cs.set i v) E := by
  obtain ⟨lo, hi, k, d⟩ := k
  refine ⟨lo, hi, ?_, by simpa using d⟩
  unfold setH at *
  rw [Array.getElem?_modify, if_pos rfl, k]
  simp
theorem Blk.inj {h : Heap} {b E E' : Nat} {cs cs' : List Value} (k : Blk h b cs E) (k' : Blk h b cs' E') : cs = cs' ∧ E = E' := by
  obtain ⟨_, _, k, _⟩ := k
  obtain ⟨_, _, k', _⟩ := k'
  have e := k.symm.trans k'
  simp at e
  exact ⟨e.1, e.2.1⟩
theorem Blk.sets {E b : Nat} : ∀ (vs : List Value) {h : Heap} (o i : Nat) {cs : List Value} (k : Blk h b cs E), o + i + vs.length ≤ cs.length →
    Blk (setsH h ⟨b, o, none⟩ i vs) b (cs.take (o + i) ++ vs ++ cs.drop (o + i + vs.length)) E
  | [], h, o, i, cs, k, _ => by simpa [setsH] using k
  | v :: r, h, o, i, cs, k, hl => by
    simp only [setsH, add_mk]
    simp only [List.length_cons] at hl
    have := Blk.sets r o (i + 1) (k.set (i := o + i) (v := v)) (by simp; omega)
    have e1 : (cs.set (o + i) v).take (o + (i + 1)) = cs.take (o + i) ++ [v] := by
      rw [show o + (i + 1) = (o + i) + 1 from by omega, List.take_succ_eq_append_getElem (by simp; omega)]
      simp [List.take_set]
      rw [List.set_eq_of_length_le (by simp; omega)]
    have e2 : (cs.set (o + i) v).drop (o + (i + 1) + r.length) = cs.drop (o + i + (r.length + 1)) := by
      rw [List.drop_set_of_lt (by omega)]
      congr 1
      omega
    rw [e1, e2] at this
    simpa using this
theorem setsH_size : ∀ (vs : List Value) {h : Heap} {a : Addr} (i : Nat), (setsH h a i vs).size = h.size
  | [], h, a, i => rfl
  | v :: r, h, a, i => by simp only [setsH]; rw [setsH_size r, setH_size]
theorem setsH_other : ∀ (vs : List Value) {h : Heap} {a : Addr} (i : Nat) {j : Nat}, j ≠ a.block → (setsH h a i vs)[j]? = h[j]?
  | [], h, a, i, j, _ => rfl
  | v :: r, h, a, i, j, hj => by simp only [setsH]; rw [setsH_other r _ hj, setH_other (by simpa using hj)]
theorem Ext.sets (h : Heap) {a : Addr} (i : Nat) (vs : List Value) {B : Nat} (hB : B ≤ a.block) : Ext B h (setsH h a i vs) :=
  ⟨by rw [setsH_size]; exact Nat.le_refl _, fun j hj => setsH_other _ _ (by omega)⟩
/-! ### a row that is one's own -/
/-- the slice s, its elements of type E with w cells each, holds the cells xs, in a block of its own from B on (or is nil) -/
def Row (B : Nat) (h : Heap) (E w : Nat) (s : Slc) (xs : List Value) : Prop :=
  xs.length = s.len * w ∧ s.cap ≤ maxLen ∧ ((s.a = none ∧ s.len = 0 ∧ s.cap = 0) ∨ ∃ g cur, s.a = some ⟨g, 0, none⟩ ∧ B ≤ g ∧ Blk h g cur E ∧ s.len ≤ s.cap ∧ s.cap * w ≤ cur.length ∧ cur.take (s.len * w) = xs)
def Slc.nil : Slc := ⟨none, 0, 0⟩
def Slc.blk (s : Slc) : Option Nat := match s.a with | some a => some a.block | none => none
theorem Row.nil (B : Nat) (h : Heap) (E w : Nat) : Row B h E w ⟨none, 0, 0⟩ [] := ⟨by simp, by simp [maxLen], .inl ⟨rfl, rfl, rfl⟩⟩
theorem Row.mono {B B' : Nat} {h : Heap} {E w : Nat} {s : Slc} {xs : List Value} (r : Row B h E w s xs) (hB : B' ≤ B) : Row B' h E w s xs := by
  refine ⟨r.1, r.2.1, ?_⟩
  rcases r.2.2 with k | ⟨g, cur, h1, h2, k⟩
  · exact .inl k
  · exact .inr ⟨g, cur, h1, by omega, k⟩
theorem Row.keep {B : Nat} {h h' : Heap} {E w : Nat} {s : Slc} {xs : List Value} (r : Row B h E w s xs) (e : ∀ g, s.blk = some g → h'[g]? = h[g]?) : Row B h' E w s xs := by
  refine ⟨r.1, r.2.1, ?_⟩
  rcases r.2.2 with k | ⟨g, cur, h1, h2, h3, k⟩
  · exact .inl k
  · exact .inr ⟨g, cur, h1, h2, h3.old (e g (by simp [Slc.blk, h1])), k⟩
theorem Row.bd {B : Nat} {h : Heap} {E w : Nat} {s : Slc} {xs : List Value} (r : Row B h E w s xs) {g : Nat} (hg : s.blk = some g) : B ≤ g ∧ g < h.size := by
  rcases r.2.2 with ⟨k, _⟩ | ⟨g', cur, h1, h2, h3, _⟩
  · simp [Slc.blk, k] at hg
  · simp [Slc.blk, h1] at hg; subst hg; exact ⟨h2, h3.lt⟩
theorem Row.pushed {B : Nat} {h : Heap} {E w : Nat} {s : Slc} {xs : List Value} (r : Row B h E w s xs) (o : Obj) : Row B (h.push o) E w s xs :=
  r.keep fun g hg => (Ext.push h o (Nat.le_refl _)).block g (r.bd hg).2
theorem Row.ext {B C : Nat} {h h' : Heap} {E w : Nat} {s : Slc} {xs : List Value} (r : Row B h E w s xs) (p : Ext C h h') (hC : ∀ g, s.blk = some g → g < C) : Row B h' E w s xs :=
  r.keep fun g hg => p.block g (hC g hg)
/-- a cell of the row -/
theorem Row.at {B : Nat} {h : Heap} {E : Nat} {s : Slc} {xs : List Value} {w : Nat} (r : Row B h E w s xs) {j : Nat} (hj : j < s.len * w) : ∃ a, s.a = some a ∧ cellH h (a.add j) = xs[j]? := by
  rcases r.2.2 with ⟨_, k, _⟩ | ⟨g, cur, h1, h2, h3, h4, h5, h6⟩
  · rw [k] at hj; simp at hj
  · refine ⟨_, h1, ?_⟩
    rw [add_mk, Nat.zero_add, h3.cell, ← h6, List.getElem?_take, if_pos hj]
theorem Row.slc {B : Nat} {h : Heap} {E w : Nat} {s : Slc} {xs : List Value} (r : Row B h E w s xs) : SlcAt h s xs := by
  rcases r.2.2 with ⟨k, k2, _⟩ | ⟨g, cur, h1, h2, h3, h4, h5, h6⟩
  · refine ⟨fun _ => ?_, fun a ha => (by rw [k] at ha; cases ha)⟩
    have := r.1; rw [k2] at this; simpa using this
  · refine ⟨fun hn => (by rw [h1] at hn; cases hn), fun a ha j v hj => ?_⟩
    rw [h1] at ha; cases ha
    rw [add_mk, Nat.zero_add, h3.cell]
    rw [← h6, List.getElem?_take] at hj
    split at hj
    · exact hj
    · cases hj
/-- an append to a row of one's own -/
theorem App.row2 {B E w bytes : Nat} {z : List Value} {h : Heap} {s : Slc} {m : Nat} {news xs : List Value} {k : Slc → Heap → Prop} (r : Row B h E w s xs) (hB : B ≤ h.size) (hz : z.length = w) (hl : news.length = m * w) (h1 : ∀ v ∈ news, v.oneCell' = true)
    (hb : (s.len + m) * bytes ≤ 140737488355328) (hm : s.len + m ≤ maxLen)
    (H : ∀ s' h', Row B h' E w s' (xs ++ news) → s'.len = s.len + m → h.size ≤ h'.size → (∀ i, i < h.size → s.blk ≠ some i → h'[i]? = h[i]?) → ((s'.blk = s.blk ∧ s.len + m ≤ s.cap) ∨ s'.blk = some h.size) → (∀ C t ys, Row C h E w t ys → (t.len ≤ s.len ∨ t.blk ≠ s.blk ∨ s.cap < s.len + m) → Row C h' E w t ys) → k s' h') : App E w bytes z h s m news k := by
  refine ⟨hl, h1, hb, hm, fun hroom => ?_, fun hgrow => ?_⟩
  · rcases r.2.2 with ⟨a0, a1, a2⟩ | ⟨g, cur, a1, a2, a3, a4, a5, a6⟩
    · have hm0 : m = 0 := by omega
      subst hm0
      have hn : news = [] := List.eq_nil_of_length_eq_zero (by simpa using hl)
      subst hn
      refine ⟨fun _ => rfl, fun a ha => (by rw [a0] at ha; cases ha), ?_⟩
      rw [a0]
      refine H _ _ ?_ rfl (Nat.le_refl _) (fun _ _ _ => rfl) (.inl ⟨by simp [Slc.blk, a0], hroom⟩) (fun _ _ _ R _ => R)
      simp only [List.append_nil]
      exact ⟨by simpa using r.1, r.2.1, .inl ⟨rfl, by simpa using a1, a2⟩⟩
    · have hfit : s.len * w + news.length ≤ cur.length := by rw [hl, ← Nat.add_mul]; exact Nat.le_trans (Nat.mul_le_mul_right _ hroom) a5
      refine ⟨fun hn => (by rw [a1] at hn; cases hn), fun a ha j hj => ?_, ?_⟩
      · rw [a1] at ha; cases ha
        rw [add_mk, add_mk]
        exact a3.wr (by omega)
      · rw [a1]
        simp only [add_mk, Nat.zero_add]
        refine H _ _ ?_ rfl (by rw [setsH_size]; exact Nat.le_refl _) (fun i hi hne => setsH_other _ _ (fun e => hne (by simp [Slc.blk, a1, e]))) (.inl ⟨by simp [Slc.blk, a1], hroom⟩) (fun C t ys R hc => ?_)
        rotate_left
        · have k3 := Blk.sets news (s.len * w) 0 a3 (by omega)
          refine ⟨R.1, R.2.1, ?_⟩
          rcases R.2.2 with k | ⟨g', cur', b1, b2, b3, b4, b5, b6⟩
          · exact .inl k
          · refine .inr ?_
            by_cases hg : g' = g
            · subst hg
              obtain ⟨rfl, _⟩ := b3.inj a3
              have hlen : t.len ≤ s.len := by
                rcases hc with hc | hc | hc
                · exact hc
                · exact absurd (by simp [Slc.blk, a1, b1]) hc
                · omega
              refine ⟨g', _, b1, b2, k3, b4, ?_, ?_⟩
              · simp only [List.length_append, List.length_take, List.length_drop, Nat.add_zero]; omega
              · have hm := Nat.mul_le_mul_right w hlen
                rw [Nat.add_zero, List.append_assoc, List.take_append_of_le_length (by rw [List.length_take]; omega), List.take_take, Nat.min_eq_left hm]
                exact b6
            · exact ⟨g', cur', b1, b2, b3.old (setsH_other _ _ (by simpa using hg)), b4, b5, b6⟩
        have k3 := Blk.sets news (s.len * w) 0 a3 (by omega)
        refine ⟨by rw [List.length_append, r.1, hl, Nat.add_mul], r.2.1, .inr ⟨g, _, rfl, a2, k3, hroom, ?_, ?_⟩⟩
        · simp only [List.length_append, List.length_take, List.length_drop, Nat.add_zero]; omega
        · simp only [Nat.add_zero]
          rw [a6, Nat.add_mul, ← r.1, ← hl, ← List.length_append]
          exact List.take_left
  · refine ⟨xs, r.1, r.slc, fun c hc hcm => ?_⟩
    have hzz : (Builtin.zeroCells z.toArray (c - (s.len + m))).size = (c - (s.len + m)) * w := by simp [size_zeroCells, hz]
    have hcells : xs.toArray ++ news.toArray ++ Builtin.zeroCells z.toArray (c - (s.len + m)) = (xs ++ news ++ (Builtin.zeroCells z.toArray (c - (s.len + m))).toList).toArray := by
      apply Array.toList_inj.1; simp
    rw [hcells]
    refine H _ _ ⟨by rw [List.length_append, r.1, hl, Nat.add_mul], hcm, .inr ⟨h.size, _, rfl, hB, Blk.push _ _ _, hc, ?_, ?_⟩⟩ rfl (by simp) (fun i hi _ => (Ext.push h _ (Nat.le_refl _)).block i hi) (.inr (by simp [Slc.blk])) (fun C t ys R _ => R.pushed _)
    · simp only [List.length_append, Array.length_toList, hzz, r.1, hl, ← Nat.add_mul]
      exact Nat.le_of_eq (by congr 1; omega)
    · have : (s.len + m) * w = (xs ++ news).length := by rw [List.length_append, r.1, hl, Nat.add_mul]
      simp only [this]
      exact List.take_left
theorem App.row {B E w bytes : Nat} {z : List Value} {h : Heap} {s : Slc} {m : Nat} {news xs : List Value} {k : Slc → Heap → Prop} (r : Row B h E w s xs) (hB : B ≤ h.size) (hz : z.length = w) (hl : news.length = m * w) (h1 : ∀ v ∈ news, v.oneCell' = true)
    (hb : (s.len + m) * bytes ≤ 140737488355328) (hm : s.len + m ≤ maxLen)
    (H : ∀ s' h', Row B h' E w s' (xs ++ news) → s'.len = s.len + m → h.size ≤ h'.size → (∀ i, i < h.size → s.blk ≠ some i → h'[i]? = h[i]?) → (s'.blk = s.blk ∨ s'.blk = some h.size) → k s' h') : App E w bytes z h s m news k :=
  App.row2 r hB hz hl h1 hb hm fun s' h' a b c d e _ => H s' h' a b c d (e.elim (fun x => .inl x.1) .inr)
/-! whole blocks -/
theorem CellsAt.of_blk {h : Heap} {b E : Nat} {cs : List Value} (k : Blk h b cs E) : CellsAt h ⟨b, 0, none⟩ cs := fun j v hj => by rw [add_mk, Nat.zero_add, k.cell]; exact hj
theorem WrsAt.of_blk {h : Heap} {b E n : Nat} {cs : List Value} (k : Blk h b cs E) (hn : n ≤ cs.length) : WrsAt h ⟨b, 0, none⟩ n := fun j hj => by rw [add_mk, Nat.zero_add]; exact k.wr (by omega)
theorem Blk.sets_all {h : Heap} {b E : Nat} {cs vs : List Value} (k : Blk h b cs E) (hl : vs.length = cs.length) : Blk (setsH h ⟨b, 0, none⟩ 0 vs) b vs E := by
  have := Blk.sets vs 0 0 k (by omega)
  simpa [hl] using this
theorem CellsAt.sub {h : Heap} {a : Addr} {xs ys : List Value} (k : CellsAt h a (xs ++ ys)) : CellsAt h a xs := fun j v hj => k j v (by rw [List.getElem?_append_left]; exact hj; exact (List.getElem?_eq_some_iff.1 hj).1)
theorem Row.len {B E : Nat} {h : Heap} {s : Slc} {xs : List Value} (r : Row B h E 1 s xs) : s.len = xs.length := by have := r.1; omega
theorem Row.lt {B E w : Nat} {h : Heap} {s : Slc} {xs : List Value} (R : Row B h E w s xs) : ∀ a, s.a = some a → a.block < h.size := by
  intro a ha
  exact (R.bd (g := a.block) (by simp [Slc.blk, ha])).2
theorem Row.ne_blk {B b E E' w : Nat} {h : Heap} {s : Slc} {xs cs : List Value} (R : Row B h E w s xs) (L : Blk h b cs E') (hE : E ≠ E') : s.blk ≠ some b := by
  intro hb
  rcases R.2.2 with ⟨k, _⟩ | ⟨g, cur, h1, h2, h3, _⟩
  · simp [Slc.blk, k] at hb
  · simp [Slc.blk, h1] at hb
    subst hb
    exact hE (h3.inj L).2
/-- all blocks but b stay -/
structure Upd (b : Nat) (h h' : Heap) : Prop where
  size : h.size ≤ h'.size
  block : ∀ i, i < h.size → i ≠ b → h'[i]? = h[i]?
theorem Upd.trans {b : Nat} {x y z : Heap} (p : Upd b x y) (q : Upd b y z) : Upd b x z :=
  ⟨Nat.le_trans p.size q.size, fun i hi hb => (q.block i (Nat.lt_of_lt_of_le hi p.size) hb).trans (p.block i hi hb)⟩
theorem Upd.refl (b : Nat) (h : Heap) : Upd b h h := ⟨Nat.le_refl _, fun _ _ _ => rfl⟩
theorem Upd.ext {b B : Nat} {h h' : Heap} (p : Upd b h h') (hB : B ≤ b) (hs : B ≤ h.size) : Ext B h h' := ⟨p.size, fun i hi => p.block i (by omega) (by omega)⟩
theorem Upd.blk {b c E : Nat} {h h' : Heap} {cs : List Value} (p : Upd b h h') (k : Blk h c cs E) (hc : c ≠ b) : Blk h' c cs E := k.old (p.block c k.lt hc)
theorem Row.ne_row {B B' E E' w w' : Nat} {h : Heap} {s t : Slc} {xs ys : List Value} (R : Row B h E w s xs) (L : Row B' h E' w' t ys) (hE : E ≠ E') {g : Nat} (hs : s.blk = some g) : t.blk ≠ some g := by
  intro ht
  rcases L.2.2 with ⟨k, _⟩ | ⟨g', cur, h1, h2, h3, _⟩
  · simp [Slc.blk, k] at ht
  · simp [Slc.blk, h1] at ht
    subst ht
    exact R.ne_blk h3 hE hs
theorem Row.opened {B E w : Nat} {h : Heap} {s : Slc} {xs : List Value} (R : Row B h E w s xs) (hs : 0 < s.len) : ∃ g zs, s = ⟨some ⟨g, 0, none⟩, s.len, s.cap⟩ ∧ B ≤ g ∧ Blk h g (xs ++ zs) E ∧ s.len ≤ s.cap ∧ s.blk = some g := by
  rcases R.2.2 with ⟨_, k, _⟩ | ⟨g, cur, h1, h2, h3, h4, h5, h6⟩
  · omega
  · refine ⟨g, cur.drop (s.len * w), by rw [← h1], h2, ?_, h4, by simp [Slc.blk, h1]⟩
    rw [← h6, List.take_append_drop]; exact h3
theorem Row.of_blk {B E g n c : Nat} {h : Heap} {xs zs : List Value} (k : Blk h g (xs ++ zs) E) (hB : B ≤ g) (hl : xs.length = n) (hc : (xs ++ zs).length = c) (hm : c ≤ maxLen) : Row B h E 1 ⟨some ⟨g, 0, none⟩, n, c⟩ xs :=
  ⟨by simpa using hl, hm, .inr ⟨g, _, rfl, hB, k, by rw [← hl, ← hc]; simp, by rw [Nat.mul_one, hc]; exact Nat.le_refl _, by simp [← hl]⟩⟩
theorem Row.cap {B E w : Nat} {h : Heap} {s : Slc} {xs : List Value} (R : Row B h E w s xs) : s.len ≤ s.cap := by
  rcases R.2.2 with ⟨_, k, k2⟩ | ⟨g, cur, h1, h2, h3, h4, h5, h6⟩ <;> omega
/-! ### integers -/
theorem wrapU64 {x : Int} (h0 : 0 ≤ x) (h1 : x < 18446744073709551616) : IntKind.u64.wrap x = x := by
  unfold IntKind.wrap; simp [IntKind.signed, IntKind.bits]; omega
theorem wrapI64 {x : Int} (h0 : -9223372036854775808 ≤ x) (h1 : x < 9223372036854775808) : IntKind.i64.wrap x = x := by
  unfold IntKind.wrap; simp [IntKind.signed, IntKind.bits]; omega
end Go.Q

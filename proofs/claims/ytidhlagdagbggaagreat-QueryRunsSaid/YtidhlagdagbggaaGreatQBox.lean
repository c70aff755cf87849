/- A part of the proof of statements of this seat: lemmas, no statement of their own. -/
import Derived.Test.YtidhlagdagbggaaGreatQRow
set_option linter.unusedVariables false
/- Blocks laid and filled at once; items of slices of structs. -/
namespace Go.Q
/-- a block that is laid with these cells -/
theorem bx0 {cs : List Value} {E : Nat} {h : Heap} {K : Nat → Heap → Prop} (H : ∀ h', Blk h' h.size cs E → Ext h.size h h' → K h.size h') :
    ∃ (b : Nat) (h2 : Heap), b = h.size ∧ h2 = h.push (.cells cs.toArray E) ∧ K b h2 :=
  ⟨_, _, rfl, rfl, H _ (Blk.push h cs E) (Ext.push h _ (Nat.le_refl _))⟩
/-- a block that is laid and filled -/
theorem bx {cs z : List Value} {E n : Nat} {h : Heap} {K : Nat → Heap → Prop} (hl : cs.length = z.length) (hn : n ≤ z.length) (H : ∀ h', Blk h' h.size cs E → Ext h.size h h' → K h.size h') :
    ∃ (b : Nat) (h2 : Heap), b = h.size ∧ h2 = h.push (.cells z.toArray E) ∧ (∃ h3 : Heap, WrsAt h2 (⟨b, 0, none⟩ : Addr) n ∧ h3 = setsH h2 (⟨b, 0, none⟩ : Addr) 0 cs ∧ K b h3) :=
  have P := Blk.push h z E
  ⟨_, _, rfl, rfl, _, WrsAt.of_blk P hn, rfl, H _ (P.sets_all hl) ((Ext.push h _ (Nat.le_refl _)).trans (Ext.sets _ 0 cs (by show h.size ≤ h.size; exact Nat.le_refl _)))⟩
/-- a block that is filled anew -/
theorem bset {cs z : List Value} {E n b : Nat} {h : Heap} {K : Heap → Prop} (P : Blk h b z E) (hl : cs.length = z.length) (hn : n ≤ z.length) (H : ∀ h', Blk h' b cs E → Upd b h h' → K h') :
    ∃ h3 : Heap, WrsAt h (⟨b, 0, none⟩ : Addr) n ∧ h3 = setsH h (⟨b, 0, none⟩ : Addr) 0 cs ∧ K h3 :=
  ⟨_, WrsAt.of_blk P hn, rfl, H _ (P.sets_all hl) ⟨by rw [setsH_size]; exact Nat.le_refl _, fun i _ hi => setsH_other _ _ hi⟩⟩
theorem Ext.upd {b B : Nat} {h h' : Heap} (p : Upd b h h') (hB : B ≤ b) (hs : B ≤ h.size) : Ext B h h' := p.ext hB hs
/-- a cell of a block's -/
theorem Blk.cl {h : Heap} {b E i : Nat} {cs : List Value} {v : Value} (k : Blk h b cs E) (hv : cs[i]? = some v) : cellH h ((⟨b, 0, none⟩ : Addr).add i) = some v := by rw [add_mk, Nat.zero_add, k.cell]; exact hv
theorem Blk.cl0 {h : Heap} {b E : Nat} {cs : List Value} {v : Value} (k : Blk h b cs E) (hv : cs[0]? = some v) : cellH h (⟨b, 0, none⟩ : Addr) = some v := by rw [k.cell]; exact hv
/-- cells within a block -/
theorem Blk.cls {h : Heap} {b E i : Nat} {cs ys : List Value} (k : Blk h b cs E) (hd : (cs.drop i).take ys.length = ys) : CellsAt h ((⟨b, 0, none⟩ : Addr).add i) ys := by
  rw [add_mk, Nat.zero_add]; exact k.part hd
theorem cls0 {h : Heap} {a : Addr} {vs : List Value} (c : CellsAt h a vs) {v : Value} (hv : vs[0]? = some v) : cellH h a = some v := by have := c 0 v hv; rwa [show a.add 0 = a from by simp [Addr.add]] at this
section
variable {α : Type} {cs : α → List Value} {w : Nat} {h : Heap} {s : Slc} {xs : List α}
/-- an item of a slice -/
theorem LsAt.it (L : LsAt cs w h s xs) {i : Int} (h0 : 0 ≤ i) (h1 : i < (xs.length : Int)) : ∃ (a : Addr) (x : α), s.a = some a ∧ (0 : Int) ≤ i ∧ i < (s.len : Int) ∧ xs[i.toNat]? = some x ∧ CellsAt h (a.add (i.toNat * w)) (cs x) := by
  obtain ⟨x, hx⟩ : ∃ x, xs[i.toNat]? = some x := ⟨_, List.getElem?_eq_getElem (by omega)⟩
  obtain ⟨a, ha, hc⟩ := L.at' _ _ hx
  exact ⟨a, x, ha, h0, by rw [L.l]; exact h1, hx, hc⟩
end
/-- a part of a block is filled anew -/
theorem bsetp {vs z : List Value} {E n o b : Nat} {h : Heap} {K : Heap → Prop} (P : Blk h b z E) (hn : n = vs.length) (ho : o + vs.length ≤ z.length) (H : ∀ h', Blk h' b (z.take o ++ vs ++ z.drop (o + vs.length)) E → Upd b h h' → K h') :
    ∃ h3 : Heap, WrsAt h ((⟨b, 0, none⟩ : Addr).add o) n ∧ h3 = setsH h ((⟨b, 0, none⟩ : Addr).add o) 0 vs ∧ K h3 := by
  rw [add_mk, Nat.zero_add]
  exact ⟨_, fun j hj => by rw [add_mk]; exact P.wr (by omega), rfl, H _ (P.sets vs o 0 (by omega)) ⟨by rw [setsH_size]; exact Nat.le_refl _, fun i _ hi => setsH_other _ _ hi⟩⟩
/-- one cell of a block is written -/
theorem bset1 {v : Value} {z : List Value} {E i b : Nat} {h : Heap} {K : Heap → Prop} (P : Blk h b z E) (hi : i < z.length) (H : ∀ h', Blk h' b (z.set i v) E → Upd b h h' → K h') :
    ∃ h3 : Heap, WrH h ((⟨b, 0, none⟩ : Addr).add i) ∧ h3 = setH h ((⟨b, 0, none⟩ : Addr).add i) v ∧ K h3 := by
  rw [add_mk, Nat.zero_add]
  exact ⟨_, P.wr hi, rfl, H _ P.set ⟨by rw [setH_size]; exact Nat.le_refl _, fun i _ hi => setH_other hi⟩⟩
/-- a part of a slice of structs -/
theorem LsAt.sub {α : Type} {cs : α → List Value} {w : Nat} {h : Heap} {s : Slc} {xs : List α} (L : LsAt cs w h s xs) {a b m : Nat} (h1 : a ≤ b) (h2 : b ≤ s.len) (h3 : b ≤ m) : LsAt cs w h (subS s w a b m) ((xs.take b).drop a) := by
  have hl := L.l
  refine ⟨by simp only [subS, List.length_drop, List.length_take]; omega, fun i x hx => ?_⟩
  rw [List.getElem?_drop, List.getElem?_take] at hx
  split at hx
  · obtain ⟨a', ha, hc⟩ := L.at' _ _ hx
    refine ⟨a'.add (a * w), ?_, ?_⟩
    · simp only [subS]
      rw [if_neg (by omega), ha]; rfl
    · rw [show (a'.add (a * w)).add (i * w) = a'.add ((a + i) * w) from by rw [Rw.add_add2, Nat.add_mul]]; exact hc
  · cases hx
/-- a part of a row of one's own is written -/
theorem row_setp {B E w o : Nat} {h : Heap} {s : Slc} {xs vs : List Value} (R : Row B h E w s xs) (ho : o + vs.length ≤ s.len * w) (hv : 0 < vs.length) {a : Addr} (ha : s.a = some a) :
    WrsAt h (a.add o) vs.length ∧ Row B (setsH h (a.add o) 0 vs) E w s (xs.take o ++ vs ++ xs.drop (o + vs.length)) ∧ B ≤ a.block := by
  rcases R.2.2 with ⟨k, _⟩ | ⟨g, cur, a1, a2, a3, a4, a5, a6⟩
  · rw [k] at ha; cases ha
  · rw [ha] at a1; cases a1
    have hcap : s.len * w ≤ s.cap * w := Nat.mul_le_mul_right _ a4
    have hx := R.1
    rw [add_mk, Nat.zero_add]
    refine ⟨fun j hj => by rw [add_mk]; exact a3.wr (by omega), ⟨by simp only [List.length_append, List.length_take, List.length_drop]; omega, R.2.1, .inr ⟨g, _, ha, a2, a3.sets vs o 0 (by omega), a4, ?_, ?_⟩⟩, a2⟩
    · simp only [List.length_append, List.length_take, List.length_drop]; omega
    · rw [Rw.tk_sets cur vs (o + 0) (s.len * w) (by omega) (by omega), a6, Nat.add_zero]
/-- an append to a row of one's own: all that was, stays -/
theorem app1 {B E w bytes : Nat} {z : List Value} {h : Heap} {s : Slc} {m : Nat} {news xs : List Value} {k : Slc → Heap → Prop} (r : Row B h E w s xs) (hB : B ≤ h.size) (hz : z.length = w) (hl : news.length = m * w) (h1 : ∀ v ∈ news, v.oneCell' = true)
    (hb : (s.len + m) * bytes ≤ 140737488355328) (hm : s.len + m ≤ maxLen)
    (H : ∀ s' h', Row B h' E w s' (xs ++ news) → s'.len = s.len + m → Ext B h h' → k s' h') : App E w bytes z h s m news k :=
  App.row r hB hz hl h1 hb hm fun s' h' a b c d e => H s' h' a b ⟨c, fun i hi => d i (Nat.lt_of_lt_of_le hi hB) fun e => Nat.lt_irrefl _ (Nat.lt_of_lt_of_le hi (r.bd e).1)⟩
/-- an append to one of two rows of one's own -/
theorem app2 {B E w E2 w2 bytes : Nat} {z : List Value} {h : Heap} {s t : Slc} {m : Nat} {news xs ys : List Value} {k : Slc → Heap → Prop} (r : Row B h E w s xs) (r2 : Row B h E2 w2 t ys) (dj : ∀ g, s.blk = some g → t.blk ≠ some g) (hB : B ≤ h.size) (hz : z.length = w) (hl : news.length = m * w) (h1 : ∀ v ∈ news, v.oneCell' = true)
    (hb : (s.len + m) * bytes ≤ 140737488355328) (hm : s.len + m ≤ maxLen)
    (H : ∀ s' h', Row B h' E w s' (xs ++ news) → s'.len = s.len + m → Row B h' E2 w2 t ys → (∀ g, s'.blk = some g → t.blk ≠ some g) → Ext B h h' → k s' h') : App E w bytes z h s m news k :=
  App.row r hB hz hl h1 hb hm fun s' h' a b c d e => H s' h' a b (r2.keep fun g hg => d g (r2.bd hg).2 fun e2 => dj g e2 hg)
    (fun g hg ht => by
      rcases e with e | e
      · exact dj g (e ▸ hg) ht
      · rw [e] at hg; cases hg; exact Nat.lt_irrefl _ (r2.bd ht).2)
    ⟨c, fun i hi => d i (Nat.lt_of_lt_of_le hi hB) fun e => Nat.lt_irrefl _ (Nat.lt_of_lt_of_le hi (r.bd e).1)⟩
/-- the cells of a slice of structs -/
theorem LsAt.slcs {α : Type} {cs : α → List Value} {w : Nat} (hc : ∀ x, (cs x).length = w) (hw : 0 < w) {h : Heap} {s : Slc} {xs : List α} (L : LsAt cs w h s xs) : SlcAt h s (xs.flatMap cs) := by
  refine ⟨fun hn => ?_, fun a ha j v hj => ?_⟩
  · cases xs with
    | nil => rfl
    | cons x r => obtain ⟨a, ha, _⟩ := L.at' 0 x rfl; rw [hn] at ha; cases ha
  · have hl : j < (xs.flatMap cs).length := (List.getElem?_eq_some_iff.1 hj).1
    rw [Rw.fm_len hc] at hl
    have h1 : j / w < xs.length := (Nat.div_lt_iff_lt_mul hw).2 hl
    have dm : j / w * w + j % w = j := by rw [Nat.mul_comm]; exact Nat.div_add_mod j w
    have e := Rw.fm_get hc xs (j / w) (j % w) (Nat.mod_lt _ hw)
    rw [dm, hj] at e
    obtain ⟨x, hx⟩ : ∃ x, xs[j / w]? = some x := ⟨_, List.getElem?_eq_getElem h1⟩
    rw [hx] at e
    obtain ⟨a', ha', hc2⟩ := L.at' _ _ hx
    rw [ha] at ha'; cases ha'
    have := hc2 (j % w) v e.symm
    rwa [Rw.add_add2, dm] at this
end Go.Q

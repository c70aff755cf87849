/- A part of the proof of statements of this seat: lemmas, no statement of their own. -/
import Derived.Test.YtgldbcbnficihaaYaMatch
import Derived.Test.YtgldbcbnficihaaQArg
set_option linter.unusedVariables false
set_option linter.unusedSimpArgs false
namespace Go.Q.Ya
theorem Own.keep {B : Nat} {h h' : Heap} {s : Slc} {es : List Ent} {vs : List S_api_Entry} (o : Own B h s es vs) (k : ∀ g, s.blk = some g → h'[g]? = h[g]?) (k5 : ∀ g cs, Blk h g cs 5 → h'[g]? = h[g]?) : Own B h' s es vs := by
  refine ⟨o.r.keep k, o.l, fun i v e hv he => ⟨(o.e i v e hv he).1, (o.e i v e hv he).2.keep fun g hg => ?_⟩⟩
  rcases (o.e i v e hv he).2.2.2 with ⟨k, _⟩ | ⟨g', cur, a1, a2, a3, _⟩
  · simp [Slc.blk, k] at hg
  · simp [Slc.blk, a1] at hg; subst hg
    exact k5 _ _ a3
theorem Own.mono {B C : Nat} {h : Heap} {s : Slc} {es : List Ent} {vs : List S_api_Entry} (o : Own B h s es vs) (hC : C ≤ B) : Own C h s es vs :=
  ⟨o.r.mono hC, o.l, fun i v e hv he => ⟨(o.e i v e hv he).1, (o.e i v e hv he).2.mono hC⟩⟩
theorem LogAt.mono {B C b : Nat} {h : Heap} {ix tm : Int} {es : List Ent} {s : Slc} {vs : List S_api_Entry} (L : LogAt B h b ix tm es s vs) (hC : C ≤ B) : LogAt C h b ix tm es s vs := ⟨L.k, L.o.mono hC, Nat.le_trans hC L.hb⟩
theorem Row.blk_of {B E w g : Nat} {h : Heap} {s : Slc} {xs : List Value} (r : Row B h E w s xs) (hg : s.blk = some g) : ∃ cur, Blk h g cur E := by
  rcases r.2.2 with ⟨k, _⟩ | ⟨g', cur, a1, a2, a3, _⟩
  · simp [Slc.blk, k] at hg
  · simp [Slc.blk, a1] at hg; subst hg
    exact ⟨cur, a3⟩
/-- the rows so far -/
structure RI (B : Nat) (h : Heap) (rs : Slc) (ss : List Slc) (rows : List (List Ent)) : Prop where
  r : Row B h 52 1 rs (ss.map Slc.v)
  l : ss.length = rows.length
  e : ∀ (i : Nat) s q, ss[i]? = some s → rows[i]? = some q → ∃ vs, Own B h s q vs
  g : ∀ q ∈ rows, Good rows q
  k : ∀ q ∈ rows, esOk q ∧ q.length ≤ 3 * rows.length
theorem RI.ext {B : Nat} {h h' : Heap} {rs : Slc} {ss : List Slc} {rows : List (List Ent)} (R : RI B h rs ss rows) (X : Ext h.size h h') : RI B h' rs ss rows :=
  ⟨R.r.ext X fun g hg => (R.r.bd hg).2, R.l, fun i s q hs hq => by obtain ⟨vs, o⟩ := R.e i s q hs hq; exact ⟨vs, o.ext X⟩, R.g, R.k⟩
/-- the row of t, but for what it has of the row below -/
def newE (t : Int) (i : Nat) : List Ent := (List.range i).map fun (j : Nat) => (t + 1, [t, (j : Int)])
theorem newE_succ (t : Int) (i : Nat) : newE t (i + 1) = newE t i ++ [(t + 1, [t, (i : Int)])] := by simp [newE, List.range_succ]
theorem newE_len (t : Int) (i : Nat) : (newE t i).length = i := by simp [newE]
theorem newE_term {t : Int} {i : Nat} {e : Ent} (h : e ∈ newE t i) : e.1 = t + 1 := by
  simp [newE] at h
  obtain ⟨j, _, rfl⟩ := h; rfl
theorem newE_ok {t : Int} {i : Nat} (t0 : 0 ≤ t) (t1 : t < 6) (hi : i ≤ 3) : esOk (newE t i) := by
  intro e h
  simp [newE] at h
  obtain ⟨j, hj, rfl⟩ := h
  refine ⟨⟨by dsimp only; omega, by dsimp only; omega⟩, fun x hx => ?_, by simp⟩
  simp at hx
  rcases hx with rfl | rfl <;> omega
theorem esOk_app {x y : List Ent} (h : esOk x) (k : esOk y) : esOk (x ++ y) := fun e he => (List.mem_append.1 he).elim (h e) (k e)
/-- three entries more -/
theorem rowl2_ok {t0 t1 rs row : Slc} {t : Int} {k : Bool → Heap → Prop} {nx : (Slc × Slc × Int) → Heap → Prop} {B : Nat} {h1 h : Heap} {pre : List Ent} {vs : List S_api_Entry} (hB : B ≤ h1.size) (X : Ext h1.size h1 h) (O : Own B h row pre vs) (hb : ∀ g, row.blk = some g → h1.size ≤ g)
    (u0 : 0 ≤ t) (u1 : t < 6) (hp : pre.length ≤ 18)
    (H : ∀ s' h' vs', Ext h1.size h1 h' → Own B h' s' (pre ++ newE t 3) vs' → (∀ g, s'.blk = some g → h1.size ≤ g) → ∃ (b20 : Nat) (h21 : Heap), b20 = h'.size ∧ h21 = h'.push (.cells ([Slc.v s']).toArray 52) ∧ (App 52 1 24 [.slice none 0 0] h21 rs 1 ([Slc.v s']) (fun s22 h23 => ∃ x24 : Int, x24 = (IntKind.i64.wrap (t + 1)) ∧ (nx (s22, s', x24) h23)))) :
    law23_RlogMatches_l2 t0 t1 rs t row 0 k nx h := by
  refine ⟨fun q h' => ∃ vs', 0 ≤ q.2 ∧ q.2 ≤ 3 ∧ Own B h' q.1 (pre ++ newE t q.2.toNat) vs' ∧ Ext h1.size h1 h' ∧ (∀ g, q.1.blk = some g → h1.size ≤ g), fun q _ => (3 - q.2).toNat, ⟨vs, by simp, by simp, by simpa [newE] using O, X, hb⟩, ?_⟩
  rintro s i h2 ⟨vs2, i0, i1, O2, X2, hb2⟩
  dsimp only at i0 i1 O2 hb2
  unfold law23_RlogMatches_l2b
  by_cases hi : i < 3
  · rw [if_pos (by simpa using hi)]
    refine ⟨_, _, rfl, rfl, ?_⟩
    rw [wrapU8 (x := t) (by omega) (by omega), wrapU8 (x := i) (by omega) (by omega), wrapI64 (x := t + 1) (by omega) (by omega), wrapU64 (x := t + 1) (by omega) (by omega)]
    have P1 := Blk.push h2 [.int .u8 t, .int .u8 i] 5
    have W1 := Ext.push h2 (.cells [Value.int .u8 t, .int .u8 i].toArray 5) (Nat.le_refl _)
    obtain ⟨h3, e3⟩ : ∃ x, x = h2.push (.cells [Value.int .u8 t, .int .u8 i].toArray 5) := ⟨_, rfl⟩
    rw [← e3] at P1 W1 ⊢
    refine ⟨_, _, rfl, rfl, ?_⟩
    have W2 := Ext.push h3 (.cells (S_api_Entry.cs ⟨t + 1, ⟨some ⟨h2.size, 0, none⟩, 2, 2⟩⟩).toArray 64) (Nat.le_refl _)
    have P2 := P1.ext W2 P1.lt
    obtain ⟨h4, e4⟩ : ∃ x, x = h3.push (.cells (S_api_Entry.cs ⟨t + 1, ⟨some ⟨h2.size, 0, none⟩, 2, 2⟩⟩).toArray 64) := ⟨_, rfl⟩
    rw [← e4] at W2 P2 ⊢
    have O4 := (O2.ext W1).ext W2
    have z2 := X2.size
    have z3 := W1.size
    have z4 := W2.size
    have ll := O2.len
    rw [List.length_append, newE_len] at ll
    refine App.row2 O4.r (by omega) rfl rfl (cs_one _) (by omega) (by simp only [maxLen]; omega) fun s' h5 R5 l5 z5 F5 b5 _ => ?_
    have k5 : ∀ g cs, Blk h4 g cs 5 → h5[g]? = h4[g]? := fun g cs K => F5 g K.lt fun e => by
      obtain ⟨cur, K'⟩ := Row.blk_of O4.r e
      have := (K.inj K').2; omega
    have C5 : Row B h5 5 1 ⟨some ⟨h2.size, 0, none⟩, 2, 2⟩ (b8 [t, i]) := Row.of_blk (zs := []) (P2.old (k5 _ _ P2)) (by omega) rfl rfl (by simp [maxLen])
    have O5 := O4.snoc (e := (t + 1, [t, i])) R5 (fun g E cs K hE => by subst hE; exact k5 g cs K) rfl C5
    rw [wrapI64 (by omega) (by omega)]
    refine ⟨_, rfl, ⟨vs2 ++ [⟨t + 1, ⟨some ⟨h2.size, 0, none⟩, 2, 2⟩⟩], by dsimp only; omega, by dsimp only; omega, ?_, ?_, ?_⟩, by dsimp only; omega⟩
    · dsimp only
      rw [show (i + 1).toNat = i.toNat + 1 from by omega, newE_succ, ← List.append_assoc, show ((i.toNat : Nat) : Int) = i from by omega]
      exact O5
    · refine X2.trans ((W1.mono z2).trans ((W2.mono (by omega)).trans ⟨z5, fun g hg => F5 g (by omega) fun e => by have := hb2 g e; omega⟩))
    · dsimp only
      intro g hg
      rcases b5 with ⟨b5, _⟩ | b5
      · exact hb2 g (by rw [← b5]; exact hg)
      · rw [b5] at hg; cases hg; omega
  · rw [if_neg (by simpa using hi)]
    have : i = 3 := by omega
    subst this
    have := H s h2 vs2 X2 O2 hb2
    obtain ⟨b, h', e1, e2, A⟩ := this
    exact ⟨b, h', e1, e2, A⟩
/-- the rows are laid -/
def RowsI (B : Nat) (h0 : Heap) (n : Nat) (q : Slc × Slc × Int) (h : Heap) : Prop :=
  ∃ ss rows vs prev, RI B h q.1 ss rows ∧ Own B h q.2.1 prev vs ∧ Good rows prev ∧ esOk prev ∧ prev.length ≤ 3 * rows.length ∧ q.2.2 = rows.length ∧ rows.length ≤ n ∧ Ext B h0 h
theorem rowl1_ok {p0 p1 : Slc} {cuts : List Int} {k : Bool → Heap → Prop} {h0 : Heap} (A : ArgI .u8 h0.size h0 p0 cuts) (hn : cuts.length ≤ 6)
    (H : ∀ rs row h ss rows, RI h0.size h rs ss rows → rows.length ≤ 6 → Ext h0.size h0 h → ∀ nx, law23_RlogMatches_l1b p0 p1 rs row cuts.length k nx h) : law23_RlogMatches_l1 p0 p1 ⟨none, 0, 0⟩ ⟨none, 0, 0⟩ 0 k h0 := by
  refine ⟨RowsI h0.size h0 cuts.length, fun q _ => (cuts.length - q.2.2).toNat, ⟨[], [], [], [], ⟨Row.nil _ _ _ _, rfl, by simp, by simp, by simp⟩, ⟨Row.nil _ _ _ _, rfl, by simp⟩, Good.nil, (by intro e h; cases h), by simp, rfl, by simp, Ext.refl _ _⟩, ?_⟩
  rintro rs row t h1 ⟨ss, rows, vs, prev, R, O, G, ok, lp, ht, ln, X⟩
  dsimp only at R O ht
  by_cases hc : t < cuts.length
  · have z1 := X.size
    unfold law23_RlogMatches_l1b
    rw [if_pos (by simp [A.1]; exact hc)]
    refine ⟨_, _, rfl, rfl, ?_⟩
    have P1 := Blk.push h1 [] 64
    have W1 := Ext.push h1 (.cells ([] : List Value).toArray 64) (Nat.le_refl _)
    obtain ⟨h2, e2⟩ : ∃ x, x = h1.push (.cells ([] : List Value).toArray 64) := ⟨_, rfl⟩
    rw [← e2] at P1 W1 ⊢
    have z2 := W1.size
    have hsz2 : h2.size = h1.size + 1 := by rw [e2]; simp
    have X2 := X.trans (W1.mono z1)
    have A2 := A.ext X2
    obtain ⟨a, ha, hv⟩ := A2.get (i := t.toNat) (by omega)
    refine ⟨a, ha, by omega, by rw [A.1]; exact hc, _, by rw [Nat.mul_one]; exact hv, ?_⟩
    have lr := O.len
    have O2 := O.ext W1
    have cr := O2.r.cap
    rw [wrapI64 (x := (row.len : Int) + 1) (by omega) (by omega)]
    refine Pick_ok (by omega) (by omega) fun r r0 r1 => ?_
    refine ⟨_, by omega, r0, by omega, by omega, rfl, ecs (vs.take r.toNat), ?_, ?_⟩
    · have := (O2.take (n := r.toNat) (by omega)).r.slc
      have e : (subS row 2 (0 : Int).toNat r.toNat (row.cap : Int).toNat).a = (subS row 2 0 r.toNat r.toNat).a := by
        have : ∀ m, (subS row 2 0 r.toNat m).a = row.a := fun m => by
          simp only [subS]
          split
          · rfl
          · cases row.a <;> simp [Addr.add]
        rw [this, show (0 : Int).toNat = 0 from rfl, this]
      exact ⟨fun hn => this.1 (by rw [← e]; exact hn), fun b hb => this.2 b (by rw [← e]; exact hb)⟩
    · have R0 : Row h0.size h2 64 2 ⟨some ⟨h1.size, 0, none⟩, 0, 0⟩ [] := ⟨by simp, by simp [maxLen], .inr ⟨_, _, rfl, z1, P1, Nat.le_refl _, by simp, by simp⟩⟩
      have hl : (ecs (vs.take r.toNat)).length = (subS row 2 (0 : Int).toNat r.toNat (row.cap : Int).toNat).len * 2 := by
        rw [ecs_len, List.length_take, subS_len, O.l, show (0 : Int).toNat = 0 from rfl]; omega
      have hsl : (subS row 2 (0 : Int).toNat r.toNat (row.cap : Int).toNat).len = r.toNat := rfl
      refine App.row2 R0 (by omega) rfl hl (ecs_one _) (by rw [hsl]; dsimp only; omega) (by rw [hsl]; dsimp only [maxLen]; omega) fun s' h3 R3 l3 z3 F3 b3 _ => ?_
      have old : ∀ g, g < h1.size → h3[g]? = h1[g]? := fun g hg => by
        rw [F3 g (by omega) (by simp [Slc.blk]; omega)]
        exact W1.block g hg
      have X3 : Ext h1.size h1 h3 := ⟨by omega, old⟩
      have O3 : Own h0.size h3 s' (prev.take r.toNat) (vs.take r.toNat) := by
        refine ⟨by simpa using R3, by simp [O.l], fun i v e hv he => ?_⟩
        rw [List.getElem?_take] at hv he
        split at hv
        · rw [if_pos (by assumption)] at he
          have := O.e i v e hv he
          exact ⟨this.1, this.2.ext X3 fun g hg => (this.2.bd hg).2⟩
        · cases hv
      have hb3 : ∀ g, s'.blk = some g → h1.size ≤ g := fun g hg => by
        rcases b3 with ⟨b3, _⟩ | b3
        · rw [b3] at hg; simp [Slc.blk] at hg; omega
        · rw [b3] at hg; cases hg; omega
      refine rowl2_ok (B := h0.size) (h1 := h1) z1 X3 O3 hb3 (by omega) (by omega) (by rw [List.length_take]; omega) fun s4 h4 vs4 X4 O4 hb4 => ?_
      refine ⟨_, _, rfl, rfl, ?_⟩
      have z4 := X4.size
      have W5 := Ext.push h4 (.cells [Slc.v s4].toArray 52) (Nat.le_refl _)
      obtain ⟨h5, e5⟩ : ∃ x, x = h4.push (.cells [Slc.v s4].toArray 52) := ⟨_, rfl⟩
      rw [← e5] at W5 ⊢
      have z5 := W5.size
      have R5 := (R.ext X4).ext W5
      have O5 := O4.ext W5
      have ls := R5.r.len
      rw [List.length_map, R.l] at ls
      refine App.row2 R5.r (by omega) rfl rfl (by intro v hv; simp at hv; subst hv; rfl) (by omega) (by simp only [maxLen]; omega) fun s6 h6 R6 l6 z6 F6 b6 _ => ?_
      have kO : ∀ {s : Slc} {es : List Ent} {vs : List S_api_Entry}, Own h0.size h5 s es vs → Own h0.size h6 s es vs := fun o => o.keep (fun g hg => F6 g (o.r.bd hg).2 fun e => o.r.ne_row R5.r (by decide) hg e) fun g cs K => F6 g K.lt fun e => by
        obtain ⟨cur, K'⟩ := Row.blk_of R5.r e
        have := (K.inj K').2; omega
      rw [wrapI64 (by omega) (by omega)]
      have okn : esOk (prev.take r.toNat ++ newE t 3) := esOk_app (fun e he => ok e (List.mem_of_mem_take he)) (newE_ok (by omega) (by omega) (by omega))
      have lnn : (prev.take r.toNat ++ newE t 3).length ≤ 3 * (rows.length + 1) := by rw [List.length_append, newE_len, List.length_take]; omega
      have Gn : Good (rows ++ [prev.take r.toNat ++ newE t 3]) (prev.take r.toNat ++ newE t 3) := G.newrow fun e he => by rw [newE_term he, ht]
      refine ⟨_, rfl, ⟨ss ++ [s4], rows ++ [prev.take r.toNat ++ newE t 3], vs4, _, ⟨by simpa using R6, by simp [R.l], fun i s q hs hq => ?_, fun q hq => ?_, fun q hq => ?_⟩, kO O5, Gn, okn, by simpa using lnn, by simp; omega, by simp; omega, ?_⟩, by dsimp only; omega⟩
      · rcases Nat.lt_or_ge i ss.length with hi | hi
        · rw [List.getElem?_append_left hi] at hs
          rw [List.getElem?_append_left (by rw [← R.l]; exact hi)] at hq
          obtain ⟨w, o⟩ := R5.e i s q hs hq
          exact ⟨w, kO o⟩
        · rw [List.getElem?_append_right hi] at hs
          rw [List.getElem?_append_right (by rw [← R.l]; exact hi), ← R.l] at hq
          have hi2 : i - ss.length = 0 := by
            have := (List.getElem?_eq_some_iff.1 hs).1
            simp at this; omega
          rw [hi2] at hs hq
          simp at hs hq
          subst hs; subst hq
          exact ⟨vs4, kO O5⟩
      · rcases List.mem_append.1 hq with hq | hq
        · exact (R.g q hq).mono _
        · simp at hq; subst hq; exact Gn
      · rcases List.mem_append.1 hq with hq | hq
        · exact ⟨(R.k q hq).1, by have := (R.k q hq).2; simp; omega⟩
        · simp only [List.mem_singleton] at hq; subst hq; exact ⟨okn, by simpa using lnn⟩
      · refine X.trans ((X4.mono z1).trans ((W5.mono (by omega)).trans ⟨z6, fun g hg => F6 g (by omega) fun e => ?_⟩))
        have := (R5.r.bd e).1; omega
  · have ht2 : t = cuts.length := by omega
    rw [ht2]
    exact H rs row h1 ss rows R (by omega) X _
end Go.Q.Ya

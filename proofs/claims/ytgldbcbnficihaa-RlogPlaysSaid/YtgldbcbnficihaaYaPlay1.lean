/- A part of the proof of statements of this seat: lemmas, no statement of their own. -/
import Derived.Test.YtgldbcbnficihaaYaMatch2
import Derived.Test.YtgldbcbnficihaaYaArgE
set_option linter.unusedVariables false
set_option linter.unusedSimpArgs false
namespace Go.Q.Ya
/-- entries whose bytes lie below B -/
structure CE (B : Nat) (h : Heap) (es : List Ent) (vs : List S_api_Entry) : Prop where
  l : vs.length = es.length
  ce : ∀ (i : Nat) v e, vs[i]? = some v → es[i]? = some e → ∀ h', Ext B h h' → EntAt h' v e
theorem CE.to {B : Nat} {h h' : Heap} {es : List Ent} {vs : List S_api_Entry} (c : CE B h es vs) (X : Ext B h h') : CE B h' es vs := ⟨c.l, fun i v e hv he h2 Y => c.ce i v e hv he h2 (X.trans Y)⟩
theorem CE.nil (B : Nat) (h : Heap) : CE B h [] [] := ⟨rfl, by simp⟩
theorem CE.take {B : Nat} {h : Heap} {es : List Ent} {vs : List S_api_Entry} (c : CE B h es vs) (n : Nat) : CE B h (es.take n) (vs.take n) :=
  ⟨by simp [c.l], fun i v e hv he => by
    rw [List.getElem?_take] at hv he
    split at hv
    · rw [if_pos (by assumption)] at he; exact c.ce i v e hv he
    · cases hv⟩
theorem CE.drop {B : Nat} {h : Heap} {es : List Ent} {vs : List S_api_Entry} (c : CE B h es vs) (n : Nat) : CE B h (es.drop n) (vs.drop n) :=
  ⟨by simp [c.l], fun i v e hv he => by
    rw [List.getElem?_drop] at hv he
    exact c.ce _ v e hv he⟩
theorem CE.snoc {B : Nat} {h : Heap} {es : List Ent} {vs : List S_api_Entry} {e : Ent} {v : S_api_Entry} (c : CE B h es vs) (k : ∀ h', Ext B h h' → EntAt h' v e) : CE B h (es ++ [e]) (vs ++ [v]) := by
  refine ⟨by simp [c.l], fun i w f hw hf => ?_⟩
  rcases Nat.lt_or_ge i vs.length with hi | hi
  · rw [List.getElem?_append_left hi] at hw
    rw [List.getElem?_append_left (by rw [← c.l]; exact hi)] at hf
    exact c.ce i w f hw hf
  · rw [List.getElem?_append_right hi] at hw
    rw [List.getElem?_append_right (by rw [← c.l]; exact hi)] at hf
    have hi2 : i = vs.length := by
      have := (List.getElem?_eq_some_iff.1 hw).1
      simp at this; omega
    rw [hi2] at hw
    rw [hi2, ← c.l] at hf
    simp at hw hf
    subst hw; subst hf
    exact k
/-- entries of the document's log: they, or their bytes, may be what came in -/
structure RE (B : Nat) (h : Heap) (s : Slc) (es : List Ent) (vs : List S_api_Entry) : Prop where
  c : CE B h es vs
  sl : s.len = es.length
  cap : s.len ≤ s.cap
  bl : 0 < s.len → ∀ g, s.blk = some g → B ≤ g → ∃ cur, Blk h g cur 64
  at' : ∀ h', Ext B h h' → (0 < s.len → ∀ g, s.blk = some g → B ≤ g → h'[g]? = h[g]?) → SlcAt h' s (ecs vs)
variable {B : Nat} {h h' : Heap} {s : Slc} {es : List Ent} {vs : List S_api_Entry}
theorem RE.to (R : RE B h s es vs) (X : Ext B h h') (k : 0 < s.len → ∀ g cur, s.blk = some g → B ≤ g → Blk h g cur 64 → h'[g]? = h[g]?) : RE B h' s es vs := by
  have k' : 0 < s.len → ∀ g, s.blk = some g → B ≤ g → h'[g]? = h[g]? := fun hl g hg hB => by
    obtain ⟨cur, K⟩ := R.bl hl g hg hB
    exact k hl g cur hg hB K
  refine ⟨R.c.to X, R.sl, R.cap, fun hl g hg hB => ?_, fun h2 Y k2 => R.at' h2 (X.trans Y) fun hl g hg hB => (k2 hl g hg hB).trans (k' hl g hg hB)⟩
  obtain ⟨cur, K⟩ := R.bl hl g hg hB
  exact ⟨cur, K.old (k' hl g hg hB)⟩
theorem RE.ext (R : RE B h s es vs) (hB : B ≤ h.size) (X : Ext h.size h h') : RE B h' s es vs := R.to (X.mono hB) fun _ g cur _ _ K => X.block g K.lt
theorem RE.slc (R : RE B h s es vs) : SlcAt h s (ecs vs) := R.at' h (Ext.refl _ _) fun _ _ _ _ => rfl
theorem RE.cells (R : RE B h s es vs) {i : Nat} {v : S_api_Entry} (hv : vs[i]? = some v) : ∃ a, s.a = some a ∧ CellsAt h (a.add (i * 2)) (S_api_Entry.cs v) := by
  have S := R.slc
  cases ha : s.a with
  | none =>
    have h1 := S.1 ha
    have h2 := ecs_len vs
    rw [h1] at h2
    have := (List.getElem?_eq_some_iff.1 hv).1
    simp at h2; omega
  | some a =>
    refine ⟨a, rfl, fun j w hj => ?_⟩
    have hj2 : j < 2 := by have := (List.getElem?_eq_some_iff.1 hj).1; simpa [S_api_Entry.cs] using this
    rw [add_add']
    exact S.2 a ha _ w (by rw [ecs_get vs i j hj2, hv]; exact hj)
theorem RE.get (R : RE B h s es vs) {i : Nat} {e : Ent} (he : es[i]? = some e) : ∃ v, vs[i]? = some v ∧ ∀ h', Ext B h h' → EntAt h' v e := by
  have hi : i < vs.length := by rw [R.c.l]; exact (List.getElem?_eq_some_iff.1 he).1
  exact ⟨vs[i], by simp, R.c.ce i _ e (by simp) he⟩
theorem RE.ents (R : RE B h s es vs) : EntsAt h s es := by
  refine ⟨R.sl, fun hn => ?_, fun a ha i e he => ?_⟩
  · have h1 := R.slc.1 hn
    have h2 := ecs_len vs
    rw [h1] at h2
    have h3 := R.c.l
    simp at h2
    exact List.eq_nil_of_length_eq_zero (by omega)
  · obtain ⟨v, hv, E⟩ := R.get he
    obtain ⟨b, hb, C⟩ := R.cells hv
    rw [ha] at hb; cases hb
    exact ⟨v, C, E h (Ext.refl _ _)⟩
theorem RE.of_row {C : Nat} (R : Row C h 64 2 s (ecs vs)) (c : CE B h es vs) (hC : B ≤ C) : RE B h s es vs := by
  have hl := R.1
  rw [ecs_len, c.l] at hl
  refine ⟨c, by omega, R.cap, fun _ g hg _ => Row.blk_of R hg, fun h2 X k => ?_⟩
  by_cases h0 : 0 < s.len
  · exact (R.keep fun g hg => k h0 g hg (Nat.le_trans hC (R.bd hg).1)).slc
  · have : es = [] := List.eq_nil_of_length_eq_zero (by omega)
    have hv : vs = [] := List.eq_nil_of_length_eq_zero (by rw [c.l, this]; rfl)
    rw [hv]
    exact ⟨fun _ => rfl, fun a _ j w hw => by simp at hw⟩
theorem slc_ecs {a : Addr} (ha : s.a = some a) (hc : ∀ (i : Nat) v, vs[i]? = some v → CellsAt h (a.add (i * 2)) (S_api_Entry.cs v)) : SlcAt h s (ecs vs) := by
  refine ⟨fun hn => (by rw [ha] at hn; cases hn), fun b hb j w hw => ?_⟩
  rw [ha] at hb; cases hb
  have e := ecs_get vs (j / 2) (j % 2) (by omega)
  rw [show j / 2 * 2 + j % 2 = j from by omega, hw] at e
  obtain ⟨v, hv, hj⟩ := Option.bind_eq_some_iff.1 e.symm
  have := hc _ v hv _ w hj
  rwa [add_add', show j / 2 * 2 + j % 2 = j from by omega] at this
theorem RE.of_arg (A : ArgE h.size h s es) : ∃ vs, (0 < s.len → ∀ g, s.blk = some g → g < h.size) ∧ ∀ h', Ext h.size h h' → RE h.size h' s es vs := by
  have E := A.ents
  cases ha : s.a with
  | none =>
    have := E.n ha
    subst this
    have l0 := E.l
    simp at l0
    exact ⟨[], fun h0 => by omega, fun h2 X => ⟨CE.nil _ _, E.l, A.cap, fun h0 => by omega, fun h2 X k => ⟨fun _ => rfl, fun a hb => by rw [ha] at hb; cases hb⟩⟩⟩
  | some a =>
    obtain ⟨vs, hl, hv⟩ := choose_list (R := fun i v => CellsAt h (a.add (i * 2)) (S_api_Entry.cs v) ∧ ∀ e, es[i]? = some e → EntAt h v e) es.length fun i hi => by
      obtain ⟨v, h1, h2⟩ := E.at' a ha i es[i] (by simp)
      exact ⟨v, h1, fun e he => by rw [List.getElem?_eq_getElem hi] at he; cases he; exact h2⟩
    have low : 0 < s.len → ∀ g, s.blk = some g → g < h.size := fun h0 g hg => by
      have h1 : 0 < vs.length := by rw [hl, ← E.l]; exact h0
      have := (hv 0 vs[0] (by simp)).1 0 _ rfl
      have := cellH_lt this
      simp at this
      simp [Slc.blk, ha] at hg
      omega
    refine ⟨vs, low, fun h2 X => ⟨⟨hl, fun i v e h1 h2 h3 Y => ((hv i v h1).2 e h2).ext (X.trans Y)⟩, E.l, A.cap, fun h0 g hg hB => ?_, fun h3 Y k => slc_ecs ha fun i v h1 j w hw => (X.trans Y).cellAt ((hv i v h1).1 j w hw)⟩⟩
    have := low h0 g hg; omega
/-- the document's log -/
structure RL (B : Nat) (h : Heap) (b : Nat) (ix tm : Int) (es : List Ent) (s : Slc) (vs : List S_api_Entry) : Prop where
  k : Blk h b [.int .u64 ix, .int .u64 tm, Slc.v s] 73
  e : RE B h s es vs
  hb : B ≤ b
variable {b : Nat} {ix tm : Int}
theorem RL.ext (L : RL B h b ix tm es s vs) (hB : B ≤ h.size) (X : Ext h.size h h') : RL B h' b ix tm es s vs := ⟨L.k.ext X L.k.lt, L.e.ext hB X, L.hb⟩
theorem RL.c0 (L : RL B h b ix tm es s vs) : cellH h ⟨b, 0, none⟩ = some (.int .u64 ix) := by rw [L.k.cell]; rfl
theorem RL.c1 (L : RL B h b ix tm es s vs) : cellH h ((⟨b, 0, none⟩ : Addr).add 1) = some (.int .u64 tm) := by rw [add_mk, L.k.cell]; rfl
theorem RL.c2 (L : RL B h b ix tm es s vs) : cellH h ((⟨b, 0, none⟩ : Addr).add 2) = some (Slc.v s) := by rw [add_mk, L.k.cell]; rfl
theorem rLast_ok {k : Int × Int → Heap → Prop} (L : RL B h b ix tm es s vs) (x0 : 0 ≤ ix) (x1 : ix ≤ 4611686018427387904) (hl : es.length ≤ 1099511627776) (H : k (ix + es.length, lastT tm es) h) : ref23_Log_Last (some ⟨b, 0, none⟩) k h := by
  unfold ref23_Log_Last
  refine ⟨_, rfl, _, L.c2, ?_⟩
  have A := L.e.ents
  rw [A.l]
  by_cases hn : es.length > 0
  · rw [if_neg (by rw [beq_iff_eq]; omega)]
    have he : es[es.length - 1]? = some (es[es.length - 1]'(by omega)) := by simp
    obtain ⟨a, v, a1, a2, _⟩ := A.get he
    have hlt : lastT tm es = es[es.length - 1].1 := by
      unfold lastT
      rw [List.getLast?_eq_getElem?, he]
    refine ⟨ix, L.c0, s, L.c2, s, L.c2, s, L.c2, ?_⟩
    rw [A.l, wrapI64 (by omega) (by omega), wrapU64 (x := (es.length : Int)) (by omega) (by omega), wrapU64 (by omega) (by omega)]
    refine ⟨a, a1, by omega, by omega, _, by rw [show ((es.length : Int) - 1).toNat = es.length - 1 from by omega]; exact a2, ?_⟩
    rw [← hlt]; exact H
  · rw [if_pos (by simp; exact List.eq_nil_of_length_eq_zero (by omega))]
    have : es = [] := List.eq_nil_of_length_eq_zero (by omega)
    subst this
    refine ⟨ix, L.c0, tm, L.c1, ?_⟩
    simpa [lastT] using H
theorem rTerm_ok {p : Int} {k : Int × Int → Heap → Prop} (L : RL B h b ix tm es s vs) (x0 : 0 ≤ ix) (x1 : ix ≤ 4611686018427387904) (hl : es.length ≤ 1099511627776) (p0 : 0 ≤ p) (p1 : p < 18446744073709551616) (H : k (termOf ix tm es p) h) : ref23_Log_TermOf (some ⟨b, 0, none⟩) p k h := by
  unfold ref23_Log_TermOf
  refine rLast_ok L x0 x1 hl ?_
  refine ⟨_, rfl, _, L.c0, ?_⟩
  dsimp only
  unfold termOf at H
  by_cases h1 : p < ix
  · rw [if_pos (by simpa using h1)]; rw [if_pos h1] at H; exact H
  · rw [if_neg (by simpa using h1)]; rw [if_neg h1] at H
    by_cases h2 : p > ix + es.length
    · rw [if_pos (by simpa using h2)]; rw [if_pos h2] at H; exact H
    · rw [if_neg (by simpa using h2)]; rw [if_neg h2] at H
      refine ⟨_, L.c0, ?_⟩
      by_cases h3 : p = ix
      · rw [if_pos (by simpa using h3)]; rw [if_pos h3] at H; exact ⟨_, L.c1, H⟩
      · rw [if_neg (by simpa using h3)]; rw [if_neg h3] at H
        have A := L.e.ents
        have hi : (p - ix - 1).toNat < es.length := by omega
        have he : es[(p - ix - 1).toNat]? = some es[(p - ix - 1).toNat] := by simp [hi]
        obtain ⟨a, v, a1, a2, _⟩ := A.get he
        refine ⟨_, L.c2, _, L.c0, ?_⟩
        rw [wrapU64 (x := p - ix) (by omega) (by omega), wrapU64 (by omega) (by omega)]
        refine ⟨a, a1, by omega, by rw [A.l]; omega, _, a2, ?_⟩
        have e : (es.getD (p - ix - 1).toNat (0, [])) = es[(p - ix - 1).toNat] := by rw [List.getD_eq_getElem?_getD, List.getElem?_eq_getElem hi]; rfl
        rw [e] at H; exact H
theorem rNewer_ok {p t : Int} {k : Bool → Heap → Prop} (L : RL B h b ix tm es s vs) (x0 : 0 ≤ ix) (x1 : ix ≤ 4611686018427387904) (hl : es.length ≤ 1099511627776) (H : k ((decide (t > lastT tm es)) || ((t == lastT tm es) && (decide (p ≥ ix + es.length)))) h) : ref23_Log_Newer (some ⟨b, 0, none⟩) p t k h := by
  unfold ref23_Log_Newer
  exact rLast_ok L x0 x1 hl H
/-- what From answers -/
def fromRes (ix tm : Int) (es : List Ent) (p most : Int) : List Ent × Int :=
  if p = 0 then ([], 1) else if (termOf ix tm es (p - 1)).2 ≠ 0 then ([], (termOf ix tm es (p - 1)).2) else ((es.drop (p - 1 - ix).toNat).take most.toNat, 0)
theorem rFrom_ok {p most : Int} {k : Slc × Int → Heap → Prop} (L : RL B h b ix tm es s vs) (hB : B ≤ h.size) (x0 : 0 ≤ ix) (x1 : ix ≤ 4611686018427387904) (hl : es.length ≤ 1000000) (p0 : 0 ≤ p) (p1 : p < 9223372036854775808)
    (H : ∀ s' h', EntsAt h' s' (fromRes ix tm es p most).1 → Ext h.size h h' → k (s', (fromRes ix tm es p most).2) h') : ref23_Log_From (some ⟨b, 0, none⟩) p most k h := by
  have E0 : ∀ h, EntsAt h ⟨none, 0, 0⟩ [] := fun h => ⟨rfl, fun _ => rfl, fun a ha => by cases ha⟩
  unfold ref23_Log_From
  unfold fromRes at H
  by_cases hp : p = 0
  · rw [if_pos (by simpa using hp)]
    rw [if_pos hp] at H
    exact H _ _ (E0 _) (Ext.refl _ _)
  · rw [if_neg (by simpa using hp)]
    rw [if_neg hp] at H
    rw [wrapU64 (x := p - 1) (by omega) (by omega)]
    refine rTerm_ok L x0 x1 (by omega) (by omega) (by omega) ?_
    by_cases ht : (termOf ix tm es (p - 1)).2 = 0
    · rw [if_neg (by simpa using ht)]
      rw [if_neg (by simpa using ht)] at H
      have hb := termOf_ok ht
      refine ⟨_, rfl, _, L.c0, _, rfl, ?_⟩
      rw [wrapU64 (x := p - 1 - ix) (by omega) (by omega), wrapI64 (by omega) (by omega)]
      obtain ⟨st, hst⟩ : ∃ st : Nat, (st : Int) = p - 1 - ix := ⟨(p - 1 - ix).toNat, by omega⟩
      rw [← hst] at ⊢ H
      rw [Int.toNat_natCast] at H
      refine ⟨fun q h' => ∃ n : Nat, q.2 = st + n ∧ st + n ≤ es.length ∧ n ≤ most.toNat ∧ Row h.size h' 64 2 q.1 (ecs ((vs.drop st).take n)) ∧ Ext h.size h h', fun q _ => (es.length - q.2).toNat, ⟨0, by simp, by omega, by omega, by simpa using Row.nil _ _ _ _, Ext.refl _ _⟩, ?_⟩
      rintro out i h1 ⟨n, hi, hn, hm, R, X⟩
      dsimp only at hi R
      subst hi
      have L1 := L.ext hB X
      have A1 := L1.e.ents
      have sl := L.e.sl
      have lv := L.e.c.l
      have lo := R.1
      rw [ecs_len, List.length_take, List.length_drop, lv] at lo
      have lo2 : out.len = n := by omega
      unfold ref23_Log_From_l1b
      refine ⟨_, rfl, _, L1.c2, ?_⟩
      rw [A1.l, lo2]
      by_cases hc : st + n < es.length ∧ (n : Int) < most
      · rw [if_pos (by simp; omega)]
        have hv : vs[st + n]? = some (vs[st + n]'(by omega)) := by simp
        obtain ⟨a, ha, C⟩ := L1.e.cells hv
        generalize vs[st + n]'(by omega) = v at *
        refine ⟨_, L1.c2, a, ha, by omega, by omega, v, by rw [show ((st : Int) + (n : Int)).toNat = st + n from by omega]; exact C, _, _, rfl, rfl, ?_⟩
        have z1 := X.size
        refine App.row (R.pushed _) (by simp; omega) rfl rfl (cs_one _) (by omega) (by simp only [maxLen]; omega) fun s' h3 R3 _ z3 F3 _ => ?_
        simp at z3
        rw [wrapI64 (by omega) (by omega)]
        refine ⟨_, rfl, ⟨n + 1, by dsimp only; omega, by omega, by omega, ?_, X.trans ⟨by omega, fun g hg => ?_⟩⟩, by dsimp only; omega⟩
        · dsimp only
          rw [List.take_add_one, List.getElem?_drop, hv]
          simp only [Option.toList_some]
          rw [ecs_snoc]; exact R3
        · rw [F3 g (by simp; omega) fun e => by have := (R.bd e).1; omega, Array.getElem?_push, if_neg (by omega)]
      · rw [if_neg (by simp; omega)]
        refine H out h1 ?_ X
        have : (es.drop st).take most.toNat = (es.drop st).take n := by
          by_cases h2 : st + n = es.length
          · rw [List.take_of_length_le (by rw [List.length_drop]; omega), List.take_of_length_le (by rw [List.length_drop]; omega)]
          · rw [show most.toNat = n from by omega]
        rw [this]
        exact (RE.of_row R ((((L.e.c.to (X.mono hB)).drop st).take n)) hB).ents
    · rw [if_pos (by simpa using ht)]
      rw [if_pos (by simpa using ht)] at H
      exact H _ _ (E0 _) (Ext.refl _ _)
theorem From_ok {p most : Int} {k : Slc × Int → Heap → Prop} (L : LogAt B h b ix tm es s vs) (ok : esOk es) (x0 : 0 ≤ ix) (x1 : ix ≤ 4611686018427387904) (hl : es.length ≤ 1000000) (p0 : 0 ≤ p) (p1 : p < 9223372036854775808)
    (H : ∀ s' h', EntsAt h' s' (fromRes ix tm es p most).1 → Ext h.size h h' → k (s', (fromRes ix tm es p most).2) h') : rlog_Log_From (some ⟨b, 0, none⟩) p most k h := by
  have E0 : ∀ h, EntsAt h ⟨none, 0, 0⟩ [] := fun h => ⟨rfl, fun _ => rfl, fun a ha => by cases ha⟩
  unfold rlog_Log_From
  unfold fromRes at H
  by_cases hp : p = 0
  · rw [if_pos (by simpa using hp)]
    rw [if_pos hp] at H
    exact H _ _ (E0 _) (Ext.refl _ _)
  · rw [if_neg (by simpa using hp)]
    rw [if_neg hp] at H
    rw [wrapU64 (x := p - 1) (by omega) (by omega)]
    refine Term_ok L x0 x1 (by omega) (by omega) (by omega) ?_
    by_cases ht : (termOf ix tm es (p - 1)).2 = 0
    · rw [if_neg (by simpa using ht), if_neg (by simp)]
      rw [if_neg (by simpa using ht)] at H
      have hb := termOf_ok ht
      have A := L.o.ents
      have al := A.l
      have cap := L.o.r.cap
      refine ⟨_, rfl, _, L.c2, _, L.c0, ?_⟩
      rw [wrapU64 (x := p - 1 - ix) (by omega) (by omega)]
      obtain ⟨st, hst⟩ : ∃ st : Nat, (st : Int) = p - 1 - ix := ⟨(p - 1 - ix).toNat, by omega⟩
      rw [← hst] at ⊢ H
      rw [Int.toNat_natCast] at ⊢ H
      obtain ⟨s6, e6⟩ : ∃ x, x = subS s 2 st (s.len : Int).toNat (s.cap : Int).toNat := ⟨_, rfl⟩
      have l6 : s6.len = es.length - st := by rw [e6, subS_len]; omega
      have c6 : s6.cap = s.cap - st := by rw [e6, subS_cap]; omega
      refine ⟨s6, by omega, by omega, by omega, by omega, e6, ?_⟩
      have A1 := A.sub (l := st) (u := (s.len : Int).toNat) (m := (s.cap : Int).toNat) (by omega) (by omega) (by omega)
      rw [List.take_of_length_le (by rw [List.length_drop]; omega), ← e6] at A1
      obtain ⟨n, hn⟩ : ∃ n : Nat, (n : Int) = (if (if (s6.len : Int) < most then (s6.len : Int) else most) > 0 then (if (s6.len : Int) < most then (s6.len : Int) else most) else 0) :=
        ⟨(if (if (s6.len : Int) < most then (s6.len : Int) else most) > 0 then (if (s6.len : Int) < most then (s6.len : Int) else most) else 0).toNat, by (repeat' split) <;> omega⟩
      have hn2 : n ≤ es.length - st ∧ n ≤ most.toNat ∧ (n = es.length - st ∨ n = most.toNat) := by
        (repeat' split at hn) <;> omega
      rw [← hn]
      refine ⟨_, by omega, by omega, by omega, by omega, rfl, ?_⟩
      have A2 := A1.sub (l := (0 : Int).toNat) (u := (n : Int).toNat) (m := (s6.cap : Int).toNat) (by simp) (by rw [List.length_drop]; omega) (by omega)
      have e2 : ((es.drop st).drop (0 : Int).toNat).take ((n : Int).toNat - (0 : Int).toNat) = (es.drop st).take most.toNat := by
        show ((es.drop st).drop 0).take ((n : Int).toNat - 0) = _
        rw [List.drop_zero, Nat.sub_zero, Int.toNat_natCast]
        rcases hn2.2.2 with h2 | h2
        · rw [List.take_of_length_le (by rw [List.length_drop]; omega), List.take_of_length_le (by rw [List.length_drop]; omega)]
        · rw [h2]
      rw [e2] at A2
      exact copied_ok A2 (fun e he => ok e (List.mem_of_mem_drop (List.mem_of_mem_take he))) (by rw [List.length_take, List.length_drop]; omega) fun s' h2 v2 O2 X2 => H s' h2 O2.ents X2
    · rw [if_pos (by simpa using ht)]
      rw [if_pos (by simpa using ht)] at H
      exact H _ _ (E0 _) (Ext.refl _ _)
end Go.Q.Ya

/- A part of the proof of statements of this seat: lemmas, no statement of their own. -/
import Derived.Test.YtgldbcbnficihaaYaPlay1
set_option linter.unusedVariables false
set_option linter.unusedSimpArgs false
namespace Go.Q.Ya
variable {B : Nat} {h h' : Heap} {s : Slc} {es : List Ent} {vs : List S_api_Entry} {b : Nat} {ix tm : Int}
theorem row0 {C : Nat} (h : Heap) (hC : C ≤ h.size) : Row C (h.push (.cells ([] : List Value).toArray 64)) 64 2 ⟨some ⟨h.size, 0, none⟩, 0, 0⟩ (ecs []) :=
  ⟨by simp, by simp [maxLen], .inr ⟨_, _, rfl, hC, Blk.push h [] 64, Nat.le_refl _, by simp, by simp⟩⟩
theorem ecs_take (vs : List S_api_Entry) (n : Nat) : ecs (vs.take n) = (ecs vs).take (n * 2) := by
  apply List.ext_getElem?
  intro j
  have e1 := ecs_get (vs.take n) (j / 2) (j % 2) (by omega)
  have e2 := ecs_get vs (j / 2) (j % 2) (by omega)
  rw [show j / 2 * 2 + j % 2 = j from by omega] at e1 e2
  rw [e1, List.getElem?_take, List.getElem?_take, e2]
  by_cases hj : j < n * 2
  · rw [if_pos hj, if_pos (by omega)]
  · rw [if_neg hj, if_neg (by omega)]; rfl
theorem Upd.of_push {c : Nat} (h : Heap) (o : Obj) : Upd c h (h.push o) := Upd.of_ext (Ext.push h o (Nat.le_refl _))
theorem Upd.set' {c : Nat} (h : Heap) (i : Nat) (v : Value) : Upd c h (setH h ⟨c, i, none⟩ v) := ⟨by rw [setH_size]; exact Nat.le_refl _, fun j hj hne => setH_other (by simpa using hne)⟩
theorem rCut_ok {p : Int} {k : Int → Heap → Prop} (L : RL B h b ix tm es s vs) (hB : B ≤ h.size) (x0 : 0 ≤ ix) (x1 : ix ≤ 4611686018427387904) (p0 : 0 ≤ p) (p1 : p < 18446744073709551616) (hl : es.length ≤ 1000000)
    (H : ∀ h' s' vs', RL B h' b (cutRes ix tm es p).1 (cutRes ix tm es p).2.1 (cutRes ix tm es p).2.2.1 s' vs' → Upd b h h' → (s' = s ∨ ∀ g, s'.blk = some g → h.size ≤ g) → k (cutRes ix tm es p).2.2.2 h') : ref23_Log_Cut (some ⟨b, 0, none⟩) p k h := by
  unfold ref23_Log_Cut
  refine rTerm_ok L x0 x1 (by omega) p0 p1 ?_
  by_cases ht : (termOf ix tm es p).2 = 0
  · rw [if_neg (by simpa using ht)]
    have e : cutRes ix tm es p = (p, (termOf ix tm es p).1, es.drop (p - ix).toNat, 0) := by unfold cutRes; rw [if_neg (by simp [ht])]
    rw [e] at H
    dsimp only at H
    have hb := termOf_ok ht
    have A := L.e.ents
    have al := A.l
    have cap := L.e.cap
    have lv := L.e.c.l
    refine ⟨_, rfl, _, L.c2, _, L.c0, ?_⟩
    rw [wrapU64 (x := p - ix) (by omega) (by omega)]
    obtain ⟨n, hn⟩ : ∃ n : Nat, (n : Int) = p - ix := ⟨(p - ix).toNat, by omega⟩
    rw [← hn] at ⊢ H
    rw [Int.toNat_natCast] at ⊢ H
    refine ⟨_, by omega, by omega, by omega, by omega, rfl, _, _, rfl, rfl, ?_⟩
    have R0 := row0 (C := h.size) h (Nat.le_refl _)
    have W1 := Ext.push h (.cells ([] : List Value).toArray 64) (Nat.le_refl _)
    have hsz : (h.push (.cells ([] : List Value).toArray 64)).size = h.size + 1 := by simp
    obtain ⟨h1, e1⟩ : ∃ x, x = h.push (.cells ([] : List Value).toArray 64) := ⟨_, rfl⟩
    rw [← e1] at R0 W1 hsz ⊢
    have L1 := L.ext hB W1
    have S1 := L1.e.slc.sub (w := 2) (l := n) (u := (s.len : Int).toNat) (m := (s.cap : Int).toNat) (by omega) (by omega)
    rw [List.take_of_length_le (by rw [List.length_drop, ecs_len]; omega), ecs_drop] at S1
    refine ⟨L1.c0, L1.c2, _, S1, ?_⟩
    have hl2 : (ecs (vs.drop n)).length = (subS s 2 n (s.len : Int).toNat (s.cap : Int).toNat).len * 2 := by
      rw [ecs_len, List.length_drop, subS_len]; omega
    have hsl : (subS s 2 n (s.len : Int).toNat (s.cap : Int).toNat).len = (s.len : Int).toNat - n := rfl
    refine App.row R0 (by omega) rfl hl2 (ecs_one _) (by rw [hsl]; dsimp only; omega) (by rw [hsl]; dsimp only [maxLen]; omega) fun s' h3 R3 _ z3 F3 b3 => ?_
    simp only [ecs, List.flatMap_nil, List.nil_append] at R3
    have old : ∀ g, g < h.size → h3[g]? = h[g]? := fun g hg => by
      rw [F3 g (by omega) (by simp [Slc.blk]; omega)]
      exact W1.block g hg
    have K3 := L.k.old (old b L.k.lt)
    refine ⟨_, K3.wr (i := 2) (by simp), rfl, ?_⟩
    have K4 := K3.set (i := 2) (v := Slc.v s')
    refine ⟨_, K4.wr (i := 0) (by simp), rfl, ?_⟩
    have K5 := K4.set (i := 0) (v := .int .u64 p)
    refine ⟨_, K5.wr (i := 1) (by simp), rfl, ?_⟩
    have K6 := K5.set (i := 1) (v := .int .u64 (termOf ix tm es p).1)
    have U6 : Upd b h3 (setH (setH (setH h3 ⟨b, 2, none⟩ (Slc.v s')) ⟨b, 0, none⟩ (.int .u64 p)) ⟨b, 1, none⟩ (.int .u64 (termOf ix tm es p).1)) := ((Upd.set' _ _ _).trans (Upd.set' _ _ _)).trans (Upd.set' _ _ _)
    have e6 : (setH (setH (setH h3 ((⟨b, 0, none⟩ : Addr).add 2) (Slc.v s')) ⟨b, 0, none⟩ (.int .u64 p)) ((⟨b, 0, none⟩ : Addr).add 1) (.int .u64 (termOf ix tm es p).1)) = (setH (setH (setH h3 ⟨b, 2, none⟩ (Slc.v s')) ⟨b, 0, none⟩ (.int .u64 p)) ⟨b, 1, none⟩ (.int .u64 (termOf ix tm es p).1)) := by simp only [add_mk, Nat.zero_add]
    rw [e6]
    generalize setH (setH (setH h3 ⟨b, 2, none⟩ (Slc.v s')) ⟨b, 0, none⟩ (.int .u64 p)) ⟨b, 1, none⟩ (.int .u64 (termOf ix tm es p).1) = h6 at *
    have U : Upd b h h6 := (Upd.of_ext ⟨by omega, old⟩).trans U6
    have XB : Ext B h h6 := U.ext L.hb hB
    refine H h6 s' _ ⟨K6, RE.of_row (R3.keep fun g hg => U6.block g (R3.bd hg).2 fun e => R3.ne_blk K3 (by decide) (by rw [hg, e])) ((L.e.c.to XB).drop n) hB, L.hb⟩ U (.inr fun g hg => (R3.bd hg).1)
  · have e : cutRes ix tm es p = (ix, tm, es, (termOf ix tm es p).2) := by unfold cutRes; rw [if_pos ht]
    rw [e] at H
    rw [if_pos (by simpa using ht)]
    exact H h s vs L (Upd.refl _ _) (.inl rfl)
/-- one entry more of the document's -/
theorem rj4_ok {C : Nat} {t0 : Option Addr} {t1 i : Int} {p3 out : Slc} {cur more : List Ent} {vo vm : List S_api_Entry} {e : Ent} {k : Int × Int → Heap → Prop} {nx : Slc × Int → Heap → Prop} (hC : C ≤ h.size) (hB : B ≤ C)
    (R : Row C h 64 2 out (ecs vo)) (c : CE B h cur vo) (M : RE B h p3 more vm) (i0 : 0 ≤ i) (he : more[i.toNat]? = some e) (hl : cur.length ≤ 1000000) (hi : i ≤ 1000000)
    (H : ∀ s' h' vo', Row C h' 64 2 s' (ecs vo') → CE B h' (cur ++ [e]) vo' → Ext C h h' → nx (s', i + 1) h') : ref23_Log_Append_j4 t0 t1 p3 i out k nx h := by
  unfold ref23_Log_Append_j4
  obtain ⟨v, hv, E⟩ := M.get he
  obtain ⟨a, ha, Cs⟩ := M.cells hv
  have hlt := (List.getElem?_eq_some_iff.1 he).1
  have ml := M.sl
  refine ⟨a, ha, i0, by omega, v, Cs, _, _, rfl, rfl, ?_⟩
  have lo := R.1
  rw [ecs_len, c.l] at lo
  refine App.row (R.pushed _) (by simp; omega) rfl rfl (cs_one _) (by omega) (by simp only [maxLen]; omega) fun s' h3 R3 _ z3 F3 _ => ?_
  simp at z3
  unfold ref23_Log_Append_j2
  rw [wrapI64 (by omega) (by omega)]
  have X : Ext C h h3 := ⟨by omega, fun g hg => by rw [F3 g (by simp; omega) fun e => by have := (R.bd e).1; omega, Array.getElem?_push, if_neg (by omega)]⟩
  exact ⟨_, rfl, H s' h3 (vo ++ [v]) (by rw [ecs_snoc]; exact R3) ((c.to (X.mono hB)).snoc fun h2 Y => E h2 ((X.mono hB).trans Y)) X⟩
theorem rAppend_ok {p t : Int} {p3 : Slc} {more : List Ent} {vm : List S_api_Entry} {k : Int × Int → Heap → Prop} (L : RL B h b ix tm es s vs) (hB : B ≤ h.size) (M : ∀ h', Ext B h h' → RE B h' p3 more vm)
    (x0 : 0 ≤ ix) (x1 : ix ≤ 4611686018427387904) (p0 : 0 ≤ p) (p1 : p ≤ 4611686018427387904) (hl : es.length ≤ 10000) (hm : more.length ≤ 10000)
    (H : ∀ h' s' vs', RL B h' b ix tm (appRes ix tm es p t more).1 s' vs' → Upd b h h' → (s' = s ∨ ∀ g, s'.blk = some g → h.size ≤ g) → k (appRes ix tm es p t more).2 h') : ref23_Log_Append (some ⟨b, 0, none⟩) p t p3 k h := by
  unfold ref23_Log_Append
  refine rTerm_ok L x0 x1 (by omega) p0 (by omega) ?_
  refine ⟨_, rfl, _, L.c0, ?_⟩
  by_cases hn : p ≥ ix ∧ ¬ ((termOf ix tm es p).2 = 0 ∧ (termOf ix tm es p).1 = t)
  · rw [if_pos (by
      simp only [Bool.and_eq_true, decide_eq_true_eq, Bool.or_eq_true, bne_iff_ne]
      refine ⟨hn.1, ?_⟩
      by_cases h2 : (termOf ix tm es p).2 = 0
      · exact .inr fun h3 => hn.2 ⟨h2, h3⟩
      · exact .inl h2)]
    have e : appRes ix tm es p t more = (es, 0, 6) := by unfold appRes; rw [if_pos hn]
    rw [e] at H
    exact H h s vs L (Upd.refl _ _) (.inl rfl)
  · rw [if_neg (by
      simp only [Bool.and_eq_true, decide_eq_true_eq, Bool.or_eq_true, bne_iff_ne]
      rintro ⟨h1, h2⟩
      exact hn ⟨h1, fun h3 => h2.elim (fun h4 => h4 h3.1) fun h4 => h4 h3.2⟩)]
    have e : appRes ix tm es p t more = (if (appN ix p es more more.length).length > 64 then (es, 0, 8) else (appN ix p es more more.length, p + more.length, 0)) := by unfold appRes; rw [if_neg hn]
    rw [e] at H
    have al := L.e.ents.l
    have lv := L.e.c.l
    refine ⟨_, _, rfl, rfl, ?_⟩
    have R0 := row0 (C := h.size) h (Nat.le_refl _)
    have W1 := Ext.push h (.cells ([] : List Value).toArray 64) (Nat.le_refl _)
    have hsz : (h.push (.cells ([] : List Value).toArray 64)).size = h.size + 1 := by simp
    obtain ⟨h1, e1⟩ : ∃ x, x = h.push (.cells ([] : List Value).toArray 64) := ⟨_, rfl⟩
    rw [← e1] at R0 W1 hsz ⊢
    have L1 := L.ext hB W1
    refine ⟨_, L1.c2, _, L1.e.slc, ?_⟩
    refine App.row R0 (by omega) rfl (by rw [ecs_len]; omega) (ecs_one _) (by dsimp only; omega) (by dsimp only [maxLen]; omega) fun s0 h3 R3 _ z3 F3 _ => ?_
    simp only [ecs, List.flatMap_nil, List.nil_append] at R3
    have old : ∀ g, g < h.size → h3[g]? = h[g]? := fun g hg => by
      rw [F3 g (by omega) (by simp [Slc.blk]; omega)]
      exact W1.block g hg
    have X3 : Ext h.size h h3 := ⟨by omega, old⟩
    refine ⟨fun q h' => ∃ vo, 0 ≤ q.2 ∧ q.2 ≤ more.length ∧ Row h.size h' 64 2 q.1 (ecs vo) ∧ CE B h' (appN ix p es more q.2.toNat) vo ∧ Ext h.size h h', fun q _ => (more.length - q.2).toNat, ⟨vs, by simp, by simp, R3, L.e.c.to (X3.mono hB), X3⟩, ?_⟩
    rintro out i h4 ⟨vo, i0, i1, R, c, X⟩
    dsimp only at i0 i1 R c
    have L4 := L.ext hB X
    have z4 := X.size
    have ln := appN_len ix p es more i.toNat
    have lo := R.1
    rw [ecs_len, c.l] at lo
    unfold ref23_Log_Append_l1b
    have M4 := M h4 (X.mono hB)
    have ml := M4.sl
    by_cases hi : i < more.length
    · rw [if_pos (by simpa [ml] using hi)]
      have he : more[i.toNat]? = some (more[i.toNat]'(by omega)) := by simp
      have hstep : appN ix p es more (i + 1).toNat = appStep ix p (appN ix p es more i.toNat) i.toNat (more[i.toNat]'(by omega)) := by
        rw [show (i + 1).toNat = i.toNat + 1 from by omega]; simp only [appN, he]
      generalize more[i.toNat]'(by omega) = x at he hstep
      generalize appN ix p es more i.toNat = cur at *
      rw [wrapU64 (x := i) (by omega) (by omega), wrapU64 (x := p + i) (by omega) (by omega), wrapU64 (x := p + i + 1) (by omega) (by omega)]
      refine ⟨_, rfl, _, rfl, _, L4.c0, ?_⟩
      have stay : appStep ix p cur i.toNat x = cur → ref23_Log_Append_j2 (some ⟨b, 0, none⟩) p p3 i out k (fun q h' => (∃ vo, 0 ≤ q.2 ∧ q.2 ≤ more.length ∧ Row h.size h' 64 2 q.1 (ecs vo) ∧ CE B h' (appN ix p es more q.2.toNat) vo ∧ Ext h.size h h') ∧ (more.length - q.2).toNat < (more.length - i).toNat) h4 := fun hs => by
        unfold ref23_Log_Append_j2
        rw [wrapI64 (by omega) (by omega)]
        exact ⟨_, rfl, ⟨vo, by dsimp only; omega, by dsimp only; omega, R, by dsimp only; rw [hstep, hs]; exact c, X⟩, by dsimp only; omega⟩
      by_cases h1 : p + i + 1 ≤ ix
      · rw [if_pos (by simpa using h1)]
        exact stay (by unfold appStep; rw [if_pos (by omega)])
      · rw [if_neg (by simpa using h1)]
        refine ⟨_, L4.c0, _, rfl, ?_⟩
        rw [wrapU64 (x := p + i + 1 - ix) (by omega) (by omega), wrapU64 (x := p + i + 1 - ix - 1) (by omega) (by omega), wrapI64 (x := p + i + 1 - ix - 1) (by omega) (by omega)]
        obtain ⟨q, hq⟩ : ∃ q : Nat, (q : Int) = p + i + 1 - ix - 1 := ⟨(p + i + 1 - ix - 1).toNat, by omega⟩
        have hq2 : (p + (i.toNat : Int) - ix).toNat = q := by omega
        rw [← hq]
        have put : ∀ {out' : Slc} {vo' : List S_api_Entry} {cur' : List Ent} {h5 : Heap}, Row h.size h5 64 2 out' (ecs vo') → CE B h5 cur' vo' → Ext h.size h4 h5 → cur'.length ≤ 20000 → appStep ix p cur i.toNat x = cur' ++ [x] → ref23_Log_Append_j4 (some ⟨b, 0, none⟩) p p3 i out' k (fun q h' => (∃ vo, 0 ≤ q.2 ∧ q.2 ≤ more.length ∧ Row h.size h' 64 2 q.1 (ecs vo) ∧ CE B h' (appN ix p es more q.2.toNat) vo ∧ Ext h.size h h') ∧ (more.length - q.2).toNat < (more.length - i).toNat) h5 := fun {out' vo' cur' h5} R5 c5 X5 l5 hs => by
          have XX := X.trans X5
          refine rj4_ok (C := h.size) XX.size hB R5 c5 (M h5 (XX.mono hB)) i0 he (by omega) (by omega) fun s' h6 vo6 R6 c6 X6 => ?_
          exact ⟨⟨vo6, by dsimp only; omega, by dsimp only; omega, R6, by dsimp only; rw [hstep, hs]; exact c6, XX.trans X6⟩, by dsimp only; omega⟩
        have g3f : ∀ hs : ¬ (q < cur.length ∧ (cur.getD q (0, [])).1 = x.1), ref23_Log_Append_g3 (some ⟨b, 0, none⟩) p p3 out i q false k (fun q h' => (∃ vo, 0 ≤ q.2 ∧ q.2 ≤ more.length ∧ Row h.size h' 64 2 q.1 (ecs vo) ∧ CE B h' (appN ix p es more q.2.toNat) vo ∧ Ext h.size h h') ∧ (more.length - q.2).toNat < (more.length - i).toNat) h4 := fun hs => by
          unfold ref23_Log_Append_g3
          rw [if_neg (by simp)]
          by_cases hlt : q < cur.length
          · rw [if_pos (by simp; omega)]
            refine ⟨_, _, rfl, rfl, _, by omega, by omega, by have := R.cap; omega, by omega, rfl, ?_⟩
            have R0 := row0 (C := h.size) h4 z4
            have W1 := Ext.push h4 (.cells ([] : List Value).toArray 64) (Nat.le_refl _)
            have hsz : (h4.push (.cells ([] : List Value).toArray 64)).size = h4.size + 1 := by simp
            obtain ⟨h5, e5⟩ : ∃ x, x = h4.push (.cells ([] : List Value).toArray 64) := ⟨_, rfl⟩
            rw [← e5] at R0 W1 hsz ⊢
            have R5 := R.ext W1 fun g hg => (R.bd hg).2
            have cp := R.cap
            have S5 := R5.slc.sub (w := 2) (l := (0 : Int).toNat) (u := (q : Int).toNat) (m := (out.cap : Int).toNat) (by simp) (by omega)
            rw [show (q : Int).toNat - (0 : Int).toNat = q from by simp, show (0 : Int).toNat * 2 = 0 from rfl, List.drop_zero, ← ecs_take] at S5
            refine ⟨_, S5, ?_⟩
            have hsl : (subS out 2 (0 : Int).toNat (q : Int).toNat (out.cap : Int).toNat).len = q := by rw [subS_len]; simp
            have lvo := c.l
            refine App.row R0 (by omega) rfl (by rw [hsl, ecs_len, List.length_take]; omega) (ecs_one _) (by rw [hsl]; dsimp only; omega) (by rw [hsl]; dsimp only [maxLen]; omega) fun s6 h6 R6 _ z6 F6 _ => ?_
            simp only [ecs, List.flatMap_nil, List.nil_append] at R6
            have X6 : Ext h4.size h4 h6 := ⟨by omega, fun g hg => by
              rw [F6 g (by omega) (by simp [Slc.blk]; omega)]
              exact W1.block g hg⟩
            refine put R6 ((c.to (X6.mono (by omega))).take q) (X6.mono z4) (by rw [List.length_take]; omega) ?_
            unfold appStep
            rw [if_neg (by omega), hq2, if_pos hlt, if_neg fun h => hs ⟨hlt, h⟩]
          · rw [if_neg (by simp; omega)]
            refine put R c (Ext.refl _ _) (by omega) ?_
            unfold appStep
            rw [if_neg (by omega), hq2, if_neg hlt]
        by_cases hlt : q < cur.length
        · rw [if_pos (by simp; omega)]
          have E := (RE.of_row (B := B) R c hB).ents
          have hc : cur[q]? = some cur[q] := by simp [hlt]
          obtain ⟨a, v, a1, a2, _⟩ := E.get hc
          obtain ⟨a', v', c1, c2, _⟩ := M4.ents.get he
          refine ⟨a, a1, by omega, by omega, _, by rw [Int.toNat_natCast]; exact a2, a', c1, i0, by omega, _, c2, ?_⟩
          have hd : cur.getD q (0, []) = cur[q] := by rw [List.getD_eq_getElem?_getD, hc]; rfl
          by_cases hs : (cur[q]).1 = x.1
          · rw [show (cur[q].1 == x.1) = true from by simpa using hs]
            unfold ref23_Log_Append_g3
            rw [if_pos rfl]
            refine stay ?_
            unfold appStep
            rw [if_neg (by omega), hq2, if_pos hlt, hd, if_pos hs]
          · rw [show (cur[q].1 == x.1) = false from by simpa using hs]
            exact g3f fun h => hs (by rw [← hd]; exact h.2)
        · rw [if_neg (by simp; omega)]
          exact g3f fun h => hlt h.1
    · rw [if_neg (by simpa [ml] using hi)]
      have hi2 : i.toNat = more.length := by omega
      rw [hi2] at c ln
      have lo2 : out.len = (appN ix p es more more.length).length := by rw [hi2] at lo; omega
      rw [lo2]
      by_cases h64 : (appN ix p es more more.length).length > 64
      · rw [if_pos (by rw [decide_eq_true_eq]; omega)]
        rw [if_pos h64] at H
        exact H h4 s vs L4 (Upd.of_ext X) (.inl rfl)
      · rw [if_neg (by rw [decide_eq_true_eq]; omega)]
        rw [if_neg h64] at H
        refine ⟨_, rfl, _, L4.k.wr (i := 2) (by simp), rfl, _, rfl, ?_⟩
        rw [add_mk, Nat.zero_add, ml, wrapU64 (x := (more.length : Int)) (by omega) (by omega), wrapU64 (x := p + more.length) (by omega) (by omega)]
        have K5 := L4.k.set (i := 2) (v := Slc.v out)
        have U5 : Upd b h4 (setH h4 ⟨b, 2, none⟩ (Slc.v out)) := Upd.set' _ _ _
        generalize setH h4 ⟨b, 2, none⟩ (Slc.v out) = h5 at *
        have XB : Ext B h4 h5 := U5.ext L.hb (by omega)
        exact H h5 out vo ⟨K5, RE.of_row (R.keep fun g hg => U5.block g (R.bd hg).2 fun e => R.ne_blk L4.k (by decide) (by rw [hg, e])) (c.to XB) hB, L.hb⟩ ((Upd.of_ext X).trans U5) (.inr fun g hg => (R.bd hg).1)
end Go.Q.Ya

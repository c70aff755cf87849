/- A part of the proof of statements of this seat: lemmas, no statement of their own. -/
import Derived.Test.YtgldbcbnficihaaYaApp2
set_option linter.unusedVariables false
set_option linter.unusedSimpArgs false
namespace Go.Q.Ya
/-- the turns over the entries that come in -/
def AppI (B b : Nat) (ix tm p : Int) (es more : List Ent) (s : Slc) (vs : List S_api_Entry) (h : Heap) (q : Slc × Int) (h' : Heap) : Prop :=
  ∃ vsn, 0 ≤ q.2 ∧ q.2 ≤ more.length ∧ Own B h' q.1 (appN ix p es more q.2.toNat) vsn ∧ LogAt B h' b ix tm es s vs ∧ LFr b s h h' ∧ (q.1.blk = s.blk ∨ ∃ g, q.1.blk = some g ∧ h.size ≤ g) ∧ (q.1.blk = s.blk → s.len ≤ q.1.len ∨ q.1.cap ≤ q.1.len)
theorem LogAt.keep {B b : Nat} {h h' : Heap} {ix tm : Int} {es : List Ent} {s : Slc} {vs : List S_api_Entry} (L : LogAt B h b ix tm es s vs) (kb : h'[b]? = h[b]?) (kr : Row B h' 64 2 s (ecs vs)) (k5 : ∀ g cs, Blk h g cs 5 → h'[g]? = h[g]?) : LogAt B h' b ix tm es s vs := by
  refine ⟨L.k.old kb, ⟨kr, L.o.l, fun i v e hv he => ⟨(L.o.e i v e hv he).1, (L.o.e i v e hv he).2.keep fun g hg => ?_⟩⟩, L.hb⟩
  rcases (L.o.e i v e hv he).2.2.2 with ⟨k, _⟩ | ⟨g', cur, a1, a2, a3, _⟩
  · simp [Slc.blk, k] at hg
  · simp [Slc.blk, a1] at hg; subst hg
    exact k5 _ _ a3
theorem subS_blk (s : Slc) (n : Nat) : (subS s 2 0 n n).blk = s.blk := by
  have : (subS s 2 0 n n).a = s.a := by
    simp only [subS]
    split
    · rfl
    · cases s.a <;> simp [Addr.add]
  simp only [Slc.blk, this]
theorem app_l2_ok {B b : Nat} {ix tm p x3 : Int} {es more : List Ent} {p3 s : Slc} {vs : List S_api_Entry} {k : Int × Int → Heap → Prop} {h : Heap} (L : LogAt B h b ix tm es s vs) (hB : B ≤ h.size) (hA : ∀ h', LFr b s h h' → EntsAt h' p3 more) (oke : esOk es) (okm : esOk more)
    (x0 : 0 ≤ ix) (x1 : ix ≤ 4611686018427387904) (p0 : 0 ≤ p) (p1 : p ≤ 4611686018427387904) (hl : es.length ≤ 1000000) (hm : more.length ≤ 1000000)
    (H : ∀ h' s' vs', LogAt B h' b ix tm (if (appN ix p es more more.length).length > 64 then es else appN ix p es more more.length) s' vs' → LFr b s h h' → (s'.blk = s.blk ∨ ∃ g, s'.blk = some g ∧ h.size ≤ g) → k (if (appN ix p es more more.length).length > 64 then (0, 8) else (x3, 0)) h') :
    rlog_Log_Append_l2 (some ⟨b, 0, none⟩) p x3 p3 (more.length : Int) s 0 k h := by
  refine ⟨AppI B b ix tm p es more s vs h, fun q _ => (more.length - q.2).toNat, ⟨vs, by simp, by simp, L.o, L, LFr.refl _ _ _, .inl rfl, fun _ => .inl (Nat.le_refl _)⟩, ?_⟩
  rintro now i h1 ⟨vsn, i0, i1, O, L1, F, nb, nc⟩
  simp only at i0 i1 O nb nc
  have sB : ∀ g, s.blk = some g → B ≤ g := fun g hg => (L.o.r.bd hg).1
  have Xb : Ext B h h1 := F.below hB L.hb sB
  have hcl := appN_len ix p es more i.toNat
  have z1 := F.size
  unfold rlog_Log_Append_l2b
  by_cases hi : i < more.length
  · rw [if_pos (by simpa using hi)]
    have hie : i.toNat < more.length := by omega
    have he : more[i.toNat]? = some more[i.toNat] := by simp [hie]
    have hstep : appN ix p es more (i + 1).toNat = appStep ix p (appN ix p es more i.toNat) i.toNat more[i.toNat] := by
      rw [show (i + 1).toNat = i.toNat + 1 from by omega]; simp only [appN, he]
    generalize more[i.toNat] = e at he hstep
    generalize appN ix p es more i.toNat = cur at *
    have A := hA h1 F
    have okE : esOk [e] := fun f hf => by simp at hf; subst hf; exact okm _ (List.mem_of_getElem? he)
    have na : p3.a ≠ none := fun hn => by have := A.n hn; simp [this] at hie
    obtain ⟨a, ha⟩ := Option.ne_none_iff_exists'.1 na
    obtain ⟨v, c1, c2⟩ := A.at' a ha i.toNat e he
    refine ⟨a, ha, i0, by rw [A.l]; exact hi, v, c1, _, _, rfl, rfl, ?_⟩
    have P0 := Blk.push h1 (S_api_Entry.cs ⟨0, ⟨none, 0, 0⟩⟩) 64
    have P1 := P0.sets_all (vs := S_api_Entry.cs v) (by simp [S_api_Entry.cs])
    have X2 : Ext h1.size h1 (setsH (h1.push (.cells (S_api_Entry.cs ⟨0, ⟨none, 0, 0⟩⟩).toArray 64)) ⟨h1.size, 0, none⟩ 0 (S_api_Entry.cs v)) := (Ext.push h1 _ (Nat.le_refl _)).trans (Ext.sets _ _ _ (Nat.le_refl _))
    refine ⟨_, WrsAt.of_blk P0 (by simp [S_api_Entry.cs]), rfl, ?_⟩
    generalize setsH (h1.push (.cells (S_api_Entry.cs ⟨0, ⟨none, 0, 0⟩⟩).toArray 64)) ⟨h1.size, 0, none⟩ 0 (S_api_Entry.cs v) = h2 at *
    have L2 := L1.ext X2
    have O2 := O.ext X2
    have F2 := F.ext X2
    have z2 := X2.size
    rw [wrapU64 (x := i) (by omega) (by omega), wrapU64 (x := p + i) (by omega) (by omega), wrapU64 (x := p + i + 1) (by omega) (by omega)]
    have stay : appStep ix p cur i.toNat e = cur → rlog_Log_Append_j3 (some ⟨b, 0, none⟩) p x3 p3 (more.length : Int) i now k (fun q h' => AppI B b ix tm p es more s vs h q h' ∧ (more.length - q.2).toNat < (more.length - i).toNat) h2 := fun hs => by
      unfold rlog_Log_Append_j3
      rw [wrapI64 (by omega) (by omega)]
      exact ⟨⟨vsn, by dsimp only; omega, by dsimp only; omega, by dsimp only; rw [hstep, hs]; exact O2, L2, F2, nb, nc⟩, by dsimp only; omega⟩
    have more' : ∀ {t : Slc} {cur' : List Ent} {vt : List S_api_Entry}, Own B h2 t cur' vt → t.blk = now.blk → cur'.length ≤ cur.length → (t.blk = s.blk → s.len ≤ t.len ∨ t.cap ≤ t.len) → appStep ix p cur i.toNat e = cur' ++ [e] →
        rlog_Log_Append_j4 (some ⟨b, 0, none⟩) p x3 ⟨h1.size, 0, none⟩ p3 (more.length : Int) i t k (fun q h' => AppI B b ix tm p es more s vs h q h' ∧ (more.length - q.2).toNat < (more.length - i).toNat) h2 := fun {t cur' vt} Ot tb tl tc hs => by
      have nb' : t.blk = s.blk ∨ ∃ g, t.blk = some g ∧ h.size ≤ g := by rw [tb]; exact nb
      refine j4_ok Ot P1 (c2.ext X2) okE (by omega) (by omega) fun s' h3 vs' O3 z3 ho hb' hk => ?_
      unfold rlog_Log_Append_j3
      rw [wrapI64 (by omega) (by omega)]
      have kb : h3[b]? = h2[b]? := ho b L2.k.lt (Ot.r.ne_blk L2.k (by decide))
      have L3 : LogAt B h3 b ix tm es s vs := by
        refine L2.keep kb (hk B s _ L2.o.r ?_) fun g cs K => ho g K.lt (Ot.r.ne_blk K (by decide))
        by_cases hbb : s.blk = t.blk
        · rcases tc hbb.symm with h | h
          · exact .inl h
          · exact .inr (.inr h)
        · exact .inr (.inl hbb)
      have l3 := O3.len
      have lt := Ot.len
      simp at l3
      refine ⟨⟨vs', by dsimp only; omega, by dsimp only; omega, by dsimp only; rw [hstep, hs]; exact O3, L3, ⟨by have := F2.size; omega, fun j hj hjb hjs => ?_⟩, ?_, fun hsb => ?_⟩, by dsimp only; omega⟩
      · rw [ho j (by omega) fun hc => ?_]
        · exact F2.old j hj hjb hjs
        · rcases nb' with h | ⟨g, h, hg⟩
          · rw [h] at hc; exact hjs hc
          · rw [h] at hc; cases hc; omega
      · dsimp only
        rcases hb' with ⟨h, _⟩ | ⟨g, h, hg⟩
        · rw [h]; exact nb'
        · exact .inr ⟨g, h, by omega⟩
      · dsimp only at hsb ⊢
        rcases hb' with ⟨h, hr⟩ | ⟨g, h, hg⟩
        · rcases tc (by rw [← h]; exact hsb) with h5 | h5
          · left; omega
          · omega
        · rw [hsb] at h
          have := (L.o.r.bd h).2
          omega
    refine ⟨_, rfl, _, rfl, _, L2.c0, ?_⟩
    by_cases hle : p + i + 1 ≤ ix
    · rw [if_pos (by simpa using hle)]
      exact stay (by unfold appStep; rw [if_pos (by omega)])
    · rw [if_neg (by simpa using hle)]
      have ln := O2.len
      refine ⟨ix, L2.c0, _, rfl, ?_⟩
      rw [wrapU64 (x := p + i + 1 - ix) (by omega) (by omega), wrapU64 (x := p + i + 1 - ix - 1) (by omega) (by omega), wrapI64 (x := p + i + 1 - ix - 1) (by omega) (by omega)]
      have ek : (p + i + 1 - ix - 1).toNat = (p + (i.toNat : Int) - ix).toNat := by omega
      by_cases hk : p + i + 1 - ix - 1 < (now.len : Int)
      · rw [if_pos (by simpa using hk)]
        have hkc : (p + (i.toNat : Int) - ix).toNat < cur.length := by omega
        have hce : cur[(p + (i.toNat : Int) - ix).toNat]? = some cur[(p + (i.toNat : Int) - ix).toNat] := by simp [hkc]
        have hgd : cur.getD (p + (i.toNat : Int) - ix).toNat (0, []) = cur[(p + (i.toNat : Int) - ix).toNat] := by rw [List.getD_eq_getElem?_getD, List.getElem?_eq_getElem hkc]; rfl
        obtain ⟨a', w, d1, d2, _⟩ := O2.ents.get hce
        refine ⟨a', d1, by omega, hk, _, by rw [ek]; exact d2, v.f_Term, by rw [P1.cell]; rfl, ?_⟩
        rw [c2.t]
        by_cases ht : cur[(p + (i.toNat : Int) - ix).toNat].1 = e.1
        · rw [if_pos (by simpa using ht)]
          exact stay (by unfold appStep; rw [if_neg (by omega), if_pos hkc, hgd, if_pos ht])
        · rw [if_neg (by simpa using ht)]
          have cp := O2.r.cap
          refine ⟨_, by decide, by omega, Int.le_refl _, by omega, rfl, ?_⟩
          rw [ek, show (0 : Int).toNat = 0 from rfl]
          refine more' (O2.take (by omega)) (subS_blk _ _) (by rw [List.length_take]; omega) (fun _ => .inr (by rw [subS_len, subS_cap]; exact Nat.le_refl _)) ?_
          unfold appStep; rw [if_neg (by omega), if_pos hkc, hgd, if_neg ht]
      · rw [if_neg (by simpa using hk)]
        refine more' O2 rfl (Nat.le_refl _) nc ?_
        unfold appStep; rw [if_neg (by omega), if_neg (by omega)]
  · rw [if_neg (by simpa using hi)]
    have hin : i.toNat = more.length := by omega
    rw [hin] at O
    have ln := O.len
    by_cases h64 : (appN ix p es more more.length).length > 64
    · rw [if_pos (by simp; omega)]
      simp only [if_pos h64] at H
      exact H h1 s vs L1 F (.inl rfl)
    · rw [if_neg (by simp; omega)]
      have K := L1.k.set (i := 2) (v := Slc.v now)
      refine ⟨_, rfl, _, ?_, rfl, ?_⟩
      · rw [add_mk]; exact L1.k.wr (by simp)
      · have hold : ∀ j, j ≠ b → (setH h1 ((⟨b, 0, none⟩ : Addr).add 2) (Slc.v now))[j]? = h1[j]? := fun j hj => setH_other (by simpa using hj)
        have := H (setH h1 ((⟨b, 0, none⟩ : Addr).add 2) (Slc.v now)) now vsn ?_ ⟨by rw [setH_size]; exact F.size, fun j hj hjb hjs => by rw [hold j hjb]; exact F.old j hj hjb hjs⟩ nb
        · simpa only [if_neg h64] using this
        · simp only [if_neg h64]
          have hne : now.blk ≠ some b := O.r.ne_blk L1.k (by decide)
          refine ⟨by rw [add_mk, Nat.zero_add]; exact K, ⟨O.r.keep fun g hg => hold g fun e => hne (by rw [← e]; exact hg), O.l, fun j v e hv he => ⟨(O.e j v e hv he).1, (O.e j v e hv he).2.keep fun g hg => hold g fun e2 => ?_⟩⟩, L.hb⟩
          subst e2
          exact (O.e j v e hv he).2.ne_blk L1.k (by decide) hg
end Go.Q.Ya

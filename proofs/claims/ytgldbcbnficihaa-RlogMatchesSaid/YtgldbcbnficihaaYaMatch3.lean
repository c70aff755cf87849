/- A part of the proof of statements of this seat: lemmas, no statement of their own. -/
import Derived.Test.YtgldbcbnficihaaYaMatch2
set_option linter.unusedVariables false
set_option linter.unusedSimpArgs false
namespace Go.Q.Ya
/-- three logs, each in memory of its own -/
structure LS (rows : List (List Ent)) (B : Nat) (h : Heap) (b9 : Nat) (bs : Nat → Nat) (ss : Nat → Slc) (es : Nat → List Ent) : Prop where
  p : Blk h b9 [.pointer (some ⟨bs 0, 0, none⟩), .pointer (some ⟨bs 1, 0, none⟩), .pointer (some ⟨bs 2, 0, none⟩)] 54
  pb : B ≤ b9
  log : ∀ j, j < 3 → ∃ vs, LogAt B h (bs j) 0 0 (es j) (ss j) vs
  db : ∀ i j, i < 3 → j < 3 → i ≠ j → bs i ≠ bs j
  ds : ∀ i j, i < 3 → j < 3 → i ≠ j → ∀ g, (ss i).blk = some g → (ss j).blk ≠ some g
  good : ∀ j, j < 3 → Good rows (es j)
variable {rows : List (List Ent)} {B b9 : Nat} {bs : Nat → Nat} {sl : Nat → Slc} {es : Nat → List Ent}
theorem LS.ptr {h : Heap} (L : LS rows B h b9 bs sl es) {j : Nat} (hj : j < 3) : cellH h ((⟨b9, 0, none⟩ : Addr).add (j * 1)) = some (.pointer (some ⟨bs j, 0, none⟩)) := by
  rw [add_mk, L.p.cell]
  have : j = 0 ∨ j = 1 ∨ j = 2 := by omega
  rcases this with rfl | rfl | rfl <;> rfl
theorem LS.ext {h h' : Heap} (L : LS rows B h b9 bs sl es) (X : Ext h.size h h') : LS rows B h' b9 bs sl es :=
  ⟨L.p.ext X L.p.lt, L.pb, fun j hj => by obtain ⟨vs, l⟩ := L.log j hj; exact ⟨vs, l.ext X⟩, L.db, L.ds, L.good⟩
theorem if_same' {c : Bool} {p : Prop} (h : p) : (if c then p else p) := by split <;> exact h
/-- one append -/
theorem LS.app {h : Heap} (L : LS rows B h b9 bs sl es) (hB : B ≤ h.size) (rk : ∀ q ∈ rows, esOk q ∧ q.length ≤ 18) {j : Nat} (hj : j < 3) {p m : Nat} {t : Int} {s : Slc} {r : List Ent} (R : Good rows r) (hr : r.length ≤ 18) (rok : esOk r) (hm : p + m ≤ r.length) (ht : p = 0 ∨ ∃ e, r[p - 1]? = some e ∧ t = e.1)
    (hA : ∀ h', Ext B h h' → EntsAt h' s ((r.drop p).take m)) {k : Int × Int → Heap → Prop} (H : ∀ h' sl' es' r', LS rows B h' b9 bs sl' es' → Ext B h h' → k r' h') : rlog_Log_Append (some ⟨bs j, 0, none⟩) p t s k h := by
  obtain ⟨vs, l⟩ := L.log j hj
  have g := L.good j hj
  have el : (es j).length ≤ 18 := g.len fun q hq => (rk q hq).2
  have eok : esOk (es j) := g.ok fun q hq => (rk q hq).1
  have rb : ∀ g, (sl j).blk = some g → B ≤ g := fun g hg => (l.o.r.bd hg).1
  refine Append_ok l hB (fun h' F => hA h' (F.below hB l.hb rb)) eok (fun e he => rok e (List.mem_of_mem_drop (List.mem_of_mem_take he))) (by omega) (by omega) (by omega) (by omega) (by omega) (by rw [List.length_take, List.length_drop]; omega) fun h' s' vs' L' F hb => ?_
  have X := F.below hB l.hb rb
  refine H h' (fun i => if i = j then s' else sl i) (fun i => if i = j then (appRes 0 0 (es j) p t ((r.drop p).take m)).1 else es i) _ ⟨?_, L.pb, fun i hi => ?_, L.db, fun i i' hi hi' hne g hg => ?_, fun i hi => ?_⟩ X
  · refine L.p.old (F.old _ L.p.lt (fun e => ?_) fun e => ?_)
    · subst e
      have := (L.p.inj l.k).2; omega
    · obtain ⟨cur, K'⟩ := Row.blk_of l.o.r e
      have := (L.p.inj K').2; omega
  · by_cases e : i = j
    · subst e; simp only [if_pos rfl]; exact ⟨vs', L'⟩
    · simp only [if_neg e]
      obtain ⟨w, li⟩ := L.log i hi
      have nb : ∀ g cs E, Blk h g cs E → E ≠ 88 → g ≠ bs j := fun g cs E K hE e => by
        subst e
        have := (K.inj l.k).2; omega
      have ns : ∀ g cs E, Blk h g cs E → E ≠ 64 → (sl j).blk ≠ some g := fun g cs E K hE e => by
        obtain ⟨cur, K'⟩ := Row.blk_of l.o.r e
        have := (K.inj K').2; omega
      refine ⟨w, li.k.old (F.old _ li.k.lt (L.db i j hi hj e) (ns _ _ _ li.k (by omega))), li.o.keep (fun g hg => ?_) (fun g cs K => F.old _ K.lt (nb _ _ _ K (by omega)) (ns _ _ _ K (by omega))), li.hb⟩
      obtain ⟨cur, K'⟩ := Row.blk_of li.o.r hg
      exact F.old _ (li.o.r.bd hg).2 (nb _ _ _ K' (by omega)) (L.ds i j hi hj e g hg)
  · try dsimp only at hg
    try dsimp only
    by_cases e : i = j
    · rw [if_pos e] at hg
      have e' : i' ≠ j := fun h => hne (by omega)
      rw [if_neg e']
      rcases hb with hb | ⟨g2, hb, hlt⟩
      · rw [hb] at hg; exact L.ds j i' hj hi' (fun h => e' h.symm) g hg
      · rw [hb] at hg; cases hg
        intro hh
        obtain ⟨w, li⟩ := L.log i' hi'
        have := (li.o.r.bd hh).2; omega
    · rw [if_neg e] at hg
      by_cases e' : i' = j
      · rw [if_pos e']
        obtain ⟨w, li⟩ := L.log i hi
        rcases hb with hb | ⟨g2, hb, hlt⟩
        · rw [hb]; exact L.ds i j hi hj e g hg
        · rw [hb]; intro hh; cases hh
          have := (li.o.r.bd hg).2; omega
      · rw [if_neg e']; exact L.ds i i' hi hi' hne g hg
  · by_cases e : i = j
    · simp only [if_pos e]; exact appRes_good g R hm ht
    · simp only [if_neg e]; exact L.good i hi
theorem ite_t {c : Prop} [Decidable c] {A B : Prop} (hc : c) (h : A) : if c then A else B := by rw [if_pos hc]; exact h
/-- the end: a log that is none -/
theorem none_ok {nx1 : (Slc × Slc × Int) → Heap → Prop} {nx3 nx5 : Int → Heap → Prop} {k : Bool → Heap → Prop} {h : Heap} (H : ∀ h', Ext h.size h h' → k true h') : rlog_Log_Append none 0 0 (⟨none, 0, 0⟩ : Slc) (fun (r70 : Int × Int) h71 => if (r70.2 == 1) then (rlog_Log_Cut none 0 (fun (r78 : Int) h79 => law23_RlogMatches_g8 none (r78 == 1) k nx1 nx3 nx5 h79) h71) else (law23_RlogMatches_g8 none false k nx1 nx3 nx5 h71)) h := by
  unfold rlog_Log_Append
  refine ite_t rfl (ite_t rfl ?_)
  unfold rlog_Log_Cut
  refine ite_t rfl ?_
  unfold law23_RlogMatches_g8
  refine ite_t rfl ?_
  unfold rlog_Log_Entries
  refine ite_t rfl ?_
  unfold law23_RlogMatches_g9
  refine ite_t rfl ?_
  unfold rlog_Log_Newer rlog_Log_Last
  refine ite_t rfl ?_
  unfold law23_RlogMatches_g10
  refine ite_t rfl ?_
  exact awake23_ok fun h' X => H h' X
theorem l7_ok {t9 a b : Slc} {t16 x : Int} {k : Bool → Heap → Prop} {nx1 : (Slc × Slc × Int) → Heap → Prop} {nx3 nx5 : Int → Heap → Prop} {h : Heap} {es fs : List Ent} (A : EntsAt h a es) (C : EntsAt h b fs) (ca : a.len ≤ a.cap) (cb : b.len ≤ b.cap) (G : Good rows es) (K : Good rows fs) (ok : esOk es) (la : es.length ≤ 18) (lb : fs.length ≤ 18)
    (hx : -1 ≤ x ∧ x < es.length ∧ x < fs.length) (h16 : 0 ≤ t16 ∧ t16 < 3) (H : nx5 (t16 + 1) h) : law23_RlogMatches_l7 t9 t16 a b x k nx1 nx3 nx5 h := by
  refine ⟨fun i h' => -1 ≤ i ∧ i < es.length ∧ i < fs.length ∧ h' = h, fun i _ => (i + 1).toNat, ⟨hx.1, hx.2.1, hx.2.2, rfl⟩, ?_⟩
  rintro i h' ⟨i0, i1, i2, e⟩
  subst e
  have done : law23_RlogMatches_j6 t9 t16 k nx1 nx3 nx5 h' := by
    unfold law23_RlogMatches_j6
    exact ⟨_, rfl, by rw [wrapI64 (by omega) (by omega)]; exact H⟩
  unfold law23_RlogMatches_l7b
  by_cases hi : 0 ≤ i
  · rw [if_pos (by simpa using hi)]
    have h1 : i.toNat < es.length := by omega
    have h2 : i.toNat < fs.length := by omega
    have g1 : es[i.toNat]? = some es[i.toNat] := by simp [h1]
    have g2 : fs[i.toNat]? = some fs[i.toNat] := by simp [h2]
    obtain ⟨u, v, a1, a2, _⟩ := A.get g1
    obtain ⟨u', v', c1, c2, _⟩ := C.get g2
    have l1 := A.l
    have l2 := C.l
    refine ⟨u, a1, hi, by omega, _, a2, u', c1, hi, by omega, _, c2, ?_⟩
    rw [wrapI64 (x := i + 1) (by omega) (by omega), wrapI64 (x := i - 1) (by omega) (by omega)]
    by_cases hq : (es[i.toNat]).1 = (fs[i.toNat]).1
    · rw [if_pos (by simpa using hq)]
      refine ⟨_, by omega, by omega, by omega, by omega, rfl, _, by omega, by omega, by omega, by omega, rfl, ?_⟩
      have sub : ∀ {s : Slc} {xs : List Ent}, EntsAt h' s xs → s.len ≤ s.cap → i < xs.length → EntsAt h' (subS s 2 (0 : Int).toNat (i + 1).toNat (s.cap : Int).toNat) (xs.take (i.toNat + 1)) := fun {s xs} S hs hl => by
        have sl := S.l
        have := S.sub (l := 0) (u := (i + 1).toNat) (m := (s.cap : Int).toNat) (by omega) (by omega) (by omega)
        rw [List.drop_zero, show (i + 1).toNat - 0 = i.toNat + 1 from by omega] at this
        exact this
      refine entSame_ok (sub A ca (by omega)) (sub C cb (by omega)) (fun e he => ok e (List.mem_of_mem_take he)) (by rw [List.length_take]; omega) ?_
      rw [G.eq K g1 g2 hq]
      rw [if_neg (by simp)]
      exact done
    · rw [if_neg (by simpa using hq)]
      exact ⟨_, rfl, ⟨by omega, by omega, by omega, rfl⟩, by dsimp only; omega⟩
  · rw [if_neg (by simpa using hi)]
    exact done
theorem l5_ok {nx1 : (Slc × Slc × Int) → Heap → Prop} {nx3 : Int → Heap → Prop} {k : Bool → Heap → Prop} {h : Heap} (L : LS rows B h b9 bs sl es) (hB : B ≤ h.size) (rk : ∀ q ∈ rows, esOk q ∧ q.length ≤ 18) (H : ∀ h', Ext B h h' → k true h') : law23_RlogMatches_l5 ⟨some ⟨b9, 0, none⟩, 3, 3⟩ 0 k nx1 nx3 h := by
  refine ⟨fun i h' => 0 ≤ i ∧ i ≤ 3 ∧ LS rows B h' b9 bs sl es ∧ Ext B h h', fun i _ => (3 - i).toNat, ⟨by omega, by omega, L, Ext.refl _ _⟩, ?_⟩
  rintro i h1 ⟨i0, i1, L1, X1⟩
  have z1 := X1.size
  unfold law23_RlogMatches_l5b
  by_cases hi : i < 3
  · rw [if_pos (by simpa using hi)]
    obtain ⟨j, hj⟩ : ∃ j : Nat, (j : Int) = Int.tmod (i + 1) 3 := ⟨(Int.tmod (i + 1) 3).toNat, by rw [Int.tmod_eq_emod_of_nonneg (by omega)]; omega⟩
    have j3 : j < 3 := by rw [Int.tmod_eq_emod_of_nonneg (by omega)] at hj; omega
    rw [wrapI64 (x := i + 1) (by omega) (by omega), ← hj]
    obtain ⟨va, la⟩ := L1.log i.toNat (by omega)
    obtain ⟨vb, lb⟩ := L1.log j j3
    have ga := L1.good i.toNat (by omega)
    have gb := L1.good j j3
    have ea := ga.len fun q hq => (rk q hq).2
    have eb := gb.len fun q hq => (rk q hq).2
    have oka := ga.ok fun q hq => (rk q hq).1
    have okb := gb.ok fun q hq => (rk q hq).1
    refine ⟨_, rfl, i0, by dsimp only; omega, _, L1.ptr (by omega), _, rfl, by omega, by dsimp only; omega, _, by rw [Int.toNat_natCast]; exact L1.ptr j3, ?_⟩
    refine Entries_ok la oka (by omega) fun x h2 v2 O2 X2 => ?_
    refine ⟨by rw [Int.toNat_natCast]; exact (L1.ext X2).ptr j3, Entries_ok (lb.ext X2) okb (by omega) fun y h3 v3 O3 X3 => ?_⟩
    have z2 := X2.size
    have z3 := X3.size
    have l2 := O2.len
    have l3 := O3.len
    refine ⟨_, rfl, ?_⟩
    rw [wrapI64 (by split <;> omega) (by split <;> omega)]
    exact l7_ok (O2.ext X3).ents O3.ents O2.r.cap O3.r.cap ga gb oka ea eb (by split <;> omega) ⟨i0, hi⟩ ⟨⟨by omega, by omega, (L1.ext X2).ext X3, X1.trans ((X2.mono (by omega)).trans (X3.mono (by omega)))⟩, by dsimp only; omega⟩
  · rw [if_neg (by simpa using hi)]
    exact none_ok fun h' X => H h' (X1.trans (X.mono (by omega)))
end Go.Q.Ya

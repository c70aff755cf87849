/- A part of the proof of statements of this seat: lemmas, no statement of their own. -/
import Derived.Test.YtgldbcbnficihaaYaEnt
import Derived.Test.YtgldbcbnficihaaYaL01
set_option linter.unusedVariables false
set_option linter.unusedSimpArgs false
namespace Go.Q.Ya
theorem _root_.Go.Q.SlcAt.ext {h h' : Heap} {s : Slc} {vs : List Value} (a : SlcAt h s vs) (X : Ext h.size h h') : SlcAt h' s vs := ⟨a.1, fun b hb j w hj => X.cellAt (a.2 b hb j w hj)⟩
theorem Clone8_ok' {p0 : Slc} {l : List Int} {k : Slc → Heap → Prop} {h : Heap} (hl : p0.len = l.length) (hs : SlcAt h p0 (b8 l)) (hsz : l.length ≤ 70368744177664)
    (H : ∀ s' h', Row h.size h' 5 1 s' (b8 l) → Ext h.size h h' → k s' h') : slices_Clone_byte_byte p0 k h := by
  unfold slices_Clone_byte_byte
  cases ha : p0.a with
  | none =>
    rw [if_pos (by simp)]
    have hn : l = [] := by have := hs.1 ha; simpa using this
    subst hn
    exact H _ _ (Row.nil _ _ _ _) (Ext.refl _ _)
  | some a =>
    rw [if_neg (by simp)]
    have hp : ∀ o : Obj, Ext h.size h (h.push o) := fun o => Ext.push h o (Nat.le_refl _)
    refine ⟨_, _, rfl, rfl, b8 l, hs.ext (hp _), ?_⟩
    have R : Row h.size (h.push (.cells ([] : List Value).toArray 5)) 5 1 ⟨some ⟨h.size, 0, none⟩, 0, 0⟩ [] :=
      ⟨by simp, by simp [maxLen], .inr ⟨h.size, [], rfl, Nat.le_refl _, Blk.push _ _ _, Nat.le_refl _, by simp, by simp⟩⟩
    refine App.row R (by simp) rfl (by simp [hl]) (b8_one l) (by simp only; omega) (by simp only [maxLen]; omega) fun s' h' R' _ hsz' ho _ => ?_
    refine H s' h' (by simpa using R') ⟨by simp at hsz'; omega, fun i hi => ?_⟩
    rw [ho i (by simp; omega) (by simp [Slc.blk]; omega), (hp _).block i hi]
theorem cs_one (v : S_api_Entry) : ∀ x ∈ S_api_Entry.cs v, x.oneCell' = true := by intro x hx; simp [S_api_Entry.cs] at hx; rcases hx with rfl | rfl <;> rfl
theorem ecs_snoc (vs : List S_api_Entry) (v : S_api_Entry) : ecs (vs ++ [v]) = ecs vs ++ S_api_Entry.cs v := by simp [ecs]
/-- one more entry of one's own -/
theorem Own.snoc {B : Nat} {h h' : Heap} {s s' : Slc} {es : List Ent} {vs : List S_api_Entry} {v : S_api_Entry} {e : Ent} (o : Own B h s es vs) (R : Row B h' 64 2 s' (ecs vs ++ S_api_Entry.cs v)) (keep : ∀ g E cs, Blk h g cs E → E = 5 → h'[g]? = h[g]?) (ht : v.f_Term = e.1) (hc : Row B h' 5 1 v.f_Cmd (b8 e.2)) :
    Own B h' s' (es ++ [e]) (vs ++ [v]) := by
  refine ⟨by rw [ecs_snoc]; exact R, by simp [o.l], fun i w f hw hf => ?_⟩
  rcases Nat.lt_or_ge i vs.length with hi | hi
  · rw [List.getElem?_append_left hi] at hw
    rw [List.getElem?_append_left (by rw [← o.l]; exact hi)] at hf
    obtain ⟨h1, h2⟩ := o.e i w f hw hf
    refine ⟨h1, h2.keep fun g hg => ?_⟩
    rcases h2.2.2 with ⟨k, _⟩ | ⟨g', cur, a1, a2, a3, _⟩
    · simp [Slc.blk, k] at hg
    · simp [Slc.blk, a1] at hg; subst hg
      exact keep _ 5 _ a3 rfl
  · rw [List.getElem?_append_right hi] at hw
    rw [List.getElem?_append_right (by rw [← o.l]; exact hi)] at hf
    have hi2 : i = vs.length := by
      have := (List.getElem?_eq_some_iff.1 hw).1
      simp at this; omega
    rw [hi2] at hw
    rw [hi2, ← o.l] at hf
    simp at hw hf
    subst hw; subst hf
    exact ⟨ht, hc⟩
theorem copied_ok {p0 : Slc} {es : List Ent} {k : Slc → Heap → Prop} {h : Heap} (A : EntsAt h p0 es) (ok : esOk es) (hl : es.length ≤ 1099511627776)
    (H : ∀ s' h' vs, Own h.size h' s' es vs → Ext h.size h h' → k s' h') : rlog_copied p0 k h := by
  unfold rlog_copied
  rw [A.l]
  refine ⟨fun q h' => ∃ vs, 0 ≤ q.2 ∧ q.2 ≤ es.length ∧ Own h.size h' q.1 (es.take q.2.toNat) vs ∧ Ext h.size h h', fun q _ => (es.length - q.2).toNat, ⟨[], by simp, by simp, ⟨Row.nil _ _ _ _, by simp, by simp⟩, Ext.refl _ _⟩, ?_⟩
  rintro out i h1 ⟨vs, i0, i1, O, X⟩
  simp only at i0 i1 O
  unfold rlog_copied_l1b
  by_cases hi : i < es.length
  · rw [if_pos (by simpa using hi)]
    have hie : i.toNat < es.length := by omega
    have he : es[i.toNat]? = some es[i.toNat] := by simp [hie]
    generalize es[i.toNat] = e at he
    have na : p0.a ≠ none := fun hn => by have := A.n hn; simp [this] at hie
    obtain ⟨a, ha⟩ := Option.ne_none_iff_exists'.1 na
    obtain ⟨v, c1, c2⟩ := (A.ext X).at' a ha i.toNat e he
    have oke := ok e (List.mem_of_getElem? he)
    refine ⟨a, ha, i0, by rw [A.l]; exact hi, v, c1, _, _, rfl, rfl, ?_⟩
    have P0 := Blk.push h1 (S_api_Entry.cs ⟨0, ⟨none, 0, 0⟩⟩) 64
    have P1 := P0.sets_all (vs := S_api_Entry.cs v) (by simp [S_api_Entry.cs])
    have X2 : Ext h1.size h1 (setsH (h1.push (.cells (S_api_Entry.cs ⟨0, ⟨none, 0, 0⟩⟩).toArray 64)) ⟨h1.size, 0, none⟩ 0 (S_api_Entry.cs v)) := (Ext.push h1 _ (Nat.le_refl _)).trans (Ext.sets _ _ _ (Nat.le_refl _))
    refine ⟨_, WrsAt.of_blk P0 (by simp [S_api_Entry.cs]), rfl, ?_⟩
    have z2 := X2.size
    have zp : h1.size < (setsH (h1.push (.cells (S_api_Entry.cs ⟨0, ⟨none, 0, 0⟩⟩).toArray 64)) ⟨h1.size, 0, none⟩ 0 (S_api_Entry.cs v)).size := P1.lt
    generalize setsH (h1.push (.cells (S_api_Entry.cs ⟨0, ⟨none, 0, 0⟩⟩).toArray 64)) ⟨h1.size, 0, none⟩ 0 (S_api_Entry.cs v) = h2 at *
    refine ⟨v.f_Term, by rw [P1.cell]; rfl, v.f_Cmd, by rw [add_mk, P1.cell]; rfl, Clone8_ok' c2.l (c2.c.ext X2) (by omega) fun r h3 R3 X3 => ?_⟩
    have z3 := X3.size
    refine ⟨by rw [(P1.ext X3 zp).cell]; rfl, _, _, rfl, rfl, ?_⟩
    have O2 := (O.ext X2).ext X3
    have ol := O.len
    simp at ol
    have z1 := X.size
    refine App.row (O2.r.pushed _) (by simp; omega) rfl rfl (cs_one _) (by omega) (by simp only [maxLen]; omega) fun s' h4 R4 _ z4 ho _ => ?_
    have z4' : h3.size + 1 ≤ h4.size := by simpa using z4
    have old : ∀ g, g < h3.size → out.blk ≠ some g → h4[g]? = h3[g]? := fun g hg hne => by
      rw [ho g (by simp; omega) hne, Array.getElem?_push, if_neg (by omega)]
    have kr : ∀ {s : Slc} {xs : List Value} {C : Nat}, Row C h3 5 1 s xs → Row C h4 5 1 s xs := fun R => R.keep fun g hg => old g (R.bd hg).2 fun e => R.ne_row O2.r (by decide) hg e
    rw [wrapI64 (by omega) (by omega)]
    refine ⟨⟨vs ++ [⟨v.f_Term, r⟩], by dsimp only; omega, by dsimp only; omega, ?_, ?_⟩, by dsimp only; omega⟩
    · dsimp only
      rw [show (i + 1).toNat = i.toNat + 1 from by omega, List.take_add_one, he]
      refine O2.snoc R4 (fun g E cs K hE => ?_) c2.t (kr (R3.mono (by omega)))
      refine old g K.lt fun e => ?_
      subst hE
      rcases O2.r.2.2 with ⟨k, _⟩ | ⟨g', cur, a1, a2, a3, _⟩
      · simp [Slc.blk, k] at e
      · simp [Slc.blk, a1] at e; subst e
        have := (a3.inj K).2
        omega
    · refine X.trans ((X2.mono (by omega)).trans ((X3.mono (by omega)).trans ⟨by omega, fun j hj => old j (by omega) fun e => by have := (O2.r.bd e).1; omega⟩))
  · rw [if_neg (by simpa using hi)]
    have : i.toNat = es.length := by omega
    rw [this, List.take_length] at O
    exact H _ _ vs O X
end Go.Q.Ya

/- A part of the proof of statements of this seat: lemmas, no statement of their own. -/
import Derived.Test.YtgldbcbnficihaaYaApp3
set_option linter.unusedVariables false
set_option linter.unusedSimpArgs false
namespace Go.Q.Ya
theorem Append_ok {B b : Nat} {ix tm p t : Int} {es more : List Ent} {p3 s : Slc} {vs : List S_api_Entry} {k : Int × Int → Heap → Prop} {h : Heap} (L : LogAt B h b ix tm es s vs) (hB : B ≤ h.size) (hA : ∀ h', LFr b s h h' → EntsAt h' p3 more) (oke : esOk es) (okm : esOk more)
    (x0 : 0 ≤ ix) (x1 : ix ≤ 4611686018427387904) (p0 : 0 ≤ p) (p1 : p ≤ 4611686018427387904) (hl : es.length ≤ 1000000) (hm : more.length ≤ 1000000)
    (H : ∀ h' s' vs', LogAt B h' b ix tm (appRes ix tm es p t more).1 s' vs' → LFr b s h h' → (s'.blk = s.blk ∨ ∃ g, s'.blk = some g ∧ h.size ≤ g) → k (appRes ix tm es p t more).2 h') : rlog_Log_Append (some ⟨b, 0, none⟩) p t p3 k h := by
  have A := hA h (LFr.refl _ _ _)
  have go : ¬ (p ≥ ix ∧ ¬ ((termOf ix tm es p).2 = 0 ∧ (termOf ix tm es p).1 = t)) → rlog_Log_Append_g1 (some ⟨b, 0, none⟩) p p3 false k h := fun hn => by
    unfold rlog_Log_Append_g1
    rw [if_neg (by simp), A.l, wrapU64 (x := (more.length : Int)) (by omega) (by omega), wrapU64 (x := p + more.length) (by omega) (by omega)]
    refine ⟨_, rfl, _, rfl, _, L.c2, app_l2_ok L hB hA oke okm x0 x1 p0 p1 hl hm fun h' s' vs' L' F hb => ?_⟩
    have := H h' s' vs'
    unfold appRes at this
    rw [if_neg hn] at this
    by_cases h64 : (appN ix p es more more.length).length > 64
    · simp only [if_pos h64] at this L' ⊢
      exact this L' F hb
    · simp only [if_neg h64] at this L' ⊢
      exact this L' F hb
  have bad : (p ≥ ix ∧ ¬ ((termOf ix tm es p).2 = 0 ∧ (termOf ix tm es p).1 = t)) → k (0, 6) h := fun hn => by
    have e : appRes ix tm es p t more = (es, 0, 6) := by unfold appRes; rw [if_pos hn]
    rw [e] at H
    exact H h s vs L (LFr.refl _ _ _) (.inl rfl)
  unfold rlog_Log_Append
  rw [if_neg (by simp)]
  refine ⟨_, rfl, _, L.c0, ?_⟩
  by_cases hp : p ≥ ix
  · rw [if_pos (by simpa using hp)]
    refine Match_ok L x0 x1 (by omega) p0 (by omega) ?_
    by_cases hmt : (termOf ix tm es p).2 = 0 ∧ (termOf ix tm es p).1 = t
    · rw [show (((termOf ix tm es p).2 == 0) && ((termOf ix tm es p).1 == t)) = true from by simp [hmt.1, hmt.2]]
      exact go fun hn => hn.2 hmt
    · rw [show (((termOf ix tm es p).2 == 0) && ((termOf ix tm es p).1 == t)) = false from by
        rw [Bool.and_eq_false_iff]; by_cases h2 : (termOf ix tm es p).2 = 0
        · right; simpa using fun h3 => hmt ⟨h2, h3⟩
        · left; simpa using h2]
      show rlog_Log_Append_g1 _ _ _ true _ _
      unfold rlog_Log_Append_g1
      rw [if_pos rfl]
      exact bad ⟨hp, hmt⟩
  · rw [if_neg (by simpa using hp)]
    exact go fun hn => hp hn.1
end Go.Q.Ya

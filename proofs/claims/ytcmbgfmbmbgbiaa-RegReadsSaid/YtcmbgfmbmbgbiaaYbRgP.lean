/- A part of the proof of statements of this seat: lemmas, no statement of their own. -/
import Derived.Test.YtcmbgfmbmbgbiaaYbRgM
set_option linter.unusedVariables false
set_option linter.unusedSimpArgs false
namespace Go.Q.Yb
/-! ### what holds of every tenant -/
def KI (t : AT) : Prop := (t.2.1 = true ↔ t.2.2 = []) ∧ ∃ a : Int, 0 ≤ a ∧ a + t.2.2.length ≤ 4294967296 ∧ ∀ (i : Nat) x, t.2.2[i]? = some x → x.1 = a + i
theorem epB_last {ks : List AK} {a : Int} (h : ∀ (i : Nat) x, ks[i]? = some x → x.1 = a + i) (n : ks ≠ []) : epB ks = a + ks.length - 1 := by
  unfold epB
  have : 0 < ks.length := List.length_pos_iff.2 n
  rw [List.getLast?_eq_getElem?]
  have hx : ks[ks.length - 1]? = some (ks[ks.length - 1]'(by omega)) := by simp
  rw [hx]
  dsimp only
  rw [h _ _ hx]; omega
theorem filt : ∀ (ks : List AK) (a e : Int), (∀ (i : Nat) x, ks[i]? = some x → x.1 = a + i) → (ks.filter fun x => !decide (x.1 < e)) = ks.drop (e - a).toNat
  | [], _, _, _ => by simp
  | y :: r, a, e, h => by
    have h0 : y.1 = a := by have := h 0 y rfl; omega
    have hr : ∀ (i : Nat) x, r[i]? = some x → x.1 = (a + 1) + i := fun i x hx => by
      have := h (i + 1) x (by simpa using hx)
      omega
    have ih := filt r (a + 1) e hr
    rw [List.filter_cons]
    by_cases hy : y.1 < e
    · rw [if_neg (by simp [hy]), ih, show (e - a).toNat = (e - (a + 1)).toNat + 1 from by omega, List.drop_succ_cons]
    · rw [if_pos (by simp [hy]), ih, show (e - a).toNat = 0 from by omega, show (e - (a + 1)).toNat = 0 from by omega, List.drop_zero, List.drop_zero]
theorem one {c : S_api_Command} {wr : List Int} {o : Option AT} {n : Nat} (h0 : (if mayR c wr.length = true then askB c o n else 1) = 0) (k0 : c.f_Kind ≠ 0) (ep : 0 ≤ c.f_Epoch ∧ c.f_Epoch < 4294967296) (hi : ∀ t, o = some t → KI t) :
    KI (newT c wr (o.getD zAT)) ∧ ∀ t, o = some t → t.1 ≤ (newT c wr (o.getD zAT)).1 ∧ (t.2.1 = true → (newT c wr (o.getD zAT)).2.1 = true) := by
  have hm : mayR c wr.length = true := by
    cases hq : mayR c wr.length with
    | true => rfl
    | false => rw [hq] at h0; simp at h0
  rw [if_pos hm] at h0
  obtain ⟨kk, _⟩ := mayR_kind hm k0
  unfold askB at h0
  rw [if_neg k0] at h0
  unfold newT
  by_cases k1 : c.f_Kind = 1
  · rw [if_pos k1]
    cases o with
    | some t => rw [if_pos ⟨k1, rfl⟩] at h0; cases h0
    | none =>
      refine ⟨⟨by simp, c.f_Epoch, ep.1, by simp; omega, fun i x hx => ?_⟩, fun t ht => by cases ht⟩
      match i, hx with
      | 0, hx => cases hx; simp
      | i + 1, hx => simp at hx
  rw [if_neg k1]
  rw [if_neg (fun e => k1 e.1), if_neg (fun e => k1 e.1)] at h0
  cases o with
  | none => rw [if_pos ⟨k1, rfl⟩] at h0; cases h0
  | some t =>
  rw [if_neg (by simp)] at h0
  simp only [Option.getD_some] at h0 ⊢
  obtain ⟨hs, a, a0, a1, ha⟩ := hi t rfl
  by_cases k5 : c.f_Kind = 5
  · rw [if_neg (by omega), if_neg (by omega), if_neg (by omega), if_pos k5]
    refine ⟨⟨by simp, 0, by omega, by simp, fun i x hx => by simp at hx⟩, fun u hu => ?_⟩
    cases hu
    exact ⟨Int.le_refl _, fun _ => rfl⟩
  have ns : t.2.1 = false := by
    cases hq : t.2.1 with
    | false => rfl
    | true => rw [if_pos ⟨hq, k5⟩] at h0; cases h0
  rw [if_neg (by rw [ns]; simp), if_neg k1] at h0
  have nk : t.2.2 ≠ [] := fun e => by have := hs.2 e; rw [ns] at this; cases this
  have el := epB_last ha nk
  have lp : 0 < t.2.2.length := List.length_pos_iff.2 nk
  by_cases k2 : c.f_Kind = 2
  · rw [if_pos k2] at h0 ⊢
    have q : epB t.2.2 ≠ 4294967295 ∧ c.f_Epoch = IntKind.u32.wrap (epB t.2.2 + 1) := by
      by_cases q1 : epB t.2.2 = 4294967295
      · rw [if_pos q1] at h0; simp at h0
      · refine ⟨q1, ?_⟩
        rw [if_neg q1] at h0
        by_cases q2 : c.f_Epoch = IntKind.u32.wrap (epB t.2.2 + 1)
        · exact q2
        · rw [if_pos (by simpa using q2)] at h0; cases h0
    have qe : c.f_Epoch = a + t.2.2.length := by
      rw [q.2, wrapU32 (by omega) (by omega)]; omega
    refine ⟨⟨by rw [ns]; simp, a, a0, by simp; omega, fun i x hx => ?_⟩, fun u hu => ?_⟩
    · dsimp only at hx
      by_cases hi : i < t.2.2.length
      · rw [List.getElem?_append_left hi] at hx; exact ha i x hx
      · rw [List.getElem?_append_right (by omega)] at hx
        match h : i - t.2.2.length, hx with
        | 0, hx => cases hx; dsimp only; omega
        | j + 1, hx => simp at hx
    · cases hu; exact ⟨Int.le_refl _, fun e => by rw [ns] at e; cases e⟩
  rw [if_neg k2] at h0 ⊢
  by_cases k3 : c.f_Kind = 3
  · rw [if_pos k3] at h0 ⊢
    have q : ¬ c.f_Epoch > epB t.2.2 := fun e => by rw [if_pos (by simpa using e)] at h0; cases h0
    rw [filt _ a _ ha]
    have dl : (t.2.2.drop (c.f_Epoch - a).toNat).length = t.2.2.length - (c.f_Epoch - a).toNat := List.length_drop
    have dn : t.2.2.drop (c.f_Epoch - a).toNat ≠ [] := fun e => by rw [e] at dl; simp at dl; omega
    refine ⟨⟨by rw [ns]; simpa using dn, a + (c.f_Epoch - a).toNat, by omega, by dsimp only; rw [dl]; omega, fun i x hx => ?_⟩, fun u hu => ?_⟩
    · dsimp only at hx
      rw [List.getElem?_drop] at hx
      have := ha _ x hx
      omega
    · cases hu; exact ⟨Int.le_refl _, fun e => by rw [ns] at e; cases e⟩
  rw [if_neg k3] at h0 ⊢
  have k4 : c.f_Kind = 4 := by omega
  rw [if_pos k4] at h0 ⊢
  have q : ¬ c.f_Horizon < t.1 := fun e => by rw [if_pos (by simpa using e)] at h0; cases h0
  refine ⟨⟨hs, a, a0, a1, ha⟩, fun u hu => ?_⟩
  cases hu
  exact ⟨by dsimp only; omega, fun e => by rw [ns] at e; cases e⟩
theorem step_keep {A : AG} {c : S_api_Command} {wr : List Int} (ep : 0 ≤ c.f_Epoch ∧ c.f_Epoch < 4294967296) (hi : ∀ n t, mget A n = some t → KI t) :
    (∀ n t, mget (stepR A c wr).2 n = some t → KI t) ∧ (∀ n t, mget A n = some t → ∃ t', mget (stepR A c wr).2 n = some t' ∧ t.1 ≤ t'.1 ∧ (t.2.1 = true → t'.2.1 = true)) := by
  have key : ∀ n, (applyB c wr.length A = 0 ∧ c.f_Kind ≠ 0) ∧ n = c.f_Tenant → _ := fun n h => one (c := c) (wr := wr) (o := mget A c.f_Tenant) (n := A.length) h.1.1 h.1.2 ep (hi _)
  refine ⟨fun n t ht => ?_, fun n t ht => ?_⟩
  · rw [mget_step] at ht
    by_cases h : (applyB c wr.length A = 0 ∧ c.f_Kind ≠ 0) ∧ n = c.f_Tenant
    · rw [if_pos h] at ht
      cases ht
      exact (key n h).1
    · rw [if_neg h] at ht; exact hi n t ht
  · rw [mget_step]
    by_cases h : (applyB c wr.length A = 0 ∧ c.f_Kind ≠ 0) ∧ n = c.f_Tenant
    · rw [if_pos h]
      refine ⟨_, rfl, ?_⟩
      have := (key n h).2 t (by rw [← h.2]; exact ht)
      exact this
    · rw [if_neg h]; exact ⟨t, ht, Int.le_refl _, id⟩
end Go.Q.Yb

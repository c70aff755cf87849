/- A part of the proof of statements of this seat: lemmas, no statement of their own. -/
import Derived.Test.YtmhadeadjjkkcaaDoorYeFi
import Derived.Test.YtmhadeadjjkkcaaDoorYeW0
set_option linter.unusedVariables false
set_option linter.unusedSimpArgs false
set_option maxRecDepth 100000
/- Slot: what laying leaves, and what a boot makes of it, plainly. -/
namespace Go.Q.Ye
theorem DSame_ok {p0 p1 : Slc} {l m : List Int} {k : Bool → Heap → Prop} {h : Heap} (h0 : SlcAt h p0 (b8 l)) (l0 : p0.len = l.length) (h1 : SlcAt h p1 (b8 m)) (l1 : p1.len = m.length) (hb : l.length ≤ 4611686018427387904) (H : k (decide (l = m)) h) : ref01_Same p0 p1 k h := by
  unfold ref01_Same
  by_cases hlm : l.length = m.length
  · rw [if_neg (by simp [l0, l1, hlm])]
    refine ⟨fun i h' => 0 ≤ i ∧ i ≤ l.length ∧ l.take i.toNat = m.take i.toNat ∧ h' = h, fun i _ => (l.length - i).toNat, ⟨by omega, by omega, by simp, rfl⟩, ?_⟩
    rintro i h' ⟨i0, i1, he, rfl⟩
    unfold ref01_Same_l1b
    by_cases hi : i < l.length
    · rw [if_pos (by simp [l0]; omega)]
      have n0 : p0.a ≠ none := fun hn => by have := h0.1 hn; simp at this; simp [this] at hi; omega
      have n1 : p1.a ≠ none := fun hn => by have := h1.1 hn; simp at this; simp [this] at hlm; simp [hlm] at hi; omega
      obtain ⟨a, ha⟩ := Option.ne_none_iff_exists'.1 n0
      obtain ⟨b, hb'⟩ := Option.ne_none_iff_exists'.1 n1
      have hla : i.toNat < l.length := by omega
      have hma : i.toNat < m.length := by omega
      refine ⟨a, ha, i0, by omega, l[i.toNat], ?_, b, hb', i0, by omega, m[i.toNat], ?_, ?_⟩
      · rw [Nat.mul_one]; exact h0.2 a ha i.toNat _ (by simp [hla])
      · rw [Nat.mul_one]; exact h1.2 b hb' i.toNat _ (by simp [hma])
      · by_cases hv : l[i.toNat] = m[i.toNat]
        · rw [if_neg (by simp [hv]), wrapI64 (by omega) (by omega)]
          refine ⟨_, rfl, ⟨by omega, by omega, ?_, rfl⟩, by dsimp only; omega⟩
          rw [show (i + 1).toNat = i.toNat + 1 from by omega, List.take_succ_eq_append_getElem hla, List.take_succ_eq_append_getElem hma, he, hv]
        · rw [if_pos (by simpa using hv)]
          have : decide (l = m) = false := by
            rw [decide_eq_false_iff_not]
            rintro rfl
            exact hv rfl
          rw [← this]; exact H
    · rw [if_neg (by simp [l0]; omega)]
      have : l = m := by
        have e1 : l.take i.toNat = l := List.take_of_length_le (by omega)
        have e2 : m.take i.toNat = m := List.take_of_length_le (by omega)
        rw [e1, e2] at he; exact he
      simpa [this] using H
  · rw [if_pos (by simp [l0, l1]; omega)]
    have : decide (l = m) = false := by rw [decide_eq_false_iff_not]; rintro rfl; exact hlm rfl
    rw [← this]; exact H
theorem mget_mem' {K V : Type} [DecidableEq K] {a : K} : ∀ {l : List (K × V)}, a ∈ l.map (·.1) → ∃ v, mget l a = some v
  | [], h => by simp at h
  | p :: r, h => by
    unfold mget
    by_cases e : p.1 = a
    · rw [if_pos e]; exact ⟨_, rfl⟩
    · rw [if_neg e]
      rw [List.map_cons] at h
      rcases List.mem_cons.1 h with h | h
      · exact absurd h.symm e
      · exact mget_mem' h
/-- what stands at a place -/
def vD (X : DK) (a : Int) : Sec := (mget X.now a).getD zSec
def newS (f : S_slot_head) (bs : List Int) (n : Nat) : List Int := if (n : Int) < f.f_parts then laySec f bs n else []
def newV (f : S_slot_head) (bs : List Int) (n : Nat) : Sec := ⟨padB (newS f bs n), false⟩
theorem newS_le (f : S_slot_head) (bs : List Int) (n : Nat) : (newS f bs n).length ≤ 128 := by
  unfold newS
  split
  · exact sec_le _ _ _
  · simp
theorem newS_B {f : S_slot_head} {bs : List Int} {n : Nat} (h : isB bs) : isB (newS f bs n) := by
  unfold newS
  split
  · exact sec_B h
  · intro b hb; cases hb
/-- m sectors are laid -/
structure LU (X Y : DK) (p : Int) (f : S_slot_head) (bs : List Int) (m : Nat) : Prop where
  now : ∀ a, vD Y a = vD X a ∨ ∃ j : Nat, j < m ∧ a = p + j
  all : ∀ j : Nat, j < m → vD Y (p + j) = newV f bs j
  safe : ∀ a s, mget Y.safe a = some s → s = vD X a ∧ ∃ j : Nat, j < m ∧ a = p + j
theorem burn_now (X : DK) : (burnD X).2.now = X.now := by unfold burnD; split <;> rfl
theorem burn_safe (X : DK) : (burnD X).2.safe = X.safe := by unfold burnD; split <;> rfl
theorem burn_dead {X : DK} (h : X.dead = false) : (burnD X).2.dead = (burnD X).1 := by
  unfold burnD
  split
  · exact h
  · rfl
theorem LU.put {X Y : DK} {p : Int} {f : S_slot_head} {bs : List Int} {m : Nat} (L : LU X Y p f bs m) : LU X (burnD (laidD Y (p + m) (newS f bs m))).2 p f bs (m + 1) := by
  have en : ∀ a, vD (burnD (laidD Y (p + m) (newS f bs m))).2 a = if a = p + m then newV f bs m else vD Y a := fun a => by
    unfold vD
    rw [burn_now]
    show (mget (mput Y.now (p + m) ⟨padB (newS f bs m), false⟩) a).getD zSec = _
    rw [mget_put]
    split
    · rfl
    · rfl
  refine ⟨fun a => ?_, fun j hj => ?_, fun a s hs => ?_⟩
  · rw [en]
    by_cases e : a = p + m
    · exact .inr ⟨m, by omega, e⟩
    · rw [if_neg e]
      rcases L.now a with h | ⟨j, h1, h2⟩
      · exact .inl h
      · exact .inr ⟨j, by omega, h2⟩
  · rw [en]
    by_cases e : j = m
    · rw [if_pos (by rw [e]), e]
    · rw [if_neg (by omega)]; exact L.all j (by omega)
  · rw [burn_safe] at hs
    have old : mget Y.safe a = some s → s = vD X a ∧ ∃ j : Nat, j < m + 1 ∧ a = p + j := fun hs => by
      obtain ⟨h1, j, h2, h3⟩ := L.safe a s hs
      exact ⟨h1, j, by omega, h3⟩
    unfold laidD at hs
    dsimp only at hs
    split at hs
    · exact old hs
    · rw [mget_put] at hs
      by_cases e : a = p + m
      · rw [if_pos e] at hs
        cases hs
        refine ⟨?_, m, by omega, e⟩
        rw [e]
        rcases L.now (p + m) with h | ⟨j, h1, h2⟩
        · exact h
        · omega
      · rw [if_neg e] at hs
        exact old hs
theorem layUp_mid {X : DK} {p : Int} {f : S_slot_head} {bs : List Int} (hd : X.dead = false) (hs : X.safe = []) (p0 : 0 ≤ p) : ∀ n : Nat, p + n ≤ 1024 →
    ((layUp p f bs X n).1 = 0 ∧ (layUp p f bs X n).2.dead = false ∧ LU X (layUp p f bs X n).2 p f bs n) ∨ ((layUp p f bs X n).1 = 10 ∧ (layUp p f bs X n).2.dead = true ∧ ∃ m : Nat, m ≤ n ∧ LU X (layUp p f bs X n).2 p f bs m)
  | 0, _ => .inl ⟨rfl, hd, fun a => .inl rfl, fun j hj => by omega, fun a s h => by
      change mget X.safe a = some s at h
      rw [hs] at h; cases h⟩
  | n + 1, hn => by
    rcases layUp_mid (f := f) (bs := bs) hd hs p0 n (by omega) with ⟨e, dd, L⟩ | ⟨e, dd, m, hm, L⟩
    · have el : layUp p f bs X (n + 1) = (endD (burnD (laidD (layUp p f bs X n).2 (p + n) (newS f bs n))).1, (burnD (laidD (layUp p f bs X n).2 (p + n) (newS f bs n))).2) := by
        rw [layUp, if_neg (by rw [e]; simp)]
        show writeD (layUp p f bs X n).2 (p + n) (newS f bs n) = _
        unfold writeD
        rw [if_neg (by rw [dd]; simp), if_neg (by omega), if_neg (by have := newS_le f bs n; omega)]
      have bd := burn_dead (X := laidD (layUp p f bs X n).2 (p + n) (newS f bs n)) dd
      have Lp := L.put
      rw [el]
      dsimp only
      rw [bd]
      cases hb : (burnD (laidD (layUp p f bs X n).2 (p + n) (newS f bs n))).1 with
      | false => exact .inl ⟨rfl, rfl, Lp⟩
      | true => exact .inr ⟨rfl, rfl, n + 1, by omega, Lp⟩
    · have el : layUp p f bs X (n + 1) = layUp p f bs X n := by rw [layUp, if_pos (by rw [e]; simp)]
      rw [el]
      exact .inr ⟨e, dd, m, by omega, L⟩
theorem layD_end {X : DK} {p : Int} {f : S_slot_head} {bs : List Int} {N : Nat} (hd : X.dead = false) (hs : X.safe = []) (p0 : 0 ≤ p) (pN : p + N ≤ 1024) :
    ((layD p f bs X N).1.2 = 0 ∧ (layD p f bs X N).1.1 = f.f_n ∧ (layD p f bs X N).2.dead = false ∧ (layD p f bs X N).2.safe = [] ∧ LU X (layD p f bs X N).2 p f bs N) ∨ ((layD p f bs X N).1.2 = 10 ∧ (layD p f bs X N).2.dead = true ∧ ∃ m : Nat, m ≤ N ∧ LU X (layD p f bs X N).2 p f bs m) := by
  unfold layD
  rcases layUp_mid (f := f) (bs := bs) hd hs p0 N pN with ⟨e, dd, L⟩ | ⟨e, dd, m, hm, L⟩
  · rw [if_neg (by rw [e]; simp)]
    have bd := burn_dead (X := (layUp p f bs X N).2) dd
    have bn : ∀ a, vD (burnD (layUp p f bs X N).2).2 a = vD (layUp p f bs X N).2 a := fun a => by unfold vD; rw [burn_now]
    have es : syncD (layUp p f bs X N).2 = if (burnD (layUp p f bs X N).2).1 = true then (10, (burnD (layUp p f bs X N).2).2) else (0, { (burnD (layUp p f bs X N).2).2 with safe := [] }) := by
      unfold syncD
      rw [if_neg (by rw [dd]; simp)]
    rw [es]
    cases hb : (burnD (layUp p f bs X N).2).1 with
    | true =>
      rw [if_pos rfl, if_pos (by simp)]
      refine .inr ⟨rfl, by rw [bd, hb], N, Nat.le_refl _, fun a => by rw [bn]; exact L.now a, fun j hj => by rw [bn]; exact L.all j hj, fun a s h => by rw [burn_safe] at h; exact L.safe a s h⟩
    | false =>
      rw [if_neg (by simp), if_neg (by simp)]
      refine .inl ⟨rfl, rfl, by show (burnD (layUp p f bs X N).2).2.dead = false; rw [bd, hb], rfl, fun a => ?_, fun j hj => ?_, fun a s h => by cases h⟩
      · show vD (burnD (layUp p f bs X N).2).2 a = _ ∨ _
        rw [bn]; exact L.now a
      · show vD (burnD (layUp p f bs X N).2).2 _ = _
        rw [bn]; exact L.all j hj
  · rw [if_pos (by rw [e]; simp)]
    exact .inr ⟨e, dd, m, hm, L⟩
/-! ### the power comes back -/
theorem bootGo_or {fs : List Int} {safe now : List (Int × Sec)} {ks : List Int} (a : Int) : ∀ n, n ≤ ks.length →
    mget (bootGo fs safe ks n now) a = mget now a ∨ (a ∈ ks ∧ (mget (bootGo fs safe ks n now) a = some ((mget safe a).getD zSec) ∨ mget (bootGo fs safe ks n now) a = some ⟨[], true⟩))
  | 0, _ => .inl rfl
  | n + 1, hn => by
    have ih := bootGo_or (fs := fs) (safe := safe) (now := now) (ks := ks) a n (by omega)
    have hk : ks.getD n 0 ∈ ks := by
      rw [List.getD_eq_getElem?_getD, List.getElem?_eq_getElem (by omega)]
      exact List.getElem_mem _
    show mget (bootOne fs safe n (ks.getD n 0) (bootGo fs safe ks n now)) a = _ ∨ (_ ∧ (mget (bootOne fs safe n (ks.getD n 0) (bootGo fs safe ks n now)) a = _ ∨ mget (bootOne fs safe n (ks.getD n 0) (bootGo fs safe ks n now)) a = _))
    unfold bootOne
    by_cases ha : a = ks.getD n 0
    · rw [← ha] at hk ⊢
      split
      · exact .inr ⟨hk, .inl (by rw [mget_put, if_pos rfl])⟩
      · split
        · exact .inr ⟨hk, .inr (by rw [mget_put, if_pos rfl])⟩
        · exact ih
    · split
      · rw [mget_put, if_neg ha]; exact ih
      · split
        · rw [mget_put, if_neg ha]; exact ih
        · exact ih
theorem keys_mem {X : DK} {a : Int} (h : a ∈ keysD X) : ∃ v, mget X.safe a = some v := by
  unfold keysD srtI at h
  exact mget_mem' ((List.mergeSort_perm _ _).mem_iff.1 h)
/-- after a boot every place is as it was, as it was laid, or torn -/
theorem boot_tri {X Y : DK} {p : Int} {f : S_slot_head} {bs : List Int} {m : Nat} (L : LU X Y p f bs m) (fs : List Int) (a : Int) :
    vD (bootD Y fs) a = vD X a ∨ ∃ j : Nat, j < m ∧ a = p + j ∧ (vD (bootD Y fs) a = newV f bs j ∨ vD (bootD Y fs) a = ⟨[], true⟩) := by
  have b := bootGo_or (fs := fs) (safe := Y.safe) (now := Y.now) (ks := keysD Y) a Y.safe.length (by rw [keysD_len]; exact Nat.le_refl _)
  have ev : vD (bootD Y fs) a = (mget (bootGo fs Y.safe (keysD Y) Y.safe.length Y.now) a).getD zSec := rfl
  rcases b with b | ⟨hk, b | b⟩
  · have e : vD (bootD Y fs) a = vD Y a := by rw [ev, b]; rfl
    rw [e]
    rcases L.now a with h | ⟨j, h1, h2⟩
    · exact .inl h
    · exact .inr ⟨j, h1, h2, .inl (by rw [h2]; exact L.all j h1)⟩
  · obtain ⟨v, hv⟩ := keys_mem hk
    left
    rw [ev, b, hv]
    exact (L.safe a v hv).1
  · obtain ⟨v, hv⟩ := keys_mem hk
    obtain ⟨_, j, h1, h2⟩ := L.safe a v hv
    exact .inr ⟨j, h1, h2, .inr (by rw [ev, b]; rfl)⟩
theorem boot_nil {Y : DK} (h : Y.safe = []) (fs : List Int) (a : Int) : vD (bootD Y fs) a = vD Y a := by
  have ev : vD (bootD Y fs) a = (mget (bootGo fs Y.safe (keysD Y) Y.safe.length Y.now) a).getD zSec := rfl
  rw [ev, h]; rfl
/-! ### reading -/
theorem rd_cong {X Z : DK} {a : Int} (h : vD Z a = vD X a) : readD Z a = readD X a := by
  unfold readD
  unfold vD at h
  rw [h]
theorem rd_new {Z : DK} {a : Int} {f : S_slot_head} {bs : List Int} {j : Nat} (ha : 0 ≤ a ∧ a < 1024) (h : vD Z a = newV f bs j) : readD Z a = (padB (newS f bs j), 0) := by
  unfold readD
  unfold vD at h
  rw [if_neg (by omega), h]
  show (if false = true then _ else (secB (newV f bs j), (0 : Int))) = _
  rw [if_neg (by simp)]
  unfold newV
  rw [secB_pad (newS_le _ _ _)]
theorem rd_torn {Z : DK} {a : Int} (ha : 0 ≤ a ∧ a < 1024) (h : vD Z a = ⟨[], true⟩) : readD Z a = ([], 9) := by
  unfold readD
  unfold vD at h
  rw [if_neg (by omega), h]
  rfl
theorem newV_B {f : S_slot_head} {bs : List Int} {j : Nat} (h : isB bs) : isB (secB (newV f bs j)) := by
  unfold newV
  rw [secB_pad (newS_le _ _ _)]
  exact pad_B (newS_B h)
theorem good_of {Z : DK} (hs : Z.safe = []) (h : ∀ a, isB (secB (vD Z a))) : GoodX Z := ⟨h, fun a => by rw [hs]; exact zero_B⟩
/-! ### the greatest number -/
theorem gr_ge (X : DK) (fr : Int) : ∀ n i : Nat, i < n → (readD X (fr + i)).2 = 0 → (fst1 X (fr + i)).f_n ≤ grD X fr n
  | n + 1, i, hi, e => by
    rw [grD]
    by_cases q : i = n
    · subst q
      rw [if_pos e]
      split <;> omega
    · have := gr_ge X fr n i (by omega) e
      split
      · split <;> omega
      · exact this
theorem gr_le {X : DK} {fr G : Int} (G0 : 0 ≤ G) : ∀ n : Nat, (∀ i : Nat, i < n → (readD X (fr + i)).2 = 0 → (fst1 X (fr + i)).f_n ≤ G) → grD X fr n ≤ G
  | 0, _ => G0
  | n + 1, h => by
    have ih := gr_le G0 n fun i hi => h i (by omega)
    rw [grD]
    split
    · rename_i e
      split
      · exact h n (by omega) e
      · exact ih
    · exact ih
end Go.Q.Ye

/- A part of the proof of statements of this seat: lemmas, no statement of their own. -/
import Derived.Test.YtcmbgfmbmbgbiaaYbRhEf
import Derived.Test.YtcmbgfmbmbgbiaaYbRgF
set_option linter.unusedVariables false
set_option linter.unusedSimpArgs false
namespace Go.Q.Yb
theorem RShort_ok {n : Int} {k : Slc → Heap → Prop} {h : Heap} (n0 : 0 ≤ n) (n1 : n < 18446744073709551616) (H : ∀ s' h', Row h.size h' 5 1 s' (b8 (shortL n)) → Ext h.size h h' → k s' h') : ref01_Short n k h := by
  unfold ref01_Short
  refine ⟨fun q h' => ∃ (cur : List Int) (f : Nat), Row h.size h' 5 1 q.2 (b8 cur) ∧ cur ++ shortF f q.1 = shortL n ∧ 0 ≤ q.1 ∧ q.1 < 128 ^ f ∧ 1 ≤ f ∧ f ≤ 10 ∧ cur.length + f ≤ 10 ∧ Ext h.size h h', fun q _ => q.1.toNat, ⟨[], 10, Row.nil _ _ _ _, rfl, n0, by simp only; omega, by omega, by omega, by simp, Ext.refl _ _⟩, ?_⟩
  rintro m s h2 ⟨cur, f, R, hc, m0, m1, f1, f10, lc, X⟩
  dsimp only at R hc m0 m1
  have z := X.size
  obtain ⟨f, rfl⟩ : ∃ g, f = g + 1 := ⟨f - 1, by omega⟩
  unfold ref01_Short_l1b
  have e1 : m.tmod 128 = m % 128 := by rw [Int.tmod_eq_emod_of_nonneg m0]
  have e2 : m.tdiv 128 = m / 128 := by rw [Int.tdiv_eq_ediv_of_nonneg m0]
  have m64 : m < 1180591620717411303424 := by
    have : (128 : Int) ^ (f + 1) ≤ 128 ^ 10 := by
      have h1 : (128 : Nat) ^ (f + 1) ≤ 128 ^ 10 := Nat.pow_le_pow_right (by omega) f10
      exact_mod_cast h1
    have h2 : (128 : Int) ^ 10 = 1180591620717411303424 := by decide
    omega
  by_cases hm : m ≥ 128
  · rw [if_pos (by simpa using hm), e1, e2, wrapU8 (x := m % 128) (by omega) (by omega), wrapU8 (by omega) (by omega)]
    refine ⟨_, _, rfl, rfl, ?_⟩
    have hf : 1 ≤ f := by
      rcases Nat.eq_zero_or_pos f with h0 | h0
      · subst h0; simp at m1; omega
      · exact h0
    refine AppB (m := [m % 128 + 128]) (R.pushed _) (by simp; omega) rfl (by simp; omega) fun s' h3 R3 X3 => ?_
    have hlt : m / 128 < 128 ^ f := Int.ediv_lt_of_lt_mul (by omega) (by rw [Int.pow_succ] at m1; exact m1)
    have hw : IntKind.u64.wrap (m / 128) = m / 128 := wrapU64 (by omega) (by
      have : m / 128 < 18446744073709551616 := by omega
      exact this)
    rw [hw]
    refine ⟨_, rfl, ⟨_, f, R3, ?_, by dsimp only; omega, hlt, hf, by omega, by simp; omega, X.trans ((Ext.push h2 _ z).trans X3)⟩, by dsimp only; omega⟩
    dsimp only
    rw [← hc, shortF, if_neg (by omega)]
    simp
  · rw [if_neg (by simpa using hm), wU8, show m % 256 = m from by omega]
    refine ⟨_, _, rfl, rfl, ?_⟩
    refine AppB (m := [m]) (R.pushed _) (by simp; omega) rfl (by simp; omega) fun s' h3 R3 X3 => ?_
    refine H s' h3 ?_ (X.trans ((Ext.push h2 _ z).trans X3))
    rw [← hc, shortF, if_pos (by omega)]
    exact R3
/-- bytes that grow, over a ground g that stays -/
structure Ac (g h : Heap) (s : Slc) (l : List Int) : Prop where
  X : Ext g.size g h
  R : Row g.size h 5 1 s (b8 l)
abbrev Nxt (g : Heap) (l out : List Int) (c : Nat) (k : Slc → Heap → Prop) : Prop := ∀ s' h' l', l' = l ++ out → l'.length ≤ l.length + c → Ac g h' s' l' → k s' h'
section
variable {g h : Heap} {s : Slc} {l : List Int} {k : Slc → Heap → Prop}
theorem Ac.app (M : Ac g h s l) {v : List Int} {n c : Nat} (hn : n = v.length) (hc : v.length ≤ c) (hl : l.length + v.length ≤ 70368744177664) (H : Nxt g l v c k) : App 5 1 1 [.int .u8 0] h s n (b8 v) k :=
  AppB M.R M.X.size hn hl fun s' h' R' X' => H s' h' _ rfl (by rw [List.length_append]; omega) ⟨M.X.trans X', R'⟩
theorem Ac.ext {h' : Heap} (M : Ac g h s l) (X : Ext h.size h h') : Ac g h' s l := ⟨M.X.trans (X.mono M.X.size), M.R.ext X fun g hg => (M.R.bd hg).2⟩
theorem Ac.bytes (M : Ac g h s l) {t : Slc} {v : List Int} {c : Nat} (ht : SlcAt h t (b8 v)) (hn : t.len = v.length) (hc : v.length ≤ c) (hl : l.length + v.length ≤ 70368744177664) (H : Nxt g l v c k) : ∃ w, SlcAt h t w ∧ App 5 1 1 [.int .u8 0] h s t.len w k :=
  ⟨_, ht, M.app hn hc hl H⟩
theorem Ac.row (M : Ac g h s l) {t : Slc} {v : List Int} {h1 : Heap} {c : Nat} (hR : Row h.size h1 5 1 t (b8 v)) (hX : Ext h.size h h1) (hc : v.length ≤ c) (hl : l.length + v.length ≤ 70368744177664) (H : Nxt g l v c k) : ∃ w, SlcAt h1 t w ∧ App 5 1 1 [.int .u8 0] h1 s t.len w k :=
  (M.ext hX).bytes hR.slc hR.pb hc hl H
theorem Ac.short (M : Ac g h s l) {n : Int} (n0 : 0 ≤ n) (n1 : n < 18446744073709551616) (hl : l.length ≤ 4398046511104) (H : Nxt g l (shortL n) 10 k) : ref01_Short n (fun r h' => ∃ w, SlcAt h' r w ∧ App 5 1 1 [.int .u8 0] h' s r.len w k) h :=
  RShort_ok n0 n1 fun r h1 R1 X1 => M.row R1 X1 (shortL_len n) (by have := shortL_len n; omega) H
theorem Ac.form (M : Ac g h s l) {n w : Int} (w0 : 0 ≤ w) (w1 : w ≤ 8) (n0 : 0 ≤ n) (n1 : n < 18446744073709551616) (hl : l.length ≤ 4398046511104) (H : Nxt g l (formL n w.toNat) 8 k) : ref01_Form n w (fun r h' => ∃ w, SlcAt h' r w ∧ App 5 1 1 [.int .u8 0] h' s r.len w k) h :=
  Form_ok w0 w1 n0 n1 fun r h1 R1 X1 => M.row R1 X1 (by rw [formL_length]; omega) (by rw [formL_length]; omega) H
theorem Ac.one (M : Ac g h s l) {v : Int} (hl : l.length ≤ 4398046511104) (H : Nxt g l [v] 1 k) : ∃ (b : Nat) (h' : Heap), b = h.size ∧ h' = h.push (.cells ([.int .u8 v] : List Value).toArray 5) ∧ App 5 1 1 [.int .u8 0] h' s 1 ([.int .u8 v]) k :=
  ⟨_, _, rfl, rfl, (M.ext (Ext.push _ _ (Nat.le_refl _))).app (v := [v]) rfl (by simp) (by simp; omega) H⟩
end
theorem RZig_ok {p : Int} {k : Int → Heap → Prop} {h : Heap} (p0 : -9223372036854775808 ≤ p) (p1 : p < 9223372036854775808) (H : k (zigN p) h) : ref01_Zig p k h := by
  unfold ref01_Zig
  by_cases hp : p ≥ 0
  · rw [if_pos (by simpa using hp)]
    refine ⟨_, rfl, ?_⟩
    rw [wrapU64 (x := p) (by omega) (by omega), wrapU64 (by omega) (by omega)]
    unfold zigN at H; rw [if_pos (by omega)] at H
    rw [show p * 2 = 2 * p from by omega]; exact H
  · rw [if_neg (by simpa using hp)]
    refine ⟨_, rfl, ?_⟩
    have e1 : IntKind.u64.wrap p = p + 18446744073709551616 := by rw [wU64]; omega
    have e2 : IntKind.u64.wrap (0 - (p + 18446744073709551616)) = -p := by rw [wU64]; omega
    have e3 : IntKind.u64.wrap (-p * 2) = (-p * 2) % 18446744073709551616 := wU64 _
    rw [e1, e2, e3, wU64]
    unfold zigN at H; rw [if_neg (by omega)] at H
    rw [show (-p * 2 % 18446744073709551616 - 1) % 18446744073709551616 = -2 * p - 1 from by omega]; exact H
end Go.Q.Yb

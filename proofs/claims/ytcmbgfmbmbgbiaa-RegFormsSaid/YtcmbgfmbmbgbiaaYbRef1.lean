/- A part of the proof of statements of this seat: lemmas, no statement of their own. -/
import Derived.Test.YtcmbgfmbmbgbiaaYbGet4
import Derived.Test.YtcmbgfmbmbgbiaaYbL01
set_option linter.unusedVariables false
set_option linter.unusedSimpArgs false
namespace Go.Q.Yb
theorem RShort_ok {n : Int} {k : Slc → Heap → Prop} {h : Heap} (n0 : 0 ≤ n) (n1 : n < 18446744073709551616) (H : ∀ s' h', Row h.size h' 5 1 s' (b8 (shortL n)) → Ext h.size h h' → k s' h') : ref01_Short n k h := by
  unfold ref01_Short
  refine ⟨fun q h' => ∃ (cur : List Int) (f : Nat), Row h.size h' 5 1 q.2 (b8 cur) ∧ cur ++ shortF f q.1 = shortL n ∧ 0 ≤ q.1 ∧ q.1 < 128 ^ f ∧ 1 ≤ f ∧ f ≤ 10 ∧ cur.length + f ≤ 10 ∧ Ext h.size h h', fun q _ => q.1.toNat, ⟨[], 10, Row.nil _ _ _ _, rfl, n0, by simp only; omega, by omega, by omega, by simp, Ext.refl _ _⟩, ?_⟩
  rintro m s h2 ⟨cur, f, R, hc, m0, m1, f1, f10, lc, X⟩
  dsimp only at R hc m0 m1
  have z := X.size
  obtain ⟨f, rfl⟩ : ∃ g, f = g + 1 := ⟨f - 1, by omega⟩
  unfold ref01_Short_l1b
  have e1 : m.tmod 128 = m % 128 := by rw [Int.tmod_eq_emod_of_nonneg m0]
  have e2 : m.tdiv 128 = m / 128 := by rw [Int.tdiv_eq_ediv_of_nonneg m0]
  have m64 : m < 1180591620717411303424 := by
    have : (128 : Int) ^ (f + 1) ≤ 128 ^ 10 := by
      have h1 : (128 : Nat) ^ (f + 1) ≤ 128 ^ 10 := Nat.pow_le_pow_right (by omega) f10
      exact_mod_cast h1
    have h2 : (128 : Int) ^ 10 = 1180591620717411303424 := by decide
    omega
  by_cases hm : m ≥ 128
  · rw [if_pos (by simpa using hm), e1, e2, wrapU8 (x := m % 128) (by omega) (by omega), wrapU8 (by omega) (by omega)]
    refine ⟨_, _, rfl, rfl, ?_⟩
    have hf : 1 ≤ f := by
      rcases Nat.eq_zero_or_pos f with h0 | h0
      · subst h0; simp at m1; omega
      · exact h0
    refine AppB (m := [m % 128 + 128]) (R.pushed _) (by simp; omega) rfl (by simp; omega) fun s' h3 R3 X3 => ?_
    have hlt : m / 128 < 128 ^ f := Int.ediv_lt_of_lt_mul (by omega) (by rw [Int.pow_succ] at m1; exact m1)
    have hw : IntKind.u64.wrap (m / 128) = m / 128 := wrapU64 (by omega) (by
      have : m / 128 < 18446744073709551616 := by omega
      exact this)
    rw [hw]
    refine ⟨_, rfl, ⟨_, f, R3, ?_, by dsimp only; omega, hlt, hf, by omega, by simp; omega, X.trans ((Ext.push h2 _ z).trans X3)⟩, by dsimp only; omega⟩
    dsimp only
    rw [← hc, shortF, if_neg (by omega)]
    simp
  · rw [if_neg (by simpa using hm), wU8, show m % 256 = m from by omega]
    refine ⟨_, _, rfl, rfl, ?_⟩
    refine AppB (m := [m]) (R.pushed _) (by simp; omega) rfl (by simp; omega) fun s' h3 R3 X3 => ?_
    refine H s' h3 ?_ (X.trans ((Ext.push h2 _ z).trans X3))
    rw [← hc, shortF, if_pos (by omega)]
    exact R3
/-- bytes that grow, over a ground g that stays -/
structure Ac (g h : Heap) (s : Slc) (l : List Int) : Prop where
  X : Ext g.size g h
  R : Row g.size h 5 1 s (b8 l)
abbrev Nxt (g : Heap) (l out : List Int) (c : Nat) (k : Slc → Heap → Prop) : Prop := ∀ s' h' l', l' = l ++ out → l'.length ≤ l.length + c → Ac g h' s' l' → k s' h'
section
variable {g h : Heap} {s : Slc} {l : List Int} {k : Slc → Heap → Prop}
theorem Ac.app (M : Ac g h s l) {v : List Int} {n c : Nat} (hn : n = v.length) (hc : v.length ≤ c) (hl : l.length + v.length ≤ 70368744177664) (H : Nxt g l v c k) : App 5 1 1 [.int .u8 0] h s n (b8 v) k :=
  AppB M.R M.X.size hn hl fun s' h' R' X' => H s' h' _ rfl (by rw [List.length_append]; omega) ⟨M.X.trans X', R'⟩
theorem Ac.ext {h' : Heap} (M : Ac g h s l) (X : Ext h.size h h') : Ac g h' s l := ⟨M.X.trans (X.mono M.X.size), M.R.ext X fun g hg => (M.R.bd hg).2⟩
theorem Ac.bytes (M : Ac g h s l) {t : Slc} {v : List Int} {c : Nat} (ht : SlcAt h t (b8 v)) (hn : t.len = v.length) (hc : v.length ≤ c) (hl : l.length + v.length ≤ 70368744177664) (H : Nxt g l v c k) : ∃ w, SlcAt h t w ∧ App 5 1 1 [.int .u8 0] h s t.len w k :=
  ⟨_, ht, M.app hn hc hl H⟩
theorem Ac.row (M : Ac g h s l) {t : Slc} {v : List Int} {h1 : Heap} {c : Nat} (hR : Row h.size h1 5 1 t (b8 v)) (hX : Ext h.size h h1) (hc : v.length ≤ c) (hl : l.length + v.length ≤ 70368744177664) (H : Nxt g l v c k) : ∃ w, SlcAt h1 t w ∧ App 5 1 1 [.int .u8 0] h1 s t.len w k :=
  (M.ext hX).bytes hR.slc hR.pb hc hl H
theorem Ac.short (M : Ac g h s l) {n : Int} (n0 : 0 ≤ n) (n1 : n < 18446744073709551616) (hl : l.length ≤ 4398046511104) (H : Nxt g l (shortL n) 10 k) : ref01_Short n (fun r h' => ∃ w, SlcAt h' r w ∧ App 5 1 1 [.int .u8 0] h' s r.len w k) h :=
  RShort_ok n0 n1 fun r h1 R1 X1 => M.row R1 X1 (shortL_len n) (by have := shortL_len n; omega) H
theorem Ac.form (M : Ac g h s l) {n w : Int} (w0 : 0 ≤ w) (w1 : w ≤ 8) (n0 : 0 ≤ n) (n1 : n < 18446744073709551616) (hl : l.length ≤ 4398046511104) (H : Nxt g l (formL n w.toNat) 8 k) : ref01_Form n w (fun r h' => ∃ w, SlcAt h' r w ∧ App 5 1 1 [.int .u8 0] h' s r.len w k) h :=
  Form_ok w0 w1 n0 n1 fun r h1 R1 X1 => M.row R1 X1 (by rw [formL_length]; omega) (by rw [formL_length]; omega) H
theorem Ac.one (M : Ac g h s l) {v : Int} (hl : l.length ≤ 4398046511104) (H : Nxt g l [v] 1 k) : ∃ (b : Nat) (h' : Heap), b = h.size ∧ h' = h.push (.cells ([.int .u8 v] : List Value).toArray 5) ∧ App 5 1 1 [.int .u8 0] h' s 1 ([.int .u8 v]) k :=
  ⟨_, _, rfl, rfl, (M.ext (Ext.push _ _ (Nat.le_refl _))).app (v := [v]) rfl (by simp) (by simp; omega) H⟩
theorem RText_ok {t : ByteArray} {k : Slc → Heap → Prop} {h : Heap} (ht : t.size ≤ 4398046511104) (H : ∀ s' h', Row h.size h' 5 1 s' (b8 (textL t)) → Ext h.size h h' → k s' h') : ref27_text t k h := by
  unfold ref27_text
  rw [wrapU64 (by omega) (by omega)]
  refine RShort_ok (by omega) (by omega) fun r h1 R1 X1 => ?_
  have := shortL_len t.size
  exact AppB R1 X1.size (by rw [sB_len]) (by rw [sB_len]; omega) fun s' h' R' X' => H s' h' R' (X1.trans X')
theorem Ac.text (M : Ac g h s l) {t : ByteArray} {c : Nat} (ht : t.size ≤ c) (hc : c ≤ 4398046511104) (hl : l.length ≤ 4398046511104) (H : Nxt g l (textL t) (c + 10) k) : ref27_text t (fun r h' => ∃ w, SlcAt h' r w ∧ App 5 1 1 [.int .u8 0] h' s r.len w k) h :=
  RText_ok (by omega) fun r h1 R1 X1 => M.row R1 X1 (by have := textL_len t; omega) (by have := textL_len t; omega) H
theorem Ac.btext (M : Ac g h s l) {t : Slc} {v : List Int} {c : Nat} (ht : SlcAt h t (b8 v)) (hn : t.len = v.length) (hB : isB v) (hc : v.length ≤ c) (hcc : c ≤ 4398046511104) (hl : l.length ≤ 4398046511104) (H : Nxt g l (tx v) (c + 10) k) :
    ∃ y : List Int, y.length = t.len ∧ SlcAt h t (b8 y) ∧ ref27_text (bsOf y) (fun r h' => ∃ w, SlcAt h' r w ∧ App 5 1 1 [.int .u8 0] h' s r.len w k) h :=
  ⟨v, hn.symm, ht, M.text (c := c) (by rw [bsOf_size]; omega) hcc hl (by rw [textL_bs hB]; exact H)⟩
end
theorem RId_ok {x : S_api_Id} {k : Slc → Heap → Prop} {h : Heap} (x0 : 0 ≤ x.f_N ∧ x.f_N < 18446744073709551616) (x1 : 0 ≤ x.f_Node ∧ x.f_Node < 65536) (H : ∀ s' h', Row h.size h' 5 1 s' (b8 (idL x)) → Ext h.size h h' → k s' h') : ref27_id x k h := by
  unfold ref27_id
  refine ⟨_, _, rfl, rfl, ?_⟩
  have P := Blk.push h (S_api_Id.cs x) 48
  have W := Ext.push h (.cells (S_api_Id.cs x).toArray 48) (Nat.le_refl _)
  obtain ⟨h2, e2⟩ : ∃ y, y = h.push (.cells (S_api_Id.cs x).toArray 48) := ⟨_, rfl⟩
  rw [← e2] at P W ⊢
  have z2 := W.size
  refine ⟨_, by rw [P.cell]; rfl, _, by rw [add_mk, P.cell]; rfl, ?_⟩
  refine Form_ok (by omega) (by omega) x0.1 x0.2 fun r h3 R3 X3 => ?_
  have P3 := P.ext X3 P.lt
  refine ⟨by rw [add_mk, P3.cell]; rfl, ?_⟩
  rw [wrapU64 (by omega) (by omega)]
  have M3 : Ac h2 h3 r (formL x.f_N 8) := ⟨X3, R3⟩
  refine M3.form (by omega) (by omega) (by omega) (by omega) (by rw [formL_length]; omega) fun s' h' l' el _ M => ?_
  subst el
  exact H s' h' (M.R.mono z2) (W.trans (M.X.mono z2))
theorem RZig_ok {p : Int} {k : Int → Heap → Prop} {h : Heap} (p0 : -9223372036854775808 ≤ p) (p1 : p < 9223372036854775808) (H : k (zigN p) h) : ref01_Zig p k h := by
  unfold ref01_Zig
  by_cases hp : p ≥ 0
  · rw [if_pos (by simpa using hp)]
    refine ⟨_, rfl, ?_⟩
    rw [wrapU64 (x := p) (by omega) (by omega), wrapU64 (by omega) (by omega)]
    unfold zigN at H; rw [if_pos (by omega)] at H
    rw [show p * 2 = 2 * p from by omega]; exact H
  · rw [if_neg (by simpa using hp)]
    refine ⟨_, rfl, ?_⟩
    have e1 : IntKind.u64.wrap p = p + 18446744073709551616 := by rw [wU64]; omega
    have e2 : IntKind.u64.wrap (0 - (p + 18446744073709551616)) = -p := by rw [wU64]; omega
    have e3 : IntKind.u64.wrap (-p * 2) = (-p * 2) % 18446744073709551616 := wU64 _
    rw [e1, e2, e3, wU64]
    unfold zigN at H; rw [if_neg (by omega)] at H
    rw [show (-p * 2 % 18446744073709551616 - 1) % 18446744073709551616 = -2 * p - 1 from by omega]; exact H
theorem RPut_ok {c : S_api_Command} {wr : List Int} {k : Slc → Heap → Prop} {h : Heap} (A : CmdAt h c wr) (S : CmdSm c wr) (H : Lays' h (cmdL c wr) k) : ref25_Put c k h := by
  have b3 := S.t; have b4 := S.w
  unfold ref25_Put
  refine ⟨_, _, rfl, rfl, ?_⟩
  have P := Blk.push h (S_api_Command.cs c) 32
  have W := Ext.push h (.cells (S_api_Command.cs c).toArray 32) (Nat.le_refl _)
  obtain ⟨h2, e2⟩ : ∃ y, y = h.push (.cells (S_api_Command.cs c).toArray 32) := ⟨_, rfl⟩
  rw [← e2] at P W ⊢
  have pl := P.lt
  have A2 := A.ext W
  have z2 := W.size
  have C : ∀ {h' : Heap} {i : Nat} {v : Value}, Ext h2.size h2 h' → (S_api_Command.cs c)[i]? = some v → cellH h' ((⟨h.size, 0, none⟩ : Addr).add i) = some v := fun X hv => by rw [add_mk, (P.ext X pl).cell, Nat.zero_add]; exact hv
  refine ⟨_, by rw [P.cell]; rfl, _, _, rfl, rfl, ?_⟩
  have Q := Blk.push h2 (b8 [c.f_Kind % 256]) 5
  have W3 := Ext.push h2 (.cells (b8 [c.f_Kind % 256]).toArray 5) (Nat.le_refl _)
  rw [wU8]
  obtain ⟨h3, e3⟩ : ∃ y, y = h2.push (.cells (b8 [c.f_Kind % 256]).toArray 5) := ⟨_, rfl⟩
  rw [show (Value.int .u8 (c.f_Kind % 256)) :: [] = b8 [c.f_Kind % 256] from rfl, ← e3]
  rw [← e3] at Q W3
  have M3 : Ac h2 h3 ⟨some ⟨h2.size, 0, none⟩, 1, 1⟩ [c.f_Kind % 256] := ⟨W3, Row.of_blk (zs := []) (by simpa using Q) (Nat.le_refl _) rfl rfl (by simp [maxLen])⟩
  have n3 : ([c.f_Kind % 256] : List Int).length = 1 := rfl
  generalize e3' : [c.f_Kind % 256] = l3 at *
  refine ⟨_, C M3.X rfl, ?_⟩
  rw [wrapU64 (by omega) (by omega)]
  refine M3.short (by omega) (by omega) (by omega) fun s4 h4 l4 e4 n4 M4 => ?_
  refine ⟨_, C M4.X rfl, ?_⟩
  refine M4.app (by rw [sB_len]) (c := 100000) (by rw [sB_len]; omega) (by rw [sB_len]; omega) fun s5 h5 l5 e5 n5 M5 => ?_
  refine ⟨_, C M5.X rfl, ?_⟩
  rw [wrapU64 (x := c.f_Epoch) (by have := A.ep; omega) (by have := A.ep; omega)]
  refine M5.form (by omega) (by omega) A.ep.1 (by have := A.ep; omega) (by omega) fun s6 h6 l6 e6 n6 M6 => ?_
  refine ⟨_, by omega, by omega, by omega, rfl, ?_⟩
  have N5 : SlcAt h6 (subS ⟨some ((⟨h.size, 0, none⟩ : Addr).add 3), 12, 12⟩ 1 (0 : Int).toNat (12 : Int).toNat 12) (b8 (nrm 12 c.f_Nonce)) := by
    have : (subS ⟨some ((⟨h.size, 0, none⟩ : Addr).add 3), 12, 12⟩ 1 (0 : Int).toNat (12 : Int).toNat 12) = ⟨some ⟨h.size, 3, none⟩, 12, 12⟩ := by simp [subS]
    rw [this]
    refine (P.ext M6.X pl).slc (n := 12) ?_
    rw [show b8 (nrm 12 c.f_Nonce) = arr 12 .u8 c.f_Nonce from (arr_nrm _ _ _).symm]
    rfl
  refine M6.bytes N5 (by rw [nrm_len]; rfl) (c := 12) (by rw [nrm_len]; omega) (by rw [nrm_len]; omega) fun s7 h7 l7 e7 n7 M7 => ?_
  refine ⟨_, C M7.X rfl, ?_⟩
  rw [A.wl, wrapU64 (by omega) (by omega)]
  refine M7.short (by omega) (by omega) (by omega) fun s8 h8 l8 e8 n8 M8 => ?_
  refine ⟨_, C M8.X rfl, ?_⟩
  refine M8.bytes (A2.ext M8.X).ws A.wl (c := 100000) (by omega) (by omega) fun s9 h9 l9 e9 n9 M9 => ?_
  refine ⟨_, C M9.X rfl, RZig_ok A.hz.1 A.hz.2 ?_⟩
  refine M9.form (by omega) (by omega) (zigN_bd A.hz.1 A.hz.2).1 (zigN_bd A.hz.1 A.hz.2).2 (by omega) fun s10 h10 l10 e10 n10 M10 => ?_
  refine H s10 h10 ?_ (W.trans (M10.X.mono z2))
  have : l10 = cmdL c wr := by
    rw [e10, e9, e8, e7, e6, e5, e4, ← e3', cmdL]
    simp only [textL, tx, List.append_assoc, List.cons_append, List.nil_append]
    rfl
  rw [← this]; exact M10.R.mono z2
end Go.Q.Yb

/- A part of the proof of statements of this seat: lemmas, no statement of their own. -/
import Derived.Test.YtcmbgfmbmbgbiaaYbRhI
set_option linter.unusedVariables false
set_option linter.unusedSimpArgs false
namespace Go.Q.Yb
def tenF (p : ByteArray × AT) : List Int := textL p.1 ++ (formL (if p.2.2.1 = true then 1 else 0) 1 ++ (formL (zigN p.2.1) 8 ++ (shortL p.2.2.2.length ++ p.2.2.2.flatMap keyF)))
def Good (p : ByteArray × AT) : Prop := nameOk p.1 = true ∧ i64r p.2.1 ∧ (p.2.2.1 = true ↔ p.2.2.2 = []) ∧ keysOk p.2.2.2
theorem zag_r {v : Int} (v0 : 0 ≤ v) (v1 : v < 18446744073709551616) : i64r (zagN v) := zag_bd v0 v1
section
variable {h : Heap} {r : Nat} {l : List Int} {bad : Bool} {k : S_api_Tenant → Heap → Prop}
theorem RTenant_ok (R : Rd 155 h r l bad)
    (H : ∀ t zs l' b' h', Rd 155 h' r l' b' → Upd r h h' → KOwn h.size h' t.f_Keys zs → zs.length ≤ 20000 → t.f_Name.size ≤ 1000000 → (b' = false → bad = false ∧ l = tenF (t.f_Name, absT (t, zs)) ++ l' ∧ Good (t.f_Name, absT (t, zs))) →
      (∀ p l'', bad = false → l = tenF p ++ l'' → Good p → b' = false ∧ (t.f_Name, absT (t, zs)) = p ∧ l' = l'') → k t h') : reg_reader_tenant (some ⟨r, 0, none⟩) k h := by
  have rl := R.lt
  unfold reg_reader_tenant
  refine ⟨_, _, rfl, rfl, ?_⟩
  have Q1 := Blk.push h (S_api_Tenant.cs zT) 130
  have W2 := Ext.push h (.cells (S_api_Tenant.cs zT).toArray 130) (Nat.le_refl _)
  have ql := Q1.lt
  show reg_reader_text _ _ (h.push (.cells (S_api_Tenant.cs zT).toArray 130))
  generalize h.push (.cells (S_api_Tenant.cs zT).toArray 130) = h2 at *
  have z2 := W2.size
  refine regr_text4 (R.ext (W2.mono (by omega))) fun name l1 bb1 h4 R4 U4 ns E1 C1 => ?_
  have z4 := U4.size
  refine ⟨_, _, rfl, rfl, ?_⟩
  have T := Blk.push h4 (S_api_Tenant.cs zT) 130
  have T2 := T.sets_all (vs := S_api_Tenant.cs ⟨name, ⟨none, 0, 0⟩, 0, false⟩) rfl
  have W5 := (Ext.push h4 (.cells (S_api_Tenant.cs zT).toArray 130) (Nat.le_refl _)).trans (Ext.sets _ (a := ⟨h4.size, 0, none⟩) 0 (S_api_Tenant.cs ⟨name, ⟨none, 0, 0⟩, 0, false⟩) (Nat.le_refl _))
  refine ⟨_, WrsAt.of_blk T (by rw [tcs_len]; omega), rfl, ?_⟩
  show reg_reader_number _ _ _ (setsH (h4.push (.cells (S_api_Tenant.cs zT).toArray 130)) ⟨h4.size, 0, none⟩ 0 (S_api_Tenant.cs ⟨name, ⟨none, 0, 0⟩, 0, false⟩))
  generalize eb : h4.size = b5 at *
  generalize setsH (h4.push (.cells (S_api_Tenant.cs zT).toArray 130)) ⟨b5, 0, none⟩ 0 (S_api_Tenant.cs ⟨name, ⟨none, 0, 0⟩, 0, false⟩) = h5 at *
  have z5 := W5.size
  have t5 := T2.lt
  refine regr_number4 (R4.ext (W5.mono (by omega))) (by omega) (by omega) fun flag l2 bb2 h6 R6 U6 f0 f1 E2 C2 => ?_
  have z6 := U6.size
  rw [pw1] at f1
  have T6 := U6.blk T2 (by omega)
  refine ⟨_, by rw [add_mk]; exact T6.wr (by rw [tcs_len]; omega), rfl, ?_⟩
  rw [show (⟨b5, 0, none⟩ : Addr).add 3 = ⟨b5, 3, none⟩ from by simp]
  have T7 : Blk (setH h6 ⟨b5, 3, none⟩ (.bool (flag == 1))) b5 (S_api_Tenant.cs ⟨name, ⟨none, 0, 0⟩, 0, flag == 1⟩) 130 := T6.set
  have X7 : Ext b5 h6 (setH h6 ⟨b5, 3, none⟩ (.bool (flag == 1))) := Ext.set _ _ (Nat.le_refl _)
  have o7 : ∀ g, g ≠ b5 → (setH h6 ⟨b5, 3, none⟩ (.bool (flag == 1)))[g]? = h6[g]? := fun g hg => setH_other hg
  generalize setH h6 ⟨b5, 3, none⟩ (.bool (flag == 1)) = h7 at *
  have z7 := X7.size
  refine regr_number4 (R6.ext (X7.mono (by omega))) (by omega) (by omega) fun v8 l3 bb3 h8 R8 U8 v0 v1 E3 C3 => ?_
  have z8 := U8.size
  rw [pw8] at v1
  refine Zag_ok v0 v1 ?_
  have T8 := U8.blk T7 (by omega)
  refine ⟨_, by rw [add_mk]; exact T8.wr (by rw [tcs_len]; omega), rfl, ?_⟩
  rw [show (⟨b5, 0, none⟩ : Addr).add 2 = ⟨b5, 2, none⟩ from by simp]
  have T9 : Blk (setH h8 ⟨b5, 2, none⟩ (.int .i64 (zagN v8))) b5 (S_api_Tenant.cs ⟨name, ⟨none, 0, 0⟩, zagN v8, flag == 1⟩) 130 := T8.set
  have X9 : Ext b5 h8 (setH h8 ⟨b5, 2, none⟩ (.int .i64 (zagN v8))) := Ext.set _ _ (Nat.le_refl _)
  generalize setH h8 ⟨b5, 2, none⟩ (.int .i64 (zagN v8)) = h9 at *
  have z9 := X9.size
  refine regr_short4 (R8.ext (X9.mono (by omega))) fun n l4 bb4 h10 R10 U10 n0 n1 E4 C4 => ?_
  have z10 := U10.size
  have T10 := U10.blk T9 (by omega)
  have U04 : Upd r h h4 := (Upd.of_ext W2).trans U4
  have U05 : Upd r h h5 := U04.fresh (W5.mono (by omega))
  have U07 : Upd r h h7 := (U05.trans U6).fresh (X7.mono (by omega))
  have U010 : Upd r h h10 := ((U07.trans U8).fresh (X9.mono (by omega))).trans U10
  have Q10 : Blk h10 h.size (S_api_Tenant.cs zT) 130 := by
    have a := U4.blk Q1 (by omega)
    have b := U6.blk (a.ext W5 (by omega)) (by omega)
    have c := U8.blk (b.ext X7 (by omega)) (by omega)
    exact U10.blk (c.ext X9 (by omega)) (by omega)
  -- what a form has ahead
  have HC : ∀ p l'', bad = false → l = tenF p ++ l'' → Good p → bb4 = false ∧ name = p.1 ∧ flag = (if p.2.2.1 = true then 1 else 0) ∧ v8 = zigN p.2.1 ∧ n = p.2.2.2.length ∧ l4 = p.2.2.2.flatMap keyF ++ l'' := fun p l'' q1 q2 q3 => by
    obtain ⟨_, q32, _, ⟨⟨a, a1, a2, _⟩, _⟩⟩ := q3
    unfold tenF at q2
    simp only [List.append_assoc] at q2
    obtain ⟨d1, d2, d3⟩ := C1 _ _ q1 q2
    obtain ⟨d4, d5, d6⟩ := C2 _ _ d1 d3 (by split <;> omega) (by rw [pw1]; split <;> omega)
    have zb := zigN_bd q32.1 q32.2
    obtain ⟨d7, d8, d9⟩ := C3 _ _ d4 d6 zb.1 (by rw [pw8]; exact zb.2)
    obtain ⟨e1, e2, e3⟩ := C4 _ _ d7 d9 (by omega) (by omega)
    exact ⟨e1, d2, d5, d8, e2, e3⟩
  have fin : ∀ t43 : Bool, (t43 = false → bb4 = false ∧ flag ≤ 1 ∧ nameOk name = true ∧ ((flag == 1) = true ↔ n = 0)) → (bb4 = false ∧ flag ≤ 1 ∧ nameOk name = true ∧ ((flag == 1) = true ↔ n = 0) → t43 = false) →
      reg_reader_tenant_g2 (some ⟨r, 0, none⟩) ⟨h.size, 0, none⟩ ⟨b5, 0, none⟩ n (some ⟨r, 0, none⟩) t43 k h10 := fun t43 g1 g2 => by
    unfold reg_reader_tenant_g2
    obtain ⟨_, wr, R11, U11⟩ := R10.bit t43
    refine ⟨_, rfl, _, wr, rfl, ?_⟩
    generalize setH h10 ((⟨r, 0, none⟩ : Addr).add 1) (.bool t43) = h11 at *
    refine TenLoop_ok (h0 := h) n0 n1 rl (Nat.le_refl _) (by omega) (U11.blk Q10 (by omega)) (U11.blk T10 (by omega)) (U010.trans U11) R11 fun s zs l' b' h' R' U' O' So Co zl => ?_
    refine H ⟨name, s, zagN v8, flag == 1⟩ zs l' b' h' R' U' O' zl ns (fun e => ?_) (fun p l'' q1 q2 q3 => ?_)
    · obtain ⟨a1, a2, a3, a4⟩ := So e
      obtain ⟨c1, c2, c3, c4⟩ := g1 a1
      obtain ⟨d1, d2⟩ := E4 c1
      obtain ⟨d3, d4⟩ := E3 d1
      obtain ⟨d5, d6⟩ := E2 d3
      obtain ⟨d7, d8⟩ := E1 d5
      have fe : flag = if (flag == 1) = true then 1 else 0 := by
        by_cases hf : flag = 1
        · rw [hf]; rfl
        · rw [if_neg (by rw [beq_iff_eq]; exact hf)]; omega
      have hkl : ((zs.map absK).length : Int) = n := by rw [List.length_map]; omega
      refine ⟨d7, ?_, c3, zag_r v0 v1, ?_, a3⟩
      · show l = (textL name ++ (formL (if (flag == 1) = true then 1 else 0) 1 ++ (formL (zigN (zagN v8)) 8 ++ (shortL ((zs.map absK).length : Int) ++ (zs.map absK).flatMap keyF)))) ++ l'
        rw [zig_zag v0, hkl, ← fe]
        simp only [List.append_assoc]
        rw [← a2, d8, d6, d4, d2]; rfl
      · show (flag == 1) = true ↔ zs.map absK = []
        rw [c4, List.map_eq_nil_iff, ← List.length_eq_zero_iff]; omega
    · obtain ⟨e1, e2, e3, e4, e5, e6⟩ := HC p l'' q1 q2 q3
      obtain ⟨q31, q32, q33, q34⟩ := q3
      have fb : (flag == 1) = p.2.2.1 := by
        rw [e3]
        cases p.2.2.1 <;> rfl
      have ht : t43 = false := g2 ⟨e1, by rw [e3]; split <;> omega, by rw [e2]; exact q31, by
        rw [fb, q33, ← List.length_eq_zero_iff, e5]; omega⟩
      obtain ⟨f1, f2, f3⟩ := Co p.2.2.2 l'' ht e6 e5 q34
      refine ⟨f1, ?_, f3⟩
      show (name, (zagN v8, flag == 1, zs.map absK)) = p
      rw [e2, e4, zag_zig, fb, f2]
  have g1t : (bb4 = false ∧ flag ≤ 1 ∧ nameOk name = true → False) → reg_reader_tenant_g1 (some ⟨r, 0, none⟩) ⟨h.size, 0, none⟩ ⟨b5, 0, none⟩ n (some ⟨r, 0, none⟩) true k h10 := fun no => by
    unfold reg_reader_tenant_g1
    rw [if_pos rfl]
    exact fin true (fun e => by cases e) fun hh => absurd ⟨hh.1, hh.2.1, hh.2.2.1⟩ no
  obtain ⟨cb, _, _, _⟩ := R10.bit true
  refine ⟨_, rfl, bb4, cb, ?_⟩
  by_cases hc : (bb4 || decide (flag > 1)) = true
  · rw [if_pos hc]
    refine g1t fun hh => ?_
    rw [hh.1, Bool.false_or, decide_eq_true_eq] at hc
    omega
  · rw [if_neg hc]
    have hb4 : bb4 = false := by
      cases hq : bb4 with
      | false => rfl
      | true => rw [hq] at hc; exact absurd rfl hc
    have hf : flag ≤ 1 := by
      rw [hb4, Bool.false_or, decide_eq_true_eq] at hc
      omega
    refine ⟨name, by rw [T10.cell]; rfl, BName_ok ns ?_⟩
    cases hn : nameOk name with
    | false => exact g1t fun hh => by rw [hn] at hh; cases hh.2.2
    | true =>
      unfold reg_reader_tenant_g1
      rw [if_neg (by simp)]
      refine ⟨flag == 1, by rw [add_mk, T10.cell]; rfl, ?_⟩
      refine fin _ (fun e => ⟨hb4, hf, hn, ?_⟩) fun hh => ?_
      · rw [Bool.not_eq_false', beq_iff_eq] at e
        rw [e, beq_iff_eq]
      · rw [Bool.not_eq_false', beq_iff_eq]
        cases hq : (flag == 1) with
        | true => exact (beq_iff_eq.2 (hh.2.2.2.1 hq)).symm
        | false => exact (beq_eq_false_iff_ne.2 fun e => by have := hh.2.2.2.2 e; rw [hq] at this; cases this).symm
end
end Go.Q.Yb

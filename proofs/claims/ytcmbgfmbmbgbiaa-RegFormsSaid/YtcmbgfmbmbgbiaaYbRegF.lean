/- A part of the proof of statements of this seat: lemmas, no statement of their own. -/
import Derived.Test.YtcmbgfmbmbgbiaaYbRef1
set_option linter.unusedVariables false
set_option linter.unusedSimpArgs false
namespace Go.Q.Yb
theorem numL_form : ∀ (w : Nat) (v : Int), 0 ≤ v → v < 256 ^ w → numL (formL v w) = v
  | 0, v, h0, h1 => by simp at h1; simp [formL, numL]; omega
  | w + 1, v, h0, h1 => by
    rw [Int.pow_succ] at h1
    simp only [formL, numL]
    rw [numL_form w (v / 256) (by omega) (Int.ediv_lt_of_lt_mul (by omega) h1)]; omega
theorem zag_zig {p : Int} : zagN (zigN p) = p := by unfold zigN zagN; split <;> split <;> omega
theorem pw1 : (256 : Int) ^ (1 : Int).toNat = 256 := by decide
theorem pw4 : (256 : Int) ^ (4 : Int).toNat = 4294967296 := by decide
theorem pw8 : (256 : Int) ^ (8 : Int).toNat = 18446744073709551616 := by decide
/-! ### what is known to be a form is read -/
theorem short_split : ∀ (f : Nat) (n : Int), 0 ≤ n → n < 128 ^ f → 0 < f → ∃ q c, shortF f n = q ++ [c] ∧ (∀ b ∈ q, 128 ≤ b ∧ b < 256) ∧ (0 ≤ c ∧ c < 128) ∧ (q ≠ [] → c ≠ 0) ∧ q.length < f ∧ n = valS q + c * 128 ^ q.length
  | 0, n, _, _, h => by omega
  | f + 1, n, h0, h1, _ => by
    by_cases hn : n < 128
    · exact ⟨[], n, by unfold shortF; rw [if_pos hn]; rfl, by simp, by omega, by simp, by simp, by simp [valS]⟩
    · rw [Int.pow_succ] at h1
      have hf : 0 < f := by
        rcases Nat.eq_zero_or_pos f with rfl | h
        · simp at h1; omega
        · exact h
      obtain ⟨q, c, e, hq, hc, hz, hl, hv⟩ := short_split f (n / 128) (by omega) (Int.ediv_lt_of_lt_mul (by omega) h1) hf
      refine ⟨(n % 128 + 128) :: q, c, by unfold shortF; rw [if_neg hn, e]; rfl, fun b hb => ?_, hc, fun _ => ?_, by simp; omega, ?_⟩
      · rcases List.mem_cons.1 hb with rfl | hb
        · omega
        · exact hq b hb
      · cases q with
        | nil => simp [valS] at hv; omega
        | cons x r => exact hz (by simp)
      · simp only [valS, List.length_cons, Int.pow_succ]
        rw [← Int.mul_assoc c]
        generalize c * 128 ^ q.length = Q at *
        omega
theorem GetShort_ok3 {s : Slc} {v : Int} {l' : List Int} {k : Int × Int × Int → Heap → Prop} {h : Heap} (hs : SlcAt h s (b8 (shortL v ++ l'))) (hl : s.len = (shortL v ++ l').length) (hz : l'.length ≤ 4611686018427387904) (v0 : 0 ≤ v) (v1 : v < 18446744073709551616)
    (H1 : k (v, ((shortL v).length : Int), 0) h) : num_GetShort s k h := by
  obtain ⟨q, c, eq, hq, hc, hz2, hl2, hv⟩ := short_split 10 v v0 (by have : (128 : Int) ^ 10 = 1180591620717411303424 := by decide
                                                                     omega) (by omega)
  have esl : shortL v = q ++ [c] := eq
  have c9 : q.length = 9 → c ≤ 1 := fun h9 => by
    have := (valS_bd hq).1
    rw [h9, show (128 : Int) ^ 9 = 9223372036854775808 from by decide] at hv
    omega
  rw [esl] at hs hl H1
  unfold num_GetShort
  refine ⟨fun st h' => ∃ p r, q = p ++ r ∧ st.2 = (p.length : Int) ∧ st.1 = valS p ∧ h' = h, fun st _ => (10 - st.2).toNat, ⟨[], q, rfl, by simp, rfl, rfl⟩, ?_⟩
  rintro n i h' ⟨p, r, e, hi, hn, hh⟩
  dsimp only at hi hn
  subst hh
  subst hi; subst hn
  unfold num_GetShort_l1b
  have hql : q.length = p.length + r.length := by rw [e, List.length_append]
  have hp : ∀ b ∈ p, 128 ≤ b ∧ b < 256 := fun b hb => hq b (by rw [e]; exact List.mem_append_left _ hb)
  simp only [List.length_append, List.length_cons, List.length_nil] at hl
  rw [if_pos (by rw [decide_eq_true_eq]; omega)]
  have vb := valS_bd hp
  cases r with
  | cons b r' =>
    simp at hql
    have hb : (q ++ [c] ++ l')[p.length]? = some b := by rw [e]; simp
    have bb := hq b (by rw [e]; simp)
    obtain ⟨a, ha, hcell⟩ := slc_get hs (i := p.length) (v := .int .u8 b) (by rw [List.getElem?_map, hb]; rfl)
    refine ⟨a, ha, by omega, by omega, b, by rw [Int.toNat_natCast, Nat.mul_one]; exact hcell, ?_⟩
    rw [if_neg (by
      simp only [Bool.and_eq_true, beq_iff_eq, decide_eq_true_eq]
      rintro ⟨h1, h2⟩; omega)]
    rw [wrapU64 (x := (p.length : Int)) (by omega) (by omega), wrapU64 (x := 7 * (p.length : Int)) (by omega) (by omega), and127 (by omega), wrapU64 (x := b % 128) (by omega) (by omega), show (7 * (p.length : Int)).toNat = 7 * p.length from by omega]
    obtain ⟨o1, o2, o3⟩ := or_shift (n := valS p) (c := b % 128) (i := p.length) (by omega) vb.1 vb.2 (by omega) (by omega) (fun h => by omega)
    rw [o1, wrapI64 (by omega) (by omega)]
    refine ⟨by omega, _, rfl, ?_⟩
    rw [if_pos (by rw [decide_eq_true_eq]; omega)]
    refine ⟨⟨p ++ [b], r', by rw [e]; simp, by simp, ?_, rfl⟩, by dsimp only; omega⟩
    dsimp only
    rw [valS_snoc, show b % 128 = b - 128 from by omega]
  | nil =>
    simp at e
    subst e
    have hb : (q ++ [c] ++ l')[q.length]? = some c := by simp
    obtain ⟨a, ha, hcell⟩ := slc_get hs (i := q.length) (v := .int .u8 c) (by rw [List.getElem?_map, hb]; rfl)
    refine ⟨a, ha, by omega, by omega, c, by rw [Int.toNat_natCast, Nat.mul_one]; exact hcell, ?_⟩
    rw [if_neg (by
      simp only [Bool.and_eq_true, beq_iff_eq, decide_eq_true_eq]
      rintro ⟨h1, h2⟩; have := c9 (by omega); omega)]
    rw [wrapU64 (x := (q.length : Int)) (by omega) (by omega), wrapU64 (x := 7 * (q.length : Int)) (by omega) (by omega), and127 (by omega), wrapU64 (x := c % 128) (by omega) (by omega), show (7 * (q.length : Int)).toNat = 7 * q.length from by omega]
    obtain ⟨o1, o2, o3⟩ := or_shift (n := valS q) (c := c % 128) (i := q.length) (by omega) vb.1 vb.2 (by omega) (by omega) (fun h => by have := c9 h; omega)
    rw [o1, wrapI64 (by omega) (by omega)]
    refine ⟨by omega, _, rfl, ?_⟩
    rw [if_neg (by rw [decide_eq_true_eq]; omega)]
    rw [if_neg (by
      simp only [Bool.and_eq_true, beq_iff_eq, decide_eq_true_eq]
      rintro ⟨h1, h2⟩; exact hz2 (fun h0 => by rw [h0] at h2; simp at h2) h1)]
    rw [show c % 128 = c from by omega] at o2 o3 ⊢
    refine ⟨_, rfl, ?_⟩
    rw [← hv]
    simpa using H1
section
variable {h : Heap} {r : Nat} {l' : List Int}
theorem regr_bytes3 {x : List Int} {n : Int} {k : Slc → Heap → Prop} (R : Rd 155 h r (x ++ l') false) (hn : n = x.length)
    (H1 : ∀ s' h', Rd 155 h' r l' false → Upd r h h' → (∀ h'', Ext r h' h'' → SlcAt h'' s' (b8 x)) → s'.len = x.length → s'.len ≤ s'.cap → k s' h') : reg_reader_bytes (some ⟨r, 0, none⟩) n k h := by
  obtain ⟨s, K, S, sl, sc, hB, hz⟩ := R
  rw [List.length_append] at sl hz
  unfold reg_reader_bytes
  refine ⟨_, rfl, false, by rw [add_mk, K.cell]; rfl, ?_⟩
  rw [if_neg (by simp)]
  refine ⟨s, by rw [K.cell]; rfl, ?_⟩
  rw [wrapU64 (x := (s.len : Int)) (by omega) (by omega), show decide (n > (s.len : Int)) = false from by rw [decide_eq_false_iff_not]; omega]
  unfold reg_reader_bytes_g1
  rw [if_neg (by simp)]
  have en : n.toNat = x.length := by omega
  refine ⟨_, rfl, s, by rw [K.cell]; rfl, _, by omega, by omega, by omega, by omega, rfl, s, by rw [K.cell]; rfl, _, by omega, by omega, by omega, by omega, rfl, _, K.wr (by simp), rfl, ?_⟩
  have K2 := K.set (i := 0) (v := Slc.v (subS s 1 n.toNat (s.len : Int).toNat (s.cap : Int).toNat))
  have U : Upd r h (setH h ⟨r, 0, none⟩ (Slc.v (subS s 1 n.toNat (s.len : Int).toNat (s.cap : Int).toNat))) := ⟨by rw [setH_size]; exact Nat.le_refl _, fun j hj hne => setH_other (by simpa using hne)⟩
  have X := U.ext (B := r) (Nat.le_refl _) (Nat.le_of_lt K.lt)
  refine H1 _ _ ⟨_, K2, fun h2 Y => ?_, by rw [subS_len]; omega, by rw [subS_len, subS_cap]; omega, fun b hb => hB b (List.mem_append_right _ hb), by omega⟩ U (fun h2 Y => ?_) (by rw [subS_len]; omega) (by rw [subS_len, subS_cap]; omega)
  · have := (S h2 (X.trans Y)).sub (w := 1) (l := n.toNat) (u := (s.len : Int).toNat) (m := (s.cap : Int).toNat) (by omega) (by omega)
    rw [Nat.mul_one, Nat.mul_one, en, ← List.map_drop, List.drop_left, List.take_of_length_le (by rw [List.length_map]; omega)] at this
    rw [en]; exact this
  · have := (S h2 (X.trans Y)).sub (w := 1) (l := (0 : Int).toNat) (u := n.toNat) (m := (s.cap : Int).toNat) (by omega) (by omega)
    rw [show (0 : Int).toNat * 1 = 0 from rfl, List.drop_zero, show (n.toNat - (0 : Int).toNat) * 1 = x.length from by simp; omega, ← List.map_take, List.take_left] at this
    exact this
theorem regr_short3 {v : Int} {k : Int → Heap → Prop} (R : Rd 155 h r (shortL v ++ l') false) (v0 : 0 ≤ v) (v1 : v < 18446744073709551616)
    (H1 : ∀ h', Rd 155 h' r l' false → Upd r h h' → k v h') : reg_reader_short (some ⟨r, 0, none⟩) k h := by
  obtain ⟨s, K, S, sl, sc, hB, hz⟩ := R
  have sl' := sl
  rw [List.length_append] at sl' hz
  unfold reg_reader_short
  refine ⟨_, rfl, s, by rw [K.cell]; rfl, ?_⟩
  refine GetShort_ok3 (S h (Ext.refl _ _)) sl (by omega) v0 v1 ?_
  refine ⟨false, by rw [add_mk, K.cell]; rfl, _, by rw [add_mk]; exact K.wr (by simp), rfl, ?_⟩
  rw [add_mk, Nat.zero_add]
  have K2 := K.set (i := 1) (v := .bool (false || ((0 : Int) != 0)))
  have U : Upd r h (setH h ⟨r, 1, none⟩ (.bool (false || ((0 : Int) != 0)))) := ⟨by rw [setH_size]; exact Nat.le_refl _, fun j hj hne => setH_other (by simpa using hne)⟩
  dsimp only
  generalize setH h ⟨r, 1, none⟩ (.bool (false || ((0 : Int) != 0))) = h6 at *
  refine ⟨s, by rw [K2.cell]; rfl, _, by omega, by omega, by omega, by omega, rfl, _, K2.wr (by simp), rfl, ?_⟩
  have K3 := K2.set (i := 0) (v := Slc.v (subS s 1 ((shortL v).length : Int).toNat (s.len : Int).toNat (s.cap : Int).toNat))
  have U2 : Upd r h6 (setH h6 ⟨r, 0, none⟩ (Slc.v (subS s 1 ((shortL v).length : Int).toNat (s.len : Int).toNat (s.cap : Int).toNat))) := ⟨by rw [setH_size]; exact Nat.le_refl _, fun j hj hne => setH_other (by simpa using hne)⟩
  have UU := U.trans U2
  have X := UU.ext (B := r) (Nat.le_refl _) (Nat.le_of_lt K.lt)
  refine H1 _ ⟨_, K3, fun h2 Y => ?_, by rw [subS_len]; omega, by rw [subS_len, subS_cap]; omega, fun b hb => hB b (List.mem_append_right _ hb), by omega⟩ UU
  have := (S h2 (X.trans Y)).sub (w := 1) (l := ((shortL v).length : Int).toNat) (u := (s.len : Int).toNat) (m := (s.cap : Int).toNat) (by omega) (by omega)
  rw [Nat.mul_one, Nat.mul_one, show ((shortL v).length : Int).toNat = (shortL v).length from rfl, ← List.map_drop, List.drop_left, List.take_of_length_le (by rw [List.length_map]; omega)] at this
  exact this
theorem regr_text3 {t : ByteArray} {k : ByteArray → Heap → Prop} (R : Rd 155 h r (textL t ++ l') false) (H1 : ∀ h', Rd 155 h' r l' false → Upd r h h' → k t h') : reg_reader_text (some ⟨r, 0, none⟩) k h := by
  have hz := R.len
  have e : textL t = shortL t.size ++ sB t := rfl
  rw [e, List.append_assoc] at R
  rw [e] at hz
  simp only [List.length_append, sB_len] at hz
  unfold reg_reader_text
  refine regr_short3 R (by omega) (by omega) fun h1 R1 U1 => ?_
  refine regr_bytes3 R1 (by rw [sB_len]) fun s h2 R2 U2 S2 ls cs => ?_
  refine ⟨sB t, by rw [ls], S2 h2 (Ext.refl _ _), ?_⟩
  rw [bsOf_sB]
  exact H1 h2 R2 (U1.trans U2)
theorem regr_number3 {v w : Int} {k : Int → Heap → Prop} (R : Rd 155 h r (formL v w.toNat ++ l') false) (w0 : 1 ≤ w) (w1 : w ≤ 8) (v0 : 0 ≤ v) (v1 : v < 256 ^ w.toNat)
    (H1 : ∀ h', Rd 155 h' r l' false → Upd r h h' → k v h') : reg_reader_number (some ⟨r, 0, none⟩) w k h := by
  unfold reg_reader_number
  rw [wrapU64 (x := w) (by omega) (by omega)]
  refine regr_bytes3 R (by rw [formL_length]; omega) fun s h2 R2 U2 S2 ls cs => ?_
  refine nGet_ok (S2 h2 (Ext.refl _ _)) ls (formL_B _ _) w0 w1 (formL_length _ _) ?_
  rw [numL_form _ _ v0 v1]
  exact H1 h2 R2 U2
theorem regr_nonce3 {v : List Int} {k : List Int → Heap → Prop} (R : Rd 155 h r (nrm 12 v ++ l') false) (H : ∀ h', Rd 155 h' r l' false → Upd r h h' → k (nrm 12 v) h') : reg_reader_nonce (some ⟨r, 0, none⟩) k h := by
  unfold reg_reader_nonce
  have rl := R.lt
  refine ⟨_, _, rfl, rfl, ?_⟩
  have P := Blk.push h (arr 12 .u8 []) 29
  have W := Ext.push h (.cells (arr 12 .u8 []).toArray 29) (Nat.le_refl _)
  obtain ⟨h2, e2⟩ : ∃ y, y = h.push (.cells (arr 12 .u8 []).toArray 29) := ⟨_, rfl⟩
  rw [← e2] at P W ⊢
  have z2 := W.size
  have pl := P.lt
  refine ⟨_, _, rfl, rfl, ?_⟩
  have Q := Blk.push h2 (arr 12 .u8 []) 29
  have W3 := Ext.push h2 (.cells (arr 12 .u8 []).toArray 29) (Nat.le_refl _)
  obtain ⟨h3, e3⟩ : ∃ y, y = h2.push (.cells (arr 12 .u8 []).toArray 29) := ⟨_, rfl⟩
  rw [← e3] at Q W3 ⊢
  have z3 := W3.size
  have ql := Q.lt
  have P3 := P.ext W3 pl
  refine ⟨_, by omega, by omega, by omega, rfl, ?_⟩
  have es : subS ⟨some (⟨h2.size, 0, none⟩ : Addr), 12, 12⟩ 1 (0 : Int).toNat (12 : Int).toNat 12 = ⟨some ⟨h2.size, 0, none⟩, 12, 12⟩ := by simp [subS]
  rw [es]
  refine regr_bytes3 ((R.ext (W.mono (by omega))).ext (W3.mono (by omega))) (by rw [nrm_len]; rfl) fun s h4 R4 U4 S4 ls _ => ?_
  have z4 := U4.size
  have Q4 := U4.blk Q (by omega)
  have P4 := U4.blk P3 (by omega)
  have U04 : Upd r h h4 := (Upd.of_ext (W.trans (W3.mono z2))).trans U4
  rw [nrm_len] at ls
  refine ⟨b8 (nrm 12 v), ⟨b8 (nrm 12 v), S4 h4 (Ext.refl _ _), by simp [ls, nrm_len], ?_⟩, b8_one _, (fun hn => by cases hn), (fun a ha j hj => ?_), ?_⟩
  · rw [List.take_of_length_le (by simp [nrm_len, ls])]
  · cases ha
    rw [add_mk]; exact Q4.wr (by rw [arr_len]; simp [nrm_len] at hj; omega)
  · have Q5 := Q4.sets (b8 (nrm 12 v)) 0 0 (by rw [arr_len]; simp [nrm_len])
    have ec : (arr 12 .u8 ([] : List Int)).take (0 + 0) ++ b8 (nrm 12 v) ++ (arr 12 .u8 ([] : List Int)).drop (0 + 0 + (b8 (nrm 12 v)).length) = arr 12 .u8 (nrm 12 v) := by
      rw [arr_id (nrm_len _ _)]
      have : (arr 12 .u8 ([] : List Int)).drop (0 + 0 + (b8 (nrm 12 v)).length) = [] := List.drop_of_length_le (by rw [arr_len]; simp [nrm_len])
      rw [this]; simp
    rw [ec] at Q5
    have X5 : Ext h.size h4 (setsH h4 ⟨h2.size, 0, none⟩ 0 (b8 (nrm 12 v))) := Ext.sets _ _ _ (by dsimp only; omega)
    dsimp only
    have P5 : Blk (setsH h4 ⟨h2.size, 0, none⟩ 0 (b8 (nrm 12 v))) h.size (arr 12 .u8 []) 29 := P4.old (setsH_other _ _ (by dsimp only; omega))
    generalize setsH h4 ⟨h2.size, 0, none⟩ 0 (b8 (nrm 12 v)) = h5 at *
    refine ⟨nrm 12 v, CellsAt.of_blk Q5, _, WrsAt.of_blk P5 (by rw [arr_len]; omega), rfl, nrm 12 v, CellsAt.of_blk (P5.sets_all (by rw [arr_len, arr_len])), ?_⟩
    have X6 : Ext h.size h5 (setsH h5 ⟨h.size, 0, none⟩ 0 (arr 12 .u8 (nrm 12 v))) := Ext.sets _ _ _ (Nat.le_refl _)
    exact H _ ((R4.ext (X5.mono (by omega))).ext (X6.mono (by omega))) ((U04.fresh X5).fresh X6)
end
set_option maxHeartbeats 1000000 in
/-- a command's form is read as it -/
theorem rGet_full {p0 : Slc} {c : S_api_Command} {wr : List Int} {k : S_api_Command × Int → Heap → Prop} {h : Heap} (hs : SlcAt h p0 (b8 (cmdL c wr))) (hl : p0.len = (cmdL c wr).length) (hc : p0.len ≤ p0.cap) (wB : isB wr) (nb : isB c.f_Nonce) (ep : 0 ≤ c.f_Epoch ∧ c.f_Epoch < 4294967296) (hzn : -9223372036854775808 ≤ c.f_Horizon ∧ c.f_Horizon < 9223372036854775808) (Sm : CmdSm c wr)
    (H1 : ∀ s h', Row h.size h' 5 1 s (b8 wr) → Ext h.size h h' → k (⟨c.f_Kind % 256, c.f_Tenant, c.f_Epoch, nrm 12 c.f_Nonce, s, c.f_Horizon⟩, 0) h') : reg_Get p0 k h := by
  have lB : isB (cmdL c wr) := by
    unfold cmdL
    exact isB_app (isB_app (isB_app (isB_app (isB_app (isB_one (by omega)) (textL_B _)) (formL_B _ _)) (isB_nrm nb)) (tx_B wB)) (formL_B _ _)
  have ecm : cmdL c wr = formL (c.f_Kind % 256) (1 : Int).toNat ++ (textL c.f_Tenant ++ (formL c.f_Epoch (4 : Int).toNat ++ (nrm 12 c.f_Nonce ++ (textL (bsOf wr) ++ (formL (zigN c.f_Horizon) (8 : Int).toNat ++ []))))) := by
    rw [show (1 : Int).toNat = 1 from rfl, show (4 : Int).toNat = 4 from rfl, show (8 : Int).toNat = 8 from rfl, form1 (by omega) (by omega), textL_bs wB, cmdL]
    simp only [List.append_assoc, List.append_nil]
  have zb := zigN_bd hzn.1 hzn.2
  have et2 : sB (bsOf wr) = wr := sB_bsOf wB
  unfold reg_Get
  refine ⟨_, _, rfl, rfl, ?_⟩
  have P := Blk.push h (S_api_Command.cs ⟨0, ByteArray.empty, 0, [], ⟨none, 0, 0⟩, 0⟩) 32
  have W := Ext.push h (.cells (S_api_Command.cs ⟨0, ByteArray.empty, 0, [], ⟨none, 0, 0⟩, 0⟩).toArray 32) (Nat.le_refl _)
  obtain ⟨h2, e2⟩ : ∃ y, y = h.push (.cells (S_api_Command.cs ⟨0, ByteArray.empty, 0, [], ⟨none, 0, 0⟩, 0⟩).toArray 32) := ⟨_, rfl⟩
  rw [← e2] at P W ⊢
  have z2 := W.size
  have pl := P.lt
  refine ⟨_, _, rfl, rfl, ?_⟩
  have K := Blk.push h2 (S_reg_reader.cs ⟨p0, false⟩) 155
  have W3 := Ext.push h2 (.cells (S_reg_reader.cs ⟨p0, false⟩).toArray 155) (Nat.le_refl _)
  obtain ⟨h3, e3⟩ : ∃ y, y = h2.push (.cells (S_reg_reader.cs ⟨p0, false⟩).toArray 155) := ⟨_, rfl⟩
  rw [← e3] at K W3 ⊢
  have z3 := W3.size
  have kl := K.lt
  have P3 := P.ext W3 pl
  have R3 : Rd 155 h3 h2.size (cmdL c wr) false := ⟨p0, K, fun h' X => ⟨hs.1, fun b hb j w hj => by rw [X.cell (Nat.lt_of_lt_of_le (cellH_lt (hs.2 b hb j w hj)) z2), ← hs.2 b hb j w hj]; exact ((W.trans (W3.mono z2)).cell (cellH_lt (hs.2 b hb j w hj)))⟩, hl, hc, lB, by have := cmdL_len Sm; omega⟩
  rw [ecm] at R3
  have A : ∀ {b : Nat} {i j : Nat}, (⟨b, i, none⟩ : Addr).add j = ⟨b, i + j, none⟩ := fun {b i j} => add_mk b i j
  refine regr_number3 R3 (by omega) (by omega) (by omega) (by rw [pw1]; omega) fun h4 R4 U4 => ?_
  obtain ⟨v1, ev1⟩ : ∃ v1, v1 = c.f_Kind % 256 := ⟨_, rfl⟩
  rw [← ev1]
  obtain ⟨t, et⟩ : ∃ t, t = c.f_Tenant := ⟨_, rfl⟩
  rw [← et] at R4
  obtain ⟨v3, ev3⟩ : ∃ v3, v3 = c.f_Epoch := ⟨_, rfl⟩
  rw [← ev3] at R4
  obtain ⟨nv, env⟩ : ∃ nv, nv = nrm 12 c.f_Nonce := ⟨_, rfl⟩
  obtain ⟨t2, et3⟩ : ∃ t2, t2 = bsOf wr := ⟨_, rfl⟩
  rw [← et3] at R4 et2
  have z4 := U4.size
  refine regr_text3 R4 fun h5 R5 U5 => ?_
  have z5 := U5.size
  refine regr_number3 R5 (by omega) (by omega) (by omega) (by rw [pw4]; omega) fun h6 R6 U6 => ?_
  have z6 := U6.size
  refine regr_nonce3 R6 fun h7 R7 U7 => ?_
  rw [← env]
  have z7 := U7.size
  have v10 : 0 ≤ v1 := by omega
  have v11' : v1 < 256 := by omega
  have v30 : 0 ≤ v3 := by omega
  have v31' : v3 < 4294967296 := by omega
  rw [wrapI64 (x := v1) (by omega) (by omega), wrapU32 (x := v3) v30 v31']
  refine ⟨_, _, rfl, rfl, ?_⟩
  have Q := Blk.push h7 (S_api_Command.cs ⟨0, ByteArray.empty, 0, [], ⟨none, 0, 0⟩, 0⟩) 32
  have Q2 := Q.sets_all (vs := S_api_Command.cs ⟨v1, t, v3, nv, ⟨none, 0, 0⟩, 0⟩) rfl
  have W8 := (Ext.push h7 (.cells (S_api_Command.cs ⟨0, ByteArray.empty, 0, [], ⟨none, 0, 0⟩, 0⟩).toArray 32) (Nat.le_refl _)).trans (Ext.sets _ (a := ⟨h7.size, 0, none⟩) 0 (S_api_Command.cs ⟨v1, t, v3, nv, ⟨none, 0, 0⟩, 0⟩) (Nat.le_refl _))
  refine ⟨_, WrsAt.of_blk Q (by rw [show (S_api_Command.cs ⟨0, ByteArray.empty, 0, [], ⟨none, 0, 0⟩, 0⟩).length = 17 from rfl]; omega), rfl, ?_⟩
  generalize setsH (h7.push (.cells (S_api_Command.cs ⟨0, ByteArray.empty, 0, [], ⟨none, 0, 0⟩, 0⟩).toArray 32)) ⟨h7.size, 0, none⟩ 0 (S_api_Command.cs ⟨v1, t, v3, nv, ⟨none, 0, 0⟩, 0⟩) = h8 at *
  have z8 := W8.size
  have ql := Q2.lt
  refine regr_text3 (R7.ext (W8.mono (by omega))) fun h9 R9 U9 => ?_
  have tz2 : t2.size ≤ 100000 := by
    have h1 := Sm.w
    have h2 := congrArg List.length et2
    rw [sB_len] at h2; omega
  have z9 := U9.size
  have Q9 := U9.blk Q2 (by omega)
  refine ⟨by have : maxLen = 9223372036854775807 := rfl; omega, S2B_ok fun s10 h10 Rw X10 => ?_⟩
  have z10 := X10.size
  have Q10 := Q9.ext X10 Q9.lt
  refine ⟨_, by rw [A]; exact Q10.wr (by rw [show (S_api_Command.cs ⟨v1, t, v3, nv, ⟨none, 0, 0⟩, 0⟩).length = 17 from rfl]; omega), rfl, ?_⟩
  rw [show (⟨h7.size, 0, none⟩ : Addr).add 15 = ⟨h7.size, 15, none⟩ from by simp]
  have Q11 := Q10.set (i := 15) (v := Slc.v s10)
  rw [show (S_api_Command.cs ⟨v1, t, v3, nv, ⟨none, 0, 0⟩, 0⟩).set 15 (Slc.v s10) = S_api_Command.cs ⟨v1, t, v3, nv, s10, 0⟩ from rfl] at Q11
  have X11 : Ext h7.size h10 (setH h10 ⟨h7.size, 15, none⟩ (Slc.v s10)) := Ext.set _ _ (Nat.le_refl _)
  have Rw11 : Row h9.size (setH h10 ⟨h7.size, 15, none⟩ (Slc.v s10)) 5 1 s10 (b8 (sB t2)) := Rw.keep fun g hg => setH_other (by have := (Rw.bd hg).1; dsimp only; omega)
  generalize setH h10 ⟨h7.size, 15, none⟩ (Slc.v s10) = h11 at *
  have z11 := X11.size
  refine regr_number3 ((R9.ext (X10.mono (by omega))).ext (X11.mono (by omega))) (by omega) (by omega) zb.1 (by rw [pw8]; omega) fun h12 R12 U12 => ?_
  obtain ⟨v6, ev6⟩ : ∃ v6, v6 = zigN c.f_Horizon := ⟨_, rfl⟩
  rw [← ev6]
  have v60 : 0 ≤ v6 := by omega
  have z12 := U12.size
  have v61' : v6 < 18446744073709551616 := by omega
  refine Zag_ok v60 v61' ?_
  have Q12 := U12.blk Q11 (by omega)
  have Rw12 : Row h9.size h12 5 1 s10 (b8 (sB t2)) := Rw11.keep fun g hg => U12.block g (Rw11.bd hg).2 (by have := (Rw11.bd hg).1; omega)
  refine ⟨_, by rw [A]; exact Q12.wr (by rw [show (S_api_Command.cs ⟨v1, t, v3, nv, s10, 0⟩).length = 17 from rfl]; omega), rfl, ?_⟩
  rw [show (⟨h7.size, 0, none⟩ : Addr).add 16 = ⟨h7.size, 16, none⟩ from by simp]
  have Q13 := Q12.set (i := 16) (v := .int .i64 (zagN v6))
  rw [show (S_api_Command.cs ⟨v1, t, v3, nv, s10, 0⟩).set 16 (.int .i64 (zagN v6)) = S_api_Command.cs ⟨v1, t, v3, nv, s10, zagN v6⟩ from rfl] at Q13
  have X13 : Ext h7.size h12 (setH h12 ⟨h7.size, 16, none⟩ (.int .i64 (zagN v6))) := Ext.set _ _ (Nat.le_refl _)
  have Rw13 : Row h9.size (setH h12 ⟨h7.size, 16, none⟩ (.int .i64 (zagN v6))) 5 1 s10 (b8 (sB t2)) := Rw12.keep fun g hg => setH_other (by have := (Rw12.bd hg).1; dsimp only; omega)
  generalize setH h12 ⟨h7.size, 16, none⟩ (.int .i64 (zagN v6)) = h13 at *
  have z13 := X13.size
  have U313 : Upd h2.size h3 h13 := (((((U4.trans (U5.trans (U6.trans U7))).fresh (W8.mono (by omega))).trans U9).fresh ((X10.mono (show h7.size ≤ h9.size by omega)).trans X11 |>.mono (by omega))).trans U12).fresh (X13.mono (by omega))
  have X013 : Ext h.size h h13 := (W.trans (W3.mono z2)).trans (U313.ext (by omega) (by omega))
  have P13 := U313.blk P3 (by omega)
  have R13 := R12.ext (X13.mono (show h2.size + 1 ≤ h7.size by omega))
  obtain ⟨sd, Kd, Sd, sdl, _⟩ := R13
  refine ⟨false, by rw [add_mk, Kd.cell]; rfl, ?_⟩
  rw [if_neg (by simp)]
  refine ⟨sd, by rw [Kd.cell]; rfl, ?_⟩
  rw [show decide ((sd.len : Int) > 0) = false from by rw [decide_eq_false_iff_not]; simp at sdl; omega]
  unfold reg_Get_g1
  rw [if_neg (by simp)]
  refine ⟨_, CellsAt.of_blk Q13, _, WrsAt.of_blk P13 (by rw [show (S_api_Command.cs ⟨0, ByteArray.empty, 0, [], ⟨none, 0, 0⟩, 0⟩).length = 17 from rfl]; omega), rfl, _, CellsAt.of_blk (P13.sets_all (vs := S_api_Command.cs ⟨v1, t, v3, nv, s10, zagN v6⟩) rfl), ?_⟩
  have X14 : Ext h.size h13 (setsH h13 ⟨h.size, 0, none⟩ 0 (S_api_Command.cs ⟨v1, t, v3, nv, s10, zagN v6⟩)) := Ext.sets _ _ _ (Nat.le_refl _)
  have Rw14 : Row h9.size (setsH h13 ⟨h.size, 0, none⟩ 0 (S_api_Command.cs ⟨v1, t, v3, nv, s10, zagN v6⟩)) 5 1 s10 (b8 (sB t2)) := Rw13.keep fun g hg => setsH_other _ _ (by have := (Rw13.bd hg).1; dsimp only; omega)
  rw [et2] at Rw14
  have := H1 s10 _ (Rw14.mono (by omega)) (X013.trans X14)
  have ez : zagN v6 = c.f_Horizon := by rw [ev6, zag_zig]
  rw [← ev1, ← et, ← ev3, ← env, ← ez] at this
  exact this
end Go.Q.Yb

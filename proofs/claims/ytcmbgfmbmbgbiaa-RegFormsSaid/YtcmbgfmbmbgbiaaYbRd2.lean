/- A part of the proof of statements of this seat: lemmas, no statement of their own. -/
import Derived.Test.YtcmbgfmbmbgbiaaYbRd
set_option linter.unusedVariables false
set_option linter.unusedSimpArgs false
namespace Go.Q.Yb
theorem or8 {n b : Int} (n0 : 0 ≤ n) (n1 : n < 72057594037927936) (hb : 0 ≤ b ∧ b < 256) : bwOr .u64 (shl .u64 n (8 : Int).toNat) (IntKind.u64.wrap b) = n * 256 + b := by
  have es : shl .u64 n (8 : Int).toNat = n * 256 := by
    unfold shl
    rw [show (2 : Int) ^ (min (8 : Int).toNat IntKind.u64.bits) = 256 from rfl, wU64]; omega
  rw [es, wrapU64 (by omega) (by omega)]
  obtain ⟨a, rfl⟩ : ∃ a : Nat, n = a := ⟨n.toNat, by omega⟩
  obtain ⟨d, rfl⟩ : ∃ d : Nat, b = d := ⟨b.toNat, by omega⟩
  have := or_add (a := a) (b := d) (i := 8) (by omega)
  rw [show ((a : Int) * 256) = ((a * 2 ^ 8 : Nat) : Int) from by simp, bwOr64 (by omega) (by omega), this]
  simp
theorem numL_drop {l : List Int} {i : Nat} {b : Int} (h : l[i]? = some b) : numL (l.drop i) = b + 256 * numL (l.drop (i + 1)) := by
  have hi := (List.getElem?_eq_some_iff.1 h).1
  rw [List.drop_eq_getElem_cons hi]
  have : l[i] = b := (List.getElem?_eq_some_iff.1 h).2
  rw [this]; rfl
theorem nGet_ok {s : Slc} {l : List Int} {w : Int} {k : Int × Int → Heap → Prop} {h : Heap} (hs : SlcAt h s (b8 l)) (hl : s.len = l.length) (hB : isB l) (w0 : 1 ≤ w) (w1 : w ≤ 8) (hw : l.length = w.toNat) (H : k (numL l, 0) h) : num_Get s w k h := by
  unfold num_Get
  rw [if_neg (by simp only [Bool.or_eq_true, decide_eq_true_eq]; omega), if_neg (by rw [decide_eq_true_eq]; omega), wrapI64 (by omega) (by omega)]
  refine ⟨_, rfl, fun q h' => -1 ≤ q.2 ∧ q.2 ≤ w - 1 ∧ q.1 = numL (l.drop (q.2 + 1).toNat) ∧ h' = h, fun q _ => (q.2 + 1).toNat, ⟨by dsimp only; omega, by dsimp only; omega, ?_, rfl⟩, ?_⟩
  · dsimp only
    rw [show (w - 1 + 1).toNat = l.length from by omega, List.drop_length]; rfl
  rintro n i h' ⟨i0, i1, hn, hh⟩
  dsimp only at i0 i1 hn
  subst hh
  unfold num_Get_l1b
  by_cases hi : i ≥ 0
  · rw [if_pos (by simpa using hi)]
    have hb : l[i.toNat]? = some (l[i.toNat]'(by omega)) := by simp
    have bb := hB _ (List.mem_of_getElem? hb)
    generalize l[i.toNat]'(by omega) = b at *
    obtain ⟨a, ha, hv⟩ := slc_get hs (i := i.toNat) (v := .int .u8 b) (by rw [List.getElem?_map, hb]; rfl)
    have bd := numL_bd (l := l.drop (i + 1).toNat) fun x hx => hB x (List.mem_of_mem_drop hx)
    have lim : (256 : Int) ^ (l.drop (i + 1).toNat).length ≤ 256 ^ 7 := pow_mono (by rw [List.length_drop]; omega)
    have lim2 : (256 : Int) ^ 7 = 72057594037927936 := by decide
    refine ⟨a, ha, hi, by omega, b, by rw [Nat.mul_one]; exact hv, _, rfl, _, rfl, ?_⟩
    rw [hn, or8 bd.1 (by omega) bb, wrapI64 (by omega) (by omega)]
    refine ⟨⟨by dsimp only; omega, by dsimp only; omega, ?_, rfl⟩, by dsimp only; omega⟩
    dsimp only
    rw [show (i - 1 + 1).toNat = i.toNat from by omega, numL_drop hb, show (i + 1).toNat = i.toNat + 1 from by omega]
    omega
  · rw [if_neg (by simpa using hi)]
    rw [show (i + 1).toNat = 0 from by omega, List.drop_zero] at hn
    rw [hn]; exact H
/-- a reader: what is left, and whether all was in form -/
def Rd (E : Nat) (h : Heap) (r : Nat) (l : List Int) (bad : Bool) : Prop :=
  ∃ s, Blk h r [Slc.v s, .bool bad] E ∧ (∀ h', Ext r h h' → SlcAt h' s (b8 l)) ∧ s.len = l.length ∧ s.len ≤ s.cap ∧ isB l ∧ l.length ≤ 1000000
theorem Rd.lt {E : Nat} {h : Heap} {r : Nat} {l : List Int} {bad : Bool} (R : Rd E h r l bad) : r < h.size := by obtain ⟨s, K, _⟩ := R; exact K.lt
theorem Rd.isB {E : Nat} {h : Heap} {r : Nat} {l : List Int} {bad : Bool} (R : Rd E h r l bad) : Go.Q.isB l := by obtain ⟨s, _, _, _, _, b, _⟩ := R; exact b
theorem Rd.len {E : Nat} {h : Heap} {r : Nat} {l : List Int} {bad : Bool} (R : Rd E h r l bad) : l.length ≤ 1000000 := by obtain ⟨s, _, _, _, _, _, b⟩ := R; exact b
theorem Rd.ext {E : Nat} {h h' : Heap} {r : Nat} {l : List Int} {bad : Bool} (R : Rd E h r l bad) (X : Ext (r + 1) h h') : Rd E h' r l bad := by
  obtain ⟨s, K, S, a, b, c, d⟩ := R
  exact ⟨s, K.ext X (by omega), fun h2 Y => S h2 ((X.mono (by omega)).trans Y), a, b, c, d⟩
theorem isB_drop {l : List Int} (h : isB l) (n : Nat) : isB (l.drop n) := fun b hb => h b (List.mem_of_mem_drop hb)
theorem isB_take {l : List Int} (h : isB l) (n : Nat) : isB (l.take n) := fun b hb => h b (List.mem_of_mem_take hb)
theorem formL_num : ∀ {l : List Int}, isB l → formL (numL l) l.length = l
  | [], _ => rfl
  | b :: r, h => by
    have h1 := h b (by simp)
    have h2 := formL_num (l := r) fun x hx => h x (List.mem_cons_of_mem _ hx)
    simp only [numL, List.length_cons, formL]
    rw [show (b + 256 * numL r) % 256 = b from by omega, show (b + 256 * numL r) / 256 = numL r from by omega, h2]
/-! ### the reader of pack -/
section
variable {h : Heap} {r : Nat} {l : List Int} {bad : Bool}
theorem packr_bytes_ok {n : Int} {k : Slc → Heap → Prop} (R : Rd 173 h r l bad) (n0 : 0 ≤ n)
    (H1 : ∀ s' h', bad = false → n ≤ l.length → Rd 173 h' r (l.drop n.toNat) false → Upd r h h' → (∀ h'', Ext r h' h'' → SlcAt h'' s' (b8 (l.take n.toNat))) → s'.len = n.toNat → s'.len ≤ s'.cap → k s' h')
    (H2 : ∀ h', Rd 173 h' r l true → Upd r h h' → k ⟨none, 0, 0⟩ h') : pack_reader_bytes (some ⟨r, 0, none⟩) n k h := by
  obtain ⟨s, K, S, sl, sc, hB, hz⟩ := R
  have bad1 : pack_reader_bytes_g1 (some ⟨r, 0, none⟩) n true k h := by
    unfold pack_reader_bytes_g1
    rw [if_pos rfl]
    refine ⟨_, rfl, _, by rw [add_mk]; exact K.wr (by simp), rfl, ?_⟩
    rw [add_mk, Nat.zero_add]
    have K2 := K.set (i := 1) (v := .bool true)
    have U : Upd r h (setH h ⟨r, 1, none⟩ (.bool true)) := ⟨by rw [setH_size]; exact Nat.le_refl _, fun j hj hne => setH_other (by simpa using hne)⟩
    exact H2 _ ⟨s, K2, fun h2 Y => S h2 ((U.ext (Nat.le_refl _) (Nat.le_of_lt K.lt)).trans Y), sl, sc, hB, hz⟩ U
  unfold pack_reader_bytes
  refine ⟨_, rfl, bad, by rw [add_mk, K.cell]; rfl, ?_⟩
  cases hb : bad with
  | true => rw [if_pos rfl]; exact bad1
  | false =>
    subst hb
    rw [if_neg (by simp)]
    refine ⟨s, by rw [K.cell]; rfl, ?_⟩
    rw [wrapU64 (x := (s.len : Int)) (by omega) (by omega)]
    by_cases hn : n > s.len
    · rw [show decide (n > (s.len : Int)) = true from by simpa using hn]; exact bad1
    · rw [show decide (n > (s.len : Int)) = false from by simpa using hn]
      unfold pack_reader_bytes_g1
      rw [if_neg (by simp)]
      refine ⟨_, rfl, s, by rw [K.cell]; rfl, _, by omega, n0, by omega, by omega, rfl, s, by rw [K.cell]; rfl, _, n0, by omega, by omega, by omega, rfl, _, K.wr (by simp), rfl, ?_⟩
      have K2 := K.set (i := 0) (v := Slc.v (subS s 1 n.toNat (s.len : Int).toNat (s.cap : Int).toNat))
      have U : Upd r h (setH h ⟨r, 0, none⟩ (Slc.v (subS s 1 n.toNat (s.len : Int).toNat (s.cap : Int).toNat))) := ⟨by rw [setH_size]; exact Nat.le_refl _, fun j hj hne => setH_other (by simpa using hne)⟩
      have X := U.ext (B := r) (Nat.le_refl _) (Nat.le_of_lt K.lt)
      refine H1 _ _ rfl (by omega) ⟨_, K2, fun h2 Y => ?_, by rw [subS_len, List.length_drop]; omega, by rw [subS_len, subS_cap]; omega, isB_drop hB _, by rw [List.length_drop]; omega⟩ U (fun h2 Y => ?_) (by rw [subS_len]; omega) (by rw [subS_len, subS_cap]; omega)
      · have := (S h2 (X.trans Y)).sub (w := 1) (l := n.toNat) (u := (s.len : Int).toNat) (m := (s.cap : Int).toNat) (by omega) (by omega)
        rw [Nat.mul_one, Nat.mul_one, ← List.map_drop, List.take_of_length_le (by rw [List.length_map, List.length_drop]; omega)] at this
        exact this
      · have := (S h2 (X.trans Y)).sub (w := 1) (l := (0 : Int).toNat) (u := n.toNat) (m := (s.cap : Int).toNat) (by omega) (by omega)
        rw [show (0 : Int).toNat * 1 = 0 from rfl, List.drop_zero, show (n.toNat - (0 : Int).toNat) * 1 = n.toNat from by simp, ← List.map_take] at this
        exact this
theorem packr_short_ok {k : Int → Heap → Prop} (R : Rd 173 h r l bad)
    (H1 : ∀ v l' h', bad = false → l = shortL v ++ l' → 0 ≤ v → v < 18446744073709551616 → Rd 173 h' r l' false → Upd r h h' → k v h')
    (H2 : ∀ v l' h', 0 ≤ v → v < 18446744073709551616 → Rd 173 h' r l' true → Upd r h h' → k v h') : pack_reader_short (some ⟨r, 0, none⟩) k h := by
  obtain ⟨s, K, S, sl, sc, hB, hz⟩ := R
  unfold pack_reader_short
  refine ⟨_, rfl, s, by rw [K.cell]; rfl, ?_⟩
  have go : ∀ (v : Int) (u e : Int) (l' : List Int), 0 ≤ u → u ≤ l.length → l' = l.drop u.toNat → (∀ h', Rd 173 h' r l' (bad || (e != 0)) → Upd r h h' → k v h') →
      ∃ v5 : Bool, cellH h ((⟨r, 0, none⟩ : Addr).add 1) = some (.bool v5) ∧ (∃ h6 : Heap, WrH h ((⟨r, 0, none⟩ : Addr).add 1) ∧ h6 = setH h ((⟨r, 0, none⟩ : Addr).add 1) (.bool (v5 || (e != 0))) ∧ (∃ v7 : Slc, cellH h6 ⟨r, 0, none⟩ = some (Slc.v v7) ∧ (∃ s8 : Slc, (0 : Int) ≤ u ∧ (u : Int) ≤ (v7.len : Int) ∧ ((v7.len : Int) : Int) ≤ (v7.cap : Int) ∧ (v7.cap : Int) ≤ (v7.cap : Int) ∧ s8 = subS v7 1 u.toNat (v7.len : Int).toNat (v7.cap : Int).toNat ∧ (∃ h9 : Heap, WrH h6 ⟨r, 0, none⟩ ∧ h9 = setH h6 ⟨r, 0, none⟩ (Slc.v s8) ∧ (k v h9))))) := fun v u e l' u0 u1 el G => by
    refine ⟨bad, by rw [add_mk, K.cell]; rfl, _, by rw [add_mk]; exact K.wr (by simp), rfl, ?_⟩
    rw [add_mk, Nat.zero_add]
    have K2 := K.set (i := 1) (v := .bool (bad || (e != 0)))
    have U : Upd r h (setH h ⟨r, 1, none⟩ (.bool (bad || (e != 0)))) := ⟨by rw [setH_size]; exact Nat.le_refl _, fun j hj hne => setH_other (by simpa using hne)⟩
    generalize setH h ⟨r, 1, none⟩ (.bool (bad || (e != 0))) = h6 at *
    refine ⟨s, by rw [K2.cell]; rfl, _, u0, by omega, by omega, by omega, rfl, _, K2.wr (by simp), rfl, ?_⟩
    have K3 := K2.set (i := 0) (v := Slc.v (subS s 1 u.toNat (s.len : Int).toNat (s.cap : Int).toNat))
    have U2 : Upd r h6 (setH h6 ⟨r, 0, none⟩ (Slc.v (subS s 1 u.toNat (s.len : Int).toNat (s.cap : Int).toNat))) := ⟨by rw [setH_size]; exact Nat.le_refl _, fun j hj hne => setH_other (by simpa using hne)⟩
    have UU := U.trans U2
    have X := UU.ext (B := r) (Nat.le_refl _) (Nat.le_of_lt K.lt)
    refine G _ ⟨_, K3, fun h2 Y => ?_, by rw [subS_len, el, List.length_drop]; omega, by rw [subS_len, subS_cap]; omega, by rw [el]; exact isB_drop hB _, by rw [el, List.length_drop]; omega⟩ UU
    have := (S h2 (X.trans Y)).sub (w := 1) (l := u.toNat) (u := (s.len : Int).toNat) (m := (s.cap : Int).toNat) (by omega) (by omega)
    rw [Nat.mul_one, Nat.mul_one, ← List.map_drop, List.take_of_length_le (by rw [List.length_map, List.length_drop]; omega), ← el] at this
    exact this
  refine GetShort_ok (S h (Ext.refl _ _)) sl hB (by omega) (fun v l' e v0 v1 => ?_) fun e he => ?_
  · refine go v ((shortL v).length : Int) 0 l' (by omega) (by rw [e, List.length_append]; omega) (by rw [e]; simp) fun h' R' U => ?_
    cases hb : bad with
    | true => rw [hb] at R'; exact H2 v l' h' v0 v1 R' U
    | false => rw [hb] at R'; exact H1 v l' h' hb e v0 v1 R' U
  · refine go 0 0 e l (by omega) (by omega) (by simp) fun h' R' U => ?_
    rw [show (bad || (e != 0)) = true from by simp [he]] at R'
    exact H2 0 l h' (by omega) (by omega) R' U
theorem packr_text_ok {k : ByteArray → Heap → Prop} (R : Rd 173 h r l bad)
    (H1 : ∀ t l' h', bad = false → l = textL t ++ l' → Rd 173 h' r l' false → Upd r h h' → k t h')
    (H2 : ∀ l' h', Rd 173 h' r l' true → Upd r h h' → k ByteArray.empty h') : pack_reader_text (some ⟨r, 0, none⟩) k h := by
  unfold pack_reader_text
  have fin : ∀ (l' : List Int) (v : Int) (h1 : Heap) (b : Bool), 0 ≤ v → Rd 173 h1 r l' b → Upd r h h1 → (b = false → bad = false ∧ l = shortL v ++ l') → pack_reader_bytes (some ⟨r, 0, none⟩) v (fun (r3 : Slc) h4 => ∃ l5 : List Int, l5.length = r3.len ∧ SlcAt h4 r3 (b8 l5) ∧ (k (bsOf l5) h4)) h1 := fun l' v h1 b v0 R1 U1 hb => by
    have hB := R1.isB
    refine packr_bytes_ok R1 v0 (fun s h2 b0 hv R2 U2 S2 ls cs => ?_) fun h2 R2 U2 => ?_
    · refine ⟨l'.take v.toNat, by rw [List.length_take]; omega, S2 h2 (Ext.refl _ _), ?_⟩
      obtain ⟨b1, e⟩ := hb b0
      refine H1 _ _ h2 b1 ?_ R2 (U1.trans U2)
      rw [textL_bs (isB_take hB _), tx, List.length_take, show ((min v.toNat l'.length : Nat) : Int) = v from by omega, List.append_assoc, List.take_append_drop]
      exact e
    · exact ⟨[], rfl, ⟨fun _ => rfl, fun a ha => by cases ha⟩, H2 _ h2 R2 (U1.trans U2)⟩
  refine packr_short_ok R (fun v l' h1 b e v0 v1 R1 U1 => fin l' v h1 false v0 R1 U1 fun _ => ⟨b, e⟩) fun v l' h1 v0 v1 R1 U1 => fin l' v h1 true v0 R1 U1 fun h => by cases h
theorem packr_number_ok {w : Int} {k : Int → Heap → Prop} (R : Rd 173 h r l bad) (w0 : 1 ≤ w) (w1 : w ≤ 8)
    (H1 : ∀ v l' h', bad = false → l = formL v w.toNat ++ l' → 0 ≤ v → v < 256 ^ w.toNat → Rd 173 h' r l' false → Upd r h h' → k v h')
    (H2 : ∀ l' h', Rd 173 h' r l' true → Upd r h h' → k 0 h') : pack_reader_number (some ⟨r, 0, none⟩) w k h := by
  unfold pack_reader_number
  rw [wrapU64 (x := w) (by omega) (by omega)]
  have hB := R.isB
  refine packr_bytes_ok R (by omega) (fun s h2 b0 hv R2 U2 S2 ls cs => ?_) fun h2 R2 U2 => ?_
  · have hl : (l.take w.toNat).length = w.toNat := by rw [List.length_take]; omega
    refine nGet_ok (S2 h2 (Ext.refl _ _)) (by rw [hl, ls]) (isB_take hB _) w0 w1 hl ?_
    have bd := numL_bd (isB_take hB w.toNat)
    rw [hl] at bd
    refine H1 _ _ h2 b0 ?_ bd.1 bd.2 R2 U2
    have := formL_num (isB_take hB w.toNat)
    rw [hl] at this
    rw [this, List.take_append_drop]
  · unfold num_Get
    rw [if_neg (by simp only [Bool.or_eq_true, decide_eq_true_eq]; omega), if_pos (by rw [decide_eq_true_eq]; dsimp only; omega)]
    exact H2 _ h2 R2 U2

end
/-! ### the reader of reg -/
section
variable {h : Heap} {r : Nat} {l : List Int} {bad : Bool}
theorem regr_bytes_ok {n : Int} {k : Slc → Heap → Prop} (R : Rd 155 h r l bad) (n0 : 0 ≤ n)
    (H1 : ∀ s' h', bad = false → n ≤ l.length → Rd 155 h' r (l.drop n.toNat) false → Upd r h h' → (∀ h'', Ext r h' h'' → SlcAt h'' s' (b8 (l.take n.toNat))) → s'.len = n.toNat → s'.len ≤ s'.cap → k s' h')
    (H2 : ∀ h', Rd 155 h' r l true → Upd r h h' → k ⟨none, 0, 0⟩ h') : reg_reader_bytes (some ⟨r, 0, none⟩) n k h := by
  obtain ⟨s, K, S, sl, sc, hB, hz⟩ := R
  have bad1 : reg_reader_bytes_g1 (some ⟨r, 0, none⟩) n true k h := by
    unfold reg_reader_bytes_g1
    rw [if_pos rfl]
    refine ⟨_, rfl, _, by rw [add_mk]; exact K.wr (by simp), rfl, ?_⟩
    rw [add_mk, Nat.zero_add]
    have K2 := K.set (i := 1) (v := .bool true)
    have U : Upd r h (setH h ⟨r, 1, none⟩ (.bool true)) := ⟨by rw [setH_size]; exact Nat.le_refl _, fun j hj hne => setH_other (by simpa using hne)⟩
    exact H2 _ ⟨s, K2, fun h2 Y => S h2 ((U.ext (Nat.le_refl _) (Nat.le_of_lt K.lt)).trans Y), sl, sc, hB, hz⟩ U
  unfold reg_reader_bytes
  refine ⟨_, rfl, bad, by rw [add_mk, K.cell]; rfl, ?_⟩
  cases hb : bad with
  | true => rw [if_pos rfl]; exact bad1
  | false =>
    subst hb
    rw [if_neg (by simp)]
    refine ⟨s, by rw [K.cell]; rfl, ?_⟩
    rw [wrapU64 (x := (s.len : Int)) (by omega) (by omega)]
    by_cases hn : n > s.len
    · rw [show decide (n > (s.len : Int)) = true from by simpa using hn]; exact bad1
    · rw [show decide (n > (s.len : Int)) = false from by simpa using hn]
      unfold reg_reader_bytes_g1
      rw [if_neg (by simp)]
      refine ⟨_, rfl, s, by rw [K.cell]; rfl, _, by omega, n0, by omega, by omega, rfl, s, by rw [K.cell]; rfl, _, n0, by omega, by omega, by omega, rfl, _, K.wr (by simp), rfl, ?_⟩
      have K2 := K.set (i := 0) (v := Slc.v (subS s 1 n.toNat (s.len : Int).toNat (s.cap : Int).toNat))
      have U : Upd r h (setH h ⟨r, 0, none⟩ (Slc.v (subS s 1 n.toNat (s.len : Int).toNat (s.cap : Int).toNat))) := ⟨by rw [setH_size]; exact Nat.le_refl _, fun j hj hne => setH_other (by simpa using hne)⟩
      have X := U.ext (B := r) (Nat.le_refl _) (Nat.le_of_lt K.lt)
      refine H1 _ _ rfl (by omega) ⟨_, K2, fun h2 Y => ?_, by rw [subS_len, List.length_drop]; omega, by rw [subS_len, subS_cap]; omega, isB_drop hB _, by rw [List.length_drop]; omega⟩ U (fun h2 Y => ?_) (by rw [subS_len]; omega) (by rw [subS_len, subS_cap]; omega)
      · have := (S h2 (X.trans Y)).sub (w := 1) (l := n.toNat) (u := (s.len : Int).toNat) (m := (s.cap : Int).toNat) (by omega) (by omega)
        rw [Nat.mul_one, Nat.mul_one, ← List.map_drop, List.take_of_length_le (by rw [List.length_map, List.length_drop]; omega)] at this
        exact this
      · have := (S h2 (X.trans Y)).sub (w := 1) (l := (0 : Int).toNat) (u := n.toNat) (m := (s.cap : Int).toNat) (by omega) (by omega)
        rw [show (0 : Int).toNat * 1 = 0 from rfl, List.drop_zero, show (n.toNat - (0 : Int).toNat) * 1 = n.toNat from by simp, ← List.map_take] at this
        exact this
theorem regr_short_ok {k : Int → Heap → Prop} (R : Rd 155 h r l bad)
    (H1 : ∀ v l' h', bad = false → l = shortL v ++ l' → 0 ≤ v → v < 18446744073709551616 → Rd 155 h' r l' false → Upd r h h' → k v h')
    (H2 : ∀ v l' h', 0 ≤ v → v < 18446744073709551616 → Rd 155 h' r l' true → Upd r h h' → k v h') : reg_reader_short (some ⟨r, 0, none⟩) k h := by
  obtain ⟨s, K, S, sl, sc, hB, hz⟩ := R
  unfold reg_reader_short
  refine ⟨_, rfl, s, by rw [K.cell]; rfl, ?_⟩
  have go : ∀ (v : Int) (u e : Int) (l' : List Int), 0 ≤ u → u ≤ l.length → l' = l.drop u.toNat → (∀ h', Rd 155 h' r l' (bad || (e != 0)) → Upd r h h' → k v h') →
      ∃ v5 : Bool, cellH h ((⟨r, 0, none⟩ : Addr).add 1) = some (.bool v5) ∧ (∃ h6 : Heap, WrH h ((⟨r, 0, none⟩ : Addr).add 1) ∧ h6 = setH h ((⟨r, 0, none⟩ : Addr).add 1) (.bool (v5 || (e != 0))) ∧ (∃ v7 : Slc, cellH h6 ⟨r, 0, none⟩ = some (Slc.v v7) ∧ (∃ s8 : Slc, (0 : Int) ≤ u ∧ (u : Int) ≤ (v7.len : Int) ∧ ((v7.len : Int) : Int) ≤ (v7.cap : Int) ∧ (v7.cap : Int) ≤ (v7.cap : Int) ∧ s8 = subS v7 1 u.toNat (v7.len : Int).toNat (v7.cap : Int).toNat ∧ (∃ h9 : Heap, WrH h6 ⟨r, 0, none⟩ ∧ h9 = setH h6 ⟨r, 0, none⟩ (Slc.v s8) ∧ (k v h9))))) := fun v u e l' u0 u1 el G => by
    refine ⟨bad, by rw [add_mk, K.cell]; rfl, _, by rw [add_mk]; exact K.wr (by simp), rfl, ?_⟩
    rw [add_mk, Nat.zero_add]
    have K2 := K.set (i := 1) (v := .bool (bad || (e != 0)))
    have U : Upd r h (setH h ⟨r, 1, none⟩ (.bool (bad || (e != 0)))) := ⟨by rw [setH_size]; exact Nat.le_refl _, fun j hj hne => setH_other (by simpa using hne)⟩
    generalize setH h ⟨r, 1, none⟩ (.bool (bad || (e != 0))) = h6 at *
    refine ⟨s, by rw [K2.cell]; rfl, _, u0, by omega, by omega, by omega, rfl, _, K2.wr (by simp), rfl, ?_⟩
    have K3 := K2.set (i := 0) (v := Slc.v (subS s 1 u.toNat (s.len : Int).toNat (s.cap : Int).toNat))
    have U2 : Upd r h6 (setH h6 ⟨r, 0, none⟩ (Slc.v (subS s 1 u.toNat (s.len : Int).toNat (s.cap : Int).toNat))) := ⟨by rw [setH_size]; exact Nat.le_refl _, fun j hj hne => setH_other (by simpa using hne)⟩
    have UU := U.trans U2
    have X := UU.ext (B := r) (Nat.le_refl _) (Nat.le_of_lt K.lt)
    refine G _ ⟨_, K3, fun h2 Y => ?_, by rw [subS_len, el, List.length_drop]; omega, by rw [subS_len, subS_cap]; omega, by rw [el]; exact isB_drop hB _, by rw [el, List.length_drop]; omega⟩ UU
    have := (S h2 (X.trans Y)).sub (w := 1) (l := u.toNat) (u := (s.len : Int).toNat) (m := (s.cap : Int).toNat) (by omega) (by omega)
    rw [Nat.mul_one, Nat.mul_one, ← List.map_drop, List.take_of_length_le (by rw [List.length_map, List.length_drop]; omega), ← el] at this
    exact this
  refine GetShort_ok (S h (Ext.refl _ _)) sl hB (by omega) (fun v l' e v0 v1 => ?_) fun e he => ?_
  · refine go v ((shortL v).length : Int) 0 l' (by omega) (by rw [e, List.length_append]; omega) (by rw [e]; simp) fun h' R' U => ?_
    cases hb : bad with
    | true => rw [hb] at R'; exact H2 v l' h' v0 v1 R' U
    | false => rw [hb] at R'; exact H1 v l' h' hb e v0 v1 R' U
  · refine go 0 0 e l (by omega) (by omega) (by simp) fun h' R' U => ?_
    rw [show (bad || (e != 0)) = true from by simp [he]] at R'
    exact H2 0 l h' (by omega) (by omega) R' U
theorem regr_text_ok {k : ByteArray → Heap → Prop} (R : Rd 155 h r l bad)
    (H1 : ∀ t l' h', bad = false → l = textL t ++ l' → Rd 155 h' r l' false → Upd r h h' → k t h')
    (H2 : ∀ l' h', Rd 155 h' r l' true → Upd r h h' → k ByteArray.empty h') : reg_reader_text (some ⟨r, 0, none⟩) k h := by
  unfold reg_reader_text
  have fin : ∀ (l' : List Int) (v : Int) (h1 : Heap) (b : Bool), 0 ≤ v → Rd 155 h1 r l' b → Upd r h h1 → (b = false → bad = false ∧ l = shortL v ++ l') → reg_reader_bytes (some ⟨r, 0, none⟩) v (fun (r3 : Slc) h4 => ∃ l5 : List Int, l5.length = r3.len ∧ SlcAt h4 r3 (b8 l5) ∧ (k (bsOf l5) h4)) h1 := fun l' v h1 b v0 R1 U1 hb => by
    have hB := R1.isB
    refine regr_bytes_ok R1 v0 (fun s h2 b0 hv R2 U2 S2 ls cs => ?_) fun h2 R2 U2 => ?_
    · refine ⟨l'.take v.toNat, by rw [List.length_take]; omega, S2 h2 (Ext.refl _ _), ?_⟩
      obtain ⟨b1, e⟩ := hb b0
      refine H1 _ _ h2 b1 ?_ R2 (U1.trans U2)
      rw [textL_bs (isB_take hB _), tx, List.length_take, show ((min v.toNat l'.length : Nat) : Int) = v from by omega, List.append_assoc, List.take_append_drop]
      exact e
    · exact ⟨[], rfl, ⟨fun _ => rfl, fun a ha => by cases ha⟩, H2 _ h2 R2 (U1.trans U2)⟩
  refine regr_short_ok R (fun v l' h1 b e v0 v1 R1 U1 => fin l' v h1 false v0 R1 U1 fun _ => ⟨b, e⟩) fun v l' h1 v0 v1 R1 U1 => fin l' v h1 true v0 R1 U1 fun h => by cases h
theorem regr_number_ok {w : Int} {k : Int → Heap → Prop} (R : Rd 155 h r l bad) (w0 : 1 ≤ w) (w1 : w ≤ 8)
    (H1 : ∀ v l' h', bad = false → l = formL v w.toNat ++ l' → 0 ≤ v → v < 256 ^ w.toNat → Rd 155 h' r l' false → Upd r h h' → k v h')
    (H2 : ∀ l' h', Rd 155 h' r l' true → Upd r h h' → k 0 h') : reg_reader_number (some ⟨r, 0, none⟩) w k h := by
  unfold reg_reader_number
  rw [wrapU64 (x := w) (by omega) (by omega)]
  have hB := R.isB
  refine regr_bytes_ok R (by omega) (fun s h2 b0 hv R2 U2 S2 ls cs => ?_) fun h2 R2 U2 => ?_
  · have hl : (l.take w.toNat).length = w.toNat := by rw [List.length_take]; omega
    refine nGet_ok (S2 h2 (Ext.refl _ _)) (by rw [hl, ls]) (isB_take hB _) w0 w1 hl ?_
    have bd := numL_bd (isB_take hB w.toNat)
    rw [hl] at bd
    refine H1 _ _ h2 b0 ?_ bd.1 bd.2 R2 U2
    have := formL_num (isB_take hB w.toNat)
    rw [hl] at this
    rw [this, List.take_append_drop]
  · unfold num_Get
    rw [if_neg (by simp only [Bool.or_eq_true, decide_eq_true_eq]; omega), if_pos (by rw [decide_eq_true_eq]; dsimp only; omega)]
    exact H2 _ h2 R2 U2

end
/-! ### the reader of raft -/
section
variable {h : Heap} {r : Nat} {l : List Int} {bad : Bool}
theorem raftr_bytes_ok {n : Int} {k : Slc → Heap → Prop} (R : Rd 251 h r l bad) (n0 : 0 ≤ n)
    (H1 : ∀ s' h', bad = false → n ≤ l.length → Rd 251 h' r (l.drop n.toNat) false → Upd r h h' → Row h.size h' 5 1 s' (b8 (l.take n.toNat)) → k s' h')
    (H2 : ∀ h', Rd 251 h' r l true → Upd r h h' → k ⟨none, 0, 0⟩ h') : raft_reader_bytes (some ⟨r, 0, none⟩) n k h := by
  obtain ⟨s, K, S, sl, sc, hB, hz⟩ := R
  have bad1 : raft_reader_bytes_g1 (some ⟨r, 0, none⟩) n true k h := by
    unfold raft_reader_bytes_g1
    rw [if_pos rfl]
    refine ⟨_, rfl, _, by rw [add_mk]; exact K.wr (by simp), rfl, ?_⟩
    rw [add_mk, Nat.zero_add]
    have K2 := K.set (i := 1) (v := .bool true)
    have U : Upd r h (setH h ⟨r, 1, none⟩ (.bool true)) := ⟨by rw [setH_size]; exact Nat.le_refl _, fun j hj hne => setH_other (by simpa using hne)⟩
    exact H2 _ ⟨s, K2, fun h2 Y => S h2 ((U.ext (Nat.le_refl _) (Nat.le_of_lt K.lt)).trans Y), sl, sc, hB, hz⟩ U
  unfold raft_reader_bytes
  refine ⟨_, rfl, bad, by rw [add_mk, K.cell]; rfl, ?_⟩
  cases hb : bad with
  | true => rw [if_pos rfl]; exact bad1
  | false =>
    subst hb
    rw [if_neg (by simp)]
    refine ⟨s, by rw [K.cell]; rfl, ?_⟩
    rw [wrapU64 (x := (s.len : Int)) (by omega) (by omega)]
    by_cases hn : n > s.len
    · rw [show decide (n > (s.len : Int)) = true from by simpa using hn]; exact bad1
    · rw [show decide (n > (s.len : Int)) = false from by simpa using hn]
      unfold raft_reader_bytes_g1
      rw [if_neg (by simp)]
      refine ⟨_, rfl, s, by rw [K.cell]; rfl, _, by omega, n0, by omega, by omega, rfl, ?_⟩
      have T := (S h (Ext.refl _ _)).sub (w := 1) (l := (0 : Int).toNat) (u := n.toNat) (m := (s.cap : Int).toNat) (by omega) (by omega)
      rw [show (0 : Int).toNat * 1 = 0 from rfl, List.drop_zero, show (n.toNat - (0 : Int).toNat) * 1 = n.toNat from by simp, ← List.map_take] at T
      refine Clone_ok (by rw [subS_len, List.length_take]; omega) T (by rw [List.length_take]; omega) fun s1 h1 R1 X1 => ?_
      have z1 := X1.size
      have kl := K.lt
      have K1 := K.ext X1 kl
      refine ⟨s, by rw [K1.cell]; rfl, _, n0, by omega, by omega, by omega, rfl, _, K1.wr (by simp), rfl, ?_⟩
      have K2 := K1.set (i := 0) (v := Slc.v (subS s 1 n.toNat (s.len : Int).toNat (s.cap : Int).toNat))
      have U : Upd r h1 (setH h1 ⟨r, 0, none⟩ (Slc.v (subS s 1 n.toNat (s.len : Int).toNat (s.cap : Int).toNat))) := ⟨by rw [setH_size]; exact Nat.le_refl _, fun j hj hne => setH_other (by simpa using hne)⟩
      have UU := (Upd.of_ext (b := r) X1).trans U
      have X := UU.ext (B := r) (Nat.le_refl _) (Nat.le_of_lt kl)
      refine H1 _ _ rfl (by omega) ⟨_, K2, fun h2 Y => ?_, by rw [subS_len, List.length_drop]; omega, by rw [subS_len, subS_cap]; omega, isB_drop hB _, by rw [List.length_drop]; omega⟩ UU (R1.keep fun g hg => U.block g (R1.bd hg).2 (by have := (R1.bd hg).1; omega))
      have := (S h2 (X.trans Y)).sub (w := 1) (l := n.toNat) (u := (s.len : Int).toNat) (m := (s.cap : Int).toNat) (by omega) (by omega)
      rw [Nat.mul_one, Nat.mul_one, ← List.map_drop, List.take_of_length_le (by rw [List.length_map, List.length_drop]; omega)] at this
      exact this
theorem raftr_short_ok {k : Int → Heap → Prop} (R : Rd 251 h r l bad)
    (H1 : ∀ v l' h', bad = false → l = shortL v ++ l' → 0 ≤ v → v < 18446744073709551616 → Rd 251 h' r l' false → Upd r h h' → k v h')
    (H2 : ∀ v l' h', 0 ≤ v → v < 18446744073709551616 → Rd 251 h' r l' true → Upd r h h' → k v h') : raft_reader_short (some ⟨r, 0, none⟩) k h := by
  obtain ⟨s, K, S, sl, sc, hB, hz⟩ := R
  unfold raft_reader_short
  refine ⟨_, rfl, s, by rw [K.cell]; rfl, ?_⟩
  have go : ∀ (v : Int) (u e : Int) (l' : List Int), 0 ≤ u → u ≤ l.length → l' = l.drop u.toNat → (∀ h', Rd 251 h' r l' (bad || (e != 0)) → Upd r h h' → k v h') →
      ∃ v5 : Bool, cellH h ((⟨r, 0, none⟩ : Addr).add 1) = some (.bool v5) ∧ (∃ h6 : Heap, WrH h ((⟨r, 0, none⟩ : Addr).add 1) ∧ h6 = setH h ((⟨r, 0, none⟩ : Addr).add 1) (.bool (v5 || (e != 0))) ∧ (∃ v7 : Slc, cellH h6 ⟨r, 0, none⟩ = some (Slc.v v7) ∧ (∃ s8 : Slc, (0 : Int) ≤ u ∧ (u : Int) ≤ (v7.len : Int) ∧ ((v7.len : Int) : Int) ≤ (v7.cap : Int) ∧ (v7.cap : Int) ≤ (v7.cap : Int) ∧ s8 = subS v7 1 u.toNat (v7.len : Int).toNat (v7.cap : Int).toNat ∧ (∃ h9 : Heap, WrH h6 ⟨r, 0, none⟩ ∧ h9 = setH h6 ⟨r, 0, none⟩ (Slc.v s8) ∧ (k v h9))))) := fun v u e l' u0 u1 el G => by
    refine ⟨bad, by rw [add_mk, K.cell]; rfl, _, by rw [add_mk]; exact K.wr (by simp), rfl, ?_⟩
    rw [add_mk, Nat.zero_add]
    have K2 := K.set (i := 1) (v := .bool (bad || (e != 0)))
    have U : Upd r h (setH h ⟨r, 1, none⟩ (.bool (bad || (e != 0)))) := ⟨by rw [setH_size]; exact Nat.le_refl _, fun j hj hne => setH_other (by simpa using hne)⟩
    generalize setH h ⟨r, 1, none⟩ (.bool (bad || (e != 0))) = h6 at *
    refine ⟨s, by rw [K2.cell]; rfl, _, u0, by omega, by omega, by omega, rfl, _, K2.wr (by simp), rfl, ?_⟩
    have K3 := K2.set (i := 0) (v := Slc.v (subS s 1 u.toNat (s.len : Int).toNat (s.cap : Int).toNat))
    have U2 : Upd r h6 (setH h6 ⟨r, 0, none⟩ (Slc.v (subS s 1 u.toNat (s.len : Int).toNat (s.cap : Int).toNat))) := ⟨by rw [setH_size]; exact Nat.le_refl _, fun j hj hne => setH_other (by simpa using hne)⟩
    have UU := U.trans U2
    have X := UU.ext (B := r) (Nat.le_refl _) (Nat.le_of_lt K.lt)
    refine G _ ⟨_, K3, fun h2 Y => ?_, by rw [subS_len, el, List.length_drop]; omega, by rw [subS_len, subS_cap]; omega, by rw [el]; exact isB_drop hB _, by rw [el, List.length_drop]; omega⟩ UU
    have := (S h2 (X.trans Y)).sub (w := 1) (l := u.toNat) (u := (s.len : Int).toNat) (m := (s.cap : Int).toNat) (by omega) (by omega)
    rw [Nat.mul_one, Nat.mul_one, ← List.map_drop, List.take_of_length_le (by rw [List.length_map, List.length_drop]; omega), ← el] at this
    exact this
  refine GetShort_ok (S h (Ext.refl _ _)) sl hB (by omega) (fun v l' e v0 v1 => ?_) fun e he => ?_
  · refine go v ((shortL v).length : Int) 0 l' (by omega) (by rw [e, List.length_append]; omega) (by rw [e]; simp) fun h' R' U => ?_
    cases hb : bad with
    | true => rw [hb] at R'; exact H2 v l' h' v0 v1 R' U
    | false => rw [hb] at R'; exact H1 v l' h' hb e v0 v1 R' U
  · refine go 0 0 e l (by omega) (by omega) (by simp) fun h' R' U => ?_
    rw [show (bad || (e != 0)) = true from by simp [he]] at R'
    exact H2 0 l h' (by omega) (by omega) R' U
theorem raftr_byte_ok {k : Int → Heap → Prop} (R : Rd 251 h r l bad)
    (H1 : ∀ v l' h', bad = false → l = [v] ++ l' → 0 ≤ v → v < 256 → Rd 251 h' r l' false → Upd r h h' → k v h')
    (H2 : ∀ l' h', Rd 251 h' r l' true → Upd r h h' → k 0 h') : raft_reader_byte (some ⟨r, 0, none⟩) k h := by
  unfold raft_reader_byte
  have hB := R.isB
  refine raftr_bytes_ok R (by omega) (fun s h2 b0 hv R2 U2 Rw => ?_) fun h2 R2 U2 => ?_
  · have ls := Rw.pb
    cases l with
    | nil => simp at hv
    | cons v l' =>
      simp at ls
      rw [if_neg (by rw [beq_iff_eq]; omega)]
      obtain ⟨a, ha, hc⟩ := slc_get Rw.slc (i := 0) (v := .int .u8 v) rfl
      have bb := hB v (by simp)
      exact ⟨a, ha, by omega, by omega, v, hc, H1 v l' h2 b0 rfl bb.1 bb.2 R2 U2⟩
  · rw [if_pos (show (((⟨none, 0, 0⟩ : Slc).len : Int) == 0) = true from rfl)]
    exact H2 _ h2 R2 U2

end
end Go.Q.Yb

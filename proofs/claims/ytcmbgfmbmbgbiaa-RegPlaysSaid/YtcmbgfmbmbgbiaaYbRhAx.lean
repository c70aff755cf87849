/- A part of the proof of statements of this seat: lemmas, no statement of their own. -/
import Derived.Test.YtcmbgfmbmbgbiaaYbRg3
import Derived.Test.YtcmbgfmbmbgbiaaYbRgN
import Derived.Test.YtcmbgfmbmbgbiaaYbRgF
import Derived.Test.YtcmbgfmbmbgbiaaYbRgS
set_option linter.unusedVariables false
set_option linter.unusedSimpArgs false
namespace Go.Q.Yb
theorem slc_get {h : Heap} {s : Slc} {vs : List Value} (S : SlcAt h s vs) {i : Nat} {v : Value} (hv : vs[i]? = some v) : ∃ a, s.a = some a ∧ cellH h (a.add i) = some v := by
  cases ha : s.a with
  | none => have := S.1 ha; subst this; simp at hv
  | some a => exact ⟨a, rfl, S.2 a ha i v hv⟩
/-! ### numbers are read -/
def valS : List Int → Int
  | [] => 0
  | b :: r => (b - 128) + 128 * valS r
theorem valS_snoc (c : Int) : ∀ p : List Int, valS (p ++ [c]) = valS p + (c - 128) * 128 ^ p.length
  | [] => by simp [valS]
  | b :: r => by
    simp only [List.cons_append, valS, valS_snoc c r, List.length_cons, Int.pow_succ]
    rw [Int.mul_add, ← Int.mul_assoc, Int.mul_comm 128 (c - 128), Int.mul_assoc, Int.mul_comm 128 (128 ^ r.length)]
    omega
theorem valS_bd : ∀ {p : List Int}, (∀ b ∈ p, 128 ≤ b ∧ b < 256) → 0 ≤ valS p ∧ valS p < 128 ^ p.length
  | [], _ => by simp [valS]
  | b :: r, h => by
    have h1 := h b (by simp)
    have h2 := valS_bd (p := r) fun x hx => h x (List.mem_cons_of_mem _ hx)
    simp only [valS, List.length_cons, Int.pow_succ]; omega
theorem short_of : ∀ (p : List Int) (c : Int) (f : Nat), (∀ b ∈ p, 128 ≤ b ∧ b < 256) → 0 ≤ c → c < 128 → (p ≠ [] → c ≠ 0) → p.length < f → shortF f (valS p + c * 128 ^ p.length) = p ++ [c]
  | [], c, 0, _, _, _, _, hf => by simp at hf
  | [], c, f + 1, _, c0, c1, _, _ => by simp only [valS, List.length_nil, Int.pow_zero, Int.mul_one, Int.zero_add, shortF, List.nil_append]; rw [if_pos c1]
  | b :: r, c, 0, _, _, _, _, hf => by simp at hf
  | b :: r, c, f + 1, h, c0, c1, hc, hf => by
    have h1 := h b (by simp)
    have h2 := valS_bd (p := r) fun x hx => h x (List.mem_cons_of_mem _ hx)
    have cn : 1 ≤ c := by have := hc (by simp); omega
    have e : valS (b :: r) + c * 128 ^ (b :: r).length = (b - 128) + 128 * (valS r + c * 128 ^ r.length) := by
      simp only [valS, List.length_cons, Int.pow_succ]
      rw [← Int.mul_assoc c, Int.mul_add]
      generalize c * 128 ^ r.length = Q
      omega
    have hp : 1 ≤ (128 : Int) ^ r.length := by have : (0 : Int) < 128 ^ r.length := Int.pow_pos (by omega); omega
    have hw : 1 ≤ valS r + c * 128 ^ r.length := by
      have : 1 * 1 ≤ c * 128 ^ r.length := Int.mul_le_mul cn hp (by omega) (by omega)
      omega
    rw [e]
    generalize hW : valS r + c * 128 ^ r.length = W at *
    rw [shortF, if_neg (by omega), show (b - 128 + 128 * W) % 128 + 128 = b from by omega, show (b - 128 + 128 * W) / 128 = W from by omega, ← hW]
    rw [short_of r c f (fun x hx => h x (List.mem_cons_of_mem _ hx)) c0 c1 (fun _ => by omega) (by simp at hf; omega)]
    rfl
theorem and127 {v : Int} (h : 0 ≤ v ∧ v < 256) : bwAnd .u8 v 127 = v % 128 := by
  have key : (List.range 256).all (fun m => bwAnd .u8 (m : Int) 127 == (m : Int) % 128) = true := by decide +kernel
  have := List.all_eq_true.1 key v.toNat (by simp; omega)
  rw [beq_iff_eq, show ((v.toNat : Nat) : Int) = v from by omega] at this
  exact this
theorem bwOr64 {a b : Nat} (ha : a < 18446744073709551616) (hb : b < 18446744073709551616) : bwOr .u64 a b = ((a ||| b : Nat) : Int) := by
  show IntKind.u64.wrap ((BitVec.ofInt 64 (a : Int) ||| BitVec.ofInt 64 (b : Int)).toNat : Int) = _
  rw [or_nat 64 a b (by omega) (by omega), wU64]
  have := Nat.or_lt_two_pow (n := 64) (x := a) (y := b) (by omega) (by omega)
  omega
theorem or_shift {n c : Int} {i : Nat} (hi : i ≤ 9) (n0 : 0 ≤ n) (n1 : n < 128 ^ i) (c0 : 0 ≤ c) (c1 : c < 128) (c9 : i = 9 → c ≤ 1) : bwOr .u64 n (shl .u64 c (7 * i)) = n + c * 128 ^ i ∧ n + c * 128 ^ i < 18446744073709551616 ∧ 0 ≤ n + c * 128 ^ i := by
  have hp : (128 : Int) ^ i = 2 ^ (7 * i) := by rw [show (128 : Int) = 2 ^ 7 from rfl, ← Int.pow_mul]
  have fit : c * 128 ^ i + 128 ^ i ≤ 18446744073709551616 ∧ (128 : Int) ^ i ≤ 9223372036854775808 ∧ 0 ≤ c * 128 ^ i := by
    have : i = 0 ∨ i = 1 ∨ i = 2 ∨ i = 3 ∨ i = 4 ∨ i = 5 ∨ i = 6 ∨ i = 7 ∨ i = 8 ∨ i = 9 := by omega
    rcases this with rfl | rfl | rfl | rfl | rfl | rfl | rfl | rfl | rfl | rfl <;> (try have := c9 rfl) <;> omega
  have es : shl .u64 c (7 * i) = c * 128 ^ i := by
    unfold shl
    rw [show min (7 * i) IntKind.u64.bits = 7 * i from by show min (7 * i) 64 = 7 * i; omega, ← hp, wU64]
    have : c * 128 ^ i < 18446744073709551616 := by
      have : 1 ≤ (128 : Int) ^ i := by have : (0 : Int) < 128 ^ i := Int.pow_pos (by omega); omega
      omega
    exact Int.emod_eq_of_lt fit.2.2 this
  have hpn : (128 : Int) ^ i = ((2 ^ (7 * i) : Nat) : Int) := by rw [hp]; simp
  refine ⟨?_, by omega, by omega⟩
  rw [es]
  obtain ⟨a, rfl⟩ : ∃ a : Nat, n = a := ⟨n.toNat, by omega⟩
  obtain ⟨d, rfl⟩ : ∃ d : Nat, c = d := ⟨c.toNat, by omega⟩
  rw [hpn] at fit n1 ⊢
  have e : (d : Int) * ((2 ^ (7 * i) : Nat) : Int) = ((d * 2 ^ (7 * i) : Nat) : Int) := by simp
  rw [e] at fit ⊢
  rw [bwOr64 (by omega) (by omega), Nat.or_comm, or_add (by omega)]
  omega
theorem GetShort_ok {s : Slc} {l : List Int} {k : Int × Int × Int → Heap → Prop} {h : Heap} (hs : SlcAt h s (b8 l)) (hl : s.len = l.length) (hB : isB l) (hz : l.length ≤ 4611686018427387904)
    (H1 : ∀ v l', l = shortL v ++ l' → 0 ≤ v → v < 18446744073709551616 → k (v, ((shortL v).length : Int), 0) h) (H2 : ∀ e, e ≠ 0 → k (0, 0, e) h) : num_GetShort s k h := by
  unfold num_GetShort
  refine ⟨fun q h' => ∃ p l', l = p ++ l' ∧ (∀ b ∈ p, 128 ≤ b ∧ b < 256) ∧ q.2 = (p.length : Int) ∧ p.length ≤ 9 ∧ q.1 = valS p ∧ h' = h, fun q _ => (10 - q.2).toNat, ⟨[], l, rfl, by simp, rfl, by simp, rfl, rfl⟩, ?_⟩
  rintro n i h' ⟨p, l', e, hp, hi, h9, hn, hh⟩
  dsimp only at hi hn
  subst hh
  subst hi; subst hn
  unfold num_GetShort_l1b
  have ll : l.length = p.length + l'.length := by rw [e, List.length_append]
  cases l' with
  | nil =>
    simp at ll
    rw [if_neg (by rw [decide_eq_true_eq]; omega)]
    exact H2 2 (by decide)
  | cons c r =>
    simp at ll
    rw [if_pos (by rw [decide_eq_true_eq]; omega)]
    have hc : l[p.length]? = some c := by rw [e]; simp
    have cb := hB c (List.mem_of_getElem? hc)
    obtain ⟨a, ha, hv⟩ := slc_get hs (i := p.length) (v := .int .u8 c) (by rw [List.getElem?_map, hc]; rfl)
    refine ⟨a, ha, by omega, by omega, c, by rw [Int.toNat_natCast, Nat.mul_one]; exact hv, ?_⟩
    by_cases hbad : p.length = 9 ∧ c > 1
    · rw [if_pos (by simp [hbad.1]; omega)]
      exact H2 4 (by decide)
    · rw [if_neg (by
        simp only [Bool.and_eq_true, beq_iff_eq, decide_eq_true_eq]
        rintro ⟨h1, h2⟩; exact hbad ⟨by omega, h2⟩)]
      rw [wrapU64 (x := (p.length : Int)) (by omega) (by omega), wrapU64 (x := 7 * (p.length : Int)) (by omega) (by omega), and127 cb, wrapU64 (x := c % 128) (by omega) (by omega), show (7 * (p.length : Int)).toNat = 7 * p.length from by omega]
      have vb := valS_bd hp
      obtain ⟨o1, o2, o3⟩ := or_shift (n := valS p) (c := c % 128) h9 vb.1 vb.2 (by omega) (by omega) (fun h => by omega)
      rw [o1, wrapI64 (by omega) (by omega)]
      refine ⟨by omega, _, rfl, ?_⟩
      by_cases hm : c ≥ 128
      · rw [if_pos (by rw [decide_eq_true_eq]; omega)]
        have h8 : p.length ≤ 8 := by omega
        refine ⟨⟨p ++ [c], r, by rw [e]; simp, fun b hb => ?_, by simp, by simp; omega, ?_, rfl⟩, by dsimp only; omega⟩
        · rcases List.mem_append.1 hb with hb | hb
          · exact hp b hb
          · simp at hb; omega
        · dsimp only
          rw [valS_snoc, show c % 128 = c - 128 from by omega]
      · rw [if_neg (by rw [decide_eq_true_eq]; omega)]
        by_cases hzr : c = 0 ∧ 0 < p.length
        · rw [if_pos (by simp [hzr.1]; omega)]
          exact H2 4 (by decide)
        · rw [if_neg (by
            simp only [Bool.and_eq_true, beq_iff_eq, decide_eq_true_eq]
            rintro ⟨h1, h2⟩; exact hzr ⟨h1, by omega⟩)]
          have hsh := short_of p c 10 hp cb.1 (by omega) (fun hne h0 => hzr ⟨h0, List.length_pos_iff.2 hne⟩) (by omega)
          rw [show c % 128 = c from by omega] at o2 o3 ⊢
          refine ⟨_, rfl, ?_⟩
          have := H1 (valS p + c * 128 ^ p.length) r (by rw [shortL, hsh, e]; simp) o3 o2
          rw [shortL, hsh] at this
          simpa using this
end Go.Q.Yb
set_option linter.unusedVariables false
set_option linter.unusedSimpArgs false
namespace Go.Q.Yb
theorem or8 {n b : Int} (n0 : 0 ≤ n) (n1 : n < 72057594037927936) (hb : 0 ≤ b ∧ b < 256) : bwOr .u64 (shl .u64 n (8 : Int).toNat) (IntKind.u64.wrap b) = n * 256 + b := by
  have es : shl .u64 n (8 : Int).toNat = n * 256 := by
    unfold shl
    rw [show (2 : Int) ^ (min (8 : Int).toNat IntKind.u64.bits) = 256 from rfl, wU64]; omega
  rw [es, wrapU64 (by omega) (by omega)]
  obtain ⟨a, rfl⟩ : ∃ a : Nat, n = a := ⟨n.toNat, by omega⟩
  obtain ⟨d, rfl⟩ : ∃ d : Nat, b = d := ⟨b.toNat, by omega⟩
  have := or_add (a := a) (b := d) (i := 8) (by omega)
  rw [show ((a : Int) * 256) = ((a * 2 ^ 8 : Nat) : Int) from by simp, bwOr64 (by omega) (by omega), this]
  simp
theorem numL_drop {l : List Int} {i : Nat} {b : Int} (h : l[i]? = some b) : numL (l.drop i) = b + 256 * numL (l.drop (i + 1)) := by
  have hi := (List.getElem?_eq_some_iff.1 h).1
  rw [List.drop_eq_getElem_cons hi]
  have : l[i] = b := (List.getElem?_eq_some_iff.1 h).2
  rw [this]; rfl
theorem nGet_ok {s : Slc} {l : List Int} {w : Int} {k : Int × Int → Heap → Prop} {h : Heap} (hs : SlcAt h s (b8 l)) (hl : s.len = l.length) (hB : isB l) (w0 : 1 ≤ w) (w1 : w ≤ 8) (hw : l.length = w.toNat) (H : k (numL l, 0) h) : num_Get s w k h := by
  unfold num_Get
  rw [if_neg (by simp only [Bool.or_eq_true, decide_eq_true_eq]; omega), if_neg (by rw [decide_eq_true_eq]; omega), wrapI64 (by omega) (by omega)]
  refine ⟨_, rfl, fun q h' => -1 ≤ q.2 ∧ q.2 ≤ w - 1 ∧ q.1 = numL (l.drop (q.2 + 1).toNat) ∧ h' = h, fun q _ => (q.2 + 1).toNat, ⟨by dsimp only; omega, by dsimp only; omega, ?_, rfl⟩, ?_⟩
  · dsimp only
    rw [show (w - 1 + 1).toNat = l.length from by omega, List.drop_length]; rfl
  rintro n i h' ⟨i0, i1, hn, hh⟩
  dsimp only at i0 i1 hn
  subst hh
  unfold num_Get_l1b
  by_cases hi : i ≥ 0
  · rw [if_pos (by simpa using hi)]
    have hb : l[i.toNat]? = some (l[i.toNat]'(by omega)) := by simp
    have bb := hB _ (List.mem_of_getElem? hb)
    generalize l[i.toNat]'(by omega) = b at *
    obtain ⟨a, ha, hv⟩ := slc_get hs (i := i.toNat) (v := .int .u8 b) (by rw [List.getElem?_map, hb]; rfl)
    have bd := numL_bd (l := l.drop (i + 1).toNat) fun x hx => hB x (List.mem_of_mem_drop hx)
    have lim : (256 : Int) ^ (l.drop (i + 1).toNat).length ≤ 256 ^ 7 := pow_mono (by rw [List.length_drop]; omega)
    have lim2 : (256 : Int) ^ 7 = 72057594037927936 := by decide
    refine ⟨a, ha, hi, by omega, b, by rw [Nat.mul_one]; exact hv, _, rfl, _, rfl, ?_⟩
    rw [hn, or8 bd.1 (by omega) bb, wrapI64 (by omega) (by omega)]
    refine ⟨⟨by dsimp only; omega, by dsimp only; omega, ?_, rfl⟩, by dsimp only; omega⟩
    dsimp only
    rw [show (i - 1 + 1).toNat = i.toNat from by omega, numL_drop hb, show (i + 1).toNat = i.toNat + 1 from by omega]
    omega
  · rw [if_neg (by simpa using hi)]
    rw [show (i + 1).toNat = 0 from by omega, List.drop_zero] at hn
    rw [hn]; exact H
/-- a reader: what is left, and whether all was in form -/
def Rd (E : Nat) (h : Heap) (r : Nat) (l : List Int) (bad : Bool) : Prop :=
  ∃ s, Blk h r [Slc.v s, .bool bad] E ∧ (∀ h', Ext r h h' → SlcAt h' s (b8 l)) ∧ s.len = l.length ∧ s.len ≤ s.cap ∧ isB l ∧ l.length ≤ 1000000
theorem Rd.lt {E : Nat} {h : Heap} {r : Nat} {l : List Int} {bad : Bool} (R : Rd E h r l bad) : r < h.size := by obtain ⟨s, K, _⟩ := R; exact K.lt
theorem Rd.isB {E : Nat} {h : Heap} {r : Nat} {l : List Int} {bad : Bool} (R : Rd E h r l bad) : Go.Q.isB l := by obtain ⟨s, _, _, _, _, b, _⟩ := R; exact b
theorem Rd.len {E : Nat} {h : Heap} {r : Nat} {l : List Int} {bad : Bool} (R : Rd E h r l bad) : l.length ≤ 1000000 := by obtain ⟨s, _, _, _, _, _, b⟩ := R; exact b
theorem Rd.ext {E : Nat} {h h' : Heap} {r : Nat} {l : List Int} {bad : Bool} (R : Rd E h r l bad) (X : Ext (r + 1) h h') : Rd E h' r l bad := by
  obtain ⟨s, K, S, a, b, c, d⟩ := R
  exact ⟨s, K.ext X (by omega), fun h2 Y => S h2 ((X.mono (by omega)).trans Y), a, b, c, d⟩
theorem isB_drop {l : List Int} (h : isB l) (n : Nat) : isB (l.drop n) := fun b hb => h b (List.mem_of_mem_drop hb)
theorem isB_take {l : List Int} (h : isB l) (n : Nat) : isB (l.take n) := fun b hb => h b (List.mem_of_mem_take hb)
theorem formL_num : ∀ {l : List Int}, isB l → formL (numL l) l.length = l
  | [], _ => rfl
  | b :: r, h => by
    have h1 := h b (by simp)
    have h2 := formL_num (l := r) fun x hx => h x (List.mem_cons_of_mem _ hx)
    simp only [numL, List.length_cons, formL]
    rw [show (b + 256 * numL r) % 256 = b from by omega, show (b + 256 * numL r) / 256 = numL r from by omega, h2]
/-! ### the reader of pack -/
section
variable {h : Heap} {r : Nat} {l : List Int} {bad : Bool}
end
/-! ### the reader of reg -/
section
variable {h : Heap} {r : Nat} {l : List Int} {bad : Bool}
theorem regr_bytes_ok {n : Int} {k : Slc → Heap → Prop} (R : Rd 155 h r l bad) (n0 : 0 ≤ n)
    (H1 : ∀ s' h', bad = false → n ≤ l.length → Rd 155 h' r (l.drop n.toNat) false → Upd r h h' → (∀ h'', Ext r h' h'' → SlcAt h'' s' (b8 (l.take n.toNat))) → s'.len = n.toNat → s'.len ≤ s'.cap → k s' h')
    (H2 : ∀ h', Rd 155 h' r l true → Upd r h h' → k ⟨none, 0, 0⟩ h') : reg_reader_bytes (some ⟨r, 0, none⟩) n k h := by
  obtain ⟨s, K, S, sl, sc, hB, hz⟩ := R
  have bad1 : reg_reader_bytes_g1 (some ⟨r, 0, none⟩) n true k h := by
    unfold reg_reader_bytes_g1
    rw [if_pos rfl]
    refine ⟨_, rfl, _, by rw [add_mk]; exact K.wr (by simp), rfl, ?_⟩
    rw [add_mk, Nat.zero_add]
    have K2 := K.set (i := 1) (v := .bool true)
    have U : Upd r h (setH h ⟨r, 1, none⟩ (.bool true)) := ⟨by rw [setH_size]; exact Nat.le_refl _, fun j hj hne => setH_other (by simpa using hne)⟩
    exact H2 _ ⟨s, K2, fun h2 Y => S h2 ((U.ext (Nat.le_refl _) (Nat.le_of_lt K.lt)).trans Y), sl, sc, hB, hz⟩ U
  unfold reg_reader_bytes
  refine ⟨_, rfl, bad, by rw [add_mk, K.cell]; rfl, ?_⟩
  cases hb : bad with
  | true => rw [if_pos rfl]; exact bad1
  | false =>
    subst hb
    rw [if_neg (by simp)]
    refine ⟨s, by rw [K.cell]; rfl, ?_⟩
    rw [wrapU64 (x := (s.len : Int)) (by omega) (by omega)]
    by_cases hn : n > s.len
    · rw [show decide (n > (s.len : Int)) = true from by simpa using hn]; exact bad1
    · rw [show decide (n > (s.len : Int)) = false from by simpa using hn]
      unfold reg_reader_bytes_g1
      rw [if_neg (by simp)]
      refine ⟨_, rfl, s, by rw [K.cell]; rfl, _, by omega, n0, by omega, by omega, rfl, s, by rw [K.cell]; rfl, _, n0, by omega, by omega, by omega, rfl, _, K.wr (by simp), rfl, ?_⟩
      have K2 := K.set (i := 0) (v := Slc.v (subS s 1 n.toNat (s.len : Int).toNat (s.cap : Int).toNat))
      have U : Upd r h (setH h ⟨r, 0, none⟩ (Slc.v (subS s 1 n.toNat (s.len : Int).toNat (s.cap : Int).toNat))) := ⟨by rw [setH_size]; exact Nat.le_refl _, fun j hj hne => setH_other (by simpa using hne)⟩
      have X := U.ext (B := r) (Nat.le_refl _) (Nat.le_of_lt K.lt)
      refine H1 _ _ rfl (by omega) ⟨_, K2, fun h2 Y => ?_, by rw [subS_len, List.length_drop]; omega, by rw [subS_len, subS_cap]; omega, isB_drop hB _, by rw [List.length_drop]; omega⟩ U (fun h2 Y => ?_) (by rw [subS_len]; omega) (by rw [subS_len, subS_cap]; omega)
      · have := (S h2 (X.trans Y)).sub (w := 1) (l := n.toNat) (u := (s.len : Int).toNat) (m := (s.cap : Int).toNat) (by omega) (by omega)
        rw [Nat.mul_one, Nat.mul_one, ← List.map_drop, List.take_of_length_le (by rw [List.length_map, List.length_drop]; omega)] at this
        exact this
      · have := (S h2 (X.trans Y)).sub (w := 1) (l := (0 : Int).toNat) (u := n.toNat) (m := (s.cap : Int).toNat) (by omega) (by omega)
        rw [show (0 : Int).toNat * 1 = 0 from rfl, List.drop_zero, show (n.toNat - (0 : Int).toNat) * 1 = n.toNat from by simp, ← List.map_take] at this
        exact this
theorem regr_short_ok {k : Int → Heap → Prop} (R : Rd 155 h r l bad)
    (H1 : ∀ v l' h', bad = false → l = shortL v ++ l' → 0 ≤ v → v < 18446744073709551616 → Rd 155 h' r l' false → Upd r h h' → k v h')
    (H2 : ∀ v l' h', 0 ≤ v → v < 18446744073709551616 → Rd 155 h' r l' true → Upd r h h' → k v h') : reg_reader_short (some ⟨r, 0, none⟩) k h := by
  obtain ⟨s, K, S, sl, sc, hB, hz⟩ := R
  unfold reg_reader_short
  refine ⟨_, rfl, s, by rw [K.cell]; rfl, ?_⟩
  have go : ∀ (v : Int) (u e : Int) (l' : List Int), 0 ≤ u → u ≤ l.length → l' = l.drop u.toNat → (∀ h', Rd 155 h' r l' (bad || (e != 0)) → Upd r h h' → k v h') →
      ∃ v5 : Bool, cellH h ((⟨r, 0, none⟩ : Addr).add 1) = some (.bool v5) ∧ (∃ h6 : Heap, WrH h ((⟨r, 0, none⟩ : Addr).add 1) ∧ h6 = setH h ((⟨r, 0, none⟩ : Addr).add 1) (.bool (v5 || (e != 0))) ∧ (∃ v7 : Slc, cellH h6 ⟨r, 0, none⟩ = some (Slc.v v7) ∧ (∃ s8 : Slc, (0 : Int) ≤ u ∧ (u : Int) ≤ (v7.len : Int) ∧ ((v7.len : Int) : Int) ≤ (v7.cap : Int) ∧ (v7.cap : Int) ≤ (v7.cap : Int) ∧ s8 = subS v7 1 u.toNat (v7.len : Int).toNat (v7.cap : Int).toNat ∧ (∃ h9 : Heap, WrH h6 ⟨r, 0, none⟩ ∧ h9 = setH h6 ⟨r, 0, none⟩ (Slc.v s8) ∧ (k v h9))))) := fun v u e l' u0 u1 el G => by
    refine ⟨bad, by rw [add_mk, K.cell]; rfl, _, by rw [add_mk]; exact K.wr (by simp), rfl, ?_⟩
    rw [add_mk, Nat.zero_add]
    have K2 := K.set (i := 1) (v := .bool (bad || (e != 0)))
    have U : Upd r h (setH h ⟨r, 1, none⟩ (.bool (bad || (e != 0)))) := ⟨by rw [setH_size]; exact Nat.le_refl _, fun j hj hne => setH_other (by simpa using hne)⟩
    generalize setH h ⟨r, 1, none⟩ (.bool (bad || (e != 0))) = h6 at *
    refine ⟨s, by rw [K2.cell]; rfl, _, u0, by omega, by omega, by omega, rfl, _, K2.wr (by simp), rfl, ?_⟩
    have K3 := K2.set (i := 0) (v := Slc.v (subS s 1 u.toNat (s.len : Int).toNat (s.cap : Int).toNat))
    have U2 : Upd r h6 (setH h6 ⟨r, 0, none⟩ (Slc.v (subS s 1 u.toNat (s.len : Int).toNat (s.cap : Int).toNat))) := ⟨by rw [setH_size]; exact Nat.le_refl _, fun j hj hne => setH_other (by simpa using hne)⟩
    have UU := U.trans U2
    have X := UU.ext (B := r) (Nat.le_refl _) (Nat.le_of_lt K.lt)
    refine G _ ⟨_, K3, fun h2 Y => ?_, by rw [subS_len, el, List.length_drop]; omega, by rw [subS_len, subS_cap]; omega, by rw [el]; exact isB_drop hB _, by rw [el, List.length_drop]; omega⟩ UU
    have := (S h2 (X.trans Y)).sub (w := 1) (l := u.toNat) (u := (s.len : Int).toNat) (m := (s.cap : Int).toNat) (by omega) (by omega)
    rw [Nat.mul_one, Nat.mul_one, ← List.map_drop, List.take_of_length_le (by rw [List.length_map, List.length_drop]; omega), ← el] at this
    exact this
  refine GetShort_ok (S h (Ext.refl _ _)) sl hB (by omega) (fun v l' e v0 v1 => ?_) fun e he => ?_
  · refine go v ((shortL v).length : Int) 0 l' (by omega) (by rw [e, List.length_append]; omega) (by rw [e]; simp) fun h' R' U => ?_
    cases hb : bad with
    | true => rw [hb] at R'; exact H2 v l' h' v0 v1 R' U
    | false => rw [hb] at R'; exact H1 v l' h' hb e v0 v1 R' U
  · refine go 0 0 e l (by omega) (by omega) (by simp) fun h' R' U => ?_
    rw [show (bad || (e != 0)) = true from by simp [he]] at R'
    exact H2 0 l h' (by omega) (by omega) R' U
theorem regr_text_ok {k : ByteArray → Heap → Prop} (R : Rd 155 h r l bad)
    (H1 : ∀ t l' h', bad = false → l = textL t ++ l' → Rd 155 h' r l' false → Upd r h h' → k t h')
    (H2 : ∀ l' h', Rd 155 h' r l' true → Upd r h h' → k ByteArray.empty h') : reg_reader_text (some ⟨r, 0, none⟩) k h := by
  unfold reg_reader_text
  have fin : ∀ (l' : List Int) (v : Int) (h1 : Heap) (b : Bool), 0 ≤ v → Rd 155 h1 r l' b → Upd r h h1 → (b = false → bad = false ∧ l = shortL v ++ l') → reg_reader_bytes (some ⟨r, 0, none⟩) v (fun (r3 : Slc) h4 => ∃ l5 : List Int, l5.length = r3.len ∧ SlcAt h4 r3 (b8 l5) ∧ (k (bsOf l5) h4)) h1 := fun l' v h1 b v0 R1 U1 hb => by
    have hB := R1.isB
    refine regr_bytes_ok R1 v0 (fun s h2 b0 hv R2 U2 S2 ls cs => ?_) fun h2 R2 U2 => ?_
    · refine ⟨l'.take v.toNat, by rw [List.length_take]; omega, S2 h2 (Ext.refl _ _), ?_⟩
      obtain ⟨b1, e⟩ := hb b0
      refine H1 _ _ h2 b1 ?_ R2 (U1.trans U2)
      rw [textL_bs (isB_take hB _), tx, List.length_take, show ((min v.toNat l'.length : Nat) : Int) = v from by omega, List.append_assoc, List.take_append_drop]
      exact e
    · exact ⟨[], rfl, ⟨fun _ => rfl, fun a ha => by cases ha⟩, H2 _ h2 R2 (U1.trans U2)⟩
  refine regr_short_ok R (fun v l' h1 b e v0 v1 R1 U1 => fin l' v h1 false v0 R1 U1 fun _ => ⟨b, e⟩) fun v l' h1 v0 v1 R1 U1 => fin l' v h1 true v0 R1 U1 fun h => by cases h
theorem regr_number_ok {w : Int} {k : Int → Heap → Prop} (R : Rd 155 h r l bad) (w0 : 1 ≤ w) (w1 : w ≤ 8)
    (H1 : ∀ v l' h', bad = false → l = formL v w.toNat ++ l' → 0 ≤ v → v < 256 ^ w.toNat → Rd 155 h' r l' false → Upd r h h' → k v h')
    (H2 : ∀ l' h', Rd 155 h' r l' true → Upd r h h' → k 0 h') : reg_reader_number (some ⟨r, 0, none⟩) w k h := by
  unfold reg_reader_number
  rw [wrapU64 (x := w) (by omega) (by omega)]
  have hB := R.isB
  refine regr_bytes_ok R (by omega) (fun s h2 b0 hv R2 U2 S2 ls cs => ?_) fun h2 R2 U2 => ?_
  · have hl : (l.take w.toNat).length = w.toNat := by rw [List.length_take]; omega
    refine nGet_ok (S2 h2 (Ext.refl _ _)) (by rw [hl, ls]) (isB_take hB _) w0 w1 hl ?_
    have bd := numL_bd (isB_take hB w.toNat)
    rw [hl] at bd
    refine H1 _ _ h2 b0 ?_ bd.1 bd.2 R2 U2
    have := formL_num (isB_take hB w.toNat)
    rw [hl] at this
    rw [this, List.take_append_drop]
  · unfold num_Get
    rw [if_neg (by simp only [Bool.or_eq_true, decide_eq_true_eq]; omega), if_pos (by rw [decide_eq_true_eq]; dsimp only; omega)]
    exact H2 _ h2 R2 U2

end
/-! ### the reader of raft -/
section
variable {h : Heap} {r : Nat} {l : List Int} {bad : Bool}
end
end Go.Q.Yb
set_option linter.unusedVariables false
set_option linter.unusedSimpArgs false
namespace Go.Q.Yb
section
variable {h : Heap} {r : Nat} {l : List Int} {bad : Bool}
theorem regr_number2 {w : Int} {k : Int → Heap → Prop} (R : Rd 155 h r l bad) (w0 : 1 ≤ w) (w1 : w ≤ 8)
    (H : ∀ v l' b' h', Rd 155 h' r l' b' → Upd r h h' → 0 ≤ v → v < 256 ^ w.toNat → (b' = false → bad = false ∧ l = formL v w.toNat ++ l') → k v h') : reg_reader_number (some ⟨r, 0, none⟩) w k h :=
  regr_number_ok R w0 w1 (fun v l' h' b e v0 v1 R' U => H v l' false h' R' U v0 v1 fun _ => ⟨b, e⟩) fun l' h' R' U => H 0 l' true h' R' U (by omega) (Int.pow_pos (by omega)) fun h => by cases h
theorem regr_short2 {k : Int → Heap → Prop} (R : Rd 155 h r l bad)
    (H : ∀ v l' b' h', Rd 155 h' r l' b' → Upd r h h' → 0 ≤ v → v < 18446744073709551616 → (b' = false → bad = false ∧ l = shortL v ++ l') → k v h') : reg_reader_short (some ⟨r, 0, none⟩) k h :=
  regr_short_ok R (fun v l' h' b e v0 v1 R' U => H v l' false h' R' U v0 v1 fun _ => ⟨b, e⟩) fun v l' h' v0 v1 R' U => H v l' true h' R' U v0 v1 fun h => by cases h
theorem regr_text2 {k : ByteArray → Heap → Prop} (R : Rd 155 h r l bad)
    (H : ∀ t l' b' h', Rd 155 h' r l' b' → Upd r h h' → t.size ≤ 1000000 → (b' = false → bad = false ∧ l = textL t ++ l') → k t h') : reg_reader_text (some ⟨r, 0, none⟩) k h :=
  regr_text_ok R (fun t l' h' b e R' U => H t l' false h' R' U (by
    have := R.len
    rw [e, List.length_append] at this
    have : (textL t).length ≥ t.size := by rw [textL, List.length_append, sB_len]; omega
    omega) fun _ => ⟨b, e⟩) fun l' h' R' U => H _ l' true h' R' U (by decide) fun h => by cases h
theorem _root_.Go.Q.Upd.push' {c : Nat} (h : Heap) (o : Obj) : Upd c h (h.push o) := Upd.of_ext (Ext.push h o (Nat.le_refl _))
theorem _root_.Go.Q.Upd.to_ext {c B : Nat} {h h' : Heap} (U : Upd c h h') (hB : B ≤ c) (hs : B ≤ h.size) : Ext B h h' := U.ext hB hs
/-- blocks that are not the reader's stay -/
theorem _root_.Go.Q.Upd.keep {c b E : Nat} {h h' : Heap} {cs : List Value} (U : Upd c h h') (K : Blk h b cs E) (hb : b ≠ c) : Blk h' b cs E := U.blk K hb
/-- writing a block that was made since -/
theorem _root_.Go.Q.Upd.fresh {c : Nat} {h h' h2 : Heap} (U : Upd c h h') (X : Ext h.size h' h2) : Upd c h h2 := ⟨Nat.le_trans U.size X.size, fun i hi hne => (X.block i hi).trans (U.block i hi hne)⟩
def i64r (n : Int) : Prop := -9223372036854775808 ≤ n ∧ n < 9223372036854775808
end
end Go.Q.Yb
set_option linter.unusedVariables false
set_option linter.unusedSimpArgs false
namespace Go.Q.Yb
theorem S2B_ok {t : ByteArray} {k : Slc → Heap → Prop} {h : Heap} (H : ∀ s' h', Row h.size h' 5 1 s' (b8 (sB t)) → Ext h.size h h' → k s' h') : S2B 5 h t k := by
  intro c hc hm
  have hl : (b8 (sB t) ++ List.replicate (c - t.size) (Value.int .u8 0)).length = c := by simp [sB_len]; omega
  have P := Blk.pushM h (b8 (sB t) ++ List.replicate (c - t.size) (Value.int .u8 0)) 5 (lo := c) (hi := c + 1) (by omega)
  refine H _ _ ⟨by simp [sB_len], hm, .inr ⟨h.size, _, rfl, Nat.le_refl _, P, hc, by rw [hl, Nat.mul_one]; exact Nat.le_refl _, ?_⟩⟩ (Ext.push h _ (Nat.le_refl _))
  rw [List.take_left' (by simp [sB_len])]
def zagN (p : Int) : Int := if p % 2 = 0 then p / 2 else -(p / 2) - 1
theorem zig_zag {p : Int} (p0 : 0 ≤ p) : zigN (zagN p) = p := by unfold zigN zagN; split <;> split <;> omega
theorem zag_bd {p : Int} (p0 : 0 ≤ p) (p1 : p < 18446744073709551616) : -9223372036854775808 ≤ zagN p ∧ zagN p < 9223372036854775808 := by unfold zagN; split <;> omega
theorem and1 {p : Int} (p0 : 0 ≤ p) (p1 : p < 18446744073709551616) : bwAnd .u64 p 1 = p % 2 := by
  obtain ⟨m, rfl⟩ : ∃ m : Nat, p = m := ⟨p.toNat, by omega⟩
  show IntKind.u64.wrap ((BitVec.ofInt 64 (m : Int) &&& BitVec.ofInt 64 ((1 : Nat) : Int)).toNat : Int) = _
  rw [and_nat 64 m 1 (by omega) (by omega), wU64, Nat.and_one_is_mod]; omega
theorem xor64_ones {a : Int} (a0 : 0 ≤ a) (a1 : a < 9223372036854775808) : bwXor .i64 a (-1) = -a - 1 := by
  obtain ⟨m, rfl⟩ : ∃ m : Nat, a = m := ⟨a.toNat, by omega⟩
  show IntKind.i64.wrap ((BitVec.ofInt 64 (m : Int) ^^^ BitVec.ofInt 64 (-1)).toNat : Int) = _
  have e : BitVec.ofInt 64 (-1) = BitVec.allOnes 64 := by decide +kernel
  have e2 : (BitVec.ofInt 64 (m : Int)).toNat = m := bv_nat 64 m (by omega)
  rw [e, BitVec.xor_allOnes, BitVec.toNat_not, e2]
  unfold IntKind.wrap; simp [IntKind.signed, IntKind.bits]; omega
theorem xor64_zero {a : Int} (a0 : 0 ≤ a) (a1 : a < 9223372036854775808) : bwXor .i64 a 0 = a := by
  obtain ⟨m, rfl⟩ : ∃ m : Nat, a = m := ⟨a.toNat, by omega⟩
  show IntKind.i64.wrap ((BitVec.ofInt 64 (m : Int) ^^^ BitVec.ofInt 64 0).toNat : Int) = _
  have e : BitVec.ofInt 64 0 = 0#64 := by decide +kernel
  have e2 : (BitVec.ofInt 64 (m : Int)).toNat = m := bv_nat 64 m (by omega)
  rw [e, BitVec.xor_zero, e2]
  unfold IntKind.wrap; simp [IntKind.signed, IntKind.bits]; omega
theorem Zag_ok {p : Int} {k : Int → Heap → Prop} {h : Heap} (p0 : 0 ≤ p) (p1 : p < 18446744073709551616) (H : k (zagN p) h) : num_Zag p k h := by
  unfold num_Zag
  refine ⟨_, rfl, ?_⟩
  have e : shr .u64 p (1 : Int).toNat = p / 2 := by
    unfold shr
    rw [show (2 : Int) ^ (min (1 : Int).toNat IntKind.u64.bits) = 2 from rfl, Int.fdiv_eq_ediv_of_nonneg _ (by omega)]
  rw [e, and1 p0 p1, wrapI64 (x := p / 2) (by omega) (by omega), wrapI64 (x := p % 2) (by omega) (by omega), wrapI64 (x := 0 - p % 2) (by omega) (by omega)]
  unfold zagN at H
  by_cases hp : p % 2 = 0
  · rw [hp, show (0 : Int) - 0 = 0 from rfl, xor64_zero (by omega) (by omega)]
    rw [if_pos hp] at H; exact H
  · rw [show p % 2 = 1 from by omega, show (0 : Int) - 1 = -1 from rfl, xor64_ones (by omega) (by omega)]
    rw [if_neg hp] at H; exact H
section
variable {h : Heap} {r : Nat} {l : List Int} {bad : Bool}
theorem regr_bytes2 {n : Int} {k : Slc → Heap → Prop} (R : Rd 155 h r l bad) (n0 : 0 ≤ n)
    (H : ∀ (s : Slc) (x l' : List Int) (b' : Bool) (h' : Heap), Rd 155 h' r l' b' → Upd r h h' → SlcAt h' s (b8 x) → s.len = x.length → (x = [] ∨ x.length = n.toNat) → isB x → (b' = false → bad = false ∧ l = x ++ l' ∧ x.length = n.toNat) → k s h') : reg_reader_bytes (some ⟨r, 0, none⟩) n k h := by
  have hB := R.isB
  refine regr_bytes_ok R n0 (fun s h' b hn R' U S ls cs => ?_) fun h' R' U => ?_
  · have hl : (l.take n.toNat).length = n.toNat := by rw [List.length_take]; omega
    exact H s (l.take n.toNat) _ false h' R' U (S h' (Ext.refl _ _)) (by omega) (.inr hl) (isB_take hB _) fun _ => ⟨b, (List.take_append_drop _ _).symm, hl⟩
  · exact H _ [] l true h' R' U ⟨fun _ => rfl, fun a ha => by cases ha⟩ rfl (.inl rfl) (by intro b hb; cases hb) fun h => by cases h
theorem regr_nonce_ok {k : List Int → Heap → Prop} (R : Rd 155 h r l bad)
    (H : ∀ (v l' : List Int) (b' : Bool) (h' : Heap), Rd 155 h' r l' b' → Upd r h h' → isB v → (b' = false → bad = false ∧ l = nrm 12 v ++ l') → k v h') : reg_reader_nonce (some ⟨r, 0, none⟩) k h := by
  unfold reg_reader_nonce
  have rl := R.lt
  refine ⟨_, _, rfl, rfl, ?_⟩
  have P := Blk.push h (arr 12 .u8 []) 29
  have W := Ext.push h (.cells (arr 12 .u8 []).toArray 29) (Nat.le_refl _)
  obtain ⟨h2, e2⟩ : ∃ y, y = h.push (.cells (arr 12 .u8 []).toArray 29) := ⟨_, rfl⟩
  rw [← e2] at P W ⊢
  have z2 := W.size
  have pl := P.lt
  refine ⟨_, _, rfl, rfl, ?_⟩
  have Q := Blk.push h2 (arr 12 .u8 []) 29
  have W3 := Ext.push h2 (.cells (arr 12 .u8 []).toArray 29) (Nat.le_refl _)
  obtain ⟨h3, e3⟩ : ∃ y, y = h2.push (.cells (arr 12 .u8 []).toArray 29) := ⟨_, rfl⟩
  rw [← e3] at Q W3 ⊢
  have z3 := W3.size
  have ql := Q.lt
  have P3 := P.ext W3 pl
  refine ⟨_, by omega, by omega, by omega, rfl, ?_⟩
  have es : subS ⟨some (⟨h2.size, 0, none⟩ : Addr), 12, 12⟩ 1 (0 : Int).toNat (12 : Int).toNat 12 = ⟨some ⟨h2.size, 0, none⟩, 12, 12⟩ := by simp [subS]
  rw [es]
  refine regr_bytes2 ((R.ext (W.mono (by omega))).ext (W3.mono (by omega))) (by omega) fun s x l1 b1 h4 R4 U4 S4 ls hx xB e4 => ?_
  have z4 := U4.size
  have Q4 := U4.blk Q (by omega)
  have P4 := U4.blk P3 (by omega)
  have U04 : Upd r h h4 := (Upd.of_ext (W.trans (W3.mono z2))).trans U4
  have h12 : (12 : Int).toNat = 12 := rfl
  rw [h12] at hx e4
  have xl : x.length ≤ 12 := by
    rcases hx with rfl | hx
    · simp
    · omega
  refine ⟨b8 x, ⟨b8 x, S4, by simp [ls], ?_⟩, b8_one x, (fun hn => by cases hn), (fun a ha j hj => ?_), ?_⟩
  · rw [show min s.len (⟨some ⟨h2.size, 0, none⟩, 12, 12⟩ : Slc).len * 1 = x.length from by dsimp only; omega, List.take_of_length_le (by simp)]
  · cases ha
    rw [add_mk]; exact Q4.wr (by rw [arr_len]; simp at hj; omega)
  · have Q5 := Q4.sets (b8 x) 0 0 (by rw [arr_len]; simp; omega)
    have ec : (arr 12 .u8 ([] : List Int)).take (0 + 0) ++ b8 x ++ (arr 12 .u8 ([] : List Int)).drop (0 + 0 + (b8 x).length) = arr 12 .u8 x := by
      rcases hx with rfl | hx
      · simp
      · rw [arr_id hx]
        have : (arr 12 .u8 ([] : List Int)).drop (0 + 0 + (b8 x).length) = [] := List.drop_of_length_le (by rw [arr_len]; simp; omega)
        rw [this]; simp
    rw [ec] at Q5
    have X5 : Ext h.size h4 (setsH h4 ⟨h2.size, 0, none⟩ 0 (b8 x)) := Ext.sets _ _ _ (by dsimp only; omega)
    dsimp only
    have P5 : Blk (setsH h4 ⟨h2.size, 0, none⟩ 0 (b8 x)) h.size (arr 12 .u8 []) 29 := P4.old (setsH_other _ _ (by dsimp only; omega))
    generalize setsH h4 ⟨h2.size, 0, none⟩ 0 (b8 x) = h5 at *
    refine ⟨x, CellsAt.of_blk Q5, _, WrsAt.of_blk P5 (by rw [arr_len]; omega), rfl, x, CellsAt.of_blk (P5.sets_all (by rw [arr_len, arr_len])), ?_⟩
    have X6 : Ext h.size h5 (setsH h5 ⟨h.size, 0, none⟩ 0 (arr 12 .u8 x)) := Ext.sets _ _ _ (Nat.le_refl _)
    refine H x l1 b1 _ ((R4.ext (X5.mono (by omega))).ext (X6.mono (by omega))) ((U04.fresh X5).fresh X6) xB fun hb => ?_
    obtain ⟨a, b, c⟩ := e4 hb
    exact ⟨a, by rw [nrm_id c]; exact b⟩
end
theorem u32_wrap {v : Int} (v0 : 0 ≤ v) (v1 : v < 4294967296) : IntKind.u32.wrap v = v := wrapU32 v0 v1
end Go.Q.Yb
set_option linter.unusedVariables false
set_option linter.unusedSimpArgs false
namespace Go.Q.Yb
theorem numL_form : ∀ (w : Nat) (v : Int), 0 ≤ v → v < 256 ^ w → numL (formL v w) = v
  | 0, v, h0, h1 => by simp at h1; simp [formL, numL]; omega
  | w + 1, v, h0, h1 => by
    rw [Int.pow_succ] at h1
    simp only [formL, numL]
    rw [numL_form w (v / 256) (by omega) (Int.ediv_lt_of_lt_mul (by omega) h1)]; omega
theorem zag_zig {p : Int} : zagN (zigN p) = p := by unfold zigN zagN; split <;> split <;> omega
theorem pw1 : (256 : Int) ^ (1 : Int).toNat = 256 := by decide
theorem pw4 : (256 : Int) ^ (4 : Int).toNat = 4294967296 := by decide
theorem pw8 : (256 : Int) ^ (8 : Int).toNat = 18446744073709551616 := by decide
/-! ### what is known to be a form is read -/
theorem short_split : ∀ (f : Nat) (n : Int), 0 ≤ n → n < 128 ^ f → 0 < f → ∃ q c, shortF f n = q ++ [c] ∧ (∀ b ∈ q, 128 ≤ b ∧ b < 256) ∧ (0 ≤ c ∧ c < 128) ∧ (q ≠ [] → c ≠ 0) ∧ q.length < f ∧ n = valS q + c * 128 ^ q.length
  | 0, n, _, _, h => by omega
  | f + 1, n, h0, h1, _ => by
    by_cases hn : n < 128
    · exact ⟨[], n, by unfold shortF; rw [if_pos hn]; rfl, by simp, by omega, by simp, by simp, by simp [valS]⟩
    · rw [Int.pow_succ] at h1
      have hf : 0 < f := by
        rcases Nat.eq_zero_or_pos f with rfl | h
        · simp at h1; omega
        · exact h
      obtain ⟨q, c, e, hq, hc, hz, hl, hv⟩ := short_split f (n / 128) (by omega) (Int.ediv_lt_of_lt_mul (by omega) h1) hf
      refine ⟨(n % 128 + 128) :: q, c, by unfold shortF; rw [if_neg hn, e]; rfl, fun b hb => ?_, hc, fun _ => ?_, by simp; omega, ?_⟩
      · rcases List.mem_cons.1 hb with rfl | hb
        · omega
        · exact hq b hb
      · cases q with
        | nil => simp [valS] at hv; omega
        | cons x r => exact hz (by simp)
      · simp only [valS, List.length_cons, Int.pow_succ]
        rw [← Int.mul_assoc c]
        generalize c * 128 ^ q.length = Q at *
        omega
theorem GetShort_ok3 {s : Slc} {v : Int} {l' : List Int} {k : Int × Int × Int → Heap → Prop} {h : Heap} (hs : SlcAt h s (b8 (shortL v ++ l'))) (hl : s.len = (shortL v ++ l').length) (hz : l'.length ≤ 4611686018427387904) (v0 : 0 ≤ v) (v1 : v < 18446744073709551616)
    (H1 : k (v, ((shortL v).length : Int), 0) h) : num_GetShort s k h := by
  obtain ⟨q, c, eq, hq, hc, hz2, hl2, hv⟩ := short_split 10 v v0 (by have : (128 : Int) ^ 10 = 1180591620717411303424 := by decide
                                                                     omega) (by omega)
  have esl : shortL v = q ++ [c] := eq
  have c9 : q.length = 9 → c ≤ 1 := fun h9 => by
    have := (valS_bd hq).1
    rw [h9, show (128 : Int) ^ 9 = 9223372036854775808 from by decide] at hv
    omega
  rw [esl] at hs hl H1
  unfold num_GetShort
  refine ⟨fun st h' => ∃ p r, q = p ++ r ∧ st.2 = (p.length : Int) ∧ st.1 = valS p ∧ h' = h, fun st _ => (10 - st.2).toNat, ⟨[], q, rfl, by simp, rfl, rfl⟩, ?_⟩
  rintro n i h' ⟨p, r, e, hi, hn, hh⟩
  dsimp only at hi hn
  subst hh
  subst hi; subst hn
  unfold num_GetShort_l1b
  have hql : q.length = p.length + r.length := by rw [e, List.length_append]
  have hp : ∀ b ∈ p, 128 ≤ b ∧ b < 256 := fun b hb => hq b (by rw [e]; exact List.mem_append_left _ hb)
  simp only [List.length_append, List.length_cons, List.length_nil] at hl
  rw [if_pos (by rw [decide_eq_true_eq]; omega)]
  have vb := valS_bd hp
  cases r with
  | cons b r' =>
    simp at hql
    have hb : (q ++ [c] ++ l')[p.length]? = some b := by rw [e]; simp
    have bb := hq b (by rw [e]; simp)
    obtain ⟨a, ha, hcell⟩ := slc_get hs (i := p.length) (v := .int .u8 b) (by rw [List.getElem?_map, hb]; rfl)
    refine ⟨a, ha, by omega, by omega, b, by rw [Int.toNat_natCast, Nat.mul_one]; exact hcell, ?_⟩
    rw [if_neg (by
      simp only [Bool.and_eq_true, beq_iff_eq, decide_eq_true_eq]
      rintro ⟨h1, h2⟩; omega)]
    rw [wrapU64 (x := (p.length : Int)) (by omega) (by omega), wrapU64 (x := 7 * (p.length : Int)) (by omega) (by omega), and127 (by omega), wrapU64 (x := b % 128) (by omega) (by omega), show (7 * (p.length : Int)).toNat = 7 * p.length from by omega]
    obtain ⟨o1, o2, o3⟩ := or_shift (n := valS p) (c := b % 128) (i := p.length) (by omega) vb.1 vb.2 (by omega) (by omega) (fun h => by omega)
    rw [o1, wrapI64 (by omega) (by omega)]
    refine ⟨by omega, _, rfl, ?_⟩
    rw [if_pos (by rw [decide_eq_true_eq]; omega)]
    refine ⟨⟨p ++ [b], r', by rw [e]; simp, by simp, ?_, rfl⟩, by dsimp only; omega⟩
    dsimp only
    rw [valS_snoc, show b % 128 = b - 128 from by omega]
  | nil =>
    simp at e
    subst e
    have hb : (q ++ [c] ++ l')[q.length]? = some c := by simp
    obtain ⟨a, ha, hcell⟩ := slc_get hs (i := q.length) (v := .int .u8 c) (by rw [List.getElem?_map, hb]; rfl)
    refine ⟨a, ha, by omega, by omega, c, by rw [Int.toNat_natCast, Nat.mul_one]; exact hcell, ?_⟩
    rw [if_neg (by
      simp only [Bool.and_eq_true, beq_iff_eq, decide_eq_true_eq]
      rintro ⟨h1, h2⟩; have := c9 (by omega); omega)]
    rw [wrapU64 (x := (q.length : Int)) (by omega) (by omega), wrapU64 (x := 7 * (q.length : Int)) (by omega) (by omega), and127 (by omega), wrapU64 (x := c % 128) (by omega) (by omega), show (7 * (q.length : Int)).toNat = 7 * q.length from by omega]
    obtain ⟨o1, o2, o3⟩ := or_shift (n := valS q) (c := c % 128) (i := q.length) (by omega) vb.1 vb.2 (by omega) (by omega) (fun h => by have := c9 h; omega)
    rw [o1, wrapI64 (by omega) (by omega)]
    refine ⟨by omega, _, rfl, ?_⟩
    rw [if_neg (by rw [decide_eq_true_eq]; omega)]
    rw [if_neg (by
      simp only [Bool.and_eq_true, beq_iff_eq, decide_eq_true_eq]
      rintro ⟨h1, h2⟩; exact hz2 (fun h0 => by rw [h0] at h2; simp at h2) h1)]
    rw [show c % 128 = c from by omega] at o2 o3 ⊢
    refine ⟨_, rfl, ?_⟩
    rw [← hv]
    simpa using H1
section
variable {h : Heap} {r : Nat} {l' : List Int}
theorem regr_bytes3 {x : List Int} {n : Int} {k : Slc → Heap → Prop} (R : Rd 155 h r (x ++ l') false) (hn : n = x.length)
    (H1 : ∀ s' h', Rd 155 h' r l' false → Upd r h h' → (∀ h'', Ext r h' h'' → SlcAt h'' s' (b8 x)) → s'.len = x.length → s'.len ≤ s'.cap → k s' h') : reg_reader_bytes (some ⟨r, 0, none⟩) n k h := by
  obtain ⟨s, K, S, sl, sc, hB, hz⟩ := R
  rw [List.length_append] at sl hz
  unfold reg_reader_bytes
  refine ⟨_, rfl, false, by rw [add_mk, K.cell]; rfl, ?_⟩
  rw [if_neg (by simp)]
  refine ⟨s, by rw [K.cell]; rfl, ?_⟩
  rw [wrapU64 (x := (s.len : Int)) (by omega) (by omega), show decide (n > (s.len : Int)) = false from by rw [decide_eq_false_iff_not]; omega]
  unfold reg_reader_bytes_g1
  rw [if_neg (by simp)]
  have en : n.toNat = x.length := by omega
  refine ⟨_, rfl, s, by rw [K.cell]; rfl, _, by omega, by omega, by omega, by omega, rfl, s, by rw [K.cell]; rfl, _, by omega, by omega, by omega, by omega, rfl, _, K.wr (by simp), rfl, ?_⟩
  have K2 := K.set (i := 0) (v := Slc.v (subS s 1 n.toNat (s.len : Int).toNat (s.cap : Int).toNat))
  have U : Upd r h (setH h ⟨r, 0, none⟩ (Slc.v (subS s 1 n.toNat (s.len : Int).toNat (s.cap : Int).toNat))) := ⟨by rw [setH_size]; exact Nat.le_refl _, fun j hj hne => setH_other (by simpa using hne)⟩
  have X := U.ext (B := r) (Nat.le_refl _) (Nat.le_of_lt K.lt)
  refine H1 _ _ ⟨_, K2, fun h2 Y => ?_, by rw [subS_len]; omega, by rw [subS_len, subS_cap]; omega, fun b hb => hB b (List.mem_append_right _ hb), by omega⟩ U (fun h2 Y => ?_) (by rw [subS_len]; omega) (by rw [subS_len, subS_cap]; omega)
  · have := (S h2 (X.trans Y)).sub (w := 1) (l := n.toNat) (u := (s.len : Int).toNat) (m := (s.cap : Int).toNat) (by omega) (by omega)
    rw [Nat.mul_one, Nat.mul_one, en, ← List.map_drop, List.drop_left, List.take_of_length_le (by rw [List.length_map]; omega)] at this
    rw [en]; exact this
  · have := (S h2 (X.trans Y)).sub (w := 1) (l := (0 : Int).toNat) (u := n.toNat) (m := (s.cap : Int).toNat) (by omega) (by omega)
    rw [show (0 : Int).toNat * 1 = 0 from rfl, List.drop_zero, show (n.toNat - (0 : Int).toNat) * 1 = x.length from by simp; omega, ← List.map_take, List.take_left] at this
    exact this
theorem regr_short3 {v : Int} {k : Int → Heap → Prop} (R : Rd 155 h r (shortL v ++ l') false) (v0 : 0 ≤ v) (v1 : v < 18446744073709551616)
    (H1 : ∀ h', Rd 155 h' r l' false → Upd r h h' → k v h') : reg_reader_short (some ⟨r, 0, none⟩) k h := by
  obtain ⟨s, K, S, sl, sc, hB, hz⟩ := R
  have sl' := sl
  rw [List.length_append] at sl' hz
  unfold reg_reader_short
  refine ⟨_, rfl, s, by rw [K.cell]; rfl, ?_⟩
  refine GetShort_ok3 (S h (Ext.refl _ _)) sl (by omega) v0 v1 ?_
  refine ⟨false, by rw [add_mk, K.cell]; rfl, _, by rw [add_mk]; exact K.wr (by simp), rfl, ?_⟩
  rw [add_mk, Nat.zero_add]
  have K2 := K.set (i := 1) (v := .bool (false || ((0 : Int) != 0)))
  have U : Upd r h (setH h ⟨r, 1, none⟩ (.bool (false || ((0 : Int) != 0)))) := ⟨by rw [setH_size]; exact Nat.le_refl _, fun j hj hne => setH_other (by simpa using hne)⟩
  dsimp only
  generalize setH h ⟨r, 1, none⟩ (.bool (false || ((0 : Int) != 0))) = h6 at *
  refine ⟨s, by rw [K2.cell]; rfl, _, by omega, by omega, by omega, by omega, rfl, _, K2.wr (by simp), rfl, ?_⟩
  have K3 := K2.set (i := 0) (v := Slc.v (subS s 1 ((shortL v).length : Int).toNat (s.len : Int).toNat (s.cap : Int).toNat))
  have U2 : Upd r h6 (setH h6 ⟨r, 0, none⟩ (Slc.v (subS s 1 ((shortL v).length : Int).toNat (s.len : Int).toNat (s.cap : Int).toNat))) := ⟨by rw [setH_size]; exact Nat.le_refl _, fun j hj hne => setH_other (by simpa using hne)⟩
  have UU := U.trans U2
  have X := UU.ext (B := r) (Nat.le_refl _) (Nat.le_of_lt K.lt)
  refine H1 _ ⟨_, K3, fun h2 Y => ?_, by rw [subS_len]; omega, by rw [subS_len, subS_cap]; omega, fun b hb => hB b (List.mem_append_right _ hb), by omega⟩ UU
  have := (S h2 (X.trans Y)).sub (w := 1) (l := ((shortL v).length : Int).toNat) (u := (s.len : Int).toNat) (m := (s.cap : Int).toNat) (by omega) (by omega)
  rw [Nat.mul_one, Nat.mul_one, show ((shortL v).length : Int).toNat = (shortL v).length from rfl, ← List.map_drop, List.drop_left, List.take_of_length_le (by rw [List.length_map]; omega)] at this
  exact this
theorem regr_text3 {t : ByteArray} {k : ByteArray → Heap → Prop} (R : Rd 155 h r (textL t ++ l') false) (H1 : ∀ h', Rd 155 h' r l' false → Upd r h h' → k t h') : reg_reader_text (some ⟨r, 0, none⟩) k h := by
  have hz := R.len
  have e : textL t = shortL t.size ++ sB t := rfl
  rw [e, List.append_assoc] at R
  rw [e] at hz
  simp only [List.length_append, sB_len] at hz
  unfold reg_reader_text
  refine regr_short3 R (by omega) (by omega) fun h1 R1 U1 => ?_
  refine regr_bytes3 R1 (by rw [sB_len]) fun s h2 R2 U2 S2 ls cs => ?_
  refine ⟨sB t, by rw [ls], S2 h2 (Ext.refl _ _), ?_⟩
  rw [bsOf_sB]
  exact H1 h2 R2 (U1.trans U2)
theorem regr_number3 {v w : Int} {k : Int → Heap → Prop} (R : Rd 155 h r (formL v w.toNat ++ l') false) (w0 : 1 ≤ w) (w1 : w ≤ 8) (v0 : 0 ≤ v) (v1 : v < 256 ^ w.toNat)
    (H1 : ∀ h', Rd 155 h' r l' false → Upd r h h' → k v h') : reg_reader_number (some ⟨r, 0, none⟩) w k h := by
  unfold reg_reader_number
  rw [wrapU64 (x := w) (by omega) (by omega)]
  refine regr_bytes3 R (by rw [formL_length]; omega) fun s h2 R2 U2 S2 ls cs => ?_
  refine nGet_ok (S2 h2 (Ext.refl _ _)) ls (formL_B _ _) w0 w1 (formL_length _ _) ?_
  rw [numL_form _ _ v0 v1]
  exact H1 h2 R2 U2
theorem regr_nonce3 {v : List Int} {k : List Int → Heap → Prop} (R : Rd 155 h r (nrm 12 v ++ l') false) (H : ∀ h', Rd 155 h' r l' false → Upd r h h' → k (nrm 12 v) h') : reg_reader_nonce (some ⟨r, 0, none⟩) k h := by
  unfold reg_reader_nonce
  have rl := R.lt
  refine ⟨_, _, rfl, rfl, ?_⟩
  have P := Blk.push h (arr 12 .u8 []) 29
  have W := Ext.push h (.cells (arr 12 .u8 []).toArray 29) (Nat.le_refl _)
  obtain ⟨h2, e2⟩ : ∃ y, y = h.push (.cells (arr 12 .u8 []).toArray 29) := ⟨_, rfl⟩
  rw [← e2] at P W ⊢
  have z2 := W.size
  have pl := P.lt
  refine ⟨_, _, rfl, rfl, ?_⟩
  have Q := Blk.push h2 (arr 12 .u8 []) 29
  have W3 := Ext.push h2 (.cells (arr 12 .u8 []).toArray 29) (Nat.le_refl _)
  obtain ⟨h3, e3⟩ : ∃ y, y = h2.push (.cells (arr 12 .u8 []).toArray 29) := ⟨_, rfl⟩
  rw [← e3] at Q W3 ⊢
  have z3 := W3.size
  have ql := Q.lt
  have P3 := P.ext W3 pl
  refine ⟨_, by omega, by omega, by omega, rfl, ?_⟩
  have es : subS ⟨some (⟨h2.size, 0, none⟩ : Addr), 12, 12⟩ 1 (0 : Int).toNat (12 : Int).toNat 12 = ⟨some ⟨h2.size, 0, none⟩, 12, 12⟩ := by simp [subS]
  rw [es]
  refine regr_bytes3 ((R.ext (W.mono (by omega))).ext (W3.mono (by omega))) (by rw [nrm_len]; rfl) fun s h4 R4 U4 S4 ls _ => ?_
  have z4 := U4.size
  have Q4 := U4.blk Q (by omega)
  have P4 := U4.blk P3 (by omega)
  have U04 : Upd r h h4 := (Upd.of_ext (W.trans (W3.mono z2))).trans U4
  rw [nrm_len] at ls
  refine ⟨b8 (nrm 12 v), ⟨b8 (nrm 12 v), S4 h4 (Ext.refl _ _), by simp [ls, nrm_len], ?_⟩, b8_one _, (fun hn => by cases hn), (fun a ha j hj => ?_), ?_⟩
  · rw [List.take_of_length_le (by simp [nrm_len, ls])]
  · cases ha
    rw [add_mk]; exact Q4.wr (by rw [arr_len]; simp [nrm_len] at hj; omega)
  · have Q5 := Q4.sets (b8 (nrm 12 v)) 0 0 (by rw [arr_len]; simp [nrm_len])
    have ec : (arr 12 .u8 ([] : List Int)).take (0 + 0) ++ b8 (nrm 12 v) ++ (arr 12 .u8 ([] : List Int)).drop (0 + 0 + (b8 (nrm 12 v)).length) = arr 12 .u8 (nrm 12 v) := by
      rw [arr_id (nrm_len _ _)]
      have : (arr 12 .u8 ([] : List Int)).drop (0 + 0 + (b8 (nrm 12 v)).length) = [] := List.drop_of_length_le (by rw [arr_len]; simp [nrm_len])
      rw [this]; simp
    rw [ec] at Q5
    have X5 : Ext h.size h4 (setsH h4 ⟨h2.size, 0, none⟩ 0 (b8 (nrm 12 v))) := Ext.sets _ _ _ (by dsimp only; omega)
    dsimp only
    have P5 : Blk (setsH h4 ⟨h2.size, 0, none⟩ 0 (b8 (nrm 12 v))) h.size (arr 12 .u8 []) 29 := P4.old (setsH_other _ _ (by dsimp only; omega))
    generalize setsH h4 ⟨h2.size, 0, none⟩ 0 (b8 (nrm 12 v)) = h5 at *
    refine ⟨nrm 12 v, CellsAt.of_blk Q5, _, WrsAt.of_blk P5 (by rw [arr_len]; omega), rfl, nrm 12 v, CellsAt.of_blk (P5.sets_all (by rw [arr_len, arr_len])), ?_⟩
    have X6 : Ext h.size h5 (setsH h5 ⟨h.size, 0, none⟩ 0 (arr 12 .u8 (nrm 12 v))) := Ext.sets _ _ _ (Nat.le_refl _)
    exact H _ ((R4.ext (X5.mono (by omega))).ext (X6.mono (by omega))) ((U04.fresh X5).fresh X6)
end
end Go.Q.Yb
set_option linter.unusedVariables false
set_option linter.unusedSimpArgs false
namespace Go.Q.Yb
/-! ### a form tells what it is of -/
theorem low_pre : ∀ (q q' : List Int) (c c' : Int) (r r' : List Int), (∀ b ∈ q, 128 ≤ b) → (∀ b ∈ q', 128 ≤ b) → c < 128 → c' < 128 → q ++ c :: r = q' ++ c' :: r' → q = q' ∧ c = c' ∧ r = r'
  | [], [], c, c', r, r', _, _, _, _, e => by simp at e; exact ⟨rfl, e.1, e.2⟩
  | [], y :: q', c, c', r, r', _, h, hc, _, e => by
    simp at e
    have := h y (by simp)
    omega
  | y :: q, [], c, c', r, r', h, _, _, hc, e => by
    simp at e
    have := h y (by simp)
    omega
  | y :: q, y' :: q', c, c', r, r', h, h', hc, hc', e => by
    simp at e
    obtain ⟨a, b, d⟩ := low_pre q q' c c' r r' (fun b hb => h b (List.mem_cons_of_mem _ hb)) (fun b hb => h' b (List.mem_cons_of_mem _ hb)) hc hc' e.2
    exact ⟨by rw [e.1, a], b, d⟩
theorem pow128_10 : (128 : Int) ^ 10 = 1180591620717411303424 := by decide
theorem shortL_inj {v v' : Int} {r r' : List Int} (v0 : 0 ≤ v) (v1 : v < 18446744073709551616) (w0 : 0 ≤ v') (w1 : v' < 18446744073709551616) (e : shortL v ++ r = shortL v' ++ r') : v = v' ∧ r = r' := by
  have hp := pow128_10
  obtain ⟨q, c, eq, hq, hc, _, _, hv⟩ := short_split 10 v v0 (by omega) (by omega)
  obtain ⟨q', c', eq', hq', hc', _, _, hv'⟩ := short_split 10 v' w0 (by omega) (by omega)
  unfold shortL at e
  rw [eq, eq'] at e
  simp only [List.append_assoc, List.singleton_append] at e
  obtain ⟨a, b, d⟩ := low_pre q q' c c' r r' (fun b hb => (hq b hb).1) (fun b hb => (hq' b hb).1) hc.2 hc'.2 e
  exact ⟨by rw [hv, hv', a, b], d⟩
theorem textL_inj {t t' : ByteArray} {r r' : List Int} (h : t.size ≤ 1000000) (h' : t'.size ≤ 1000000) (e : textL t ++ r = textL t' ++ r') : t = t' ∧ r = r' := by
  unfold textL at e
  rw [List.append_assoc, List.append_assoc] at e
  obtain ⟨a, b⟩ := shortL_inj (by omega) (by omega) (by omega) (by omega) e
  obtain ⟨c, d⟩ := List.append_inj b (by rw [sB_len, sB_len]; omega)
  exact ⟨sB_inj c, d⟩
theorem formL_inj {w : Nat} {v v' : Int} {r r' : List Int} (v0 : 0 ≤ v) (v1 : v < 256 ^ w) (w0 : 0 ≤ v') (w1 : v' < 256 ^ w) (e : formL v w ++ r = formL v' w ++ r') : v = v' ∧ r = r' := by
  obtain ⟨c, d⟩ := List.append_inj e (by rw [formL_length, formL_length])
  exact ⟨by rw [← numL_form w v v0 v1, c, numL_form w v' w0 w1], d⟩
/-! ### what is read, and when it may be -/
section
variable {h : Heap} {r : Nat} {l : List Int} {bad : Bool}
theorem regr_short4 {k : Int → Heap → Prop} (R : Rd 155 h r l bad)
    (H : ∀ v l' b' h', Rd 155 h' r l' b' → Upd r h h' → 0 ≤ v → v < 18446744073709551616 → (b' = false → bad = false ∧ l = shortL v ++ l') → (∀ w l'', bad = false → l = shortL w ++ l'' → 0 ≤ w → w < 18446744073709551616 → b' = false ∧ v = w ∧ l' = l'') → k v h') : reg_reader_short (some ⟨r, 0, none⟩) k h := by
  rcases Classical.em (bad = false ∧ ∃ w l'', l = shortL w ++ l'' ∧ 0 ≤ w ∧ w < 18446744073709551616) with ⟨hb, w, l'', e, w0, w1⟩ | hn
  · subst hb; subst e
    refine regr_short3 R w0 w1 fun h' R' U => H w l'' false h' R' U w0 w1 (fun _ => ⟨rfl, rfl⟩) fun w' l3 _ e' w0' w1' => ?_
    obtain ⟨a, b⟩ := shortL_inj w0 w1 w0' w1' e'
    exact ⟨rfl, a, b⟩
  · exact regr_short2 R fun v l' b' h' R' U v0 v1 e => H v l' b' h' R' U v0 v1 e fun w l'' hb e' w0 w1 => absurd ⟨hb, w, l'', e', w0, w1⟩ hn
theorem regr_text4 {k : ByteArray → Heap → Prop} (R : Rd 155 h r l bad)
    (H : ∀ t l' b' h', Rd 155 h' r l' b' → Upd r h h' → t.size ≤ 1000000 → (b' = false → bad = false ∧ l = textL t ++ l') → (∀ u l'', bad = false → l = textL u ++ l'' → b' = false ∧ t = u ∧ l' = l'') → k t h') : reg_reader_text (some ⟨r, 0, none⟩) k h := by
  have hz := R.len
  have sz : ∀ u l'', l = textL u ++ l'' → u.size ≤ 1000000 := fun u l'' e => by
    have h1 := congrArg List.length e
    rw [List.length_append] at h1
    have h2 : (textL u).length = (shortL u.size).length + u.size := by unfold textL; rw [List.length_append, sB_len]
    omega
  rcases Classical.em (bad = false ∧ ∃ u l'', l = textL u ++ l'') with ⟨hb, u, l'', e⟩ | hn
  · have s1 := sz _ _ e
    have R2 : Rd 155 h r (textL u ++ l'') false := by rw [← e, ← hb]; exact R
    refine regr_text3 R2 fun h' R' U => H u l'' false h' R' U s1 (fun _ => ⟨hb, e⟩) fun u' l3 _ e' => ?_
    obtain ⟨a, b⟩ := textL_inj s1 (sz _ _ e') (e.symm.trans e')
    exact ⟨rfl, a, b⟩
  · exact regr_text2 R fun t l' b' h' R' U ts e => H t l' b' h' R' U ts e fun u l'' hb e' => absurd ⟨hb, u, l'', e'⟩ hn
theorem regr_number4 {w : Int} {k : Int → Heap → Prop} (R : Rd 155 h r l bad) (w0 : 1 ≤ w) (w1 : w ≤ 8)
    (H : ∀ v l' b' h', Rd 155 h' r l' b' → Upd r h h' → 0 ≤ v → v < 256 ^ w.toNat → (b' = false → bad = false ∧ l = formL v w.toNat ++ l') → (∀ u l'', bad = false → l = formL u w.toNat ++ l'' → 0 ≤ u → u < 256 ^ w.toNat → b' = false ∧ v = u ∧ l' = l'') → k v h') : reg_reader_number (some ⟨r, 0, none⟩) w k h := by
  rcases Classical.em (bad = false ∧ ∃ u l'', l = formL u w.toNat ++ l'' ∧ 0 ≤ u ∧ u < 256 ^ w.toNat) with ⟨hb, u, l'', e, u0, u1⟩ | hn
  · subst hb; subst e
    refine regr_number3 R w0 w1 u0 u1 fun h' R' U => H u l'' false h' R' U u0 u1 (fun _ => ⟨rfl, rfl⟩) fun u' l3 _ e' u0' u1' => ?_
    obtain ⟨a, b⟩ := formL_inj u0 u1 u0' u1' e'
    exact ⟨rfl, a, b⟩
  · exact regr_number2 R w0 w1 fun v l' b' h' R' U v0 v1 e => H v l' b' h' R' U v0 v1 e fun u l'' hb e' u0 u1 => absurd ⟨hb, u, l'', e', u0, u1⟩ hn
theorem regr_nonce4 {k : List Int → Heap → Prop} (R : Rd 155 h r l bad)
    (H : ∀ (v l' : List Int) (b' : Bool) (h' : Heap), Rd 155 h' r l' b' → Upd r h h' → isB v → (b' = false → bad = false ∧ l = nrm 12 v ++ l') → (∀ u l'', bad = false → l = nrm 12 u ++ l'' → b' = false ∧ nrm 12 v = nrm 12 u ∧ l' = l'') → k v h') : reg_reader_nonce (some ⟨r, 0, none⟩) k h := by
  rcases Classical.em (bad = false ∧ ∃ u l'', l = nrm 12 u ++ l'') with ⟨hb, u, l'', e⟩ | hn
  · have hB := R.isB
    subst hb; subst e
    have uB : isB (nrm 12 u) := fun b hb => hB b (List.mem_append_left _ hb)
    have nn : nrm 12 (nrm 12 u) = nrm 12 u := nrm_id (nrm_len _ _)
    refine regr_nonce3 R fun h' R' U => H (nrm 12 u) l'' false h' R' U uB (fun _ => ⟨rfl, by rw [nn]⟩) fun u' l3 _ e' => ?_
    obtain ⟨a, b⟩ := List.append_inj e' (by rw [nrm_len, nrm_len])
    exact ⟨rfl, by rw [nn, a], b⟩
  · exact regr_nonce_ok R fun v l' b' h' R' U vB e => H v l' b' h' R' U vB e fun u l'' hb e' => absurd ⟨hb, u, l'', e'⟩ hn
theorem regr_bytes4 {n : Int} {k : Slc → Heap → Prop} (R : Rd 155 h r l bad) (n0 : 0 ≤ n)
    (H : ∀ (s : Slc) (x l' : List Int) (b' : Bool) (h' : Heap), Rd 155 h' r l' b' → Upd r h h' → SlcAt h' s (b8 x) → s.len = x.length → x.length ≤ n.toNat → isB x → (b' = false → bad = false ∧ l = x ++ l' ∧ x.length = n.toNat) → (∀ u l'', bad = false → l = u ++ l'' → u.length = n.toNat → b' = false ∧ x = u ∧ l' = l'') → k s h') : reg_reader_bytes (some ⟨r, 0, none⟩) n k h := by
  rcases Classical.em (bad = false ∧ ∃ u l'', l = u ++ l'' ∧ u.length = n.toNat) with ⟨hb, u, l'', e, ul⟩ | hn
  · have hB := R.isB
    subst hb; subst e
    refine regr_bytes3 R (by omega) fun s' h' R' U S sl sc => H s' u l'' false h' R' U (S h' (Ext.refl _ _)) sl (by omega) (fun b hb => hB b (List.mem_append_left _ hb)) (fun _ => ⟨rfl, rfl, ul⟩) fun u' l3 _ e' ul' => ?_
    obtain ⟨a, b⟩ := List.append_inj e' (by omega)
    exact ⟨rfl, a, b⟩
  · refine regr_bytes2 R n0 fun s x l' b' h' R' U S sl hx xB e => ?_
    have xl : x.length ≤ n.toNat := by
      rcases hx with rfl | hx
      · simp
      · omega
    exact H s x l' b' h' R' U S sl xl xB e fun u l'' hb e' ul => absurd ⟨hb, u, l'', e', ul⟩ hn
end
end Go.Q.Yb

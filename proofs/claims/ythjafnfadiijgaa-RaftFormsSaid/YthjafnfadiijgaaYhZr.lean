/- A part of the proof of statements of this seat: lemmas, no statement of their own. -/
import Derived.Test.YthjafnfadiijgaaYhRa
set_option linter.unusedVariables false
set_option linter.unusedSimpArgs false
set_option maxRecDepth 100000
namespace Go.Q.Yh
theorem isB_app {l m : List Int} (h : isB l) (k : isB m) : isB (l ++ m) := fun b hb => (List.mem_append.1 hb).elim (h b) (k b)
theorem shortL_B {n : Int} (h : 0 ≤ n) : isB (shortL n) := shortF_B 10 n h
theorem tx_B {l : List Int} (h : isB l) : isB (tx l) := isB_app (shortL_B (by omega)) h
theorem isB_flat {α : Type} {f : α → List Int} : ∀ {l : List α}, (∀ x ∈ l, isB (f x)) → isB (l.flatMap f)
  | [], _ => by intro b hb; simp at hb
  | x :: l, h => by
    rw [List.flatMap_cons]
    exact isB_app (h x (by simp)) (isB_flat fun y hy => h y (List.mem_cons_of_mem _ hy))
end Go.Q.Yh
namespace Go.Q.Yh
theorem slc_get {h : Heap} {s : Slc} {vs : List Value} (S : SlcAt h s vs) {i : Nat} {v : Value} (hv : vs[i]? = some v) : ∃ a, s.a = some a ∧ cellH h (a.add i) = some v := by
  cases ha : s.a with
  | none => have := S.1 ha; subst this; simp at hv
  | some a => exact ⟨a, rfl, S.2 a ha i v hv⟩
/-! ### numbers are read -/
def valS : List Int → Int
  | [] => 0
  | b :: r => (b - 128) + 128 * valS r
theorem valS_snoc (c : Int) : ∀ p : List Int, valS (p ++ [c]) = valS p + (c - 128) * 128 ^ p.length
  | [] => by simp [valS]
  | b :: r => by
    simp only [List.cons_append, valS, valS_snoc c r, List.length_cons, Int.pow_succ]
    rw [Int.mul_add, ← Int.mul_assoc, Int.mul_comm 128 (c - 128), Int.mul_assoc, Int.mul_comm 128 (128 ^ r.length)]
    omega
theorem valS_bd : ∀ {p : List Int}, (∀ b ∈ p, 128 ≤ b ∧ b < 256) → 0 ≤ valS p ∧ valS p < 128 ^ p.length
  | [], _ => by simp [valS]
  | b :: r, h => by
    have h1 := h b (by simp)
    have h2 := valS_bd (p := r) fun x hx => h x (List.mem_cons_of_mem _ hx)
    simp only [valS, List.length_cons, Int.pow_succ]; omega
theorem short_of : ∀ (p : List Int) (c : Int) (f : Nat), (∀ b ∈ p, 128 ≤ b ∧ b < 256) → 0 ≤ c → c < 128 → (p ≠ [] → c ≠ 0) → p.length < f → shortF f (valS p + c * 128 ^ p.length) = p ++ [c]
  | [], c, 0, _, _, _, _, hf => by simp at hf
  | [], c, f + 1, _, c0, c1, _, _ => by simp only [valS, List.length_nil, Int.pow_zero, Int.mul_one, Int.zero_add, shortF, List.nil_append]; rw [if_pos c1]
  | b :: r, c, 0, _, _, _, _, hf => by simp at hf
  | b :: r, c, f + 1, h, c0, c1, hc, hf => by
    have h1 := h b (by simp)
    have h2 := valS_bd (p := r) fun x hx => h x (List.mem_cons_of_mem _ hx)
    have cn : 1 ≤ c := by have := hc (by simp); omega
    have e : valS (b :: r) + c * 128 ^ (b :: r).length = (b - 128) + 128 * (valS r + c * 128 ^ r.length) := by
      simp only [valS, List.length_cons, Int.pow_succ]
      rw [← Int.mul_assoc c, Int.mul_add]
      generalize c * 128 ^ r.length = Q
      omega
    have hp : 1 ≤ (128 : Int) ^ r.length := by have : (0 : Int) < 128 ^ r.length := Int.pow_pos (by omega); omega
    have hw : 1 ≤ valS r + c * 128 ^ r.length := by
      have : 1 * 1 ≤ c * 128 ^ r.length := Int.mul_le_mul cn hp (by omega) (by omega)
      omega
    rw [e]
    generalize hW : valS r + c * 128 ^ r.length = W at *
    rw [shortF, if_neg (by omega), show (b - 128 + 128 * W) % 128 + 128 = b from by omega, show (b - 128 + 128 * W) / 128 = W from by omega, ← hW]
    rw [short_of r c f (fun x hx => h x (List.mem_cons_of_mem _ hx)) c0 c1 (fun _ => by omega) (by simp at hf; omega)]
    rfl
theorem and127 {v : Int} (h : 0 ≤ v ∧ v < 256) : bwAnd .u8 v 127 = v % 128 := by
  have key : (List.range 256).all (fun m => bwAnd .u8 (m : Int) 127 == (m : Int) % 128) = true := by decide +kernel
  have := List.all_eq_true.1 key v.toNat (by simp; omega)
  rw [beq_iff_eq, show ((v.toNat : Nat) : Int) = v from by omega] at this
  exact this
theorem bwOr64 {a b : Nat} (ha : a < 18446744073709551616) (hb : b < 18446744073709551616) : bwOr .u64 a b = ((a ||| b : Nat) : Int) := by
  show IntKind.u64.wrap ((BitVec.ofInt 64 (a : Int) ||| BitVec.ofInt 64 (b : Int)).toNat : Int) = _
  rw [or_nat 64 a b (by omega) (by omega), wU64]
  have := Nat.or_lt_two_pow (n := 64) (x := a) (y := b) (by omega) (by omega)
  omega
theorem or_shift {n c : Int} {i : Nat} (hi : i ≤ 9) (n0 : 0 ≤ n) (n1 : n < 128 ^ i) (c0 : 0 ≤ c) (c1 : c < 128) (c9 : i = 9 → c ≤ 1) : bwOr .u64 n (shl .u64 c (7 * i)) = n + c * 128 ^ i ∧ n + c * 128 ^ i < 18446744073709551616 ∧ 0 ≤ n + c * 128 ^ i := by
  have hp : (128 : Int) ^ i = 2 ^ (7 * i) := by rw [show (128 : Int) = 2 ^ 7 from rfl, ← Int.pow_mul]
  have fit : c * 128 ^ i + 128 ^ i ≤ 18446744073709551616 ∧ (128 : Int) ^ i ≤ 9223372036854775808 ∧ 0 ≤ c * 128 ^ i := by
    have : i = 0 ∨ i = 1 ∨ i = 2 ∨ i = 3 ∨ i = 4 ∨ i = 5 ∨ i = 6 ∨ i = 7 ∨ i = 8 ∨ i = 9 := by omega
    rcases this with rfl | rfl | rfl | rfl | rfl | rfl | rfl | rfl | rfl | rfl <;> (try have := c9 rfl) <;> omega
  have es : shl .u64 c (7 * i) = c * 128 ^ i := by
    unfold shl
    rw [show min (7 * i) IntKind.u64.bits = 7 * i from by show min (7 * i) 64 = 7 * i; omega, ← hp, wU64]
    have : c * 128 ^ i < 18446744073709551616 := by
      have : 1 ≤ (128 : Int) ^ i := by have : (0 : Int) < 128 ^ i := Int.pow_pos (by omega); omega
      omega
    exact Int.emod_eq_of_lt fit.2.2 this
  have hpn : (128 : Int) ^ i = ((2 ^ (7 * i) : Nat) : Int) := by rw [hp]; simp
  refine ⟨?_, by omega, by omega⟩
  rw [es]
  obtain ⟨a, rfl⟩ : ∃ a : Nat, n = a := ⟨n.toNat, by omega⟩
  obtain ⟨d, rfl⟩ : ∃ d : Nat, c = d := ⟨c.toNat, by omega⟩
  rw [hpn] at fit n1 ⊢
  have e : (d : Int) * ((2 ^ (7 * i) : Nat) : Int) = ((d * 2 ^ (7 * i) : Nat) : Int) := by simp
  rw [e] at fit ⊢
  rw [bwOr64 (by omega) (by omega), Nat.or_comm, or_add (by omega)]
  omega
theorem GetShort_ok {s : Slc} {l : List Int} {k : Int × Int × Int → Heap → Prop} {h : Heap} (hs : SlcAt h s (b8 l)) (hl : s.len = l.length) (hB : isB l) (hz : l.length ≤ 4611686018427387904)
    (H1 : ∀ v l', l = shortL v ++ l' → 0 ≤ v → v < 18446744073709551616 → k (v, ((shortL v).length : Int), 0) h) (H2 : ∀ e, e ≠ 0 → k (0, 0, e) h) : num_GetShort s k h := by
  unfold num_GetShort
  refine ⟨fun q h' => ∃ p l', l = p ++ l' ∧ (∀ b ∈ p, 128 ≤ b ∧ b < 256) ∧ q.2 = (p.length : Int) ∧ p.length ≤ 9 ∧ q.1 = valS p ∧ h' = h, fun q _ => (10 - q.2).toNat, ⟨[], l, rfl, by simp, rfl, by simp, rfl, rfl⟩, ?_⟩
  rintro n i h' ⟨p, l', e, hp, hi, h9, hn, hh⟩
  dsimp only at hi hn
  subst hh
  subst hi; subst hn
  unfold num_GetShort_l1b
  have ll : l.length = p.length + l'.length := by rw [e, List.length_append]
  cases l' with
  | nil =>
    simp at ll
    rw [if_neg (by rw [decide_eq_true_eq]; omega)]
    exact H2 2 (by decide)
  | cons c r =>
    simp at ll
    rw [if_pos (by rw [decide_eq_true_eq]; omega)]
    have hc : l[p.length]? = some c := by rw [e]; simp
    have cb := hB c (List.mem_of_getElem? hc)
    obtain ⟨a, ha, hv⟩ := slc_get hs (i := p.length) (v := .int .u8 c) (by rw [List.getElem?_map, hc]; rfl)
    refine ⟨a, ha, by omega, by omega, c, by rw [Int.toNat_natCast, Nat.mul_one]; exact hv, ?_⟩
    by_cases hbad : p.length = 9 ∧ c > 1
    · rw [if_pos (by simp [hbad.1]; omega)]
      exact H2 4 (by decide)
    · rw [if_neg (by
        simp only [Bool.and_eq_true, beq_iff_eq, decide_eq_true_eq]
        rintro ⟨h1, h2⟩; exact hbad ⟨by omega, h2⟩)]
      rw [wrapU64 (x := (p.length : Int)) (by omega) (by omega), wrapU64 (x := 7 * (p.length : Int)) (by omega) (by omega), and127 cb, wrapU64 (x := c % 128) (by omega) (by omega), show (7 * (p.length : Int)).toNat = 7 * p.length from by omega]
      have vb := valS_bd hp
      obtain ⟨o1, o2, o3⟩ := or_shift (n := valS p) (c := c % 128) h9 vb.1 vb.2 (by omega) (by omega) (fun h => by omega)
      rw [o1, wrapI64 (by omega) (by omega)]
      refine ⟨by omega, _, rfl, ?_⟩
      by_cases hm : c ≥ 128
      · rw [if_pos (by rw [decide_eq_true_eq]; omega)]
        have h8 : p.length ≤ 8 := by omega
        refine ⟨⟨p ++ [c], r, by rw [e]; simp, fun b hb => ?_, by simp, by simp; omega, ?_, rfl⟩, by dsimp only; omega⟩
        · rcases List.mem_append.1 hb with hb | hb
          · exact hp b hb
          · simp at hb; omega
        · dsimp only
          rw [valS_snoc, show c % 128 = c - 128 from by omega]
      · rw [if_neg (by rw [decide_eq_true_eq]; omega)]
        by_cases hzr : c = 0 ∧ 0 < p.length
        · rw [if_pos (by simp [hzr.1]; omega)]
          exact H2 4 (by decide)
        · rw [if_neg (by
            simp only [Bool.and_eq_true, beq_iff_eq, decide_eq_true_eq]
            rintro ⟨h1, h2⟩; exact hzr ⟨h1, by omega⟩)]
          have hsh := short_of p c 10 hp cb.1 (by omega) (fun hne h0 => hzr ⟨h0, List.length_pos_iff.2 hne⟩) (by omega)
          rw [show c % 128 = c from by omega] at o2 o3 ⊢
          refine ⟨_, rfl, ?_⟩
          have := H1 (valS p + c * 128 ^ p.length) r (by rw [shortL, hsh, e]; simp) o3 o2
          rw [shortL, hsh] at this
          simpa using this
end Go.Q.Yh
namespace Go.Q.Yh
/-- a reader: what is left, and whether all was in form -/
def Rd (E : Nat) (h : Heap) (r : Nat) (l : List Int) (bad : Bool) : Prop :=
  ∃ s, Blk h r [Slc.v s, .bool bad] E ∧ (∀ h', Ext r h h' → SlcAt h' s (b8 l)) ∧ s.len = l.length ∧ s.len ≤ s.cap ∧ isB l ∧ l.length ≤ 1000000
theorem Rd.lt {E : Nat} {h : Heap} {r : Nat} {l : List Int} {bad : Bool} (R : Rd E h r l bad) : r < h.size := by obtain ⟨s, K, _⟩ := R; exact K.lt
theorem Rd.isB {E : Nat} {h : Heap} {r : Nat} {l : List Int} {bad : Bool} (R : Rd E h r l bad) : Go.Q.isB l := by obtain ⟨s, _, _, _, _, b, _⟩ := R; exact b
theorem Rd.len {E : Nat} {h : Heap} {r : Nat} {l : List Int} {bad : Bool} (R : Rd E h r l bad) : l.length ≤ 1000000 := by obtain ⟨s, _, _, _, _, _, b⟩ := R; exact b
theorem Rd.ext {E : Nat} {h h' : Heap} {r : Nat} {l : List Int} {bad : Bool} (R : Rd E h r l bad) (X : Ext (r + 1) h h') : Rd E h' r l bad := by
  obtain ⟨s, K, S, a, b, c, d⟩ := R
  exact ⟨s, K.ext X (by omega), fun h2 Y => S h2 ((X.mono (by omega)).trans Y), a, b, c, d⟩
theorem isB_drop {l : List Int} (h : isB l) (n : Nat) : isB (l.drop n) := fun b hb => h b (List.mem_of_mem_drop hb)
theorem isB_take {l : List Int} (h : isB l) (n : Nat) : isB (l.take n) := fun b hb => h b (List.mem_of_mem_take hb)
theorem formL_num : ∀ {l : List Int}, isB l → formL (numL l) l.length = l
  | [], _ => rfl
  | b :: r, h => by
    have h1 := h b (by simp)
    have h2 := formL_num (l := r) fun x hx => h x (List.mem_cons_of_mem _ hx)
    simp only [numL, List.length_cons, formL]
    rw [show (b + 256 * numL r) % 256 = b from by omega, show (b + 256 * numL r) / 256 = numL r from by omega, h2]
/-! ### the reader of pack -/
section
variable {h : Heap} {r : Nat} {l : List Int} {bad : Bool}
end
/-! ### the reader of reg -/
section
variable {h : Heap} {r : Nat} {l : List Int} {bad : Bool}
end
/-! ### the reader of raft -/
section
variable {h : Heap} {r : Nat} {l : List Int} {bad : Bool}
theorem raftr_bytes_ok {n : Int} {k : Slc → Heap → Prop} (R : Rd 86 h r l bad) (n0 : 0 ≤ n)
    (H1 : ∀ s' h', bad = false → n ≤ l.length → Rd 86 h' r (l.drop n.toNat) false → Upd r h h' → Row h.size h' 5 1 s' (b8 (l.take n.toNat)) → k s' h')
    (H2 : ∀ h', Rd 86 h' r l true → Upd r h h' → k ⟨none, 0, 0⟩ h') : raft_reader_bytes (some ⟨r, 0, none⟩) n k h := by
  obtain ⟨s, K, S, sl, sc, hB, hz⟩ := R
  have bad1 : raft_reader_bytes_g1 (some ⟨r, 0, none⟩) n true k h := by
    unfold raft_reader_bytes_g1
    rw [if_pos rfl]
    refine ⟨_, rfl, _, by rw [add_mk]; exact K.wr (by simp), rfl, ?_⟩
    rw [add_mk, Nat.zero_add]
    have K2 := K.set (i := 1) (v := .bool true)
    have U : Upd r h (setH h ⟨r, 1, none⟩ (.bool true)) := ⟨by rw [setH_size]; exact Nat.le_refl _, fun j hj hne => setH_other (by simpa using hne)⟩
    exact H2 _ ⟨s, K2, fun h2 Y => S h2 ((U.ext (Nat.le_refl _) (Nat.le_of_lt K.lt)).trans Y), sl, sc, hB, hz⟩ U
  unfold raft_reader_bytes
  refine ⟨_, rfl, bad, by rw [add_mk, K.cell]; rfl, ?_⟩
  cases hb : bad with
  | true => rw [if_pos rfl]; exact bad1
  | false =>
    subst hb
    rw [if_neg (by simp)]
    refine ⟨s, by rw [K.cell]; rfl, ?_⟩
    rw [wrapU64 (x := (s.len : Int)) (by omega) (by omega)]
    by_cases hn : n > s.len
    · rw [show decide (n > (s.len : Int)) = true from by simpa using hn]; exact bad1
    · rw [show decide (n > (s.len : Int)) = false from by simpa using hn]
      unfold raft_reader_bytes_g1
      rw [if_neg (by simp)]
      refine ⟨_, rfl, s, by rw [K.cell]; rfl, _, by omega, n0, by omega, by omega, rfl, ?_⟩
      have T := (S h (Ext.refl _ _)).sub (w := 1) (l := (0 : Int).toNat) (u := n.toNat) (m := (s.cap : Int).toNat) (by omega) (by omega)
      rw [show (0 : Int).toNat * 1 = 0 from rfl, List.drop_zero, show (n.toNat - (0 : Int).toNat) * 1 = n.toNat from by simp, ← List.map_take] at T
      refine Clone_ok (by rw [subS_len, List.length_take]; omega) T (by rw [List.length_take]; omega) fun s1 h1 R1 X1 => ?_
      have z1 := X1.size
      have kl := K.lt
      have K1 := K.ext X1 kl
      refine ⟨s, by rw [K1.cell]; rfl, _, n0, by omega, by omega, by omega, rfl, _, K1.wr (by simp), rfl, ?_⟩
      have K2 := K1.set (i := 0) (v := Slc.v (subS s 1 n.toNat (s.len : Int).toNat (s.cap : Int).toNat))
      have U : Upd r h1 (setH h1 ⟨r, 0, none⟩ (Slc.v (subS s 1 n.toNat (s.len : Int).toNat (s.cap : Int).toNat))) := ⟨by rw [setH_size]; exact Nat.le_refl _, fun j hj hne => setH_other (by simpa using hne)⟩
      have UU := (Upd.of_ext (b := r) X1).trans U
      have X := UU.ext (B := r) (Nat.le_refl _) (Nat.le_of_lt kl)
      refine H1 _ _ rfl (by omega) ⟨_, K2, fun h2 Y => ?_, by rw [subS_len, List.length_drop]; omega, by rw [subS_len, subS_cap]; omega, isB_drop hB _, by rw [List.length_drop]; omega⟩ UU (R1.keep fun g hg => U.block g (R1.bd hg).2 (by have := (R1.bd hg).1; omega))
      have := (S h2 (X.trans Y)).sub (w := 1) (l := n.toNat) (u := (s.len : Int).toNat) (m := (s.cap : Int).toNat) (by omega) (by omega)
      rw [Nat.mul_one, Nat.mul_one, ← List.map_drop, List.take_of_length_le (by rw [List.length_map, List.length_drop]; omega)] at this
      exact this
theorem raftr_short_ok {k : Int → Heap → Prop} (R : Rd 86 h r l bad)
    (H1 : ∀ v l' h', bad = false → l = shortL v ++ l' → 0 ≤ v → v < 18446744073709551616 → Rd 86 h' r l' false → Upd r h h' → k v h')
    (H2 : ∀ v l' h', 0 ≤ v → v < 18446744073709551616 → Rd 86 h' r l' true → Upd r h h' → k v h') : raft_reader_short (some ⟨r, 0, none⟩) k h := by
  obtain ⟨s, K, S, sl, sc, hB, hz⟩ := R
  unfold raft_reader_short
  refine ⟨_, rfl, s, by rw [K.cell]; rfl, ?_⟩
  have go : ∀ (v : Int) (u e : Int) (l' : List Int), 0 ≤ u → u ≤ l.length → l' = l.drop u.toNat → (∀ h', Rd 86 h' r l' (bad || (e != 0)) → Upd r h h' → k v h') →
      ∃ v5 : Bool, cellH h ((⟨r, 0, none⟩ : Addr).add 1) = some (.bool v5) ∧ (∃ h6 : Heap, WrH h ((⟨r, 0, none⟩ : Addr).add 1) ∧ h6 = setH h ((⟨r, 0, none⟩ : Addr).add 1) (.bool (v5 || (e != 0))) ∧ (∃ v7 : Slc, cellH h6 ⟨r, 0, none⟩ = some (Slc.v v7) ∧ (∃ s8 : Slc, (0 : Int) ≤ u ∧ (u : Int) ≤ (v7.len : Int) ∧ ((v7.len : Int) : Int) ≤ (v7.cap : Int) ∧ (v7.cap : Int) ≤ (v7.cap : Int) ∧ s8 = subS v7 1 u.toNat (v7.len : Int).toNat (v7.cap : Int).toNat ∧ (∃ h9 : Heap, WrH h6 ⟨r, 0, none⟩ ∧ h9 = setH h6 ⟨r, 0, none⟩ (Slc.v s8) ∧ (k v h9))))) := fun v u e l' u0 u1 el G => by
    refine ⟨bad, by rw [add_mk, K.cell]; rfl, _, by rw [add_mk]; exact K.wr (by simp), rfl, ?_⟩
    rw [add_mk, Nat.zero_add]
    have K2 := K.set (i := 1) (v := .bool (bad || (e != 0)))
    have U : Upd r h (setH h ⟨r, 1, none⟩ (.bool (bad || (e != 0)))) := ⟨by rw [setH_size]; exact Nat.le_refl _, fun j hj hne => setH_other (by simpa using hne)⟩
    generalize setH h ⟨r, 1, none⟩ (.bool (bad || (e != 0))) = h6 at *
    refine ⟨s, by rw [K2.cell]; rfl, _, u0, by omega, by omega, by omega, rfl, _, K2.wr (by simp), rfl, ?_⟩
    have K3 := K2.set (i := 0) (v := Slc.v (subS s 1 u.toNat (s.len : Int).toNat (s.cap : Int).toNat))
    have U2 : Upd r h6 (setH h6 ⟨r, 0, none⟩ (Slc.v (subS s 1 u.toNat (s.len : Int).toNat (s.cap : Int).toNat))) := ⟨by rw [setH_size]; exact Nat.le_refl _, fun j hj hne => setH_other (by simpa using hne)⟩
    have UU := U.trans U2
    have X := UU.ext (B := r) (Nat.le_refl _) (Nat.le_of_lt K.lt)
    refine G _ ⟨_, K3, fun h2 Y => ?_, by rw [subS_len, el, List.length_drop]; omega, by rw [subS_len, subS_cap]; omega, by rw [el]; exact isB_drop hB _, by rw [el, List.length_drop]; omega⟩ UU
    have := (S h2 (X.trans Y)).sub (w := 1) (l := u.toNat) (u := (s.len : Int).toNat) (m := (s.cap : Int).toNat) (by omega) (by omega)
    rw [Nat.mul_one, Nat.mul_one, ← List.map_drop, List.take_of_length_le (by rw [List.length_map, List.length_drop]; omega), ← el] at this
    exact this
  refine GetShort_ok (S h (Ext.refl _ _)) sl hB (by omega) (fun v l' e v0 v1 => ?_) fun e he => ?_
  · refine go v ((shortL v).length : Int) 0 l' (by omega) (by rw [e, List.length_append]; omega) (by rw [e]; simp) fun h' R' U => ?_
    cases hb : bad with
    | true => rw [hb] at R'; exact H2 v l' h' v0 v1 R' U
    | false => rw [hb] at R'; exact H1 v l' h' hb e v0 v1 R' U
  · refine go 0 0 e l (by omega) (by omega) (by simp) fun h' R' U => ?_
    rw [show (bad || (e != 0)) = true from by simp [he]] at R'
    exact H2 0 l h' (by omega) (by omega) R' U
theorem raftr_byte_ok {k : Int → Heap → Prop} (R : Rd 86 h r l bad)
    (H1 : ∀ v l' h', bad = false → l = [v] ++ l' → 0 ≤ v → v < 256 → Rd 86 h' r l' false → Upd r h h' → k v h')
    (H2 : ∀ l' h', Rd 86 h' r l' true → Upd r h h' → k 0 h') : raft_reader_byte (some ⟨r, 0, none⟩) k h := by
  unfold raft_reader_byte
  have hB := R.isB
  refine raftr_bytes_ok R (by omega) (fun s h2 b0 hv R2 U2 Rw => ?_) fun h2 R2 U2 => ?_
  · have ls := Rw.pb
    cases l with
    | nil => simp at hv
    | cons v l' =>
      simp at ls
      rw [if_neg (by rw [beq_iff_eq]; omega)]
      obtain ⟨a, ha, hc⟩ := slc_get Rw.slc (i := 0) (v := .int .u8 v) rfl
      have bb := hB v (by simp)
      exact ⟨a, ha, by omega, by omega, v, hc, H1 v l' h2 b0 rfl bb.1 bb.2 R2 U2⟩
  · rw [if_pos (show (((⟨none, 0, 0⟩ : Slc).len : Int) == 0) = true from rfl)]
    exact H2 _ h2 R2 U2

end
end Go.Q.Yh
namespace Go.Q.Yh
section
variable {h : Heap} {r : Nat} {l : List Int} {bad : Bool}
theorem raftr_short2 {k : Int → Heap → Prop} (R : Rd 86 h r l bad)
    (H : ∀ v l' b' h', Rd 86 h' r l' b' → Upd r h h' → 0 ≤ v → v < 18446744073709551616 → (b' = false → bad = false ∧ l = shortL v ++ l') → k v h') : raft_reader_short (some ⟨r, 0, none⟩) k h :=
  raftr_short_ok R (fun v l' h' b e v0 v1 R' U => H v l' false h' R' U v0 v1 fun _ => ⟨b, e⟩) fun v l' h' v0 v1 R' U => H v l' true h' R' U v0 v1 fun h => by cases h
theorem _root_.Go.Q.Upd.push' {c : Nat} (h : Heap) (o : Obj) : Upd c h (h.push o) := Upd.of_ext (Ext.push h o (Nat.le_refl _))
theorem _root_.Go.Q.Upd.to_ext {c B : Nat} {h h' : Heap} (U : Upd c h h') (hB : B ≤ c) (hs : B ≤ h.size) : Ext B h h' := U.ext hB hs
/-- blocks that are not the reader's stay -/
theorem _root_.Go.Q.Upd.keep {c b E : Nat} {h h' : Heap} {cs : List Value} (U : Upd c h h') (K : Blk h b cs E) (hb : b ≠ c) : Blk h' b cs E := U.blk K hb
/-- writing a block that was made since -/
theorem _root_.Go.Q.Upd.fresh {c : Nat} {h h' h2 : Heap} (U : Upd c h h') (X : Ext h.size h' h2) : Upd c h h2 := ⟨Nat.le_trans U.size X.size, fun i hi hne => (X.block i hi).trans (U.block i hi hne)⟩
end
end Go.Q.Yh
set_option linter.unusedVariables false
set_option linter.unusedSimpArgs false
set_option maxRecDepth 100000
namespace Go.Q.Yh
theorem flat_len {α : Type} {f : α → List Int} {c : Nat} : ∀ {l : List α}, (∀ x ∈ l, (f x).length ≤ c) → (l.flatMap f).length ≤ l.length * c
  | [], _ => by simp
  | x :: l, h => by
    have h1 := h x (by simp)
    have h2 := flat_len (l := l) fun y hy => h y (List.mem_cons_of_mem _ hy)
    simp only [List.flatMap_cons, List.length_append, List.length_cons]
    rw [Nat.add_mul]; omega
theorem flat_snoc {α : Type} {f : α → List Int} {l : List α} {i : Nat} {x : α} (hx : l[i]? = some x) : (l.take (i + 1)).flatMap f = (l.take i).flatMap f ++ f x := by
  rw [List.take_add_one, hx]; simp
/-! ### a message -/
def entL (e : Ent) : List Int := shortL e.1 ++ tx e.2
def msgL (m : S_api_Msg) (es : List Ent) (snap : List Int) : List Int :=
  [m.f_Kind % 256] ++ shortL m.f_Term ++ shortL m.f_Index ++ shortL m.f_LogTerm ++ shortL m.f_Commit ++ [if m.f_Yes then 1 else 0] ++ shortL es.length ++ es.flatMap entL ++ tx snap
structure MsgAt (h : Heap) (m : S_api_Msg) (vs : List S_api_Entry) (es : List Ent) (snap : List Int) : Prop where
  ls : LsAt S_api_Entry.cs 2 h m.f_Entries vs
  el : vs.length = es.length
  en : ∀ (i : Nat) v e, vs[i]? = some v → es[i]? = some e → v.f_Term = e.1 ∧ SlcAt h v.f_Cmd (b8 e.2) ∧ v.f_Cmd.len = e.2.length
  er : ∀ e ∈ es, (0 ≤ e.1 ∧ e.1 < 18446744073709551616) ∧ isB e.2
  ss : SlcAt h m.f_Snap (b8 snap)
  sl : m.f_Snap.len = snap.length
  sb : isB snap
  r1 : 0 ≤ m.f_Term ∧ m.f_Term < 18446744073709551616
  r2 : 0 ≤ m.f_Index ∧ m.f_Index < 18446744073709551616
  r3 : 0 ≤ m.f_LogTerm ∧ m.f_LogTerm < 18446744073709551616
  r4 : 0 ≤ m.f_Commit ∧ m.f_Commit < 18446744073709551616
structure MsgSm (es : List Ent) (snap : List Int) : Prop where
  n : es.length ≤ 10000
  e : ∀ e ∈ es, e.2.length ≤ 10000
  s : snap.length ≤ 10000
theorem MsgAt.ext {h h' : Heap} {m : S_api_Msg} {vs : List S_api_Entry} {es : List Ent} {snap : List Int} (A : MsgAt h m vs es snap) (X : Ext h.size h h') : MsgAt h' m vs es snap :=
  ⟨A.ls.ext X, A.el, fun i v e hv he => by obtain ⟨a, b, c⟩ := A.en i v e hv he; exact ⟨a, b.ext X, c⟩, A.er, A.ss.ext X, A.sl, A.sb, A.r1, A.r2, A.r3, A.r4⟩
theorem entL_len {e : Ent} (h : e.2.length ≤ 10000) : (entL e).length ≤ 10020 := by
  have := shortL_len e.1; have := tx_len e.2
  unfold entL
  rw [List.length_append]; omega
theorem msgL_len {m : S_api_Msg} {es : List Ent} {snap : List Int} (S : MsgSm es snap) : (msgL m es snap).length ≤ 100300000 := by
  have h1 := flat_len (f := entL) (c := 10020) (l := es) fun e he => entL_len (S.e e he)
  have := S.n; have := S.s; have := tx_len snap
  have := shortL_len m.f_Term; have := shortL_len m.f_Index; have := shortL_len m.f_LogTerm; have := shortL_len m.f_Commit; have := shortL_len es.length
  unfold msgL
  simp only [List.length_append, List.length_cons, List.length_nil]; omega
/-- the entries, and the rest -/
theorem mPut_l3_ok {b : Nat} {cs : List Value} {m : S_api_Msg} {vs : List S_api_Entry} {es : List Ent} {snap : List Int} {s : Slc} {pre : List Int} {k : Slc → Heap → Prop} {nx : Slc × Int → Heap → Prop} {h : Heap} (A : MsgAt h m vs es snap) (S : MsgSm es snap) (P : Blk h b (S_api_Msg.cs m) 26)
    (hl : s.len = pre.length) (hs : SlcAt h s (b8 pre)) (hp : pre.length ≤ 1000) (H : Lays' h (pre ++ es.flatMap entL ++ tx snap) k) : raft_Put_l3 ⟨b, 0, none⟩ m.f_Entries (m.f_Entries.len : Int) s 0 k nx h := by
  have nl := A.ls.l
  have el := A.el
  have sn := S.n
  refine ⟨fun q h' => ∃ cur, 0 ≤ q.2 ∧ q.2 ≤ es.length ∧ SlcAt h' q.1 (b8 cur) ∧ q.1.len = cur.length ∧ cur = pre ++ (es.take q.2.toNat).flatMap entL ∧ Ext h.size h h', fun q _ => (es.length - q.2).toNat, ⟨pre, by simp, by simp, hs, hl, by simp, Ext.refl _ _⟩, ?_⟩
  rintro s i h1 ⟨cur, i0, i1, hs, hl, hc, X⟩
  dsimp only at i0 i1 hs hl hc
  have A1 := A.ext X
  have z := X.size
  have P1 := P.ext X P.lt
  have lf := flat_len (f := entL) (c := 10020) (l := es.take i.toNat) fun e he => entL_len (S.e e (List.mem_of_mem_take he))
  rw [List.length_take] at lf
  have lc : cur.length ≤ 100250000 := by
    rw [hc, List.length_append]
    have : min i.toNat es.length * 10020 ≤ 10000 * 10020 := Nat.mul_le_mul_right _ (by omega)
    omega
  unfold raft_Put_l3b
  by_cases hi : i < es.length
  · rw [if_pos (by simp; omega)]
    have hv : vs[i.toNat]? = some (vs[i.toNat]'(by omega)) := by simp
    have he : es[i.toNat]? = some (es[i.toNat]'(by omega)) := by simp
    have sme := S.e _ (List.mem_of_getElem? he)
    have ere := A.er _ (List.mem_of_getElem? he)
    generalize vs[i.toNat]'(by omega) = v at *
    generalize es[i.toNat]'(by omega) = e at *
    obtain ⟨a, ha, C⟩ := A1.ls.at' _ _ hv
    refine ⟨a, ha, i0, by omega, v, C, _, _, rfl, rfl, ?_⟩
    have P0 := Blk.push h1 (S_api_Entry.cs ⟨0, ⟨none, 0, 0⟩⟩) 65
    have K2 := P0.sets_all (vs := S_api_Entry.cs v) rfl
    have W := (Ext.push h1 (.cells (S_api_Entry.cs ⟨0, ⟨none, 0, 0⟩⟩).toArray 65) (Nat.le_refl _)).trans (Ext.sets _ (a := ⟨h1.size, 0, none⟩) 0 (S_api_Entry.cs v) (Nat.le_refl _))
    refine ⟨_, WrsAt.of_blk P0 (by simp [S_api_Entry.cs]), rfl, ?_⟩
    generalize setsH (h1.push (.cells (S_api_Entry.cs ⟨0, ⟨none, 0, 0⟩⟩).toArray 65)) ⟨h1.size, 0, none⟩ 0 (S_api_Entry.cs v) = h2 at *
    have z2 := W.size
    have A2 := A1.ext W
    obtain ⟨t1, t2, t3⟩ := A2.en _ _ _ hv he
    refine ⟨_, by rw [K2.cell]; rfl, _, by rw [add_mk, K2.cell]; rfl, ?_⟩
    rw [t1, wrapI64 (by omega) (by omega)]
    refine PutShort_ok hl (hs.ext W) (by omega) ere.1.1 ere.1.2 fun s3 h3 R3 X3 => ?_
    have z3 := X3.size
    have K3 := K2.ext X3 K2.lt
    have l1 := shortL_len e.1
    refine ⟨by rw [add_mk, K3.cell]; rfl, ?_⟩
    refine btext_ok' R3.pb R3.slc (by simp only [List.length_append, List.length_cons, List.length_nil, formL_length, sB_len, nrm_len]; omega) t3 (t2.ext X3) (by omega) fun s4 h4 R4 X4 => ?_
    refine ⟨⟨_, by dsimp only; omega, by dsimp only; omega, R4.slc, R4.pb, ?_, X.trans ((W.mono z).trans ((X3.mono (by omega)).trans (X4.mono (by omega))))⟩, by dsimp only; omega⟩
    dsimp only
    rw [hc, show (i + 1).toNat = i.toNat + 1 from by omega, flat_snoc he, entL]
    simp only [List.append_assoc]
  · rw [if_neg (by simp; omega)]
    refine ⟨_, by rw [add_mk, P1.cell]; rfl, ?_⟩
    refine btext_ok' hl hs (by omega) A.sl (A1.ss) (by have := S.s; omega) fun s2 h2 R2 X2 => ?_
    refine H s2 h2 ?_ (X.trans (X2.mono z))
    rw [hc, show i.toNat = es.length from by omega, List.take_length] at R2
    exact R2.mono z
theorem mPut_ok {m : S_api_Msg} {vs : List S_api_Entry} {es : List Ent} {snap : List Int} {k : Slc → Heap → Prop} {h : Heap} (A : MsgAt h m vs es snap) (S : MsgSm es snap) (H : Lays' h (msgL m es snap) k) : raft_Put m k h := by
  unfold raft_Put
  refine ⟨_, _, rfl, rfl, ?_⟩
  have P := Blk.push h (S_api_Msg.cs m) 26
  have W := Ext.push h (.cells (S_api_Msg.cs m).toArray 26) (Nat.le_refl _)
  obtain ⟨h2, e2⟩ : ∃ y, y = h.push (.cells (S_api_Msg.cs m).toArray 26) := ⟨_, rfl⟩
  rw [← e2] at P W ⊢
  have pl := P.lt
  have z2 := W.size
  refine ⟨m.f_Kind, by rw [P.cell]; rfl, ?_⟩
  rw [wU8]
  refine ⟨_, _, rfl, rfl, ?_⟩
  have Q := Blk.push h2 (b8 [m.f_Kind % 256]) 5
  have W3 := Ext.push h2 (.cells (b8 [m.f_Kind % 256]).toArray 5) (Nat.le_refl _)
  obtain ⟨h3, e3⟩ : ∃ y, y = h2.push (.cells (b8 [m.f_Kind % 256]).toArray 5) := ⟨_, rfl⟩
  rw [show (Value.int .u8 (m.f_Kind % 256)) :: [] = b8 [m.f_Kind % 256] from rfl, ← e3]
  rw [← e3] at Q W3
  have P3 := P.ext W3 pl
  have z3 := W3.size
  refine ⟨_, by rw [add_mk, P3.cell]; rfl, _, by rw [add_mk, P3.cell]; rfl, _, by rw [add_mk, P3.cell]; rfl, _, by rw [add_mk, P3.cell]; rfl, _, _, rfl, rfl, ?_⟩
  have N := Blk.push h3 [.int .u64 m.f_Term, .int .u64 m.f_Index, .int .u64 m.f_LogTerm, .int .u64 m.f_Commit] 22
  have W4 := Ext.push h3 (.cells [Value.int .u64 m.f_Term, .int .u64 m.f_Index, .int .u64 m.f_LogTerm, .int .u64 m.f_Commit].toArray 22) (Nat.le_refl _)
  obtain ⟨h4, e4⟩ : ∃ y, y = h3.push (.cells [Value.int .u64 m.f_Term, .int .u64 m.f_Index, .int .u64 m.f_LogTerm, .int .u64 m.f_Commit].toArray 22) := ⟨_, rfl⟩
  rw [← e4] at N W4 ⊢
  have Q4 := Q.ext W4 Q.lt
  have P4 := P3.ext W4 P3.lt
  have z4 := W4.size
  have nl := N.lt
  have A4 := ((A.ext W).ext W3).ext W4
  have S0 : SlcAt h4 ⟨some ⟨h2.size, 0, none⟩, 1, 1⟩ (b8 [m.f_Kind % 256]) := Q4.slc (o := 0) (n := 1) rfl
  have XA : Ext h.size h h4 := W.trans ((W3.mono z2).trans (W4.mono (by omega)))
  -- the four numbers
  refine ⟨fun q h' => ∃ cur, 0 ≤ q.2 ∧ q.2 ≤ 4 ∧ SlcAt h' q.1 (b8 cur) ∧ q.1.len = cur.length ∧ cur = [m.f_Kind % 256] ++ (([m.f_Term, m.f_Index, m.f_LogTerm, m.f_Commit] : List Int).take q.2.toNat).flatMap shortL ∧ (1 ≤ q.2 → Row h4.size h' 5 1 q.1 (b8 cur)) ∧ Ext h4.size h4 h', fun q _ => (4 - q.2).toNat, ⟨_, by simp, by simp, S0, rfl, by simp, (fun h => by dsimp only at h; omega), Ext.refl _ _⟩, ?_⟩
  rintro s i h5 ⟨cur, i0, i1, hs, hl, hc, hr, X⟩
  dsimp only at i0 i1 hs hl hc hr
  have z5 := X.size
  have N5 := N.ext X nl
  have P5 := P4.ext X P4.lt
  have A5 := A4.ext X
  have lf := flat_len (f := shortL) (c := 10) (l := ([m.f_Term, m.f_Index, m.f_LogTerm, m.f_Commit] : List Int).take i.toNat) fun x _ => shortL_len x
  rw [List.length_take] at lf
  have lc : cur.length ≤ 41 := by
    rw [hc, List.length_append]
    simp only [List.length_cons, List.length_nil] at lf ⊢
    have : min i.toNat 4 * 10 ≤ 40 := by omega
    omega
  unfold raft_Put_l1b
  by_cases hi : i < 4
  · rw [if_pos (by simpa using hi)]
    have hn : ∃ x, ([m.f_Term, m.f_Index, m.f_LogTerm, m.f_Commit] : List Int)[i.toNat]? = some x ∧ 0 ≤ x ∧ x < 18446744073709551616 := by
      have : i.toNat = 0 ∨ i.toNat = 1 ∨ i.toNat = 2 ∨ i.toNat = 3 := by omega
      rcases this with e | e | e | e <;> rw [e]
      · exact ⟨_, rfl, A.r1.1, A.r1.2⟩
      · exact ⟨_, rfl, A.r2.1, A.r2.2⟩
      · exact ⟨_, rfl, A.r3.1, A.r3.2⟩
      · exact ⟨_, rfl, A.r4.1, A.r4.2⟩
    obtain ⟨x, hx, x0, x1⟩ := hn
    refine ⟨_, rfl, i0, by dsimp only; omega, x, ?_, ?_⟩
    · rw [Nat.mul_one, add_mk, Nat.zero_add, N5.cell]
      have : ([m.f_Term, m.f_Index, m.f_LogTerm, m.f_Commit].map (Value.int .u64))[i.toNat]? = some (.int .u64 x) := by rw [List.getElem?_map, hx]; rfl
      exact this
    rw [wrapI64 (by omega) (by omega)]
    refine PutShort_ok hl hs (by omega) x0 x1 fun s6 h6 R6 X6 => ?_
    refine ⟨⟨_, by dsimp only; omega, by dsimp only; omega, R6.slc, R6.pb, ?_, fun _ => R6.mono z5, X.trans (X6.mono z5)⟩, by dsimp only; omega⟩
    dsimp only
    rw [hc, show (i + 1).toNat = i.toNat + 1 from by omega, flat_snoc hx]
    simp only [List.append_assoc]
  · rw [if_neg (by simpa using hi)]
    have R := hr (by omega)
    have hc4 : cur = [m.f_Kind % 256] ++ shortL m.f_Term ++ shortL m.f_Index ++ shortL m.f_LogTerm ++ shortL m.f_Commit := by
      rw [hc, show i.toNat = 4 from by omega]; simp
    have fin : ∀ y : Int, y = (if m.f_Yes then 1 else 0) → raft_Put_j2 ⟨h.size, 0, none⟩ s y k (fun q h' => (∃ cur, 0 ≤ q.2 ∧ q.2 ≤ 4 ∧ SlcAt h' q.1 (b8 cur) ∧ q.1.len = cur.length ∧ cur = [m.f_Kind % 256] ++ (([m.f_Term, m.f_Index, m.f_LogTerm, m.f_Commit] : List Int).take q.2.toNat).flatMap shortL ∧ (1 ≤ q.2 → Row h4.size h' 5 1 q.1 (b8 cur)) ∧ Ext h4.size h4 h') ∧ (4 - q.2).toNat < (4 - i).toNat) h5 := fun y hy => by
      unfold raft_Put_j2
      refine ⟨_, by rw [add_mk, P5.cell]; rfl, _, _, rfl, rfl, ?_⟩
      have W6 := Ext.push h5 (.cells (b8 [y]).toArray 5) (Nat.le_refl _)
      obtain ⟨h6, e6⟩ : ∃ z, z = h5.push (.cells (b8 [y]).toArray 5) := ⟨_, rfl⟩
      rw [show (Value.int .u8 y) :: [] = b8 [y] from rfl, ← e6]
      rw [← e6] at W6
      have z6 := W6.size
      have P6 := P5.ext W6 P5.lt
      refine ⟨by rw [add_mk, P6.cell]; rfl, ?_⟩
      have R6 := R.ext W6 fun g hg => (R.bd hg).2
      have pb : h.size < h4.size := P4.lt
      refine AppB (m := [y]) R6 (by omega) rfl (by simp; omega) fun s7 h7 R7 X7 => ?_
      have X47 : Ext h4.size h4 h7 := X.trans ((W6.mono z5).trans X7)
      have z7 := X47.size
      have P7 := P4.ext X47 pb
      refine ⟨by rw [add_mk, P7.cell]; rfl, ?_⟩
      have A7 := A4.ext X47
      have nl := A7.ls.l
      have el := A7.el
      have sn := S.n
      rw [wrapU64 (x := (m.f_Entries.len : Int)) (by omega) (by omega)]
      refine PutShort_ok R7.pb R7.slc (by simp; omega) (by omega) (by omega) fun s8 h8 R8 X8 => ?_
      have z8 := X8.size
      have P8 := P7.ext X8 P7.lt
      refine ⟨_, by rw [add_mk, P8.cell]; rfl, ?_⟩
      rw [nl, el] at R8
      have l2 := shortL_len es.length
      refine mPut_l3_ok (cs := []) (A7.ext X8) S P8 R8.pb R8.slc (by simp only [List.length_append, List.length_cons, List.length_nil]; omega) fun s9 h9 R9 X9 => ?_
      refine H s9 h9 ?_ (XA.trans ((X47.trans ((X8.mono z7).trans (X9.mono (by omega)))).mono (by omega)))
      rw [hc4, hy] at R9
      rw [show msgL m es snap = [m.f_Kind % 256] ++ shortL m.f_Term ++ shortL m.f_Index ++ shortL m.f_LogTerm ++ shortL m.f_Commit ++ [if m.f_Yes then 1 else 0] ++ shortL es.length ++ es.flatMap entL ++ tx snap from rfl]
      exact R9.mono (by omega)
    refine ⟨_, by rw [add_mk, P5.cell]; rfl, ?_⟩
    cases hy : m.f_Yes with
    | true => rw [if_pos rfl]; exact fin 1 (by rw [hy]; rfl)
    | false => rw [if_neg (by simp)]; exact fin 0 (by rw [hy]; rfl)
end Go.Q.Yh
set_option linter.unusedVariables false
set_option linter.unusedSimpArgs false
set_option maxRecDepth 100000
namespace Go.Q.Yh
section
variable {h : Heap} {r : Nat} {l : List Int} {bad : Bool}
end
theorem u32_wrap {v : Int} (v0 : 0 ≤ v) (v1 : v < 4294967296) : IntKind.u32.wrap v = v := wrapU32 v0 v1
/-- what hangs on the blocks from B on alone -/
def Held (B : Nat) (h : Heap) (p : Heap → Prop) : Prop := ∀ h', (∀ g, B ≤ g → g < h.size → h'[g]? = h[g]?) → p h'
theorem Held.now {B : Nat} {h : Heap} {p : Heap → Prop} (H : Held B h p) : p h := H h fun _ _ _ => rfl
theorem Held.step {B : Nat} {h h2 : Heap} {p : Heap → Prop} (H : Held B h p) (z : h.size ≤ h2.size) (e : ∀ g, B ≤ g → g < h.size → h2[g]? = h[g]?) : Held B h2 p :=
  fun h' e' => H h' fun g g1 g2 => by rw [e' g g1 (by omega)]; exact e g g1 g2
theorem Held.mono {A B : Nat} {h : Heap} {p : Heap → Prop} (H : Held B h p) (hb : A ≤ B) : Held A h p := fun h' e => H h' fun g g1 g2 => e g (by omega) g2
theorem Held.imp {B : Nat} {h : Heap} {p q : Heap → Prop} (H : Held B h p) (hq : ∀ h', p h' → q h') : Held B h q := fun h' e => hq h' (H h' e)
theorem Held.of_row {B E w : Nat} {h : Heap} {s : Slc} {xs : List Value} (R : Row B h E w s xs) : Held B h fun h' => Row B h' E w s xs := fun h' e => R.keep fun g hg => e g (R.bd hg).1 (R.bd hg).2
end Go.Q.Yh
namespace Go.Q.Yh
section
variable {h : Heap} {r : Nat} {l : List Int} {bad : Bool}
theorem raftr_bytes2 {n : Int} {k : Slc → Heap → Prop} (R : Rd 86 h r l bad) (n0 : 0 ≤ n)
    (H : ∀ (s : Slc) (x l' : List Int) (b' : Bool) (h' : Heap), Rd 86 h' r l' b' → Upd r h h' → Row h.size h' 5 1 s (b8 x) → isB x → (b' = false → bad = false ∧ l = x ++ l' ∧ (x.length : Int) = n) → k s h') : raft_reader_bytes (some ⟨r, 0, none⟩) n k h := by
  have hB := R.isB
  refine raftr_bytes_ok R n0 (fun s h' b hn R' U S => ?_) fun h' R' U => ?_
  · exact H s (l.take n.toNat) _ false h' R' U S (isB_take hB _) fun _ => ⟨b, (List.take_append_drop _ _).symm, by rw [List.length_take]; omega⟩
  · exact H _ [] l true h' R' U (Row.nil _ _ _ _) (by intro b hb; cases hb) fun h => by cases h
theorem raftr_byte2 {k : Int → Heap → Prop} (R : Rd 86 h r l bad)
    (H : ∀ v l' b' h', Rd 86 h' r l' b' → Upd r h h' → 0 ≤ v → v < 256 → (b' = false → bad = false ∧ l = [v] ++ l') → k v h') : raft_reader_byte (some ⟨r, 0, none⟩) k h :=
  raftr_byte_ok R (fun v l' h' b e v0 v1 R' U => H v l' false h' R' U v0 v1 fun _ => ⟨b, e⟩) fun l' h' R' U => H 0 l' true h' R' U (by omega) (by omega) fun h => by cases h
end
/-- what is known while a message is read: the answer's box, the reader, the message's box, the entries so far -/
structure MS (h0 h : Heap) (r q : Nat) (l : List Int) (b : Bool) (m : S_api_Msg) (vs : List S_api_Entry) (es : List Ent) : Prop where
  P : Blk h h0.size (S_api_Msg.cs ⟨0, 0, 0, 0, 0, false, ⟨none, 0, 0⟩, ⟨none, 0, 0⟩⟩) 26
  R : Rd 86 h r l b
  Q : Blk h q (S_api_Msg.cs m) 26
  E : Row (q + 1) h 65 2 m.f_Entries (vs.flatMap S_api_Entry.cs)
  el : vs.length = es.length
  en : ∀ (i : Nat) v e, vs[i]? = some v → es[i]? = some e → v.f_Term = e.1 ∧ Row (q + 1) h 5 1 v.f_Cmd (b8 e.2)
  er : ∀ e ∈ es, (0 ≤ e.1 ∧ e.1 < 18446744073709551616) ∧ isB e.2
  X : Ext h0.size h0 h
  o1 : h0.size < r
  o2 : r < q
/-- what goes on beside the boxes -/
theorem MS.upd {h0 h h' : Heap} {r q : Nat} {l l' : List Int} {b b' : Bool} {m : S_api_Msg} {vs : List S_api_Entry} {es : List Ent} (M : MS h0 h r q l b m vs es) (U : Upd r h h') (R : Rd 86 h' r l' b') : MS h0 h' r q l' b' m vs es :=
  have o1 := M.o1
  have o2 := M.o2
  have xs := M.X.size
  ⟨U.blk M.P (by omega), R, U.blk M.Q (by omega), M.E.keep fun g hg => U.block g (M.E.bd hg).2 (by have := (M.E.bd hg).1; omega), M.el, fun i v e hv he => ⟨(M.en i v e hv he).1, (M.en i v e hv he).2.keep fun g hg => U.block g ((M.en i v e hv he).2.bd hg).2 (by have := ((M.en i v e hv he).2.bd hg).1; omega)⟩, M.er, M.X.trans (U.ext (by omega) xs), o1, o2⟩
theorem MS.ext {h0 h h' : Heap} {r q : Nat} {l : List Int} {b : Bool} {m : S_api_Msg} {vs : List S_api_Entry} {es : List Ent} (M : MS h0 h r q l b m vs es) (X : Ext h.size h h') : MS h0 h' r q l b m vs es :=
  M.upd (Upd.of_ext X) (M.R.ext (X.mono M.R.lt))
theorem MS.ents {h0 h : Heap} {r q : Nat} {l : List Int} {b : Bool} {m : S_api_Msg} {vs : List S_api_Entry} {es : List Ent} (M : MS h0 h r q l b m vs es) : m.f_Entries.len = es.length := by
  have := M.E.1
  rw [fm_len (w := 2) (fun x => rfl)] at this
  have := M.el; omega
abbrev zMsg : S_api_Msg := ⟨0, 0, 0, 0, 0, false, ⟨none, 0, 0⟩, ⟨none, 0, 0⟩⟩
theorem mGet_bad {h0 h : Heap} {r q : Nat} {l : List Int} {b : Bool} {m : S_api_Msg} {vs : List S_api_Entry} {es : List Ent} {k : S_api_Msg × Int → Heap → Prop} (M : MS h0 h r q l b m vs es) (H2 : ∀ h', Ext h0.size h0 h' → k (zMsg, 4) h') : raft_Get_g2 ⟨h0.size, 0, none⟩ ⟨q, 0, none⟩ true k h := by
  unfold raft_Get_g2
  rw [if_pos rfl]
  exact ⟨_, WrsAt.of_blk M.P (by decide), rfl, _, CellsAt.of_blk (M.P.sets_all (vs := S_api_Msg.cs zMsg) rfl), H2 _ (M.X.trans (Ext.sets _ _ _ (Nat.le_refl _)))⟩
/-- the end of a message -/
theorem mGet_j1_ok {h0 h : Heap} {r q : Nat} {l : List Int} {b : Bool} {m : S_api_Msg} {vs : List S_api_Entry} {es : List Ent} {k : S_api_Msg × Int → Heap → Prop} (M : MS h0 h r q l b m vs es)
    (r1 : 0 ≤ m.f_Term ∧ m.f_Term < 18446744073709551616) (r2 : 0 ≤ m.f_Index ∧ m.f_Index < 18446744073709551616) (r3 : 0 ≤ m.f_LogTerm ∧ m.f_LogTerm < 18446744073709551616) (r4 : 0 ≤ m.f_Commit ∧ m.f_Commit < 18446744073709551616)
    (H1 : ∀ snap s h', b = false → l = tx snap → Held h0.size h' (fun h' => MsgAt h' { m with f_Snap := s } vs es snap) → Ext h0.size h0 h' → k ({ m with f_Snap := s }, 0) h') (H2 : ∀ h', Ext h0.size h0 h' → k (zMsg, 4) h') : raft_Get_j1 ⟨h0.size, 0, none⟩ ⟨r, 0, none⟩ ⟨q, 0, none⟩ k h := by
  unfold raft_Get_j1
  have o1 := M.o1
  have o2 := M.o2
  refine raftr_short2 M.R fun v l1 b1 h1 R1 U1 v0 v1 e1 => ?_
  have M1 := M.upd U1 R1
  refine raftr_bytes2 M1.R v0 fun s x l2 b2 h2 R2 U2 Rw xB e2 => ?_
  have M2 := M1.upd U2 R2
  have q1 := M1.Q.lt
  refine ⟨_, by rw [add_mk]; exact M2.Q.wr (by rw [show (S_api_Msg.cs m).length = 8 from rfl]; omega), rfl, ?_⟩
  rw [show (⟨q, 0, none⟩ : Addr).add 7 = ⟨q, 7, none⟩ from by simp]
  have Q3 := M2.Q.set (i := 7) (v := Slc.v s)
  rw [show (S_api_Msg.cs m).set 7 (Slc.v s) = S_api_Msg.cs { m with f_Snap := s } from rfl] at Q3
  have X3 : Ext q h2 (setH h2 ⟨q, 7, none⟩ (Slc.v s)) := Ext.set _ _ (Nat.le_refl _)
  have old : ∀ g, g ≠ q → (setH h2 ⟨q, 7, none⟩ (Slc.v s))[g]? = h2[g]? := fun g hg => setH_other hg
  have M3 : MS h0 (setH h2 ⟨q, 7, none⟩ (Slc.v s)) r q l2 b2 { m with f_Snap := s } vs es :=
    ⟨M2.P.old (old _ (by omega)), M2.R.ext (X3.mono (by omega)), Q3, M2.E.keep fun g hg => old g (by have := (M2.E.bd hg).1; omega), M2.el, fun i v e hv he => ⟨(M2.en i v e hv he).1, (M2.en i v e hv he).2.keep fun g hg => old g (by have := ((M2.en i v e hv he).2.bd hg).1; omega)⟩, M2.er, M2.X.trans (X3.mono (by omega)), o1, o2⟩
  have Rw3 : Row h1.size (setH h2 ⟨q, 7, none⟩ (Slc.v s)) 5 1 s (b8 x) := Rw.keep fun g hg => old g (by have := (Rw.bd hg).1; omega)
  generalize setH h2 ⟨q, 7, none⟩ (Slc.v s) = h3 at *
  obtain ⟨sd, Kd, Sd, sdl, _⟩ := M3.R
  refine ⟨b2, by rw [add_mk, Kd.cell]; rfl, ?_⟩
  cases hb : b2 with
  | true => rw [if_pos rfl]; exact mGet_bad M3 H2
  | false =>
    rw [if_neg (by simp)]
    refine ⟨sd, by rw [Kd.cell]; rfl, ?_⟩
    by_cases hr : l2.length > 0
    · rw [show decide ((sd.len : Int) > 0) = true from by rw [decide_eq_true_eq]; omega]; exact mGet_bad M3 H2
    · rw [show decide ((sd.len : Int) > 0) = false from by rw [decide_eq_false_iff_not]; omega]
      unfold raft_Get_g2
      rw [if_neg (by simp)]
      have l20 : l2 = [] := List.eq_nil_of_length_eq_zero (by omega)
      obtain ⟨c1, p2, p3⟩ := e2 hb
      obtain ⟨c0, p1⟩ := e1 c1
      refine ⟨_, CellsAt.of_blk M3.Q, _, WrsAt.of_blk M3.P (by decide), rfl, _, CellsAt.of_blk (M3.P.sets_all (vs := S_api_Msg.cs { m with f_Snap := s }) rfl), ?_⟩
      have X4 : Ext h0.size h3 (setsH h3 ⟨h0.size, 0, none⟩ 0 (S_api_Msg.cs { m with f_Snap := s })) := Ext.sets _ _ _ (Nat.le_refl _)
      have old4 : ∀ g, g ≠ h0.size → (setsH h3 ⟨h0.size, 0, none⟩ 0 (S_api_Msg.cs { m with f_Snap := s }))[g]? = h3[g]? := fun g hg => setsH_other _ _ hg
      have E4 : Row (q + 1) _ 65 2 m.f_Entries (vs.flatMap S_api_Entry.cs) := M3.E.keep fun g hg => old4 g (by have := (M3.E.bd hg).1; omega)
      have Rw4 : Row h1.size _ 5 1 s (b8 x) := Rw3.keep fun g hg => old4 g (by have := (Rw3.bd hg).1; omega)
      have hvl : m.f_Entries.len = vs.length := by
        have a1 := M.el
        have a2 := M.ents
        omega
      refine H1 x s _ c0 (by rw [p1, p2, l20, tx, p3]; simp) (fun h5 e5 => ?_) (M3.X.trans X4)
      have E5 := E4.keep fun g hg => e5 g (by have := (E4.bd hg).1; omega) (E4.bd hg).2
      have Rw5 := Rw4.keep fun g hg => e5 g (by have := (Rw4.bd hg).1; omega) (Rw4.bd hg).2
      refine ⟨LsAt.of_slc (w := 2) (fun x => rfl) E5.slc hvl (by decide), M3.el, fun i v e hv he => ?_, M3.er, Rw5.slc, Rw5.pb, xB, r1, r2, r3, r4⟩
      obtain ⟨a1, a2⟩ := M3.en i v e hv he
      have a3 : Row (q + 1) _ 5 1 v.f_Cmd (b8 e.2) := a2.keep fun g hg => old4 g (by have := (a2.bd hg).1; omega)
      have a4 := a3.keep fun g hg => e5 g (by have := (a3.bd hg).1; omega) (a3.bd hg).2
      exact ⟨a1, a4.slc, a4.pb⟩
end Go.Q.Yh
namespace Go.Q.Yh
theorem mGet_l3_ok {h0 h : Heap} {r q : Nat} {l : List Int} {b : Bool} {m : S_api_Msg} {n : Int} {k : S_api_Msg × Int → Heap → Prop} (M : MS h0 h r q l b m [] []) (n0 : 0 ≤ n) (n1 : n < 18446744073709551616)
    (r1 : 0 ≤ m.f_Term ∧ m.f_Term < 18446744073709551616) (r2 : 0 ≤ m.f_Index ∧ m.f_Index < 18446744073709551616) (r3 : 0 ≤ m.f_LogTerm ∧ m.f_LogTerm < 18446744073709551616) (r4 : 0 ≤ m.f_Commit ∧ m.f_Commit < 18446744073709551616)
    (H1 : ∀ vs es snap s1 s2 h', b = false → l = es.flatMap entL ++ tx snap → n = (es.length : Int) → Held h0.size h' (fun h' => MsgAt h' { m with f_Entries := s1, f_Snap := s2 } vs es snap) → Ext h0.size h0 h' → k ({ m with f_Entries := s1, f_Snap := s2 }, 0) h') (H2 : ∀ h', Ext h0.size h0 h' → k (zMsg, 4) h') :
    raft_Get_l3 ⟨h0.size, 0, none⟩ ⟨r, 0, none⟩ ⟨q, 0, none⟩ n k h := by
  have o1 := M.o1
  have o2 := M.o2
  refine ⟨fun i h' => ∃ (vs : List S_api_Entry) (es : List Ent) (l' : List Int) (b' : Bool) (s : Slc), MS h0 h' r q l' b' { m with f_Entries := s } vs es ∧ 0 ≤ i ∧ i + es.length = n ∧ (b' = false → b = false ∧ l = es.flatMap entL ++ l'), fun i _ => i.toNat, ⟨[], [], l, b, m.f_Entries, M, n0, by simp, fun hb => ⟨hb, rfl⟩⟩, ?_⟩
  rintro i h1 ⟨vs, es, l0, b0, s, M0, i0, ix, ex⟩
  have j1 : ∀ {h5 : Heap} {l5 : List Int} {b5 : Bool}, MS h0 h5 r q l5 b5 { m with f_Entries := s } vs es → (b5 = false → i = 0 ∧ b = false ∧ l = es.flatMap entL ++ l5) → raft_Get_j1 ⟨h0.size, 0, none⟩ ⟨r, 0, none⟩ ⟨q, 0, none⟩ k h5 := fun {h5 l5 b5} M5 h5' => by
    refine mGet_j1_ok M5 r1 r2 r3 r4 (fun snap s2 h' hb hl A X => ?_) H2
    obtain ⟨a1, a2, a3⟩ := h5' hb
    exact H1 vs es snap s s2 h' a2 (by rw [a3, hl]) (by omega) A X
  unfold raft_Get_l3b
  by_cases hi : i > 0
  · rw [if_pos (by simpa using hi)]
    refine raftr_short2 M0.R fun v1 l1 b1 h2 R2 U2 v10 v11 e1 => ?_
    have M2 := M0.upd U2 R2
    have q2 := M2.Q.lt
    have r2' := M2.R.lt
    refine ⟨_, _, rfl, rfl, ?_⟩
    have K := Blk.push h2 (S_api_Entry.cs ⟨0, ⟨none, 0, 0⟩⟩) 65
    have K3 := K.sets_all (vs := S_api_Entry.cs ⟨v1, ⟨none, 0, 0⟩⟩) rfl
    have W3 := (Ext.push h2 (.cells (S_api_Entry.cs ⟨0, ⟨none, 0, 0⟩⟩).toArray 65) (Nat.le_refl _)).trans (Ext.sets _ (a := ⟨h2.size, 0, none⟩) 0 (S_api_Entry.cs ⟨v1, ⟨none, 0, 0⟩⟩) (Nat.le_refl _))
    refine ⟨_, WrsAt.of_blk K (by decide), rfl, ?_⟩
    generalize setsH (h2.push (.cells (S_api_Entry.cs ⟨0, ⟨none, 0, 0⟩⟩).toArray 65)) ⟨h2.size, 0, none⟩ 0 (S_api_Entry.cs ⟨v1, ⟨none, 0, 0⟩⟩) = h3 at *
    have z3 := W3.size
    have kl := K3.lt
    refine raftr_short2 (M2.ext W3).R fun v2 l2 b2 h4 R4 U4 v20 v21 e2 => ?_
    have z4 := U4.size
    have K4 := U4.blk K3 (by omega)
    refine raftr_bytes2 R4 v20 fun s5 x l5 b5 h5 R5 U5 Rw xB e5 => ?_
    have z5 := U5.size
    have K5 := U5.blk K4 (by omega)
    refine ⟨_, by rw [add_mk]; exact K5.wr (by show 0 + 1 < 2; omega), rfl, ?_⟩
    rw [show (⟨h2.size, 0, none⟩ : Addr).add 1 = ⟨h2.size, 1, none⟩ from by simp]
    have K6 := K5.set (i := 1) (v := Slc.v s5)
    rw [show (S_api_Entry.cs ⟨v1, ⟨none, 0, 0⟩⟩).set 1 (Slc.v s5) = S_api_Entry.cs ⟨v1, s5⟩ from rfl] at K6
    have X6 : Ext h2.size h5 (setH h5 ⟨h2.size, 1, none⟩ (Slc.v s5)) := Ext.set _ _ (Nat.le_refl _)
    have Rw6 : Row h4.size (setH h5 ⟨h2.size, 1, none⟩ (Slc.v s5)) 5 1 s5 (b8 x) := Rw.keep fun g hg => setH_other (by have := (Rw.bd hg).1; dsimp only; omega)
    generalize setH h5 ⟨h2.size, 1, none⟩ (Slc.v s5) = h6 at *
    have z6 := X6.size
    have R6 := R5.ext (X6.mono (show r + 1 ≤ h2.size by omega))
    have U26 : Upd r h2 h6 := ((Upd.of_ext W3).trans (U4.trans U5)).fresh X6
    have M6 : MS h0 h6 r q l5 b5 { m with f_Entries := s } vs es := M2.upd U26 R6
    obtain ⟨sd, Kd, _⟩ := R6
    refine ⟨b5, by rw [add_mk, Kd.cell]; rfl, ?_⟩
    cases hb : b5 with
    | true => rw [if_pos rfl]; rw [hb] at M6; exact j1 M6 fun h => by cases h
    | false =>
      rw [if_neg (by simp)]
      obtain ⟨c2, p3, p4⟩ := e5 hb
      obtain ⟨c1, p2⟩ := e2 c2
      obtain ⟨c0, p1⟩ := e1 c1
      obtain ⟨cb, pe⟩ := ex c0
      refine ⟨s, by rw [add_mk, M6.Q.cell]; rfl, ⟨v1, s5⟩, CellsAt.of_blk K6, _, _, rfl, rfl, ?_⟩
      have lens := M6.ents
      have llen := M6.R.len
      have elen : es.length ≤ 1000000 := by
        have hl0 : l.length ≤ 1000000 := M.R.len
        have : ∀ xs : List Ent, xs.length ≤ (xs.flatMap entL).length := fun xs => by
          induction xs with
          | nil => simp
          | cons e xs ih =>
            simp only [List.flatMap_cons, List.length_append, List.length_cons]
            have : 1 ≤ (entL e).length := by
              have : 1 ≤ (shortL e.1).length := by unfold shortL shortF; split <;> simp
              unfold entL; rw [List.length_append]; omega
            omega
        have h1 := this es
        have h2 := congrArg List.length pe
        rw [List.length_append] at h2
        omega
      have ls : s.len = es.length := lens
      refine App.row (M6.E.pushed _) (by simp; omega) rfl rfl (oneC (by kernel_rfl)) (by show (s.len + 1) * 32 ≤ _; omega) (by show s.len + 1 ≤ maxLen; simp only [maxLen]; omega) fun s' h7 R7 l7 z7 F7 _ => ?_
      simp at z7
      have old : ∀ g, g < h6.size → s.blk ≠ some g → h7[g]? = h6[g]? := fun g hg hn => by rw [F7 g (by simp; omega) hn, Array.getElem?_push, if_neg (by omega)]
      have sq : ∀ g, s.blk = some g → q + 1 ≤ g := fun g hg => (M6.E.bd hg).1
      have P7 := M6.P.old (old _ M6.P.lt fun e => by have := sq _ e; omega)
      have Q7 := M6.Q.old (old _ M6.Q.lt fun e => by have := sq _ e; omega)
      have X67 : Ext (q + 1) h6 h7 := ⟨by omega, fun g hg => old g (by have := M6.Q.lt; omega) fun e => by have := sq _ e; omega⟩
      have R7' := M6.R.ext (X67.mono (show r + 1 ≤ q + 1 by omega))
      have c7 : ∀ {t : Slc} {xs : List Value} {C : Nat}, Row C h6 5 1 t xs → Row C h7 5 1 t xs := fun Rt => Rt.keep fun g hg => old g (Rt.bd hg).2 fun e => Rt.ne_row M6.E (by decide) hg e
      refine ⟨_, by rw [add_mk]; exact Q7.wr (by show 0 + 6 < 8; omega), rfl, ?_⟩
      rw [show (⟨q, 0, none⟩ : Addr).add 6 = ⟨q, 6, none⟩ from by simp]
      have Q8 := Q7.set (i := 6) (v := Slc.v s')
      rw [show (S_api_Msg.cs { m with f_Entries := s }).set 6 (Slc.v s') = S_api_Msg.cs { m with f_Entries := s' } from rfl] at Q8
      have old8 : ∀ g, g ≠ q → (setH h7 ⟨q, 6, none⟩ (Slc.v s'))[g]? = h7[g]? := fun g hg => setH_other hg
      have X78 : Ext q h7 (setH h7 ⟨q, 6, none⟩ (Slc.v s')) := Ext.set _ _ (Nat.le_refl _)
      rw [wrapU64 (x := i - 1) (by omega) (by omega)]
      refine ⟨_, rfl, ⟨vs ++ [⟨v1, s5⟩], es ++ [(v1, x)], l5, false, s', ⟨P7.old (old8 _ (by omega)), by rw [← hb]; exact R7'.ext (X78.mono (by omega)), Q8, ?_, by simp [M6.el], fun j v e hv he => ?_, fun e he => ?_, ?_, o1, o2⟩, by omega, by simp; omega, fun _ => ⟨cb, ?_⟩⟩, by show (i - 1).toNat < i.toNat; omega⟩
      · have : Row (q + 1) h7 65 2 s' ((vs ++ [(⟨v1, s5⟩ : S_api_Entry)]).flatMap S_api_Entry.cs) := by simpa using R7
        exact this.keep fun g hg => old8 g (by have := (this.bd hg).1; omega)
      · have fin : ∀ {t : Slc} {xs : List Value}, Row (q + 1) h6 5 1 t xs → Row (q + 1) (setH h7 ⟨q, 6, none⟩ (Slc.v s')) 5 1 t xs := fun Rt => (c7 Rt).keep fun g hg => old8 g (by have := ((c7 Rt).bd hg).1; omega)
        rcases Nat.lt_or_ge j vs.length with hj | hj
        · rw [List.getElem?_append_left hj] at hv
          rw [List.getElem?_append_left (by rw [← M6.el]; exact hj)] at he
          obtain ⟨a1, a2⟩ := M6.en j v e hv he
          exact ⟨a1, fin a2⟩
        · rw [List.getElem?_append_right hj] at hv
          rw [List.getElem?_append_right (by rw [← M6.el]; exact hj), ← M6.el] at he
          have hj2 : j - vs.length = 0 := by
            have := (List.getElem?_eq_some_iff.1 hv).1
            simp at this; omega
          rw [hj2] at hv he
          simp at hv he
          subst hv; subst he
          exact ⟨rfl, fin (Rw6.mono (by omega))⟩
      · rcases List.mem_append.1 he with he | he
        · exact M6.er e he
        · simp at he; subst he; exact ⟨⟨v10, v11⟩, xB⟩
      · exact M6.X.trans ((X67.mono (show h0.size ≤ q + 1 by omega)).trans (X78.mono (by omega)))
      · rw [pe, p1, p2, p3, List.flatMap_append]
        simp only [List.flatMap_cons, List.flatMap_nil, List.append_nil, entL, tx, p4, List.append_assoc]
  · rw [if_neg (by simpa using hi)]
    exact j1 M0 fun hb => ⟨by omega, ex hb⟩
/-- a message is read -/
theorem mGet_ok {p0 : Slc} {l : List Int} {k : S_api_Msg × Int → Heap → Prop} {h : Heap} (hs : SlcAt h p0 (b8 l)) (hl : p0.len = l.length) (hc : p0.len ≤ p0.cap) (hB : isB l) (hz : l.length ≤ 10000)
    (H1 : ∀ m vs es snap h', Held h.size h' (fun h' => MsgAt h' m vs es snap) → MsgSm es snap → 0 ≤ m.f_Kind ∧ m.f_Kind < 256 → l = msgL m es snap → Ext h.size h h' → k (m, 0) h')
    (H2 : ∀ h', Ext h.size h h' → k (zMsg, 4) h') : raft_Get p0 k h := by
  unfold raft_Get
  refine ⟨_, _, rfl, rfl, ?_⟩
  have P := Blk.push h (S_api_Msg.cs zMsg) 26
  have W := Ext.push h (.cells (S_api_Msg.cs zMsg).toArray 26) (Nat.le_refl _)
  obtain ⟨h2, e2⟩ : ∃ y, y = h.push (.cells (S_api_Msg.cs zMsg).toArray 26) := ⟨_, rfl⟩
  rw [← e2] at P W ⊢
  have z2 := W.size
  have pl := P.lt
  refine ⟨_, _, rfl, rfl, ?_⟩
  have K := Blk.push h2 (S_raft_reader.cs ⟨p0, false⟩) 86
  have W3 := Ext.push h2 (.cells (S_raft_reader.cs ⟨p0, false⟩).toArray 86) (Nat.le_refl _)
  obtain ⟨h3, e3⟩ : ∃ y, y = h2.push (.cells (S_raft_reader.cs ⟨p0, false⟩).toArray 86) := ⟨_, rfl⟩
  rw [← e3] at K W3 ⊢
  have z3 := W3.size
  have kl := K.lt
  have P3 := P.ext W3 pl
  have R3 : Rd 86 h3 h2.size l false := ⟨p0, K, fun h' X => ⟨hs.1, fun b hb j w hj => by rw [X.cell (Nat.lt_of_lt_of_le (cellH_lt (hs.2 b hb j w hj)) z2), ← hs.2 b hb j w hj]; exact ((W.trans (W3.mono z2)).cell (cellH_lt (hs.2 b hb j w hj)))⟩, hl, hc, hB, by omega⟩
  refine raftr_byte2 R3 fun v1 l1 b1 h4 R4 U4 v10 v11 e4 => ?_
  have z4 := U4.size
  refine raftr_short2 R4 fun n1 l2 b2 h5 R5 U5 n10 n11 e5 => ?_
  have z5 := U5.size
  refine raftr_short2 R5 fun n2 l3 b3 h6 R6 U6 n20 n21 e6 => ?_
  have z6 := U6.size
  refine raftr_short2 R6 fun n3 l4 b4 h7 R7 U7 n30 n31 e7 => ?_
  have z7 := U7.size
  refine raftr_short2 R7 fun n4 l5 b5 h8 R8 U8 n40 n41 e8 => ?_
  have z8 := U8.size
  rw [wrapI64 (x := v1) (by omega) (by omega)]
  refine ⟨_, _, rfl, rfl, ?_⟩
  have Q := Blk.push h8 (S_api_Msg.cs zMsg) 26
  have Q2 := Q.sets_all (vs := S_api_Msg.cs ⟨v1, n1, n2, n3, n4, false, ⟨none, 0, 0⟩, ⟨none, 0, 0⟩⟩) rfl
  have W9 := (Ext.push h8 (.cells (S_api_Msg.cs zMsg).toArray 26) (Nat.le_refl _)).trans (Ext.sets _ (a := ⟨h8.size, 0, none⟩) 0 (S_api_Msg.cs ⟨v1, n1, n2, n3, n4, false, ⟨none, 0, 0⟩, ⟨none, 0, 0⟩⟩) (Nat.le_refl _))
  refine ⟨_, WrsAt.of_blk Q (by decide), rfl, ?_⟩
  generalize setsH (h8.push (.cells (S_api_Msg.cs zMsg).toArray 26)) ⟨h8.size, 0, none⟩ 0 (S_api_Msg.cs ⟨v1, n1, n2, n3, n4, false, ⟨none, 0, 0⟩, ⟨none, 0, 0⟩⟩) = h9 at *
  have z9 := W9.size
  have ql := Q2.lt
  refine raftr_byte2 (R8.ext (W9.mono (by omega))) fun y l6 b6 h10 R10 U10 y0 y1 e10 => ?_
  have z10 := U10.size
  have Q10 := U10.blk Q2 (by omega)
  refine ⟨_, by rw [add_mk]; exact Q10.wr (by show 0 + 5 < 8; omega), rfl, ?_⟩
  rw [show (⟨h8.size, 0, none⟩ : Addr).add 5 = ⟨h8.size, 5, none⟩ from by simp]
  have Q11 := Q10.set (i := 5) (v := .bool (y == 1))
  rw [show (S_api_Msg.cs ⟨v1, n1, n2, n3, n4, false, ⟨none, 0, 0⟩, ⟨none, 0, 0⟩⟩).set 5 (.bool (y == 1)) = S_api_Msg.cs ⟨v1, n1, n2, n3, n4, y == 1, ⟨none, 0, 0⟩, ⟨none, 0, 0⟩⟩ from rfl] at Q11
  have X11 : Ext h8.size h10 (setH h10 ⟨h8.size, 5, none⟩ (.bool (y == 1))) := Ext.set _ _ (Nat.le_refl _)
  generalize setH h10 ⟨h8.size, 5, none⟩ (.bool (y == 1)) = h11 at *
  have z11 := X11.size
  have R11 := R10.ext (X11.mono (show h2.size + 1 ≤ h8.size by omega))
  obtain ⟨sd, Kd, Sd, sdl, sdc, sdB, sdz⟩ := R11
  refine ⟨b6, by rw [add_mk, Kd.cell]; rfl, _, by rw [add_mk]; exact Kd.wr (by simp), rfl, ?_⟩
  rw [show (⟨h2.size, 0, none⟩ : Addr).add 1 = ⟨h2.size, 1, none⟩ from by simp]
  have Kd2 := Kd.set (i := 1) (v := .bool (b6 || decide (y > 1)))
  have U12 : Upd h2.size h11 (setH h11 ⟨h2.size, 1, none⟩ (.bool (b6 || decide (y > 1)))) := ⟨by rw [setH_size]; exact Nat.le_refl _, fun j hj hne => setH_other (by simpa using hne)⟩
  generalize setH h11 ⟨h2.size, 1, none⟩ (.bool (b6 || decide (y > 1))) = h12 at *
  have z12 := U12.size
  have R12 : Rd 86 h12 h2.size l6 (b6 || decide (y > 1)) := ⟨sd, Kd2, fun h' X => Sd h' ((U12.ext (Nat.le_refl _) (by omega)).trans X), sdl, sdc, sdB, sdz⟩
  refine raftr_short2 R12 fun n5 l7 b7 h13 R13 U13 n50 n51 e13 => ?_
  have z13 := U13.size
  have U39 : Upd h2.size h3 h9 := (U4.trans (U5.trans (U6.trans (U7.trans U8)))).fresh (W9.mono (by omega))
  have U313 : Upd h2.size h3 h13 := (((U39.trans U10).fresh (X11.mono (by omega))).trans U12).trans U13
  have Q13 := U13.blk (U12.blk Q11 (by omega)) (by omega)
  have P13 := U313.blk P3 (by omega)
  have M : MS h h13 h2.size h8.size l7 b7 ⟨v1, n1, n2, n3, n4, y == 1, ⟨none, 0, 0⟩, ⟨none, 0, 0⟩⟩ [] [] :=
    ⟨P13, R13, Q13, Row.nil _ _ _ _, rfl, by simp, by simp, (W.trans (W3.mono z2)).trans (U313.ext (by omega) (by omega)), by omega, by omega⟩
  refine mGet_l3_ok M n50 n51 ⟨n10, n11⟩ ⟨n20, n21⟩ ⟨n30, n31⟩ ⟨n40, n41⟩ (fun vs es snap s1 s2 h' hb el hn A X => ?_) H2
  obtain ⟨c12, q13⟩ := e13 hb
  have c6 : b6 = false ∧ ¬ (y > 1) := by
    rw [Bool.or_eq_false_iff, decide_eq_false_iff_not] at c12
    exact c12
  obtain ⟨c5, q10⟩ := e10 c6.1
  obtain ⟨c4, q8⟩ := e8 c5
  obtain ⟨c3, q7⟩ := e7 c4
  obtain ⟨c2, q6⟩ := e6 c3
  obtain ⟨c1, q5⟩ := e5 c2
  obtain ⟨_, q4⟩ := e4 c1
  have hy : (if (y == 1) = true then (1 : Int) else 0) = y := by
    by_cases h1 : y = 1
    · rw [if_pos (by simpa using h1)]; omega
    · rw [if_neg (by simpa using h1)]; omega
  have fl : l = msgL ⟨v1, n1, n2, n3, n4, y == 1, s1, s2⟩ es snap := by
    rw [q4, q5, q6, q7, q8, q10, q13, el, hn, msgL]
    dsimp only
    rw [hy, show v1 % 256 = v1 from by omega]
    simp only [List.append_assoc]
  have sm : MsgSm es snap := by
    have hlen := congrArg List.length fl
    unfold msgL at hlen
    simp only [List.length_append, List.length_cons, List.length_nil] at hlen
    have hx : (tx snap).length ≥ snap.length := by rw [tx, List.length_append]; omega
    have he : ∀ xs : List Ent, xs.length ≤ (xs.flatMap entL).length ∧ ∀ e ∈ xs, e.2.length ≤ (xs.flatMap entL).length := fun xs => by
      induction xs with
      | nil => simp
      | cons e xs ih =>
        have h1 : 1 ≤ (shortL e.1).length := by unfold shortL shortF; split <;> simp
        have h2 : (entL e).length = (shortL e.1).length + (tx e.2).length := by rw [entL, List.length_append]
        have h3 : (tx e.2).length ≥ e.2.length := by rw [tx, List.length_append]; omega
        simp only [List.flatMap_cons, List.length_append, List.length_cons]
        refine ⟨by omega, fun f hf => ?_⟩
        rcases List.mem_cons.1 hf with rfl | hf
        · omega
        · have := ih.2 f hf; omega
    have := he es
    exact ⟨by omega, fun e h => by have := this.2 e h; omega, by omega⟩
  exact H1 _ vs es snap h' A sm ⟨v10, v11⟩ fl X
end Go.Q.Yh
set_option linter.unusedVariables false
set_option linter.unusedSimpArgs false
set_option maxRecDepth 100000
namespace Go.Q.Yh
theorem RShort_ok {n : Int} {k : Slc → Heap → Prop} {h : Heap} (n0 : 0 ≤ n) (n1 : n < 18446744073709551616) (H : ∀ s' h', Row h.size h' 5 1 s' (b8 (shortL n)) → Ext h.size h h' → k s' h') : ref01_Short n k h := by
  unfold ref01_Short
  refine ⟨fun q h' => ∃ (cur : List Int) (f : Nat), Row h.size h' 5 1 q.2 (b8 cur) ∧ cur ++ shortF f q.1 = shortL n ∧ 0 ≤ q.1 ∧ q.1 < 128 ^ f ∧ 1 ≤ f ∧ f ≤ 10 ∧ cur.length + f ≤ 10 ∧ Ext h.size h h', fun q _ => q.1.toNat, ⟨[], 10, Row.nil _ _ _ _, rfl, n0, by simp only; omega, by omega, by omega, by simp, Ext.refl _ _⟩, ?_⟩
  rintro m s h2 ⟨cur, f, R, hc, m0, m1, f1, f10, lc, X⟩
  dsimp only at R hc m0 m1
  have z := X.size
  obtain ⟨f, rfl⟩ : ∃ g, f = g + 1 := ⟨f - 1, by omega⟩
  unfold ref01_Short_l1b
  have e1 : m.tmod 128 = m % 128 := by rw [Int.tmod_eq_emod_of_nonneg m0]
  have e2 : m.tdiv 128 = m / 128 := by rw [Int.tdiv_eq_ediv_of_nonneg m0]
  have m64 : m < 1180591620717411303424 := by
    have : (128 : Int) ^ (f + 1) ≤ 128 ^ 10 := by
      have h1 : (128 : Nat) ^ (f + 1) ≤ 128 ^ 10 := Nat.pow_le_pow_right (by omega) f10
      exact_mod_cast h1
    have h2 : (128 : Int) ^ 10 = 1180591620717411303424 := by decide
    omega
  by_cases hm : m ≥ 128
  · rw [if_pos (by simpa using hm), e1, e2, wrapU8 (x := m % 128) (by omega) (by omega), wrapU8 (by omega) (by omega)]
    refine ⟨_, _, rfl, rfl, ?_⟩
    have hf : 1 ≤ f := by
      rcases Nat.eq_zero_or_pos f with h0 | h0
      · subst h0; simp at m1; omega
      · exact h0
    refine AppB (m := [m % 128 + 128]) (R.pushed _) (by simp; omega) rfl (by simp; omega) fun s' h3 R3 X3 => ?_
    have hlt : m / 128 < 128 ^ f := Int.ediv_lt_of_lt_mul (by omega) (by rw [Int.pow_succ] at m1; exact m1)
    have hw : IntKind.u64.wrap (m / 128) = m / 128 := wrapU64 (by omega) (by
      have : m / 128 < 18446744073709551616 := by omega
      exact this)
    rw [hw]
    refine ⟨_, rfl, ⟨_, f, R3, ?_, by dsimp only; omega, hlt, hf, by omega, by simp; omega, X.trans ((Ext.push h2 _ z).trans X3)⟩, by dsimp only; omega⟩
    dsimp only
    rw [← hc, shortF, if_neg (by omega)]
    simp
  · rw [if_neg (by simpa using hm), wU8, show m % 256 = m from by omega]
    refine ⟨_, _, rfl, rfl, ?_⟩
    refine AppB (m := [m]) (R.pushed _) (by simp; omega) rfl (by simp; omega) fun s' h3 R3 X3 => ?_
    refine H s' h3 ?_ (X.trans ((Ext.push h2 _ z).trans X3))
    rw [← hc, shortF, if_pos (by omega)]
    exact R3
/-- bytes that grow, over a ground g that stays -/
structure Ac (g h : Heap) (s : Slc) (l : List Int) : Prop where
  X : Ext g.size g h
  R : Row g.size h 5 1 s (b8 l)
abbrev Nxt (g : Heap) (l out : List Int) (c : Nat) (k : Slc → Heap → Prop) : Prop := ∀ s' h' l', l' = l ++ out → l'.length ≤ l.length + c → Ac g h' s' l' → k s' h'
section
variable {g h : Heap} {s : Slc} {l : List Int} {k : Slc → Heap → Prop}
theorem Ac.app (M : Ac g h s l) {v : List Int} {n c : Nat} (hn : n = v.length) (hc : v.length ≤ c) (hl : l.length + v.length ≤ 70368744177664) (H : Nxt g l v c k) : App 5 1 1 [.int .u8 0] h s n (b8 v) k :=
  AppB M.R M.X.size hn hl fun s' h' R' X' => H s' h' _ rfl (by rw [List.length_append]; omega) ⟨M.X.trans X', R'⟩
theorem Ac.ext {h' : Heap} (M : Ac g h s l) (X : Ext h.size h h') : Ac g h' s l := ⟨M.X.trans (X.mono M.X.size), M.R.ext X fun g hg => (M.R.bd hg).2⟩
theorem Ac.bytes (M : Ac g h s l) {t : Slc} {v : List Int} {c : Nat} (ht : SlcAt h t (b8 v)) (hn : t.len = v.length) (hc : v.length ≤ c) (hl : l.length + v.length ≤ 70368744177664) (H : Nxt g l v c k) : ∃ w, SlcAt h t w ∧ App 5 1 1 [.int .u8 0] h s t.len w k :=
  ⟨_, ht, M.app hn hc hl H⟩
theorem Ac.row (M : Ac g h s l) {t : Slc} {v : List Int} {h1 : Heap} {c : Nat} (hR : Row h.size h1 5 1 t (b8 v)) (hX : Ext h.size h h1) (hc : v.length ≤ c) (hl : l.length + v.length ≤ 70368744177664) (H : Nxt g l v c k) : ∃ w, SlcAt h1 t w ∧ App 5 1 1 [.int .u8 0] h1 s t.len w k :=
  (M.ext hX).bytes hR.slc hR.pb hc hl H
theorem Ac.short (M : Ac g h s l) {n : Int} (n0 : 0 ≤ n) (n1 : n < 18446744073709551616) (hl : l.length ≤ 4398046511104) (H : Nxt g l (shortL n) 10 k) : ref01_Short n (fun r h' => ∃ w, SlcAt h' r w ∧ App 5 1 1 [.int .u8 0] h' s r.len w k) h :=
  RShort_ok n0 n1 fun r h1 R1 X1 => M.row R1 X1 (shortL_len n) (by have := shortL_len n; omega) H
theorem Ac.one (M : Ac g h s l) {v : Int} (hl : l.length ≤ 4398046511104) (H : Nxt g l [v] 1 k) : ∃ (b : Nat) (h' : Heap), b = h.size ∧ h' = h.push (.cells ([.int .u8 v] : List Value).toArray 5) ∧ App 5 1 1 [.int .u8 0] h' s 1 ([.int .u8 v]) k :=
  ⟨_, _, rfl, rfl, (M.ext (Ext.push _ _ (Nat.le_refl _))).app (v := [v]) rfl (by simp) (by simp; omega) H⟩
end
end Go.Q.Yh
namespace Go.Q.Yh
theorem take_snoc {α : Type} {xs : List α} {i : Nat} {x : α} (h : xs[i]? = some x) : xs.take (i + 1) = xs.take i ++ [x] := by
  rw [List.take_add_one, h]; rfl
section
variable {g h : Heap} {s : Slc} {k : Slc → Heap → Prop} {pre : List Int}
theorem RMsg_l2_ok {b : Nat} {m : S_api_Msg} {vs : List S_api_Entry} {es : List Ent} {snap : List Int} (A : MsgAt g m vs es snap) (S : MsgSm es snap) (P : Blk g b (S_api_Msg.cs m) 26) (M : Ac g h s pre) (hp : pre.length ≤ 1000)
    (H : ∀ s' h', Ac g h' s' (pre ++ es.flatMap entL ++ tx snap) → k s' h') : ref26_Form_l2 ⟨b, 0, none⟩ s 0 k h := by
  have al := A.ls.l
  have el := A.el
  have sn := S.n
  have ss := S.s
  refine ⟨fun q h' => ∃ l', Ac g h' q.1 l' ∧ 0 ≤ q.2 ∧ q.2 ≤ es.length ∧ l' = pre ++ (es.take q.2.toNat).flatMap entL ∧ l'.length ≤ pre.length + q.2.toNat * 10020, fun q _ => (es.length - q.2).toNat, ⟨pre, M, by simp, by simp, by simp, by simp⟩, ?_⟩
  rintro s1 i h1 ⟨l1, M1, i0, i1, e1, n1⟩
  dsimp only at M1 i0 i1 e1 n1
  have C : ∀ {h' : Heap} {i : Nat} {v : Value}, Ext g.size g h' → (S_api_Msg.cs m)[i]? = some v → cellH h' ((⟨b, 0, none⟩ : Addr).add i) = some v := fun X hv => by rw [add_mk, (P.ext X P.lt).cell, Nat.zero_add]; exact hv
  unfold ref26_Form_l2b
  refine ⟨m.f_Entries, C M1.X rfl, ?_⟩
  by_cases hi : i < es.length
  · rw [if_pos (by rw [decide_eq_true_eq]; omega)]
    have hx : es[i.toNat]? = some (es[i.toNat]'(by omega)) := by simp
    have hv : vs[i.toNat]? = some (vs[i.toNat]'(by omega)) := by simp
    have hm := List.mem_of_getElem? hx
    have er := A.er _ hm
    have es' := S.e _ hm
    obtain ⟨a, ha, CA⟩ := A.ls.at' _ _ hv
    obtain ⟨t1, t2, t3⟩ := A.en _ _ _ hv hx
    generalize es[i.toNat]'(by omega) = e at *
    generalize vs[i.toNat]'(by omega) = v at *
    refine ⟨_, C M1.X rfl, a, ha, i0, by omega, v.f_Term, (CA.ext M1.X) 0 (.int .u64 v.f_Term) rfl, ?_⟩
    rw [t1]
    refine M1.short er.1.1 er.1.2 (by omega) fun s2 h2 l2 e2 n2 M2 => ?_
    refine ⟨_, C M2.X rfl, a, ha, i0, by omega, v.f_Cmd, (CA.ext M2.X) 1 (Slc.v v.f_Cmd) rfl, ?_⟩
    rw [t3, wrapU64 (by omega) (by omega)]
    refine M2.short (by omega) (by omega) (by omega) fun s3 h3 l3 e3 n3 M3 => ?_
    refine ⟨_, C M3.X rfl, a, ha, i0, by omega, v.f_Cmd, (CA.ext M3.X) 1 (Slc.v v.f_Cmd) rfl, ?_⟩
    refine M3.bytes (t2.ext M3.X) t3 (c := 10000) (by omega) (by omega) fun s4 h4 l4 e4 n4 M4 => ?_
    rw [wrapI64 (by omega) (by omega)]
    refine ⟨_, rfl, ⟨l4, M4, by dsimp only; omega, by dsimp only; omega, ?_, by dsimp only; omega⟩, by dsimp only; omega⟩
    dsimp only
    rw [show (i + 1).toNat = i.toNat + 1 from by omega, take_snoc hx, List.flatMap_append, e4, e3, e2, e1]
    simp only [List.flatMap_cons, List.flatMap_nil, entL, tx, List.append_assoc, List.append_nil]
  · rw [if_neg (by rw [decide_eq_true_eq]; omega)]
    refine ⟨_, C M1.X rfl, ?_⟩
    rw [A.sl, wrapU64 (by omega) (by omega)]
    refine M1.short (by omega) (by omega) (by omega) fun s2 h2 l2 e2 n2 M2 => ?_
    refine ⟨_, C M2.X rfl, ?_⟩
    refine M2.bytes (A.ss.ext M2.X) A.sl (c := 10000) (by omega) (by omega) fun s3 h3 l3 e3 n3 M3 => ?_
    have : l3 = pre ++ es.flatMap entL ++ tx snap := by
      rw [e3, e2, e1, List.take_of_length_le (by omega), tx]; simp only [List.append_assoc]
    rw [this] at M3
    exact H _ _ M3
end
theorem RMsg_ok {m : S_api_Msg} {vs : List S_api_Entry} {es : List Ent} {snap : List Int} {k : Slc → Heap → Prop} {h : Heap} (A : MsgAt h m vs es snap) (S : MsgSm es snap) (H : Lays' h (msgL m es snap) k) : ref26_Form m k h := by
  unfold ref26_Form
  refine ⟨_, _, rfl, rfl, ?_⟩
  have P := Blk.push h (S_api_Msg.cs m) 26
  have W := Ext.push h (.cells (S_api_Msg.cs m).toArray 26) (Nat.le_refl _)
  obtain ⟨h2, e2⟩ : ∃ y, y = h.push (.cells (S_api_Msg.cs m).toArray 26) := ⟨_, rfl⟩
  rw [← e2] at P W ⊢
  have pl := P.lt
  have A2 := A.ext W
  have z2 := W.size
  have C : ∀ {h' : Heap} {i : Nat} {v : Value}, Ext h2.size h2 h' → (S_api_Msg.cs m)[i]? = some v → cellH h' ((⟨h.size, 0, none⟩ : Addr).add i) = some v := fun X hv => by rw [add_mk, (P.ext X pl).cell, Nat.zero_add]; exact hv
  refine ⟨_, by rw [P.cell]; rfl, _, _, rfl, rfl, ?_⟩
  have Q := Blk.push h2 (b8 [m.f_Kind % 256]) 5
  have W3 := Ext.push h2 (.cells (b8 [m.f_Kind % 256]).toArray 5) (Nat.le_refl _)
  rw [wU8]
  obtain ⟨h3, e3⟩ : ∃ y, y = h2.push (.cells (b8 [m.f_Kind % 256]).toArray 5) := ⟨_, rfl⟩
  rw [show (Value.int .u8 (m.f_Kind % 256)) :: [] = b8 [m.f_Kind % 256] from rfl, ← e3]
  rw [← e3] at Q W3
  have M3 : Ac h2 h3 ⟨some ⟨h2.size, 0, none⟩, 1, 1⟩ [m.f_Kind % 256] := ⟨W3, Row.of_blk (zs := []) (by simpa using Q) (Nat.le_refl _) rfl rfl (by simp [maxLen])⟩
  have n3 : ([m.f_Kind % 256] : List Int).length = 1 := rfl
  generalize e3' : [m.f_Kind % 256] = l3 at *
  refine ⟨_, C M3.X rfl, M3.short A.r1.1 A.r1.2 (by omega) fun s4 h4 l4 e4 n4 M4 => ?_⟩
  refine ⟨_, C M4.X rfl, M4.short A.r2.1 A.r2.2 (by omega) fun s5 h5 l5 e5 n5 M5 => ?_⟩
  refine ⟨_, C M5.X rfl, M5.short A.r3.1 A.r3.2 (by omega) fun s6 h6 l6 e6 n6 M6 => ?_⟩
  refine ⟨_, C M6.X rfl, M6.short A.r4.1 A.r4.2 (by omega) fun s7 h7 l7 e7 n7 M7 => ?_⟩
  refine ⟨m.f_Yes, C M7.X rfl, ?_⟩
  have fin : ∀ {s8 : Slc} {h8 : Heap} {l8 : List Int}, l8 = l7 ++ [if m.f_Yes then 1 else 0] → l8.length ≤ l7.length + 1 → Ac h2 h8 s8 l8 → ref26_Form_j1 ⟨h.size, 0, none⟩ s8 k h8 := fun {s8 h8 l8} e8 n8 M8 => by
    unfold ref26_Form_j1
    refine ⟨_, C M8.X rfl, ?_⟩
    have l1 := A.ls.l
    have l2 := A.el
    have l3 := S.n
    rw [show m.f_Entries.len = es.length from by omega, wrapU64 (by omega) (by omega)]
    refine M8.short (by omega) (by omega) (by omega) fun s9 h9 l9 e9 n9 M9 => ?_
    refine RMsg_l2_ok A2 S P M9 (by omega) fun s10 h10 M10 => ?_
    refine H s10 h10 ?_ (W.trans (M10.X.mono z2))
    have : l9 ++ es.flatMap entL ++ tx snap = msgL m es snap := by
      rw [e9, e8, e7, e6, e5, e4, ← e3', msgL]
    rw [← this]; exact M10.R.mono z2
  cases hy : m.f_Yes with
  | true => rw [if_pos rfl]; exact M7.one (by omega) fun s8 h8 l8 e8 n8 M8 => fin (by rw [hy]; exact e8) n8 M8
  | false => rw [if_neg (by simp)]; exact M7.one (by omega) fun s8 h8 l8 e8 n8 M8 => fin (by rw [hy]; exact e8) n8 M8
section
end
end Go.Q.Yh
namespace Go.Q.Yh
/-! ### what is known to be a form is read -/
theorem short_split : ∀ (f : Nat) (n : Int), 0 ≤ n → n < 128 ^ f → 0 < f → ∃ q c, shortF f n = q ++ [c] ∧ (∀ b ∈ q, 128 ≤ b ∧ b < 256) ∧ (0 ≤ c ∧ c < 128) ∧ (q ≠ [] → c ≠ 0) ∧ q.length < f ∧ n = valS q + c * 128 ^ q.length
  | 0, n, _, _, h => by omega
  | f + 1, n, h0, h1, _ => by
    by_cases hn : n < 128
    · exact ⟨[], n, by unfold shortF; rw [if_pos hn]; rfl, by simp, by omega, by simp, by simp, by simp [valS]⟩
    · rw [Int.pow_succ] at h1
      have hf : 0 < f := by
        rcases Nat.eq_zero_or_pos f with rfl | h
        · simp at h1; omega
        · exact h
      obtain ⟨q, c, e, hq, hc, hz, hl, hv⟩ := short_split f (n / 128) (by omega) (Int.ediv_lt_of_lt_mul (by omega) h1) hf
      refine ⟨(n % 128 + 128) :: q, c, by unfold shortF; rw [if_neg hn, e]; rfl, fun b hb => ?_, hc, fun _ => ?_, by simp; omega, ?_⟩
      · rcases List.mem_cons.1 hb with rfl | hb
        · omega
        · exact hq b hb
      · cases q with
        | nil => simp [valS] at hv; omega
        | cons x r => exact hz (by simp)
      · simp only [valS, List.length_cons, Int.pow_succ]
        rw [← Int.mul_assoc c]
        generalize c * 128 ^ q.length = Q at *
        omega
theorem GetShort_ok3 {s : Slc} {v : Int} {l' : List Int} {k : Int × Int × Int → Heap → Prop} {h : Heap} (hs : SlcAt h s (b8 (shortL v ++ l'))) (hl : s.len = (shortL v ++ l').length) (hz : l'.length ≤ 4611686018427387904) (v0 : 0 ≤ v) (v1 : v < 18446744073709551616)
    (H1 : k (v, ((shortL v).length : Int), 0) h) : num_GetShort s k h := by
  obtain ⟨q, c, eq, hq, hc, hz2, hl2, hv⟩ := short_split 10 v v0 (by have : (128 : Int) ^ 10 = 1180591620717411303424 := by decide
                                                                     omega) (by omega)
  have esl : shortL v = q ++ [c] := eq
  have c9 : q.length = 9 → c ≤ 1 := fun h9 => by
    have := (valS_bd hq).1
    rw [h9, show (128 : Int) ^ 9 = 9223372036854775808 from by decide] at hv
    omega
  rw [esl] at hs hl H1
  unfold num_GetShort
  refine ⟨fun st h' => ∃ p r, q = p ++ r ∧ st.2 = (p.length : Int) ∧ st.1 = valS p ∧ h' = h, fun st _ => (10 - st.2).toNat, ⟨[], q, rfl, by simp, rfl, rfl⟩, ?_⟩
  rintro n i h' ⟨p, r, e, hi, hn, hh⟩
  dsimp only at hi hn
  subst hh
  subst hi; subst hn
  unfold num_GetShort_l1b
  have hql : q.length = p.length + r.length := by rw [e, List.length_append]
  have hp : ∀ b ∈ p, 128 ≤ b ∧ b < 256 := fun b hb => hq b (by rw [e]; exact List.mem_append_left _ hb)
  simp only [List.length_append, List.length_cons, List.length_nil] at hl
  rw [if_pos (by rw [decide_eq_true_eq]; omega)]
  have vb := valS_bd hp
  cases r with
  | cons b r' =>
    simp at hql
    have hb : (q ++ [c] ++ l')[p.length]? = some b := by rw [e]; simp
    have bb := hq b (by rw [e]; simp)
    obtain ⟨a, ha, hcell⟩ := slc_get hs (i := p.length) (v := .int .u8 b) (by rw [List.getElem?_map, hb]; rfl)
    refine ⟨a, ha, by omega, by omega, b, by rw [Int.toNat_natCast, Nat.mul_one]; exact hcell, ?_⟩
    rw [if_neg (by
      simp only [Bool.and_eq_true, beq_iff_eq, decide_eq_true_eq]
      rintro ⟨h1, h2⟩; omega)]
    rw [wrapU64 (x := (p.length : Int)) (by omega) (by omega), wrapU64 (x := 7 * (p.length : Int)) (by omega) (by omega), and127 (by omega), wrapU64 (x := b % 128) (by omega) (by omega), show (7 * (p.length : Int)).toNat = 7 * p.length from by omega]
    obtain ⟨o1, o2, o3⟩ := or_shift (n := valS p) (c := b % 128) (i := p.length) (by omega) vb.1 vb.2 (by omega) (by omega) (fun h => by omega)
    rw [o1, wrapI64 (by omega) (by omega)]
    refine ⟨by omega, _, rfl, ?_⟩
    rw [if_pos (by rw [decide_eq_true_eq]; omega)]
    refine ⟨⟨p ++ [b], r', by rw [e]; simp, by simp, ?_, rfl⟩, by dsimp only; omega⟩
    dsimp only
    rw [valS_snoc, show b % 128 = b - 128 from by omega]
  | nil =>
    simp at e
    subst e
    have hb : (q ++ [c] ++ l')[q.length]? = some c := by simp
    obtain ⟨a, ha, hcell⟩ := slc_get hs (i := q.length) (v := .int .u8 c) (by rw [List.getElem?_map, hb]; rfl)
    refine ⟨a, ha, by omega, by omega, c, by rw [Int.toNat_natCast, Nat.mul_one]; exact hcell, ?_⟩
    rw [if_neg (by
      simp only [Bool.and_eq_true, beq_iff_eq, decide_eq_true_eq]
      rintro ⟨h1, h2⟩; have := c9 (by omega); omega)]
    rw [wrapU64 (x := (q.length : Int)) (by omega) (by omega), wrapU64 (x := 7 * (q.length : Int)) (by omega) (by omega), and127 (by omega), wrapU64 (x := c % 128) (by omega) (by omega), show (7 * (q.length : Int)).toNat = 7 * q.length from by omega]
    obtain ⟨o1, o2, o3⟩ := or_shift (n := valS q) (c := c % 128) (i := q.length) (by omega) vb.1 vb.2 (by omega) (by omega) (fun h => by have := c9 h; omega)
    rw [o1, wrapI64 (by omega) (by omega)]
    refine ⟨by omega, _, rfl, ?_⟩
    rw [if_neg (by rw [decide_eq_true_eq]; omega)]
    rw [if_neg (by
      simp only [Bool.and_eq_true, beq_iff_eq, decide_eq_true_eq]
      rintro ⟨h1, h2⟩; exact hz2 (fun h0 => by rw [h0] at h2; simp at h2) h1)]
    rw [show c % 128 = c from by omega] at o2 o3 ⊢
    refine ⟨_, rfl, ?_⟩
    rw [← hv]
    simpa using H1
section
variable {h : Heap} {r : Nat} {l' : List Int}
end
end Go.Q.Yh
set_option linter.unusedVariables false
set_option linter.unusedSimpArgs false
set_option maxRecDepth 100000
/- Readers, forth. -/
namespace Go.Q.Yh
section
variable {h : Heap} {r : Nat} {l : List Int}
theorem raftr_bytes_f {n : Int} {k : Slc → Heap → Prop} (R : Rd 86 h r l false) (n0 : 0 ≤ n) (nl : n ≤ l.length)
    (H1 : ∀ s' h', Rd 86 h' r (l.drop n.toNat) false → Upd r h h' → Row h.size h' 5 1 s' (b8 (l.take n.toNat)) → k s' h') : raft_reader_bytes (some ⟨r, 0, none⟩) n k h := by
  obtain ⟨s, K, S, sl, sc, hB, hz⟩ := R
  unfold raft_reader_bytes
  refine ⟨_, rfl, false, by rw [add_mk, K.cell]; rfl, ?_⟩
  · skip
    rw [if_neg (by simp)]
    refine ⟨s, by rw [K.cell]; rfl, ?_⟩
    rw [wrapU64 (x := (s.len : Int)) (by omega) (by omega)]
    have hn : ¬ n > s.len := by omega
    · rw [show decide (n > (s.len : Int)) = false from by simpa using hn]
      unfold raft_reader_bytes_g1
      rw [if_neg (by simp)]
      refine ⟨_, rfl, s, by rw [K.cell]; rfl, _, by omega, n0, by omega, by omega, rfl, ?_⟩
      have T := (S h (Ext.refl _ _)).sub (w := 1) (l := (0 : Int).toNat) (u := n.toNat) (m := (s.cap : Int).toNat) (by omega) (by omega)
      rw [show (0 : Int).toNat * 1 = 0 from rfl, List.drop_zero, show (n.toNat - (0 : Int).toNat) * 1 = n.toNat from by simp, ← List.map_take] at T
      refine Clone_ok (by rw [subS_len, List.length_take]; omega) T (by rw [List.length_take]; omega) fun s1 h1 R1 X1 => ?_
      have z1 := X1.size
      have kl := K.lt
      have K1 := K.ext X1 kl
      refine ⟨s, by rw [K1.cell]; rfl, _, n0, by omega, by omega, by omega, rfl, _, K1.wr (by simp), rfl, ?_⟩
      have K2 := K1.set (i := 0) (v := Slc.v (subS s 1 n.toNat (s.len : Int).toNat (s.cap : Int).toNat))
      have U : Upd r h1 (setH h1 ⟨r, 0, none⟩ (Slc.v (subS s 1 n.toNat (s.len : Int).toNat (s.cap : Int).toNat))) := ⟨by rw [setH_size]; exact Nat.le_refl _, fun j hj hne => setH_other (by simpa using hne)⟩
      have UU := (Upd.of_ext (b := r) X1).trans U
      have X := UU.ext (B := r) (Nat.le_refl _) (Nat.le_of_lt kl)
      refine H1 _ _ ⟨_, K2, fun h2 Y => ?_, by rw [subS_len, List.length_drop]; omega, by rw [subS_len, subS_cap]; omega, isB_drop hB _, by rw [List.length_drop]; omega⟩ UU (R1.keep fun g hg => U.block g (R1.bd hg).2 (by have := (R1.bd hg).1; omega))
      have := (S h2 (X.trans Y)).sub (w := 1) (l := n.toNat) (u := (s.len : Int).toNat) (m := (s.cap : Int).toNat) (by omega) (by omega)
      rw [Nat.mul_one, Nat.mul_one, ← List.map_drop, List.take_of_length_le (by rw [List.length_map, List.length_drop]; omega)] at this
      exact this
theorem raftr_short_f {w : Int} {l0 : List Int} {k : Int → Heap → Prop} (R : Rd 86 h r (shortL w ++ l0) false) (w0 : 0 ≤ w) (w1 : w < 18446744073709551616)
    (H : ∀ h', Rd 86 h' r l0 false → Upd r h h' → k w h') : raft_reader_short (some ⟨r, 0, none⟩) k h := by
  obtain ⟨s, K, S, sl, sc, hB, hz⟩ := R
  unfold raft_reader_short
  refine ⟨_, rfl, s, by rw [K.cell]; rfl, ?_⟩
  have go : ∀ (v : Int) (u e : Int) (l' : List Int), 0 ≤ u → u ≤ (shortL w ++ l0).length → l' = (shortL w ++ l0).drop u.toNat → (∀ h', Rd 86 h' r l' (e != 0) → Upd r h h' → k v h') →
      ∃ v5 : Bool, cellH h ((⟨r, 0, none⟩ : Addr).add 1) = some (.bool v5) ∧ (∃ h6 : Heap, WrH h ((⟨r, 0, none⟩ : Addr).add 1) ∧ h6 = setH h ((⟨r, 0, none⟩ : Addr).add 1) (.bool (v5 || (e != 0))) ∧ (∃ v7 : Slc, cellH h6 ⟨r, 0, none⟩ = some (Slc.v v7) ∧ (∃ s8 : Slc, (0 : Int) ≤ u ∧ (u : Int) ≤ (v7.len : Int) ∧ ((v7.len : Int) : Int) ≤ (v7.cap : Int) ∧ (v7.cap : Int) ≤ (v7.cap : Int) ∧ s8 = subS v7 1 u.toNat (v7.len : Int).toNat (v7.cap : Int).toNat ∧ (∃ h9 : Heap, WrH h6 ⟨r, 0, none⟩ ∧ h9 = setH h6 ⟨r, 0, none⟩ (Slc.v s8) ∧ (k v h9))))) := fun v u e l' u0 u1 el G => by
    refine ⟨false, by rw [add_mk, K.cell]; rfl, _, by rw [add_mk]; exact K.wr (by simp), rfl, ?_⟩
    rw [Bool.false_or]
    rw [add_mk, Nat.zero_add]
    have K2 := K.set (i := 1) (v := .bool (e != 0))
    have U : Upd r h (setH h ⟨r, 1, none⟩ (.bool (e != 0))) := ⟨by rw [setH_size]; exact Nat.le_refl _, fun j hj hne => setH_other (by simpa using hne)⟩
    generalize setH h ⟨r, 1, none⟩ (.bool (e != 0)) = h6 at *
    refine ⟨s, by rw [K2.cell]; rfl, _, u0, by omega, by omega, by omega, rfl, _, K2.wr (by simp), rfl, ?_⟩
    have K3 := K2.set (i := 0) (v := Slc.v (subS s 1 u.toNat (s.len : Int).toNat (s.cap : Int).toNat))
    have U2 : Upd r h6 (setH h6 ⟨r, 0, none⟩ (Slc.v (subS s 1 u.toNat (s.len : Int).toNat (s.cap : Int).toNat))) := ⟨by rw [setH_size]; exact Nat.le_refl _, fun j hj hne => setH_other (by simpa using hne)⟩
    have UU := U.trans U2
    have X := UU.ext (B := r) (Nat.le_refl _) (Nat.le_of_lt K.lt)
    refine G _ ⟨_, K3, fun h2 Y => ?_, by rw [subS_len, el, List.length_drop]; omega, by rw [subS_len, subS_cap]; omega, by rw [el]; exact isB_drop hB _, by rw [el, List.length_drop]; omega⟩ UU
    have := (S h2 (X.trans Y)).sub (w := 1) (l := u.toNat) (u := (s.len : Int).toNat) (m := (s.cap : Int).toNat) (by omega) (by omega)
    rw [Nat.mul_one, Nat.mul_one, ← List.map_drop, List.take_of_length_le (by rw [List.length_map, List.length_drop]; omega), ← el] at this
    exact this
  refine GetShort_ok3 (S h (Ext.refl _ _)) sl (by rw [List.length_append] at hz; omega) w0 w1 ?_
  refine go w ((shortL w).length : Int) 0 l0 (by omega) (by rw [List.length_append]; omega) (by simp) fun h' R' U => H h' R' U
theorem raftr_byte_f {c : Int} {l0 : List Int} {k : Int → Heap → Prop} (R : Rd 86 h r ([c] ++ l0) false) (H : ∀ h', Rd 86 h' r l0 false → Upd r h h' → k c h') : raft_reader_byte (some ⟨r, 0, none⟩) k h := by
  unfold raft_reader_byte
  refine raftr_bytes_f R (by omega) (by simp; omega) fun s h2 R2 U2 Rw => ?_
  have ls := Rw.pb
  simp at ls
  rw [if_neg (by rw [beq_iff_eq]; omega)]
  obtain ⟨a, ha, hc⟩ := slc_get Rw.slc (i := 0) (v := .int .u8 c) rfl
  exact ⟨a, ha, by omega, by omega, c, hc, H h2 R2 U2⟩
/-- a text -/
theorem raftr_text_f {x l0 : List Int} {k : Slc → Heap → Prop} (R : Rd 86 h r (tx x ++ l0) false)
    (H : ∀ (s : Slc) (h2 h' : Heap), Rd 86 h' r l0 false → Upd r h h' → h.size ≤ h2.size → Row h2.size h' 5 1 s (b8 x) → k s h') : raft_reader_short (some ⟨r, 0, none⟩) (fun n h2 => raft_reader_bytes (some ⟨r, 0, none⟩) n (fun s h' => k s h') h2) h := by
  have hl := R.len
  rw [tx, List.append_assoc] at R
  rw [tx, List.length_append, List.length_append] at hl
  refine raftr_short_f R (by omega) (by omega) fun h1 R1 U1 => ?_
  refine raftr_bytes_f R1 (by omega) (by rw [List.length_append]; omega) fun s h2 R2 U2 Rw => ?_
  rw [Int.toNat_natCast, List.drop_left] at R2
  rw [Int.toNat_natCast, List.take_left] at Rw
  exact H s h1 h2 R2 (U1.trans U2) U1.size Rw
end
end Go.Q.Yh
namespace Go.Q.Yh
/-- the end of a message -/
theorem mGetF_j1 {h0 h : Heap} {r q : Nat} {snap : List Int} {m : S_api_Msg} {vs : List S_api_Entry} {es : List Ent} {k : S_api_Msg × Int → Heap → Prop} (M : MS h0 h r q (tx snap) false m vs es)
    (r1 : 0 ≤ m.f_Term ∧ m.f_Term < 18446744073709551616) (r2 : 0 ≤ m.f_Index ∧ m.f_Index < 18446744073709551616) (r3 : 0 ≤ m.f_LogTerm ∧ m.f_LogTerm < 18446744073709551616) (r4 : 0 ≤ m.f_Commit ∧ m.f_Commit < 18446744073709551616)
    (xB : isB snap) (H1 : ∀ s h', Held h0.size h' (fun h' => MsgAt h' { m with f_Snap := s } vs es snap) → Ext h0.size h0 h' → k ({ m with f_Snap := s }, 0) h') : raft_Get_j1 ⟨h0.size, 0, none⟩ ⟨r, 0, none⟩ ⟨q, 0, none⟩ k h := by
  unfold raft_Get_j1
  have o1 := M.o1
  have o2 := M.o2
  have MR := M.R
  rw [show tx snap = tx snap ++ [] from (List.append_nil _).symm] at MR
  refine raftr_text_f MR fun s hm h2 R2 U2 zm Rw => ?_
  have M2 := M.upd U2 R2
  have zm' := zm
  have q1 := M.Q.lt
  have q1' := M2.Q.lt
  refine ⟨_, by rw [add_mk]; exact M2.Q.wr (by rw [show (S_api_Msg.cs m).length = 8 from rfl]; omega), rfl, ?_⟩
  rw [show (⟨q, 0, none⟩ : Addr).add 7 = ⟨q, 7, none⟩ from by simp]
  have Q3 := M2.Q.set (i := 7) (v := Slc.v s)
  rw [show (S_api_Msg.cs m).set 7 (Slc.v s) = S_api_Msg.cs { m with f_Snap := s } from rfl] at Q3
  have X3 : Ext q h2 (setH h2 ⟨q, 7, none⟩ (Slc.v s)) := Ext.set _ _ (Nat.le_refl _)
  have old : ∀ g, g ≠ q → (setH h2 ⟨q, 7, none⟩ (Slc.v s))[g]? = h2[g]? := fun g hg => setH_other hg
  have M3 : MS h0 (setH h2 ⟨q, 7, none⟩ (Slc.v s)) r q [] false { m with f_Snap := s } vs es :=
    ⟨M2.P.old (old _ (by omega)), M2.R.ext (X3.mono (by omega)), Q3, M2.E.keep fun g hg => old g (by have := (M2.E.bd hg).1; omega), M2.el, fun i v e hv he => ⟨(M2.en i v e hv he).1, (M2.en i v e hv he).2.keep fun g hg => old g (by have := ((M2.en i v e hv he).2.bd hg).1; omega)⟩, M2.er, M2.X.trans (X3.mono (by omega)), o1, o2⟩
  have Rw3 : Row hm.size (setH h2 ⟨q, 7, none⟩ (Slc.v s)) 5 1 s (b8 snap) := Rw.keep fun g hg => old g (by have := (Rw.bd hg).1; omega)
  generalize setH h2 ⟨q, 7, none⟩ (Slc.v s) = h3 at *
  obtain ⟨sd, Kd, Sd, sdl, _⟩ := M3.R
  refine ⟨false, by rw [add_mk, Kd.cell]; rfl, ?_⟩
  · rw [if_neg (by simp)]
    refine ⟨sd, by rw [Kd.cell]; rfl, ?_⟩
    · rw [show decide ((sd.len : Int) > 0) = false from by rw [decide_eq_false_iff_not, sdl]; simp]
      unfold raft_Get_g2
      rw [if_neg (by simp)]
      refine ⟨_, CellsAt.of_blk M3.Q, _, WrsAt.of_blk M3.P (by decide), rfl, _, CellsAt.of_blk (M3.P.sets_all (vs := S_api_Msg.cs { m with f_Snap := s }) rfl), ?_⟩
      have X4 : Ext h0.size h3 (setsH h3 ⟨h0.size, 0, none⟩ 0 (S_api_Msg.cs { m with f_Snap := s })) := Ext.sets _ _ _ (Nat.le_refl _)
      have old4 : ∀ g, g ≠ h0.size → (setsH h3 ⟨h0.size, 0, none⟩ 0 (S_api_Msg.cs { m with f_Snap := s }))[g]? = h3[g]? := fun g hg => setsH_other _ _ hg
      have E4 : Row (q + 1) _ 65 2 m.f_Entries (vs.flatMap S_api_Entry.cs) := M3.E.keep fun g hg => old4 g (by have := (M3.E.bd hg).1; omega)
      have Rw4 : Row hm.size _ 5 1 s (b8 snap) := Rw3.keep fun g hg => old4 g (by have := (Rw3.bd hg).1; omega)
      have hvl : m.f_Entries.len = vs.length := by
        have a1 := M.el
        have a2 := M.ents
        omega
      refine H1 s _ (fun h5 e5 => ?_) (M3.X.trans X4)
      have E5 := E4.keep fun g hg => e5 g (by have := (E4.bd hg).1; omega) (E4.bd hg).2
      have Rw5 := Rw4.keep fun g hg => e5 g (by have := (Rw4.bd hg).1; omega) (Rw4.bd hg).2
      refine ⟨LsAt.of_slc (w := 2) (fun x => rfl) E5.slc hvl (by decide), M3.el, fun i v e hv he => ?_, M3.er, Rw5.slc, Rw5.pb, xB, r1, r2, r3, r4⟩
      obtain ⟨a1, a2⟩ := M3.en i v e hv he
      have a3 : Row (q + 1) _ 5 1 v.f_Cmd (b8 e.2) := a2.keep fun g hg => old4 g (by have := (a2.bd hg).1; omega)
      have a4 := a3.keep fun g hg => e5 g (by have := (a3.bd hg).1; omega) (a3.bd hg).2
      exact ⟨a1, a4.slc, a4.pb⟩
theorem mGetF_l3 {h0 h : Heap} {r q : Nat} {m : S_api_Msg} {es : List Ent} {snap : List Int} {k : S_api_Msg × Int → Heap → Prop} (M : MS h0 h r q (es.flatMap entL ++ tx snap) false m [] []) (n1 : es.length ≤ 10000) (er : ∀ e ∈ es, (0 ≤ e.1 ∧ e.1 < 18446744073709551616) ∧ isB e.2) (xB : isB snap)
    (r1 : 0 ≤ m.f_Term ∧ m.f_Term < 18446744073709551616) (r2 : 0 ≤ m.f_Index ∧ m.f_Index < 18446744073709551616) (r3 : 0 ≤ m.f_LogTerm ∧ m.f_LogTerm < 18446744073709551616) (r4 : 0 ≤ m.f_Commit ∧ m.f_Commit < 18446744073709551616)
    (H1 : ∀ vs s1 s2 h', Held h0.size h' (fun h' => MsgAt h' { m with f_Entries := s1, f_Snap := s2 } vs es snap) → Ext h0.size h0 h' → k ({ m with f_Entries := s1, f_Snap := s2 }, 0) h') :
    raft_Get_l3 ⟨h0.size, 0, none⟩ ⟨r, 0, none⟩ ⟨q, 0, none⟩ (es.length : Int) k h := by
  have o1 := M.o1
  have o2 := M.o2
  refine ⟨fun i h' => ∃ (vs : List S_api_Entry) (d : Nat) (s : Slc), i = (es.length : Int) - d ∧ d ≤ es.length ∧ MS h0 h' r q ((es.drop d).flatMap entL ++ tx snap) false { m with f_Entries := s } vs (es.take d), fun i _ => i.toNat, ⟨[], 0, m.f_Entries, by simp, Nat.zero_le _, M⟩, ?_⟩
  rintro i h1 ⟨vs, d, s, ei, hd, M0⟩
  unfold raft_Get_l3b
  by_cases hi : i > 0
  · rw [if_pos (by simpa using hi)]
    obtain ⟨x, hx⟩ : ∃ x, es[d]? = some x := ⟨_, List.getElem?_eq_getElem (by omega)⟩
    have hx0 := er x (List.mem_of_getElem? hx)
    have ed : es.drop d = x :: es.drop (d + 1) := by
      have hlt := (List.getElem?_eq_some_iff.1 hx).1
      rw [List.drop_eq_getElem_cons hlt]
      rw [List.getElem?_eq_getElem hlt] at hx
      cases hx; rfl
    have MR := M0.R
    rw [ed, List.flatMap_cons, entL, List.append_assoc, List.append_assoc] at MR
    refine raftr_short_f MR hx0.1.1 hx0.1.2 fun h2 R2 U2 => ?_
    obtain ⟨v1, ev1⟩ : ∃ y, y = x.1 := ⟨_, rfl⟩
    rw [← ev1]
    have M2 := M0.upd U2 R2
    have q2 := M2.Q.lt
    have r2' := M2.R.lt
    refine ⟨_, _, rfl, rfl, ?_⟩
    have K := Blk.push h2 (S_api_Entry.cs ⟨0, ⟨none, 0, 0⟩⟩) 65
    have K3 := K.sets_all (vs := S_api_Entry.cs ⟨v1, ⟨none, 0, 0⟩⟩) rfl
    have W3 := (Ext.push h2 (.cells (S_api_Entry.cs ⟨0, ⟨none, 0, 0⟩⟩).toArray 65) (Nat.le_refl _)).trans (Ext.sets _ (a := ⟨h2.size, 0, none⟩) 0 (S_api_Entry.cs ⟨v1, ⟨none, 0, 0⟩⟩) (Nat.le_refl _))
    refine ⟨_, WrsAt.of_blk K (by decide), rfl, ?_⟩
    generalize setsH (h2.push (.cells (S_api_Entry.cs ⟨0, ⟨none, 0, 0⟩⟩).toArray 65)) ⟨h2.size, 0, none⟩ 0 (S_api_Entry.cs ⟨v1, ⟨none, 0, 0⟩⟩) = h3 at *
    have z3 := W3.size
    have kl := K3.lt
    refine raftr_text_f (M2.ext W3).R fun s5 h4 h5 R5 U5 z45 Rw => ?_
    have z5 := U5.size
    have K5 := U5.blk K3 (by omega)
    refine ⟨_, by rw [add_mk]; exact K5.wr (by show 0 + 1 < 2; omega), rfl, ?_⟩
    rw [show (⟨h2.size, 0, none⟩ : Addr).add 1 = ⟨h2.size, 1, none⟩ from by simp]
    have K6 := K5.set (i := 1) (v := Slc.v s5)
    rw [show (S_api_Entry.cs ⟨v1, ⟨none, 0, 0⟩⟩).set 1 (Slc.v s5) = S_api_Entry.cs ⟨v1, s5⟩ from rfl] at K6
    have X6 : Ext h2.size h5 (setH h5 ⟨h2.size, 1, none⟩ (Slc.v s5)) := Ext.set _ _ (Nat.le_refl _)
    have Rw6 : Row h4.size (setH h5 ⟨h2.size, 1, none⟩ (Slc.v s5)) 5 1 s5 (b8 x.2) := Rw.keep fun g hg => setH_other (by have := (Rw.bd hg).1; dsimp only; omega)
    generalize setH h5 ⟨h2.size, 1, none⟩ (Slc.v s5) = h6 at *
    have z6 := X6.size
    have R6 := R5.ext (X6.mono (show r + 1 ≤ h2.size by omega))
    have U26 : Upd r h2 h6 := ((Upd.of_ext W3).trans U5).fresh X6
    have M6 := M2.upd U26 R6
    obtain ⟨sd, Kd, _⟩ := R6
    refine ⟨false, by rw [add_mk, Kd.cell]; rfl, ?_⟩
    · rw [if_neg (by simp)]
      refine ⟨s, by rw [add_mk, M6.Q.cell]; rfl, ⟨v1, s5⟩, CellsAt.of_blk K6, _, _, rfl, rfl, ?_⟩
      have lens := M6.ents
      have llen := M6.R.len
      have ls : s.len = (es.take d).length := lens
      rw [List.length_take, Nat.min_eq_left hd] at ls
      refine App.row (M6.E.pushed _) (by simp; omega) rfl rfl (oneC (by kernel_rfl)) (by show (s.len + 1) * 32 ≤ _; omega) (by show s.len + 1 ≤ maxLen; simp only [maxLen]; omega) fun s' h7 R7 l7 z7 F7 _ => ?_
      simp at z7
      have old : ∀ g, g < h6.size → s.blk ≠ some g → h7[g]? = h6[g]? := fun g hg hn => by rw [F7 g (by simp; omega) hn, Array.getElem?_push, if_neg (by omega)]
      have sq : ∀ g, s.blk = some g → q + 1 ≤ g := fun g hg => (M6.E.bd hg).1
      have P7 := M6.P.old (old _ M6.P.lt fun e => by have := sq _ e; omega)
      have Q7 := M6.Q.old (old _ M6.Q.lt fun e => by have := sq _ e; omega)
      have X67 : Ext (q + 1) h6 h7 := ⟨by omega, fun g hg => old g (by have := M6.Q.lt; omega) fun e => by have := sq _ e; omega⟩
      have R7' := M6.R.ext (X67.mono (show r + 1 ≤ q + 1 by omega))
      have c7 : ∀ {t : Slc} {xs : List Value} {C : Nat}, Row C h6 5 1 t xs → Row C h7 5 1 t xs := fun Rt => Rt.keep fun g hg => old g (Rt.bd hg).2 fun e => Rt.ne_row M6.E (by decide) hg e
      refine ⟨_, by rw [add_mk]; exact Q7.wr (by show 0 + 6 < 8; omega), rfl, ?_⟩
      rw [show (⟨q, 0, none⟩ : Addr).add 6 = ⟨q, 6, none⟩ from by simp]
      have Q8 := Q7.set (i := 6) (v := Slc.v s')
      rw [show (S_api_Msg.cs { m with f_Entries := s }).set 6 (Slc.v s') = S_api_Msg.cs { m with f_Entries := s' } from rfl] at Q8
      have old8 : ∀ g, g ≠ q → (setH h7 ⟨q, 6, none⟩ (Slc.v s'))[g]? = h7[g]? := fun g hg => setH_other hg
      have X78 : Ext q h7 (setH h7 ⟨q, 6, none⟩ (Slc.v s')) := Ext.set _ _ (Nat.le_refl _)
      rw [wrapU64 (x := i - 1) (by omega) (by omega)]
      have et : es.take (d + 1) = es.take d ++ [x] := by rw [List.take_add_one, hx]; rfl
      refine ⟨_, rfl, ⟨vs ++ [⟨v1, s5⟩], d + 1, s', by omega, by omega, ?_⟩, by show (i - 1).toNat < i.toNat; omega⟩
      rw [et]
      refine ⟨P7.old (old8 _ (by omega)), R7'.ext (X78.mono (by omega)), Q8, ?_, by simp [M6.el], fun j v e hv he => ?_, fun e he => ?_, ?_, o1, o2⟩
      · have : Row (q + 1) h7 65 2 s' ((vs ++ [(⟨v1, s5⟩ : S_api_Entry)]).flatMap S_api_Entry.cs) := by simpa using R7
        exact this.keep fun g hg => old8 g (by have := (this.bd hg).1; omega)
      · have fin : ∀ {t : Slc} {xs : List Value}, Row (q + 1) h6 5 1 t xs → Row (q + 1) (setH h7 ⟨q, 6, none⟩ (Slc.v s')) 5 1 t xs := fun Rt => (c7 Rt).keep fun g hg => old8 g (by have := ((c7 Rt).bd hg).1; omega)
        rcases Nat.lt_or_ge j vs.length with hj | hj
        · rw [List.getElem?_append_left hj] at hv
          rw [List.getElem?_append_left (by rw [← M6.el]; exact hj)] at he
          obtain ⟨a1, a2⟩ := M6.en j v e hv he
          exact ⟨a1, fin a2⟩
        · rw [List.getElem?_append_right hj] at hv
          rw [List.getElem?_append_right (by rw [← M6.el]; exact hj), ← M6.el] at he
          have hj2 : j - vs.length = 0 := by
            have := (List.getElem?_eq_some_iff.1 hv).1
            simp at this; omega
          rw [hj2] at hv he
          simp at hv he
          subst hv; subst he
          exact ⟨ev1, fin (Rw6.mono (by omega))⟩
      · rcases List.mem_append.1 he with he | he
        · exact M6.er e he
        · simp at he; subst he; exact hx0
      · exact M6.X.trans ((X67.mono (show h0.size ≤ q + 1 by omega)).trans (X78.mono (by omega)))
  · rw [if_neg (by simpa using hi)]
    have : d = es.length := by omega
    subst this
    rw [List.drop_length, List.take_length, List.flatMap_nil, List.nil_append] at M0
    exact mGetF_j1 M0 r1 r2 r3 r4 xB fun s2 h' A X => H1 vs s s2 h' A X
/-- a message is read -/
theorem mGetF_ok {p0 : Slc} {m : S_api_Msg} {es : List Ent} {snap : List Int} {k : S_api_Msg × Int → Heap → Prop} {h : Heap} (hs : SlcAt h p0 (b8 (msgL m es snap))) (hl : p0.len = (msgL m es snap).length) (hc : p0.len ≤ p0.cap) (hB : isB (msgL m es snap)) (hz : (msgL m es snap).length ≤ 1000000) (n1 : es.length ≤ 10000) (er : ∀ e ∈ es, (0 ≤ e.1 ∧ e.1 < 18446744073709551616) ∧ isB e.2) (xB : isB snap)
    (r1 : 0 ≤ m.f_Term ∧ m.f_Term < 18446744073709551616) (r2 : 0 ≤ m.f_Index ∧ m.f_Index < 18446744073709551616) (r3 : 0 ≤ m.f_LogTerm ∧ m.f_LogTerm < 18446744073709551616) (r4 : 0 ≤ m.f_Commit ∧ m.f_Commit < 18446744073709551616)
    (H1 : ∀ m' vs h', Held h.size h' (fun h' => MsgAt h' m' vs es snap) → msgL m' es snap = msgL m es snap → Ext h.size h h' → k (m', 0) h') : raft_Get p0 k h := by
  unfold raft_Get
  refine ⟨_, _, rfl, rfl, ?_⟩
  have P := Blk.push h (S_api_Msg.cs zMsg) 26
  have W := Ext.push h (.cells (S_api_Msg.cs zMsg).toArray 26) (Nat.le_refl _)
  obtain ⟨h2, e2⟩ : ∃ y, y = h.push (.cells (S_api_Msg.cs zMsg).toArray 26) := ⟨_, rfl⟩
  rw [← e2] at P W ⊢
  have z2 := W.size
  have pl := P.lt
  refine ⟨_, _, rfl, rfl, ?_⟩
  have K := Blk.push h2 (S_raft_reader.cs ⟨p0, false⟩) 86
  have W3 := Ext.push h2 (.cells (S_raft_reader.cs ⟨p0, false⟩).toArray 86) (Nat.le_refl _)
  obtain ⟨h3, e3⟩ : ∃ y, y = h2.push (.cells (S_raft_reader.cs ⟨p0, false⟩).toArray 86) := ⟨_, rfl⟩
  rw [← e3] at K W3 ⊢
  have z3 := W3.size
  have kl := K.lt
  have P3 := P.ext W3 pl
  have R3 : Rd 86 h3 h2.size (msgL m es snap) false := ⟨p0, K, fun h' X => ⟨hs.1, fun b hb j w hj => by rw [X.cell (Nat.lt_of_lt_of_le (cellH_lt (hs.2 b hb j w hj)) z2), ← hs.2 b hb j w hj]; exact ((W.trans (W3.mono z2)).cell (cellH_lt (hs.2 b hb j w hj)))⟩, hl, hc, hB, by omega⟩
  have kb : 0 ≤ m.f_Kind % 256 ∧ m.f_Kind % 256 < 256 := by omega
  have el : msgL m es snap = [m.f_Kind % 256] ++ (shortL m.f_Term ++ (shortL m.f_Index ++ (shortL m.f_LogTerm ++ (shortL m.f_Commit ++ ([if m.f_Yes then 1 else 0] ++ (shortL es.length ++ (es.flatMap entL ++ tx snap))))))) := by
    unfold msgL; simp only [List.append_assoc]
  have R3' := R3
  rw [el] at R3'
  refine raftr_byte_f R3' fun h4 R4 U4 => ?_
  have z4 := U4.size
  refine raftr_short_f R4 r1.1 r1.2 fun h5 R5 U5 => ?_
  have z5 := U5.size
  refine raftr_short_f R5 r2.1 r2.2 fun h6 R6 U6 => ?_
  have z6 := U6.size
  refine raftr_short_f R6 r3.1 r3.2 fun h7 R7 U7 => ?_
  have z7 := U7.size
  refine raftr_short_f R7 r4.1 r4.2 fun h8 R8 U8 => ?_
  have z8 := U8.size
  obtain ⟨v1, ev1⟩ : ∃ y, y = m.f_Kind % 256 := ⟨_, rfl⟩
  rw [← ev1] at kb ⊢
  obtain ⟨n1', en1⟩ : ∃ y, y = m.f_Term := ⟨_, rfl⟩
  obtain ⟨n2, en2⟩ : ∃ y, y = m.f_Index := ⟨_, rfl⟩
  obtain ⟨n3, en3⟩ : ∃ y, y = m.f_LogTerm := ⟨_, rfl⟩
  obtain ⟨n4, en4⟩ : ∃ y, y = m.f_Commit := ⟨_, rfl⟩
  rw [← en1, ← en2, ← en3, ← en4]
  rw [wrapI64 (x := v1) (by omega) (by omega)]
  refine ⟨_, _, rfl, rfl, ?_⟩
  have Q := Blk.push h8 (S_api_Msg.cs zMsg) 26
  have Q2 := Q.sets_all (vs := S_api_Msg.cs ⟨v1, n1', n2, n3, n4, false, ⟨none, 0, 0⟩, ⟨none, 0, 0⟩⟩) rfl
  have W9 := (Ext.push h8 (.cells (S_api_Msg.cs zMsg).toArray 26) (Nat.le_refl _)).trans (Ext.sets _ (a := ⟨h8.size, 0, none⟩) 0 (S_api_Msg.cs ⟨v1, n1', n2, n3, n4, false, ⟨none, 0, 0⟩, ⟨none, 0, 0⟩⟩) (Nat.le_refl _))
  refine ⟨_, WrsAt.of_blk Q (by decide), rfl, ?_⟩
  generalize setsH (h8.push (.cells (S_api_Msg.cs zMsg).toArray 26)) ⟨h8.size, 0, none⟩ 0 (S_api_Msg.cs ⟨v1, n1', n2, n3, n4, false, ⟨none, 0, 0⟩, ⟨none, 0, 0⟩⟩) = h9 at *
  have z9 := W9.size
  have ql := Q2.lt
  refine raftr_byte_f (R8.ext (W9.mono (by omega))) fun h10 R10 U10 => ?_
  have ey : ((if m.f_Yes = true then (1 : Int) else 0) == 1) = m.f_Yes ∧ decide ((if m.f_Yes = true then (1 : Int) else 0) > 1) = false := by cases m.f_Yes <;> decide
  rw [ey.1]
  have z10 := U10.size
  have Q10 := U10.blk Q2 (by omega)
  refine ⟨_, by rw [add_mk]; exact Q10.wr (by show 0 + 5 < 8; omega), rfl, ?_⟩
  rw [show (⟨h8.size, 0, none⟩ : Addr).add 5 = ⟨h8.size, 5, none⟩ from by simp]
  have Q11 := Q10.set (i := 5) (v := .bool (m.f_Yes))
  rw [show (S_api_Msg.cs ⟨v1, n1', n2, n3, n4, false, ⟨none, 0, 0⟩, ⟨none, 0, 0⟩⟩).set 5 (.bool (m.f_Yes)) = S_api_Msg.cs ⟨v1, n1', n2, n3, n4, m.f_Yes, ⟨none, 0, 0⟩, ⟨none, 0, 0⟩⟩ from rfl] at Q11
  have X11 : Ext h8.size h10 (setH h10 ⟨h8.size, 5, none⟩ (.bool (m.f_Yes))) := Ext.set _ _ (Nat.le_refl _)
  generalize setH h10 ⟨h8.size, 5, none⟩ (.bool (m.f_Yes)) = h11 at *
  have z11 := X11.size
  have R11 := R10.ext (X11.mono (show h2.size + 1 ≤ h8.size by omega))
  obtain ⟨sd, Kd, Sd, sdl, sdc, sdB, sdz⟩ := R11
  refine ⟨false, by rw [add_mk, Kd.cell]; rfl, _, by rw [add_mk]; exact Kd.wr (by simp), rfl, ?_⟩
  rw [show (⟨h2.size, 0, none⟩ : Addr).add 1 = ⟨h2.size, 1, none⟩ from by simp]
  have Kd2 := Kd.set (i := 1) (v := .bool (false || decide ((if m.f_Yes = true then (1 : Int) else 0) > 1)))
  have U12 : Upd h2.size h11 (setH h11 ⟨h2.size, 1, none⟩ (.bool (false || decide ((if m.f_Yes = true then (1 : Int) else 0) > 1)))) := ⟨by rw [setH_size]; exact Nat.le_refl _, fun j hj hne => setH_other (by simpa using hne)⟩
  generalize setH h11 ⟨h2.size, 1, none⟩ (.bool (false || decide ((if m.f_Yes = true then (1 : Int) else 0) > 1))) = h12 at *
  have z12 := U12.size
  have R12 : Rd 86 h12 h2.size (shortL es.length ++ (es.flatMap entL ++ tx snap)) (false || decide ((if m.f_Yes = true then (1 : Int) else 0) > 1)) := ⟨sd, Kd2, fun h' X => Sd h' ((U12.ext (Nat.le_refl _) (by omega)).trans X), sdl, sdc, sdB, sdz⟩
  rw [ey.2, Bool.false_or] at R12
  refine raftr_short_f R12 (by omega) (by omega) fun h13 R13 U13 => ?_
  have z13 := U13.size
  have U39 : Upd h2.size h3 h9 := (U4.trans (U5.trans (U6.trans (U7.trans U8)))).fresh (W9.mono (by omega))
  have U313 : Upd h2.size h3 h13 := (((U39.trans U10).fresh (X11.mono (by omega))).trans U12).trans U13
  have Q13 := U13.blk (U12.blk Q11 (by omega)) (by omega)
  have P13 := U313.blk P3 (by omega)
  have M : MS h h13 h2.size h8.size _ false ⟨v1, n1', n2, n3, n4, m.f_Yes, ⟨none, 0, 0⟩, ⟨none, 0, 0⟩⟩ [] [] :=
    ⟨P13, R13, Q13, Row.nil _ _ _ _, rfl, by simp, by simp, (W.trans (W3.mono z2)).trans (U313.ext (by omega) (by omega)), by omega, by omega⟩
  refine mGetF_l3 M n1 er xB (by show 0 ≤ n1' ∧ n1' < _; omega) (by show 0 ≤ n2 ∧ n2 < _; omega) (by show 0 ≤ n3 ∧ n3 < _; omega) (by show 0 ≤ n4 ∧ n4 < _; omega) (fun vs s1 s2 h' A X => H1 _ vs h' A ?_ X)
  unfold msgL
  dsimp only
  rw [en1, en2, en3, en4, ev1, show m.f_Kind % 256 % 256 = m.f_Kind % 256 from by omega]
end Go.Q.Yh

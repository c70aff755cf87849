/- A part of the proof of statements of this seat: lemmas, no statement of their own. -/
import Derived.Test.YtcmbgfmbmbgbiaaYbGets
import Derived.Test.YtcmbgfmbmbgbiaaYbForm3
set_option linter.unusedVariables false
set_option linter.unusedSimpArgs false
namespace Go.Q.Yb
theorem slc_get {h : Heap} {s : Slc} {vs : List Value} (S : SlcAt h s vs) {i : Nat} {v : Value} (hv : vs[i]? = some v) : ∃ a, s.a = some a ∧ cellH h (a.add i) = some v := by
  cases ha : s.a with
  | none => have := S.1 ha; subst this; simp at hv
  | some a => exact ⟨a, rfl, S.2 a ha i v hv⟩
/-! ### numbers are read -/
def valS : List Int → Int
  | [] => 0
  | b :: r => (b - 128) + 128 * valS r
theorem valS_snoc (c : Int) : ∀ p : List Int, valS (p ++ [c]) = valS p + (c - 128) * 128 ^ p.length
  | [] => by simp [valS]
  | b :: r => by
    simp only [List.cons_append, valS, valS_snoc c r, List.length_cons, Int.pow_succ]
    rw [Int.mul_add, ← Int.mul_assoc, Int.mul_comm 128 (c - 128), Int.mul_assoc, Int.mul_comm 128 (128 ^ r.length)]
    omega
theorem valS_bd : ∀ {p : List Int}, (∀ b ∈ p, 128 ≤ b ∧ b < 256) → 0 ≤ valS p ∧ valS p < 128 ^ p.length
  | [], _ => by simp [valS]
  | b :: r, h => by
    have h1 := h b (by simp)
    have h2 := valS_bd (p := r) fun x hx => h x (List.mem_cons_of_mem _ hx)
    simp only [valS, List.length_cons, Int.pow_succ]; omega
theorem short_of : ∀ (p : List Int) (c : Int) (f : Nat), (∀ b ∈ p, 128 ≤ b ∧ b < 256) → 0 ≤ c → c < 128 → (p ≠ [] → c ≠ 0) → p.length < f → shortF f (valS p + c * 128 ^ p.length) = p ++ [c]
  | [], c, 0, _, _, _, _, hf => by simp at hf
  | [], c, f + 1, _, c0, c1, _, _ => by simp only [valS, List.length_nil, Int.pow_zero, Int.mul_one, Int.zero_add, shortF, List.nil_append]; rw [if_pos c1]
  | b :: r, c, 0, _, _, _, _, hf => by simp at hf
  | b :: r, c, f + 1, h, c0, c1, hc, hf => by
    have h1 := h b (by simp)
    have h2 := valS_bd (p := r) fun x hx => h x (List.mem_cons_of_mem _ hx)
    have cn : 1 ≤ c := by have := hc (by simp); omega
    have e : valS (b :: r) + c * 128 ^ (b :: r).length = (b - 128) + 128 * (valS r + c * 128 ^ r.length) := by
      simp only [valS, List.length_cons, Int.pow_succ]
      rw [← Int.mul_assoc c, Int.mul_add]
      generalize c * 128 ^ r.length = Q
      omega
    have hp : 1 ≤ (128 : Int) ^ r.length := by have : (0 : Int) < 128 ^ r.length := Int.pow_pos (by omega); omega
    have hw : 1 ≤ valS r + c * 128 ^ r.length := by
      have : 1 * 1 ≤ c * 128 ^ r.length := Int.mul_le_mul cn hp (by omega) (by omega)
      omega
    rw [e]
    generalize hW : valS r + c * 128 ^ r.length = W at *
    rw [shortF, if_neg (by omega), show (b - 128 + 128 * W) % 128 + 128 = b from by omega, show (b - 128 + 128 * W) / 128 = W from by omega, ← hW]
    rw [short_of r c f (fun x hx => h x (List.mem_cons_of_mem _ hx)) c0 c1 (fun _ => by omega) (by simp at hf; omega)]
    rfl
theorem and127 {v : Int} (h : 0 ≤ v ∧ v < 256) : bwAnd .u8 v 127 = v % 128 := by
  have key : (List.range 256).all (fun m => bwAnd .u8 (m : Int) 127 == (m : Int) % 128) = true := by decide +kernel
  have := List.all_eq_true.1 key v.toNat (by simp; omega)
  rw [beq_iff_eq, show ((v.toNat : Nat) : Int) = v from by omega] at this
  exact this
theorem bwOr64 {a b : Nat} (ha : a < 18446744073709551616) (hb : b < 18446744073709551616) : bwOr .u64 a b = ((a ||| b : Nat) : Int) := by
  show IntKind.u64.wrap ((BitVec.ofInt 64 (a : Int) ||| BitVec.ofInt 64 (b : Int)).toNat : Int) = _
  rw [or_nat 64 a b (by omega) (by omega), wU64]
  have := Nat.or_lt_two_pow (n := 64) (x := a) (y := b) (by omega) (by omega)
  omega
theorem or_shift {n c : Int} {i : Nat} (hi : i ≤ 9) (n0 : 0 ≤ n) (n1 : n < 128 ^ i) (c0 : 0 ≤ c) (c1 : c < 128) (c9 : i = 9 → c ≤ 1) : bwOr .u64 n (shl .u64 c (7 * i)) = n + c * 128 ^ i ∧ n + c * 128 ^ i < 18446744073709551616 ∧ 0 ≤ n + c * 128 ^ i := by
  have hp : (128 : Int) ^ i = 2 ^ (7 * i) := by rw [show (128 : Int) = 2 ^ 7 from rfl, ← Int.pow_mul]
  have fit : c * 128 ^ i + 128 ^ i ≤ 18446744073709551616 ∧ (128 : Int) ^ i ≤ 9223372036854775808 ∧ 0 ≤ c * 128 ^ i := by
    have : i = 0 ∨ i = 1 ∨ i = 2 ∨ i = 3 ∨ i = 4 ∨ i = 5 ∨ i = 6 ∨ i = 7 ∨ i = 8 ∨ i = 9 := by omega
    rcases this with rfl | rfl | rfl | rfl | rfl | rfl | rfl | rfl | rfl | rfl <;> (try have := c9 rfl) <;> omega
  have es : shl .u64 c (7 * i) = c * 128 ^ i := by
    unfold shl
    rw [show min (7 * i) IntKind.u64.bits = 7 * i from by show min (7 * i) 64 = 7 * i; omega, ← hp, wU64]
    have : c * 128 ^ i < 18446744073709551616 := by
      have : 1 ≤ (128 : Int) ^ i := by have : (0 : Int) < 128 ^ i := Int.pow_pos (by omega); omega
      omega
    exact Int.emod_eq_of_lt fit.2.2 this
  have hpn : (128 : Int) ^ i = ((2 ^ (7 * i) : Nat) : Int) := by rw [hp]; simp
  refine ⟨?_, by omega, by omega⟩
  rw [es]
  obtain ⟨a, rfl⟩ : ∃ a : Nat, n = a := ⟨n.toNat, by omega⟩
  obtain ⟨d, rfl⟩ : ∃ d : Nat, c = d := ⟨c.toNat, by omega⟩
  rw [hpn] at fit n1 ⊢
  have e : (d : Int) * ((2 ^ (7 * i) : Nat) : Int) = ((d * 2 ^ (7 * i) : Nat) : Int) := by simp
  rw [e] at fit ⊢
  rw [bwOr64 (by omega) (by omega), Nat.or_comm, or_add (by omega)]
  omega
theorem GetShort_ok {s : Slc} {l : List Int} {k : Int × Int × Int → Heap → Prop} {h : Heap} (hs : SlcAt h s (b8 l)) (hl : s.len = l.length) (hB : isB l) (hz : l.length ≤ 4611686018427387904)
    (H1 : ∀ v l', l = shortL v ++ l' → 0 ≤ v → v < 18446744073709551616 → k (v, ((shortL v).length : Int), 0) h) (H2 : ∀ e, e ≠ 0 → k (0, 0, e) h) : num_GetShort s k h := by
  unfold num_GetShort
  refine ⟨fun q h' => ∃ p l', l = p ++ l' ∧ (∀ b ∈ p, 128 ≤ b ∧ b < 256) ∧ q.2 = (p.length : Int) ∧ p.length ≤ 9 ∧ q.1 = valS p ∧ h' = h, fun q _ => (10 - q.2).toNat, ⟨[], l, rfl, by simp, rfl, by simp, rfl, rfl⟩, ?_⟩
  rintro n i h' ⟨p, l', e, hp, hi, h9, hn, hh⟩
  dsimp only at hi hn
  subst hh
  subst hi; subst hn
  unfold num_GetShort_l1b
  have ll : l.length = p.length + l'.length := by rw [e, List.length_append]
  cases l' with
  | nil =>
    simp at ll
    rw [if_neg (by rw [decide_eq_true_eq]; omega)]
    exact H2 2 (by decide)
  | cons c r =>
    simp at ll
    rw [if_pos (by rw [decide_eq_true_eq]; omega)]
    have hc : l[p.length]? = some c := by rw [e]; simp
    have cb := hB c (List.mem_of_getElem? hc)
    obtain ⟨a, ha, hv⟩ := slc_get hs (i := p.length) (v := .int .u8 c) (by rw [List.getElem?_map, hc]; rfl)
    refine ⟨a, ha, by omega, by omega, c, by rw [Int.toNat_natCast, Nat.mul_one]; exact hv, ?_⟩
    by_cases hbad : p.length = 9 ∧ c > 1
    · rw [if_pos (by simp [hbad.1]; omega)]
      exact H2 4 (by decide)
    · rw [if_neg (by
        simp only [Bool.and_eq_true, beq_iff_eq, decide_eq_true_eq]
        rintro ⟨h1, h2⟩; exact hbad ⟨by omega, h2⟩)]
      rw [wrapU64 (x := (p.length : Int)) (by omega) (by omega), wrapU64 (x := 7 * (p.length : Int)) (by omega) (by omega), and127 cb, wrapU64 (x := c % 128) (by omega) (by omega), show (7 * (p.length : Int)).toNat = 7 * p.length from by omega]
      have vb := valS_bd hp
      obtain ⟨o1, o2, o3⟩ := or_shift (n := valS p) (c := c % 128) h9 vb.1 vb.2 (by omega) (by omega) (fun h => by omega)
      rw [o1, wrapI64 (by omega) (by omega)]
      refine ⟨by omega, _, rfl, ?_⟩
      by_cases hm : c ≥ 128
      · rw [if_pos (by rw [decide_eq_true_eq]; omega)]
        have h8 : p.length ≤ 8 := by omega
        refine ⟨⟨p ++ [c], r, by rw [e]; simp, fun b hb => ?_, by simp, by simp; omega, ?_, rfl⟩, by dsimp only; omega⟩
        · rcases List.mem_append.1 hb with hb | hb
          · exact hp b hb
          · simp at hb; omega
        · dsimp only
          rw [valS_snoc, show c % 128 = c - 128 from by omega]
      · rw [if_neg (by rw [decide_eq_true_eq]; omega)]
        by_cases hzr : c = 0 ∧ 0 < p.length
        · rw [if_pos (by simp [hzr.1]; omega)]
          exact H2 4 (by decide)
        · rw [if_neg (by
            simp only [Bool.and_eq_true, beq_iff_eq, decide_eq_true_eq]
            rintro ⟨h1, h2⟩; exact hzr ⟨h1, by omega⟩)]
          have hsh := short_of p c 10 hp cb.1 (by omega) (fun hne h0 => hzr ⟨h0, List.length_pos_iff.2 hne⟩) (by omega)
          rw [show c % 128 = c from by omega] at o2 o3 ⊢
          refine ⟨_, rfl, ?_⟩
          have := H1 (valS p + c * 128 ^ p.length) r (by rw [shortL, hsh, e]; simp) o3 o2
          rw [shortL, hsh] at this
          simpa using this
end Go.Q.Yb

/- A part of the proof of statements of this seat: lemmas, no statement of their own. -/
import Derived.Test.YtidhlagdagbggaaQArg
import Derived.Test.YtidhlagdagbggaaQConv
/- Numbers and rows of bytes: plain laws. -/
namespace Go.Q
set_option linter.unusedVariables false
set_option linter.unusedSimpArgs false
abbrev b8 (l : List Int) : List Value := l.map (Value.int .u8)
abbrev b32 (l : List Int) : List Value := l.map (Value.int .u32)
abbrev b64 (l : List Int) : List Value := l.map (Value.int .u64)
abbrev bi64 (l : List Int) : List Value := l.map (Value.int .i64)
/-! wrapping -/
theorem wU8 (n : Int) : IntKind.u8.wrap n = n % 256 := by unfold IntKind.wrap; simp [IntKind.signed, IntKind.bits]
theorem wU16 (n : Int) : IntKind.u16.wrap n = n % 65536 := by unfold IntKind.wrap; simp [IntKind.signed, IntKind.bits]
theorem wU32 (n : Int) : IntKind.u32.wrap n = n % 4294967296 := by unfold IntKind.wrap; simp [IntKind.signed, IntKind.bits]
theorem wU64 (n : Int) : IntKind.u64.wrap n = n % 18446744073709551616 := by unfold IntKind.wrap; simp [IntKind.signed, IntKind.bits]
/-! bitwise, on naturals -/
theorem bv_nat (n a : Nat) (ha : a < 2 ^ n) : (BitVec.ofInt n (a : Int)).toNat = a := by
  rw [BitVec.toNat_ofInt, ← Int.natCast_emod, Int.toNat_natCast, Nat.mod_eq_of_lt ha]
theorem or_nat (n a b : Nat) (ha : a < 2 ^ n) (hb : b < 2 ^ n) : (BitVec.ofInt n (a : Int) ||| BitVec.ofInt n (b : Int)).toNat = a ||| b := by
  rw [BitVec.toNat_or, bv_nat n a ha, bv_nat n b hb]
theorem and_nat (n a b : Nat) (ha : a < 2 ^ n) (hb : b < 2 ^ n) : (BitVec.ofInt n (a : Int) &&& BitVec.ofInt n (b : Int)).toNat = a &&& b := by
  rw [BitVec.toNat_and, bv_nat n a ha, bv_nat n b hb]
theorem xor_nat (n a b : Nat) (ha : a < 2 ^ n) (hb : b < 2 ^ n) : (BitVec.ofInt n (a : Int) ^^^ BitVec.ofInt n (b : Int)).toNat = a ^^^ b := by
  rw [BitVec.toNat_xor, bv_nat n a ha, bv_nat n b hb]
theorem bwOr32 {a b : Nat} (ha : a < 4294967296) (hb : b < 4294967296) : bwOr .u32 a b = ((a ||| b : Nat) : Int) := by
  have h : a ||| b < 2 ^ 32 := Nat.or_lt_two_pow (by omega) (by omega)
  show IntKind.u32.wrap ((BitVec.ofInt 32 (a : Int) ||| BitVec.ofInt 32 (b : Int)).toNat) = _
  rw [or_nat 32 a b (by omega) (by omega), wU32]
  omega
theorem or_add {a b i : Nat} (hb : b < 2 ^ i) : a * 2 ^ i ||| b = a * 2 ^ i + b := by
  rw [← Nat.shiftLeft_eq, ← Nat.shiftLeft_add_eq_or_of_lt hb]
theorem bwXor_bd32 (a b : Int) : 0 ≤ bwXor .u32 a b ∧ bwXor .u32 a b < 4294967296 := by unfold bwXor; rw [wU32]; omega
theorem bwXor_bd8 (a b : Int) : 0 ≤ bwXor .u8 a b ∧ bwXor .u8 a b < 256 := by unfold bwXor; rw [wU8]; omega
theorem bwXor8_nat {a b : Nat} (ha : a < 256) (hb : b < 256) : bwXor .u8 a b = ((a ^^^ b : Nat) : Int) := by
  have h : a ^^^ b < 2 ^ 8 := Nat.xor_lt_two_pow (by omega) (by omega)
  show IntKind.u8.wrap ((BitVec.ofInt 8 (a : Int) ^^^ BitVec.ofInt 8 (b : Int)).toNat) = _
  rw [xor_nat 8 a b (by omega) (by omega), wU8]
  omega
/-- twice is nothing -/
theorem bwXor8_twice {a b : Int} (ha : 0 ≤ a ∧ a < 256) (hb : 0 ≤ b ∧ b < 256) : bwXor .u8 (bwXor .u8 a b) b = a := by
  obtain ⟨a, rfl⟩ := Int.eq_ofNat_of_zero_le ha.1
  obtain ⟨b, rfl⟩ := Int.eq_ofNat_of_zero_le hb.1
  have h1 : a ^^^ b < 2 ^ 8 := Nat.xor_lt_two_pow (by omega) (by omega)
  rw [bwXor8_nat (by omega) (by omega), bwXor8_nat (by omega) (by omega), Nat.xor_assoc, Nat.xor_self, Nat.xor_zero]
/-- a word turned to the left -/
def rotI (x : Int) (n : Nat) : Int := (x * 2 ^ n) % 4294967296 + x / 2 ^ (32 - n)
theorem rot_or {x : Int} {n m : Nat} (h : 2 ^ n * 2 ^ m = 4294967296) (x0 : 0 ≤ x) (x1 : x < 4294967296) : bwOr .u32 ((x * 2 ^ n) % 4294967296) (x / 2 ^ m) = (x * 2 ^ n) % 4294967296 + x / 2 ^ m := by
  obtain ⟨x, rfl⟩ := Int.eq_ofNat_of_zero_le x0
  have hx : x < 4294967296 := by omega
  have e1 : ((x : Int) * 2 ^ n) % 4294967296 = ((x % 2 ^ m * 2 ^ n : Nat) : Int) := by
    have : (x * 2 ^ n) % 4294967296 = x % 2 ^ m * 2 ^ n := by rw [← h, Nat.mul_comm (2 ^ n), Nat.mul_mod_mul_right]
    rw [← this, Int.natCast_emod, Int.natCast_mul, Int.natCast_pow]
    rfl
  have e2 : (x : Int) / 2 ^ m = ((x / 2 ^ m : Nat) : Int) := by rw [Int.natCast_ediv, Int.natCast_pow]; rfl
  have hd : x / 2 ^ m < 2 ^ n := by
    rw [Nat.div_lt_iff_lt_mul (Nat.two_pow_pos m), h]; exact hx
  have b1 : x % 2 ^ m * 2 ^ n < 4294967296 := by
    have := Nat.mod_lt x (Nat.two_pow_pos m)
    calc x % 2 ^ m * 2 ^ n < 2 ^ m * 2 ^ n := Nat.mul_lt_mul_of_pos_right this (Nat.two_pow_pos n)
      _ = 4294967296 := by rw [Nat.mul_comm, h]
  have b2 : x / 2 ^ m < 4294967296 := Nat.lt_of_le_of_lt (Nat.div_le_self _ _) hx
  rw [e1, e2, bwOr32 b1 b2, or_add hd, Int.natCast_add]
theorem rot_step_aux {x P Q : Int} (hPQ : P * Q = 2147483648) (P0 : 0 < P) (Q0 : 0 < Q) (x0 : 0 ≤ x) (x1 : x < 4294967296) :
    (((x * P) % 4294967296 + x / (2 * Q)) * 2) % 4294967296 + ((x * P) % 4294967296 + x / (2 * Q)) / 2147483648 = (x * (2 * P)) % 4294967296 + x / Q ∧ 0 ≤ (x * P) % 4294967296 + x / (2 * Q) ∧ (x * P) % 4294967296 + x / (2 * Q) < 4294967296 := by
  obtain ⟨a, ha⟩ : ∃ a, a = x / (2 * Q) := ⟨_, rfl⟩
  obtain ⟨r, hr⟩ : ∃ r, r = x % (2 * Q) := ⟨_, rfl⟩
  have hx : x = 2 * Q * a + r := by rw [ha, hr]; exact (Int.mul_ediv_add_emod x (2 * Q)).symm
  have r0 : 0 ≤ r := by rw [hr]; exact Int.emod_nonneg _ (by omega)
  have r1 : r < 2 * Q := by rw [hr]; exact Int.emod_lt_of_pos _ (by omega)
  have a0 : 0 ≤ a := by rw [ha]; exact Int.ediv_nonneg x0 (by omega)
  have aP : a < P := by
    rw [ha]
    refine Int.ediv_lt_of_lt_mul (by omega) ?_
    have : P * (2 * Q) = 4294967296 := by rw [Int.mul_left_comm, hPQ]; rfl
    omega
  obtain ⟨c, s, hc, hs0, hs1, hrr⟩ : ∃ c s, (c = 0 ∨ c = 1) ∧ 0 ≤ s ∧ s < Q ∧ r = c * Q + s := by
    rcases Int.lt_or_le r Q with h | h
    · exact ⟨0, r, .inl rfl, r0, h, by omega⟩
    · exact ⟨1, r - Q, .inr rfl, by omega, by omega, by omega⟩
  obtain ⟨t, ht⟩ : ∃ t, t = s * P := ⟨_, rfl⟩
  have t0 : 0 ≤ t := by rw [ht]; exact Int.mul_nonneg hs0 (by omega)
  have t1 : t + P ≤ 2147483648 := by
    have : (s + 1) * P ≤ Q * P := Int.mul_le_mul_of_nonneg_right (by omega) (by omega)
    rw [Int.add_mul, Int.one_mul, Int.mul_comm Q P, hPQ, ← ht] at this
    exact this
  have e1 : x * P = 4294967296 * a + 2147483648 * c + t := by
    have h1 : 2 * Q * a * P = 2 * (P * Q) * a := by simp only [Int.mul_assoc, Int.mul_comm, Int.mul_left_comm]
    have h2 : c * Q * P = P * Q * c := by simp only [Int.mul_assoc, Int.mul_comm, Int.mul_left_comm]
    rw [hx, hrr, Int.add_mul, Int.add_mul, h1, h2, hPQ, ← ht]
    omega
  have e2 : x * (2 * P) = 2 * (x * P) := by simp only [Int.mul_assoc, Int.mul_comm, Int.mul_left_comm]
  have e3 : x / Q = 2 * a + c := by
    have : x = s + Q * (2 * a + c) := by
      have h1 : Q * (2 * a + c) = 2 * Q * a + c * Q := by rw [Int.mul_add, Int.mul_left_comm, ← Int.mul_assoc, Int.mul_comm Q c]
      omega
    rw [this, Int.add_mul_ediv_left _ _ (by omega), Int.ediv_eq_zero_of_lt hs0 hs1]
    omega
  rw [e2, e1, e3, ← ha]
  rcases hc with rfl | rfl <;> omega
theorem rot_step {x : Int} (x0 : 0 ≤ x) (x1 : x < 4294967296) (n : Nat) (hn : n < 32) : (rotI x n * 2) % 4294967296 + rotI x n / 2147483648 = rotI x (n + 1) ∧ 0 ≤ rotI x n ∧ rotI x n < 4294967296 := by
  have h : (2 : Int) ^ n * 2 ^ (31 - n) = 2147483648 := by rw [← Int.pow_add, show n + (31 - n) = 31 from by omega]; rfl
  have := rot_step_aux h (Int.pow_pos (by decide)) (Int.pow_pos (by decide)) x0 x1
  unfold rotI
  rw [show 32 - n = (31 - n) + 1 from by omega, show 32 - (n + 1) = 31 - n from by omega, Int.pow_succ, Int.pow_succ, Int.mul_comm (2 ^ (31 - n)) 2, Int.mul_comm (2 ^ n) 2]
  exact this
/-- the number of a row of bytes, the lowest first -/
def numL : List Int → Int
  | [] => 0
  | b :: r => b + 256 * numL r
/-- the form of a number: its lowest byte first -/
def formL : Int → Nat → List Int
  | _, 0 => []
  | n, w + 1 => n % 256 :: formL (n / 256) w
theorem formL_length : ∀ (w : Nat) (n : Int), (formL n w).length = w
  | 0, _ => rfl
  | w + 1, n => by simp [formL, formL_length w]
def isB (l : List Int) : Prop := ∀ b ∈ l, 0 ≤ b ∧ b < 256
theorem formL_B : ∀ (w : Nat) (n : Int), isB (formL n w)
  | 0, _ => by intro b hb; simp [formL] at hb
  | w + 1, n => by
    intro b hb
    simp only [formL, List.mem_cons] at hb
    rcases hb with rfl | hb
    · omega
    · exact formL_B w _ b hb
theorem numL_bd : ∀ {l : List Int}, isB l → 0 ≤ numL l ∧ numL l < 256 ^ l.length
  | [], _ => by simp [numL]
  | b :: r, h => by
    have h1 := h b (by simp)
    have h2 := numL_bd (l := r) fun x hx => h x (List.mem_cons_of_mem _ hx)
    simp only [numL, List.length_cons, Int.pow_succ]
    omega
theorem numL_form4 {n : Int} (n0 : 0 ≤ n) (n1 : n < 4294967296) : numL (formL n 4) = n := by simp only [formL, numL]; omega
theorem numL_form8 {n : Int} (n0 : 0 ≤ n) (n1 : n < 18446744073709551616) : numL (formL n 8) = n := by simp only [formL, numL]; omega
theorem numL_form2 {n : Int} (n0 : 0 ≤ n) (n1 : n < 65536) : numL (formL n 2) = n := by simp only [formL, numL]; omega
theorem numL_form1 {n : Int} (n0 : 0 ≤ n) (n1 : n < 256) : numL (formL n 1) = n := by simp only [formL, numL]; omega
theorem form_numL4 {a b c d : Int} (h : isB [a, b, c, d]) : formL (numL [a, b, c, d]) 4 = [a, b, c, d] := by
  have ha := h a (by simp); have hb := h b (by simp); have hc := h c (by simp); have hd := h d (by simp)
  simp only [formL, numL, List.cons.injEq, and_true]
  omega
theorem pow_mono {a b : Nat} (h : a ≤ b) : (256 : Int) ^ a ≤ 256 ^ b := by
  have : (256 : Nat) ^ a ≤ 256 ^ b := Nat.pow_le_pow_right (by decide) h
  have h2 : ((256 ^ a : Nat) : Int) ≤ ((256 ^ b : Nat) : Int) := by omega
  simpa using h2
theorem SlcAt.of_blk {h : Heap} {g E n m : Nat} {xs ys : List Value} (k : Blk h g (xs ++ ys) E) : SlcAt h ⟨some ⟨g, 0, none⟩, n, m⟩ xs := by
  refine ⟨fun hn => (by cases hn), fun a ha j v hj => ?_⟩
  simp only [Option.some.injEq] at ha; subst ha
  rw [add_mk, Nat.zero_add, k.cell, List.getElem?_append_left (List.getElem?_eq_some_iff.1 hj).1]
  exact hj
theorem SlcAt.sub {h : Heap} {s : Slc} {vs : List Value} {w l u m : Nat} (hs : SlcAt h s vs) (h1 : l ≤ u) (h2 : u ≤ m) : SlcAt h (subS s w l u m) ((vs.drop (l * w)).take ((u - l) * w)) := by
  refine ⟨fun hn => ?_, fun a ha j v hj => ?_⟩
  · have : s.a = none := by
      simp only [subS] at hn
      split at hn
      · exact hn
      · simpa using hn
    rw [hs.1 this]; simp
  · rw [List.getElem?_take] at hj
    split at hj
    · rename_i hlt
      rw [List.getElem?_drop] at hj
      simp only [subS] at ha
      split at ha
      · rename_i hml
        rw [show u - l = 0 from by omega] at hlt
        omega
      · simp only [Option.map_eq_some_iff] at ha
        obtain ⟨b, hb, rfl⟩ := ha
        have : (b.add (l * w)).add j = b.add (l * w + j) := by
          unfold Addr.add
          by_cases h0 : l * w = 0 <;> by_cases h1 : j = 0 <;> simp [h0, h1, Nat.add_assoc]
        rw [this]
        exact hs.2 b hb _ v hj
    · cases hj
theorem subS_len (s : Slc) (w l u m : Nat) : (subS s w l u m).len = u - l := rfl
theorem subS_cap (s : Slc) (w l u m : Nat) : (subS s w l u m).cap = m - l := rfl
theorem b8_one (l : List Int) : ∀ v ∈ b8 l, v.oneCell' = true := one_ints _ l
end Go.Q

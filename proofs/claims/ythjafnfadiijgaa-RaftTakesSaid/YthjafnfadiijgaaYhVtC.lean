/- A part of the proof of statements of this seat: lemmas, no statement of their own. -/
import Derived.Test.YthjafnfadiijgaaYhVt0
import Derived.Test.YthjafnfadiijgaaQZa
set_option linter.unusedVariables false
set_option linter.unusedSimpArgs false
namespace Go.Q.Yh
/-! ### how many bits are set -/
theorem and_step (a b : Nat) : a &&& b = (a % 256 &&& b % 256) + 256 * (a / 256 &&& b / 256) := by
  have h1 := Nat.and_mod_two_pow (a := a) (b := b) (n := 8)
  have h2 := Nat.and_div_two_pow (a := a) (b := b) (n := 8)
  have h3 := Nat.div_add_mod (a &&& b) 256
  rw [show (2 : Nat) ^ 8 = 256 from rfl] at h1 h2
  omega
def g1 (B : Nat) : Nat := (B / 2 &&& 85) + (B &&& 85)
def g2 (B : Nat) : Nat := (B / 4 &&& 51) + (B &&& 51)
def g3 (B : Nat) : Nat := (B / 16 + B) &&& 15
def msk (m : Nat) : Nat → Nat
  | 0 => 0
  | k + 1 => m + 256 * msk m k
def bsum (f : Nat → Nat) : Nat → Nat → Nat
  | 0, _ => 0
  | k + 1, x => f (x % 256) + 256 * bsum f k (x / 256)
theorem msk_mod {m k : Nat} (hm : m < 256) : msk m (k + 1) % 256 = m ∧ msk m (k + 1) / 256 = msk m k := by
  show (m + 256 * msk m k) % 256 = m ∧ (m + 256 * msk m k) / 256 = msk m k
  omega
theorem all256 {p : Nat → Bool} (h : (List.range 256).all p = true) {B : Nat} (hB : B < 256) : p B = true := List.all_eq_true.1 h B (by simpa using hB)
theorem g1_lt {B : Nat} (hB : B < 256) : g1 B < 256 := by
  have := all256 (p := fun B => decide (g1 B < 256)) (by decide +kernel) hB
  simpa using this
theorem g2_ok {B : Nat} (hB : B < 256) : g2 (g1 B) ≤ 68 ∧ g2 (g1 B) % 16 ≤ 4 := by
  have := all256 (p := fun B => decide (g2 (g1 B) ≤ 68 ∧ g2 (g1 B) % 16 ≤ 4)) (by decide +kernel) hB
  simpa using this
theorem stepA : ∀ (k x : Nat), (x / 2 &&& msk 85 k) + (x &&& msk 85 k) = bsum g1 k x
  | 0, x => by show (x / 2 &&& 0) + (x &&& 0) = 0; simp
  | k + 1, x => by
    have ih := stepA k (x / 256)
    obtain ⟨m1, m2⟩ := msk_mod (k := k) (show 85 < 256 by omega)
    rw [and_step (x / 2), and_step x, m1, m2]
    have key : ∀ B, B < 256 → ∀ c, c < 2 → (B / 2 + 128 * c) &&& 85 = B / 2 &&& 85 := fun B hB => by
      have := all256 (p := fun B => (List.range 2).all fun c => ((B / 2 + 128 * c) &&& 85) == (B / 2 &&& 85)) (by decide +kernel) hB
      intro c hc
      have := List.all_eq_true.1 this c (by simpa using hc)
      simpa using this
    have e1 : x / 2 % 256 = x % 256 / 2 + 128 * (x / 256 % 2) := by omega
    have e2 : x / 2 / 256 = x / 256 / 2 := by omega
    rw [e1, key _ (Nat.mod_lt _ (by omega)) _ (Nat.mod_lt _ (by omega)), e2]
    show _ = g1 (x % 256) + 256 * bsum g1 k (x / 256)
    rw [← ih]
    unfold g1
    omega
theorem stepB : ∀ (k x : Nat), (x / 4 &&& msk 51 k) + (x &&& msk 51 k) = bsum g2 k x
  | 0, x => by show (x / 4 &&& 0) + (x &&& 0) = 0; simp
  | k + 1, x => by
    have ih := stepB k (x / 256)
    obtain ⟨m1, m2⟩ := msk_mod (k := k) (show 51 < 256 by omega)
    rw [and_step (x / 4), and_step x, m1, m2]
    have key : ∀ B, B < 256 → ∀ c, c < 4 → (B / 4 + 64 * c) &&& 51 = B / 4 &&& 51 := fun B hB => by
      have := all256 (p := fun B => (List.range 4).all fun c => ((B / 4 + 64 * c) &&& 51) == (B / 4 &&& 51)) (by decide +kernel) hB
      intro c hc
      have := List.all_eq_true.1 this c (by simpa using hc)
      simpa using this
    have e1 : x / 4 % 256 = x % 256 / 4 + 64 * (x / 256 % 4) := by omega
    have e2 : x / 4 / 256 = x / 256 / 4 := by omega
    rw [e1, key _ (Nat.mod_lt _ (by omega)) _ (Nat.mod_lt _ (by omega)), e2]
    show _ = g2 (x % 256) + 256 * bsum g2 k (x / 256)
    rw [← ih]
    unfold g2
    omega
theorem stepC {q : Nat → Nat} (hq : ∀ B, B < 256 → q B ≤ 68 ∧ q B % 16 ≤ 4) : ∀ (k x : Nat), (bsum q k x / 16 + bsum q k x) &&& msk 15 k = bsum (fun B => g3 (q B)) k x
  | 0, x => by show (0 / 16 + 0) &&& 0 = 0; rfl
  | k + 1, x => by
    have ih := stepC hq k (x / 256)
    obtain ⟨m1, m2⟩ := msk_mod (k := k) (show 15 < 256 by omega)
    obtain ⟨b1, b2⟩ := hq (x % 256) (Nat.mod_lt _ (by omega))
    have r16 : bsum q k (x / 256) % 16 ≤ 4 := by
      cases k with
      | zero => show 0 % 16 ≤ 4; omega
      | succ k =>
        obtain ⟨_, c2⟩ := hq (x / 256 % 256) (Nat.mod_lt _ (by omega))
        show (q (x / 256 % 256) + 256 * bsum q k (x / 256 / 256)) % 16 ≤ 4
        omega
    rw [and_step, m1, m2]
    show (((q (x % 256) + 256 * bsum q k (x / 256)) / 16 + (q (x % 256) + 256 * bsum q k (x / 256))) % 256 &&& 15) + 256 * (((q (x % 256) + 256 * bsum q k (x / 256)) / 16 + (q (x % 256) + 256 * bsum q k (x / 256))) / 256 &&& msk 15 k) = g3 (q (x % 256)) + 256 * bsum (fun B => g3 (q B)) k (x / 256)
    rw [← ih]
    generalize q (x % 256) = B at *
    generalize bsum q k (x / 256) = R at *
    have key : ∀ B, B < 256 → ∀ c, c < 16 → ((B / 16 + 16 * c + B) % 256) &&& 15 = (B / 16 + B) &&& 15 := fun B hB => by
      have := all256 (p := fun B => (List.range 16).all fun c => (((B / 16 + 16 * c + B) % 256) &&& 15) == ((B / 16 + B) &&& 15)) (by decide +kernel) hB
      intro c hc
      have := List.all_eq_true.1 this c (by simpa using hc)
      simpa using this
    have e1 : ((B + 256 * R) / 16 + (B + 256 * R)) % 256 = (B / 16 + 16 * (R % 16) + B) % 256 := by omega
    have e2 : ((B + 256 * R) / 16 + (B + 256 * R)) / 256 = R / 16 + R := by omega
    rw [e1, key B (by omega) _ (by omega), e2]
    rfl
theorem bsum_comp {f g : Nat → Nat} (hg : ∀ B, B < 256 → g B < 256) : ∀ (k x : Nat), bsum f k (bsum g k x) = bsum (fun B => f (g B)) k x
  | 0, _ => rfl
  | k + 1, x => by
    have ih := bsum_comp (f := f) hg k (x / 256)
    have := hg (x % 256) (Nat.mod_lt _ (by omega))
    show f ((g (x % 256) + 256 * bsum g k (x / 256)) % 256) + 256 * bsum f k ((g (x % 256) + 256 * bsum g k (x / 256)) / 256) = f (g (x % 256)) + 256 * bsum (fun B => f (g B)) k (x / 256)
    rw [← ih, show (g (x % 256) + 256 * bsum g k (x / 256)) % 256 = g (x % 256) from by omega, show (g (x % 256) + 256 * bsum g k (x / 256)) / 256 = bsum g k (x / 256) from by omega]
theorem bsum_zero {f : Nat → Nat} (h0 : f 0 = 0) : ∀ k, bsum f k 0 = 0
  | 0 => rfl
  | k + 1 => by show f (0 % 256) + 256 * bsum f k (0 / 256) = 0; rw [Nat.zero_mod, Nat.zero_div, h0, bsum_zero h0 k]
theorem bsum4 {f : Nat → Nat} (h0 : f 0 = 0) {x : Nat} (hx : x < 4294967296) : bsum f 8 x = f (x % 256) + 256 * (f (x / 256 % 256) + 256 * (f (x / 65536 % 256) + 256 * f (x / 16777216 % 256))) := by
  show f (x % 256) + 256 * (f (x / 256 % 256) + 256 * (f (x / 256 / 256 % 256) + 256 * (f (x / 256 / 256 / 256 % 256) + 256 * bsum f 4 (x / 256 / 256 / 256 / 256)))) = _
  rw [show x / 256 / 256 = x / 65536 from by omega, show x / 65536 / 256 = x / 16777216 from by omega, show x / 16777216 / 256 = 0 from by omega, bsum_zero h0]
  omega
def p8 (B : Nat) : Nat := g3 (g2 (g1 B))
def pcR : Nat → Nat → Nat
  | 0, _ => 0
  | k + 1, x => x % 2 + pcR k (x / 2)
theorem p8_pc {B : Nat} (hB : B < 256) : p8 B = pcR 8 B := by
  have := all256 (p := fun B => p8 B == pcR 8 B) (by decide +kernel) hB
  simpa using this
theorem pcR_le : ∀ (k x : Nat), pcR k x ≤ k
  | 0, _ => Nat.le_refl _
  | k + 1, x => by have := pcR_le k (x / 2); show x % 2 + pcR k (x / 2) ≤ k + 1; omega
theorem pcR_mod : ∀ (k x : Nat), pcR k (x % 2 ^ k) = pcR k x
  | 0, _ => rfl
  | k + 1, x => by
    have ih := pcR_mod k (x / 2)
    show x % 2 ^ (k + 1) % 2 + pcR k (x % 2 ^ (k + 1) / 2) = x % 2 + pcR k (x / 2)
    have h1 : x % 2 ^ (k + 1) / 2 = x / 2 % 2 ^ k := by
      rw [Nat.pow_succ, Nat.mul_comm, Nat.mod_mul_right_div_self]
    have h2 : x % 2 ^ (k + 1) % 2 = x % 2 := Nat.mod_mod_of_dvd x ⟨2 ^ k, by rw [Nat.pow_succ, Nat.mul_comm]⟩
    rw [h1, h2, ih]
theorem pcR_add : ∀ (j k x : Nat), pcR (j + k) x = pcR j x + pcR k (x / 2 ^ j)
  | 0, k, x => by simp [pcR]
  | j + 1, k, x => by
    have ih := pcR_add j k (x / 2)
    rw [show j + 1 + k = (j + k) + 1 from by omega]
    show x % 2 + pcR (j + k) (x / 2) = x % 2 + pcR j (x / 2) + pcR k (x / 2 ^ (j + 1))
    rw [ih, Nat.div_div_eq_div_mul, show 2 * 2 ^ j = 2 ^ (j + 1) from by rw [Nat.pow_succ, Nat.mul_comm]]
    omega
theorem pc32 {x : Nat} : pcR 32 x = pcR 8 (x % 256) + (pcR 8 (x / 256 % 256) + (pcR 8 (x / 65536 % 256) + pcR 8 (x / 16777216 % 256))) := by
  have m : ∀ y, pcR 8 (y % 256) = pcR 8 y := fun y => pcR_mod 8 y
  rw [m, m, m, m, show 32 = 8 + 24 from rfl, pcR_add, show 24 = 8 + 16 from rfl, pcR_add, show 16 = 8 + 8 from rfl, pcR_add]
  rw [show (2 : Nat) ^ 8 = 256 from rfl, show x / 256 / 256 = x / 65536 from by omega, show x / 65536 / 256 = x / 16777216 from by omega]
theorem bwAnd64 {a b : Nat} (ha : a < 18446744073709551616) (hb : b < 18446744073709551616) : bwAnd .u64 a b = ((a &&& b : Nat) : Int) := by
  show IntKind.u64.wrap ((BitVec.ofInt 64 (a : Int) &&& BitVec.ofInt 64 (b : Int)).toNat : Int) = _
  rw [and_nat 64 a b (by omega) (by omega), wU64]
  have : a &&& b ≤ a := Nat.and_le_left
  omega
theorem bwOr64v {a b : Nat} (ha : a < 18446744073709551616) (hb : b < 18446744073709551616) : bwOr .u64 a b = ((a ||| b : Nat) : Int) := by
  show IntKind.u64.wrap ((BitVec.ofInt 64 (a : Int) ||| BitVec.ofInt 64 (b : Int)).toNat : Int) = _
  rw [or_nat 64 a b (by omega) (by omega), wU64]
  have := Nat.or_lt_two_pow (n := 64) (x := a) (y := b) (by omega) (by omega)
  omega
theorem shrN {a n : Nat} (hn : n ≤ 64) : shr .u64 a n = ((a / 2 ^ n : Nat) : Int) := by
  unfold shr
  rw [show min n IntKind.u64.bits = n from Nat.min_eq_left hn, Int.fdiv_eq_ediv_of_nonneg _ (Int.pow_nonneg (by omega))]
  rw [Int.natCast_ediv]
  simp
theorem and127i {v : Nat} (h : v < 9223372036854775808) : bwAnd .i64 v 127 = ((v % 128 : Nat) : Int) := by
  show IntKind.i64.wrap ((BitVec.ofInt 64 (v : Int) &&& BitVec.ofInt 64 ((127 : Nat) : Int)).toNat : Int) = _
  rw [and_nat 64 v 127 (by omega) (by omega)]
  have : v &&& 127 = v % 128 := Nat.and_two_pow_sub_one_eq_mod v 7
  rw [this, wrapI64 (by omega) (by omega)]
theorem p8_le {B : Nat} (hB : B < 256) : p8 B ≤ 8 := by rw [p8_pc hB]; exact pcR_le 8 B
theorem Ones_ok {x : Nat} {k : Int → Heap → Prop} {h : Heap} (hx : x < 4294967296) (H : k (pcR 32 x) h) : math_bits_OnesCount64 x k h := by
  unfold math_bits_OnesCount64
  have m1 : (6148914691236517205 : Int) = ((msk 85 8 : Nat) : Int) := by decide +kernel
  have m2 : (3689348814741910323 : Int) = ((msk 51 8 : Nat) : Int) := by decide +kernel
  have m3 : (1085102592571150095 : Int) = ((msk 15 8 : Nat) : Int) := by decide +kernel
  have l1 : msk 85 8 < 18446744073709551616 := by decide +kernel
  have l2 : msk 51 8 < 18446744073709551616 := by decide +kernel
  have l3 : msk 15 8 < 18446744073709551616 := by decide +kernel
  have b0 : ∀ y : Nat, y % 256 < 256 := fun y => Nat.mod_lt _ (by omega)
  have y1 := bsum4 (f := g1) rfl hx
  have hy1 : bsum g1 8 x < 4294967296 := by
    rw [y1]
    have h1 := g1_lt (b0 x); have h2 := g1_lt (b0 (x / 256)); have h3 := g1_lt (b0 (x / 65536)); have h4 := g1_lt (b0 (x / 16777216))
    omega
  have ec : bsum g2 8 (bsum g1 8 x) = bsum (fun B => g2 (g1 B)) 8 x := bsum_comp (fun B hB => g1_lt hB) 8 x
  have y2 := bsum4 (f := fun B => g2 (g1 B)) rfl hx
  have hy2 : bsum (fun B => g2 (g1 B)) 8 x < 4294967296 := by
    rw [y2]
    have h1 := (g2_ok (b0 x)).1; have h2 := (g2_ok (b0 (x / 256))).1; have h3 := (g2_ok (b0 (x / 65536))).1; have h4 := (g2_ok (b0 (x / 16777216))).1
    omega
  have y3 := bsum4 (f := p8) rfl hx
  have ep := pc32 (x := x)
  rw [← p8_pc (b0 _), ← p8_pc (b0 _), ← p8_pc (b0 _), ← p8_pc (b0 _)] at ep
  have q1 := p8_le (b0 x); have q2 := p8_le (b0 (x / 256)); have q3 := p8_le (b0 (x / 65536)); have q4 := p8_le (b0 (x / 16777216))
  have s1 : IntKind.u64.wrap (bwAnd .u64 (shr .u64 (x : Int) (1 : Int).toNat) 6148914691236517205 + bwAnd .u64 (x : Int) 6148914691236517205) = ((bsum g1 8 x : Nat) : Int) := by
    rw [show (1 : Int).toNat = 1 from rfl, shrN (by omega), m1, bwAnd64 (by omega) l1, bwAnd64 (by omega) l1, ← Int.natCast_add, Nat.pow_one, stepA, wrapU64 (by omega) (by omega)]
  have s2 : IntKind.u64.wrap (bwAnd .u64 (shr .u64 ((bsum g1 8 x : Nat) : Int) (2 : Int).toNat) 3689348814741910323 + bwAnd .u64 ((bsum g1 8 x : Nat) : Int) 3689348814741910323) = ((bsum (fun B => g2 (g1 B)) 8 x : Nat) : Int) := by
    rw [show (2 : Int).toNat = 2 from rfl, shrN (by omega), m2, bwAnd64 (by omega) l2, bwAnd64 (by omega) l2, ← Int.natCast_add, show (2 : Nat) ^ 2 = 4 from rfl, stepB, ec, wrapU64 (by omega) (by omega)]
  have s3 : bwAnd .u64 (IntKind.u64.wrap (shr .u64 ((bsum (fun B => g2 (g1 B)) 8 x : Nat) : Int) (4 : Int).toNat + ((bsum (fun B => g2 (g1 B)) 8 x : Nat) : Int))) 1085102592571150095 = ((bsum p8 8 x : Nat) : Int) := by
    rw [show (4 : Int).toNat = 4 from rfl, shrN (by omega), ← Int.natCast_add, wrapU64 (by omega) (by omega), m3, bwAnd64 (by omega) l3, show (2 : Nat) ^ 4 = 16 from rfl]
    have := stepC (q := fun B => g2 (g1 B)) (fun B hB => g2_ok hB) 8 x
    rw [this]; rfl
  refine ⟨_, rfl, _, rfl, _, rfl, _, rfl, _, rfl, _, rfl, _, rfl, ?_⟩
  rw [s1, s2, s3]
  generalize bsum p8 8 x = z at *
  have hz : z < 16777216 * 9 := by omega
  have z4 : IntKind.u64.wrap (((z : Nat) : Int) + shr .u64 ((z : Nat) : Int) (8 : Int).toNat) = ((z + z / 256 : Nat) : Int) := by
    rw [show (8 : Int).toNat = 8 from rfl, shrN (by omega), ← Int.natCast_add, show (2 : Nat) ^ 8 = 256 from rfl, wrapU64 (by omega) (by omega)]
  rw [z4]
  have z5 : IntKind.u64.wrap (((z + z / 256 : Nat) : Int) + shr .u64 ((z + z / 256 : Nat) : Int) (16 : Int).toNat) = ((z + z / 256 + (z + z / 256) / 65536 : Nat) : Int) := by
    rw [show (16 : Int).toNat = 16 from rfl, shrN (by omega), ← Int.natCast_add, show (2 : Nat) ^ 16 = 65536 from rfl, wrapU64 (by omega) (by omega)]
  rw [z5]
  have z6 : IntKind.u64.wrap (((z + z / 256 + (z + z / 256) / 65536 : Nat) : Int) + shr .u64 ((z + z / 256 + (z + z / 256) / 65536 : Nat) : Int) (32 : Int).toNat) = ((z + z / 256 + (z + z / 256) / 65536 + (z + z / 256 + (z + z / 256) / 65536) / 4294967296 : Nat) : Int) := by
    rw [show (32 : Int).toNat = 32 from rfl, shrN (by omega), ← Int.natCast_add, show (2 : Nat) ^ 32 = 4294967296 from rfl, wrapU64 (by omega) (by omega)]
  rw [z6, wrapI64 (by omega) (by omega), and127i (by omega)]
  have : (z + z / 256 + (z + z / 256) / 65536 + (z + z / 256 + (z + z / 256) / 65536) / 4294967296) % 128 = pcR 32 x := by
    generalize p8 (x % 256) = c0 at *
    generalize p8 (x / 256 % 256) = c1 at *
    generalize p8 (x / 65536 % 256) = c2 at *
    generalize p8 (x / 16777216 % 256) = c3 at *
    have e1 : z / 256 = c1 + 256 * c2 + 65536 * c3 := by omega
    have e2 : (z + z / 256) / 65536 = c2 + c3 + 256 * c3 := by omega
    have e3 : (z + z / 256 + (z + z / 256) / 65536) / 4294967296 = 0 := by omega
    rw [e3, e2, e1]
    omega
  rw [this]; exact H
/-! a bit is set -/
theorem pcR_set : ∀ (k i x : Nat), i < k → x / 2 ^ i % 2 = 0 → pcR k (x + 2 ^ i) = pcR k x + 1
  | 0, _, _, h, _ => by omega
  | k + 1, 0, x, _, h => by
    rw [Nat.pow_zero, Nat.div_one] at h
    show (x + 1) % 2 + pcR k ((x + 1) / 2) = x % 2 + pcR k (x / 2) + 1
    rw [show (x + 1) / 2 = x / 2 from by omega]; omega
  | k + 1, i + 1, x, hi, h => by
    have ih := pcR_set k i (x / 2) (by omega) (by rw [Nat.div_div_eq_div_mul, show 2 * 2 ^ i = 2 ^ (i + 1) from by rw [Nat.pow_succ, Nat.mul_comm]]; exact h)
    show (x + 2 ^ (i + 1)) % 2 + pcR k ((x + 2 ^ (i + 1)) / 2) = x % 2 + pcR k (x / 2) + 1
    rw [Nat.pow_succ, show (x + 2 ^ i * 2) / 2 = x / 2 + 2 ^ i from by omega, ih]
    omega
theorem or_set : ∀ (i x : Nat), x / 2 ^ i % 2 = 0 → x ||| 2 ^ i = x + 2 ^ i
  | 0, x, h => by
    rw [Nat.pow_zero, Nat.div_one] at h
    have h1 := Nat.or_mod_two_pow (a := x) (b := 1) (n := 1)
    have h2 := Nat.or_div_two_pow (a := x) (b := 1) (n := 1)
    have h3 := Nat.div_add_mod (x ||| 1) 2
    rw [Nat.pow_one] at h1 h2
    rw [Nat.pow_zero]
    rw [h, show (0 ||| 1 % 2 : Nat) = 1 from rfl] at h1
    rw [show (1 / 2 : Nat) = 0 from rfl, Nat.or_zero] at h2
    omega
  | i + 1, x, h => by
    have ih := or_set i (x / 2) (by rw [Nat.div_div_eq_div_mul, show 2 * 2 ^ i = 2 ^ (i + 1) from by rw [Nat.pow_succ, Nat.mul_comm]]; exact h)
    have h1 := Nat.or_mod_two_pow (a := x) (b := 2 ^ (i + 1)) (n := 1)
    have h2 := Nat.or_div_two_pow (a := x) (b := 2 ^ (i + 1)) (n := 1)
    have h3 := Nat.div_add_mod (x ||| 2 ^ (i + 1)) 2
    rw [Nat.pow_one] at h1 h2
    rw [Nat.pow_succ, show 2 ^ i * 2 % 2 = 0 from by omega, Nat.or_zero] at h1
    rw [Nat.pow_succ, show 2 ^ i * 2 / 2 = 2 ^ i from by omega, ih] at h2
    rw [Nat.pow_succ] at h3 ⊢
    omega
theorem set_bit {i j x : Nat} (h : x / 2 ^ i % 2 = 0) : (x + 2 ^ i) / 2 ^ j % 2 = if j = i then 1 else x / 2 ^ j % 2 := by
  rcases Nat.lt_trichotomy j i with hj | hj | hj
  · rw [if_neg (by omega)]
    obtain ⟨m, rfl⟩ : ∃ m, i = j + (m + 1) := ⟨i - j - 1, by omega⟩
    have : x + 2 ^ (j + (m + 1)) = x + 2 ^ j * (2 * 2 ^ m) := by rw [Nat.pow_add, Nat.pow_succ 2 m, Nat.mul_comm (2 ^ m) 2]
    rw [this, Nat.add_mul_div_left _ _ (Nat.two_pow_pos j)]
    omega
  · subst hj
    rw [if_pos rfl, Nat.add_div_right _ (Nat.two_pow_pos j)]
    omega
  · rw [if_neg (by omega)]
    have key : (x + 2 ^ i) / 2 ^ (i + 1) = x / 2 ^ (i + 1) := by
      rw [Nat.pow_succ, ← Nat.div_div_eq_div_mul, ← Nat.div_div_eq_div_mul, Nat.add_div_right _ (Nat.two_pow_pos i)]
      omega
    obtain ⟨m, rfl⟩ : ∃ m, j = (i + 1) + m := ⟨j - i - 1, by omega⟩
    rw [Nat.pow_add, ← Nat.div_div_eq_div_mul, ← Nat.div_div_eq_div_mul, key]
theorem set_lt {i n x : Nat} (hi : i < n) (hx : x < 2 ^ n) (h : x / 2 ^ i % 2 = 0) : x + 2 ^ i < 2 ^ n := by
  rw [← or_set i x h]
  exact Nat.or_lt_two_pow hx (Nat.pow_lt_pow_right (by omega) hi)
theorem pcR_bd : ∀ (k n x : Nat), x < 2 ^ n → pcR k x ≤ n
  | 0, n, _, _ => Nat.zero_le _
  | k + 1, 0, x, h => by
    have : x = 0 := by simpa using h
    subst this
    show 0 % 2 + pcR k (0 / 2) ≤ 0
    have := pcR_bd k 0 (0 / 2) (by simp)
    omega
  | k + 1, n + 1, x, h => by
    have := pcR_bd k n (x / 2) (by rw [Nat.pow_succ] at h; omega)
    show x % 2 + pcR k (x / 2) ≤ n + 1
    omega
end Go.Q.Yh

/- A part of the proof of statements of this seat: lemmas, no statement of their own. -/
import Derived.Test.YtmhadeadjjkkcaaDoorYeCardW
import Derived.Test.YtmhadeadjjkkcaaDoorYeV0
import Derived.Test.YtmhadeadjjkkcaaDoorQFr
set_option linter.unusedVariables false
set_option linter.unusedSimpArgs false
set_option maxRecDepth 100000
/- Slot: the words of a fingerprint, told as the document tells them. -/
namespace Go.Q.Ye
def W32 (x : Int) : Prop := 0 ≤ x ∧ x < 4294967296
def AW (l : List Int) : Prop := ∀ x ∈ l, W32 x
theorem AW.getD {l : List Int} (h : AW l) (i : Nat) : W32 (l.getD i 0) := by
  rcases Nat.lt_or_ge i l.length with c | c
  · rw [show l.getD i 0 = l[i] from by simp [c]]; exact h _ (List.getElem_mem c)
  · rw [show l.getD i 0 = 0 from by simp [c]]; exact ⟨by omega, by omega⟩
theorem W32.wrap (x : Int) : W32 (IntKind.u32.wrap x) := by rw [wU32]; exact ⟨by omega, by omega⟩
theorem W32.xor (a b : Int) : W32 (bwXor .u32 a b) := bwXor_bd32 a b
theorem W32.and (a b : Int) : W32 (bwAnd .u32 a b) := by unfold bwAnd; exact W32.wrap _
theorem W32.or (a b : Int) : W32 (bwOr .u32 a b) := by unfold bwOr; exact W32.wrap _
theorem AW.set {l : List Int} (h : AW l) {i : Nat} {v : Int} (hv : W32 v) : AW (l.set i v) := fun x hx => by
  rcases List.mem_or_eq_of_mem_set hx with c | c
  · exact h x c
  · rw [c]; exact hv
/-- a word turned to the right -/
def trN (x n : Nat) : Nat := x / 2 ^ n + x % 2 ^ n * 2 ^ (32 - n)
theorem tr_zero {x : Nat} : trN x 0 = x := by unfold trN; simp [Nat.mod_one]
theorem tr_step {x n : Nat} (hn : n < 32) : trN x n / 2 + trN x n % 2 * 2147483648 = trN x (n + 1) := by
  unfold trN
  obtain ⟨P, hP⟩ : ∃ P, P = 2 ^ (31 - n) := ⟨_, rfl⟩
  have e1 : (2 : Nat) ^ (32 - n) = 2 * P := by rw [hP, show 32 - n = (31 - n) + 1 from by omega, Nat.pow_succ, Nat.mul_comm]
  have e2 : (2 : Nat) ^ (32 - (n + 1)) = P := by rw [hP, show 32 - (n + 1) = 31 - n from by omega]
  have e3 : (2 : Nat) ^ n * P = 2147483648 := by rw [hP, ← Nat.pow_add, show n + (31 - n) = 31 from by omega]
  rw [e1, e2, Nat.mod_pow_succ, Nat.pow_succ, ← Nat.div_div_eq_div_mul]
  generalize x / 2 ^ n = q
  generalize x % 2 ^ n = r
  rw [Nat.mul_left_comm r 2 P, Nat.add_mul, show 2 ^ n * (q % 2) * P = 2147483648 * (q % 2) from by rw [Nat.mul_right_comm, e3]]
  generalize r * P = t
  omega
theorem tr_lt {x : Nat} (hx : x < 4294967296) : ∀ n, n ≤ 32 → trN x n < 4294967296
  | 0, _ => by rw [tr_zero]; exact hx
  | n + 1, hn => by
    have := tr_lt hx n (by omega)
    rw [← tr_step (by omega)]; omega
theorem rot_tr {x : Nat} {n : Int} {a b : Nat} (hx : x < 4294967296) (e1 : (bwAnd .u64 (IntKind.u64.wrap n) 31).toNat = a) (e2 : (IntKind.u64.wrap (32 - bwAnd .u64 (IntKind.u64.wrap n) 31)).toNat = b) (h : a + b = 32) : rotD x n = ((trN x b : Nat) : Int) := by
  have hp : 2 ^ a * 2 ^ b = 4294967296 := by rw [← Nat.pow_add, h]
  have s1 : shl .u32 (x : Int) a = ((x : Int) * 2 ^ a) % 4294967296 := by unfold shl; rw [wU32]; simp [IntKind.bits, Nat.min_eq_left (show a ≤ 32 by omega)]
  have s2 : shr .u32 (x : Int) b = (x : Int) / 2 ^ b := by
    unfold shr; simp only [IntKind.bits, Nat.min_eq_left (show b ≤ 32 by omega)]
    exact Int.fdiv_eq_ediv_of_nonneg _ (Int.pow_nonneg (by decide))
  have e3 : ((x : Int) * 2 ^ a) % 4294967296 = ((x % 2 ^ b * 2 ^ a : Nat) : Int) := by
    have : (x * 2 ^ a) % 4294967296 = x % 2 ^ b * 2 ^ a := by rw [← hp, Nat.mul_comm (2 ^ a), Nat.mul_mod_mul_right]
    rw [← this, Int.natCast_emod, Int.natCast_mul, Int.natCast_pow]; rfl
  have e4 : (x : Int) / 2 ^ b = ((x / 2 ^ b : Nat) : Int) := by rw [Int.natCast_ediv, Int.natCast_pow]; rfl
  unfold rotD
  rw [e1, e2, s1, s2, rot_or hp (by omega) (by omega), e3, e4, ← Int.natCast_add, trN, Nat.add_comm, show 32 - b = a from by omega]
def trI (x : Int) (n : Nat) : Int := ((trN x.toNat n : Nat) : Int)
theorem W32.tr {x : Int} (h : W32 x) {n : Nat} (hn : n ≤ 32) : W32 (trI x n) := by
  have h0 := h.1
  have h1 := h.2
  have := tr_lt (x := x.toNat) (by omega) n hn
  unfold trI; exact ⟨by omega, by omega⟩
theorem rot_trI {x : Int} (h : W32 x) {n : Int} {a b : Nat} (e1 : (bwAnd .u64 (IntKind.u64.wrap n) 31).toNat = a) (e2 : (IntKind.u64.wrap (32 - bwAnd .u64 (IntKind.u64.wrap n) 31)).toNat = b) (hab : a + b = 32) : rotD x n = trI x b := by
  have h0 := h.1
  have h1 := h.2
  have := rot_tr (x := x.toNat) (n := n) (by omega) e1 e2 hab
  rw [show ((x.toNat : Nat) : Int) = x from by omega] at this
  exact this
theorem turn1 {x : Int} (h : W32 x) : turnD x 7 18 3 true = bwXor .u32 (bwXor .u32 (trI x 7) (trI x 18)) (x / 8) := by
  unfold turnD
  rw [if_pos rfl, rot_trI h (a := 25) (b := 7) (by decide) (by decide) rfl, rot_trI h (a := 14) (b := 18) (by decide) (by decide) rfl]
  congr 1
  unfold shr
  exact Int.fdiv_eq_ediv_of_nonneg _ (by decide)
theorem turn2 {x : Int} (h : W32 x) : turnD x 17 19 10 true = bwXor .u32 (bwXor .u32 (trI x 17) (trI x 19)) (x / 1024) := by
  unfold turnD
  rw [if_pos rfl, rot_trI h (a := 15) (b := 17) (by decide) (by decide) rfl, rot_trI h (a := 13) (b := 19) (by decide) (by decide) rfl]
  congr 1
  unfold shr
  exact Int.fdiv_eq_ediv_of_nonneg _ (by decide)
theorem turn3 {x : Int} (h : W32 x) : turnD x 6 11 25 false = bwXor .u32 (bwXor .u32 (trI x 6) (trI x 11)) (trI x 25) := by
  unfold turnD
  rw [if_neg (by decide), rot_trI h (a := 26) (b := 6) (by decide) (by decide) rfl, rot_trI h (a := 21) (b := 11) (by decide) (by decide) rfl, rot_trI h (a := 7) (b := 25) (by decide) (by decide) rfl]
theorem turn4 {x : Int} (h : W32 x) : turnD x 2 13 22 false = bwXor .u32 (bwXor .u32 (trI x 2) (trI x 13)) (trI x 22) := by
  unfold turnD
  rw [if_neg (by decide), rot_trI h (a := 30) (b := 2) (by decide) (by decide) rfl, rot_trI h (a := 19) (b := 13) (by decide) (by decide) rfl, rot_trI h (a := 10) (b := 22) (by decide) (by decide) rfl]
theorem cpl_eq {x : Int} (h : W32 x) : IntKind.u32.wrap (4294967295 - x) = bwXor .u32 4294967295 x := by
  have h0 := h.1
  have h1 := h.2
  obtain ⟨n, rfl⟩ := Int.eq_ofNat_of_zero_le h0
  have e : (BitVec.ofInt 32 (4294967295 : Int) ^^^ BitVec.ofInt 32 (n : Int)) = ~~~ BitVec.ofInt 32 (n : Int) := by
    rw [show BitVec.ofInt 32 (4294967295 : Int) = BitVec.allOnes 32 from by decide, BitVec.allOnes_xor]
  show _ = IntKind.u32.wrap ((BitVec.ofInt 32 (4294967295 : Int) ^^^ BitVec.ofInt 32 (n : Int)).toNat)
  rw [e, BitVec.toNat_not, bv_nat 32 n (by omega)]
  congr 1
  omega
/-- four bytes, the highest first -/
def num4 (a b c d : Int) : Int := ((a * 256 + b) * 256 + c) * 256 + d
def isBy (x : Int) : Prop := 0 ≤ x ∧ x < 256
theorem word_num {a b c d : Int} (ha : isBy a) (hb : isBy b) (hc : isBy c) (hd : isBy d) : bwOr .u32 (bwOr .u32 (bwOr .u32 (shl .u32 (IntKind.u32.wrap a) (24 : Int).toNat) (shl .u32 (IntKind.u32.wrap b) (16 : Int).toNat)) (shl .u32 (IntKind.u32.wrap c) (8 : Int).toNat)) (IntKind.u32.wrap d) = num4 a b c d := by
  obtain ⟨a, rfl⟩ := Int.eq_ofNat_of_zero_le ha.1
  obtain ⟨b, rfl⟩ := Int.eq_ofNat_of_zero_le hb.1
  obtain ⟨c, rfl⟩ := Int.eq_ofNat_of_zero_le hc.1
  obtain ⟨d, rfl⟩ := Int.eq_ofNat_of_zero_le hd.1
  have ha := ha.2
  have hb := hb.2
  have hc := hc.2
  have hd := hd.2
  have w : ∀ x : Nat, x < 256 → IntKind.u32.wrap ((x : Nat) : Int) = ((x : Nat) : Int) := fun x hx => by rw [wU32]; omega
  have s1 : shl .u32 (a : Int) (24 : Int).toNat = ((a * 2 ^ 24 : Nat) : Int) := by
    show IntKind.u32.wrap ((a : Int) * 2 ^ 24) = _
    rw [wU32]; omega
  have s2 : shl .u32 (b : Int) (16 : Int).toNat = ((b * 2 ^ 16 : Nat) : Int) := by
    show IntKind.u32.wrap ((b : Int) * 2 ^ 16) = _
    rw [wU32]; omega
  have s3 : shl .u32 (c : Int) (8 : Int).toNat = ((c * 2 ^ 8 : Nat) : Int) := by
    show IntKind.u32.wrap ((c : Int) * 2 ^ 8) = _
    rw [wU32]; omega
  rw [w a (by omega), w b (by omega), w c (by omega), w d (by omega), s1, s2, s3, bwOr32 (by omega) (by omega), or_add (by omega)]
  rw [show a * 2 ^ 24 + b * 2 ^ 16 = (a * 2 ^ 8 + b) * 2 ^ 16 from by omega, bwOr32 (by omega) (by omega), or_add (by omega)]
  rw [show (a * 2 ^ 8 + b) * 2 ^ 16 + c * 2 ^ 8 = (a * 2 ^ 16 + b * 2 ^ 8 + c) * 2 ^ 8 from by omega, bwOr32 (by omega) (by omega), or_add (by omega)]
  unfold num4
  omega
/-- a number in so many bytes, the highest first -/
def hiL (n w : Nat) : List Int := (List.range w).map fun i => ((n / 256 ^ (w - 1 - i) % 256 : Nat) : Int)
theorem hiL_len (n w : Nat) : (hiL n w).length = w := by unfold hiL; rw [List.length_map, List.length_range]
theorem hiL_at {n w i : Nat} (h : i < w) : (hiL n w)[i]'(by rw [hiL_len]; exact h) = ((n / 256 ^ (w - 1 - i) % 256 : Nat) : Int) := by unfold hiL; rw [List.getElem_map, List.getElem_range]
theorem shrU {k : IntKind} {n m : Nat} (hm : m ≤ k.bits) : shr k (n : Int) m = ((n / 2 ^ m : Nat) : Int) := by
  unfold shr
  rw [Nat.min_eq_left hm, Int.fdiv_eq_ediv_of_nonneg _ (Int.pow_nonneg (by decide)), Int.natCast_ediv, Int.natCast_pow]
  rfl
theorem lenB_hi {n : Nat} (h : n < 1152921504606846976) : lenB (sizeD n) = hiL (n * 8) 8 := by
  have e : sizeD n = ((n * 8 : Nat) : Int) := by
    unfold sizeD
    show IntKind.u64.wrap (IntKind.u64.wrap (n : Int) * 2 ^ 3) = _
    rw [wU64, wU64]; omega
  rw [e]
  refine List.ext_getElem (by rw [hiL_len]; rfl) fun i h1 h2 => ?_
  have hi : i < 8 := by rw [hiL_len] at h2; exact h2
  rw [hiL_at hi]
  have := lenB_at ((n * 8 : Nat) : Int) hi
  rw [List.getElem?_eq_getElem h1] at this
  rw [Option.some.inj this]
  have : (IntKind.u64.wrap (56 - 8 * (i : Int))).toNat = 8 * (7 - i) := by rw [wU64]; omega
  rw [this, shrU (show 8 * (7 - i) ≤ 64 by omega), wU8, show 8 - 1 - i = 7 - i from by omega, show (256 : Nat) ^ (7 - i) = 2 ^ (8 * (7 - i)) from by rw [Nat.pow_mul]]
  omega
theorem outV_hi {H : List Int} (hH : AW H) {i : Nat} (hi : i < 32) : outV H i = ((((H.getD (i / 4) 0).toNat) / 256 ^ (3 - i % 4) % 256 : Nat) : Int) := by
  have e1 : (shr .i64 (i : Int) (2 : Int).toNat).toNat = i / 4 := by rw [shr2 (by omega)]; omega
  have e2 : (IntKind.u64.wrap (24 - IntKind.u64.wrap (8 * bwAnd .u64 (IntKind.u64.wrap (i : Int)) 3))).toNat = 8 * (3 - i % 4) := by
    have : ∀ j : Fin 32, (IntKind.u64.wrap (24 - IntKind.u64.wrap (8 * bwAnd .u64 (IntKind.u64.wrap ((j.val : Nat) : Int)) 3))).toNat = 8 * (3 - j.val % 4) := by decide
    exact this ⟨i, hi⟩
  unfold outV
  rw [e1, e2]
  have w := hH.getD (i / 4)
  obtain ⟨x, hx⟩ := Int.eq_ofNat_of_zero_le w.1
  have w1 := w.2
  rw [hx, shrU (show 8 * (3 - i % 4) ≤ 32 by omega), wU8, show (256 : Nat) ^ (3 - i % 4) = 2 ^ (8 * (3 - i % 4)) from by rw [Nat.pow_mul]]
  simp only [Int.toNat_natCast]
  omega
/-! all words are words -/
theorem word_W (bl : List Int) (i : Nat) : W32 (wordD bl i) := W32.or _ _
theorem schV_W (bl W : List Int) (n : Nat) : W32 (schV bl W n) := by
  unfold schV; split
  · exact word_W _ _
  · exact W32.wrap _
theorem schUp_W (bl : List Int) : ∀ n, AW (schUp bl n)
  | 0 => fun x hx => by rw [schUp, List.mem_replicate] at hx; rw [hx.2]; exact ⟨by omega, by omega⟩
  | n + 1 => (schUp_W bl n).set (schV_W _ _ _)
theorem mov_W {V : List Int} (h : AW V) : AW (movD V) := fun x hx => by
  unfold movD at hx
  rcases List.mem_append.1 hx with c | c <;> exact h x (List.mem_of_mem_take c)
theorem rnd_W {V : List Int} (h : AW V) (w c : Int) : AW (rnd V w c) := ((mov_W h).set (W32.wrap _)).set (W32.wrap _)
theorem rndUp_W {V W : List Int} (h : AW V) : ∀ n, AW (rndUp V W n)
  | 0 => h
  | n + 1 => rnd_W (rndUp_W h n) _ _
theorem addUp_W {H V : List Int} (h : AW H) : ∀ n, AW (addUp H V n)
  | 0 => h
  | n + 1 => (addUp_W h n).set (W32.wrap _)
theorem blkUp_W (M : List Int) : ∀ n, AW (blkUp M n)
  | 0 => fun x hx => by
    have : ∀ y ∈ startL, W32 y := by unfold W32; decide
    exact this x hx
  | n + 1 => addUp_W (blkUp_W M n) 8
theorem len8 {l : List Int} (h : l.length = 8) : ∃ a b c d e f g p, l = [a, b, c, d, e, f, g, p] := by
  match l, h with
  | [a, b, c, d, e, f, g, p], _ => exact ⟨a, b, c, d, e, f, g, p, rfl⟩
theorem addUp_8 (a b c d e f g p a' b' c' d' e' f' g' p' : Int) : addUp [a, b, c, d, e, f, g, p] [a', b', c', d', e', f', g', p'] 8 = [wr32 (a + a'), wr32 (b + b'), wr32 (c + c'), wr32 (d + d'), wr32 (e + e'), wr32 (f + f'), wr32 (g + g'), wr32 (p + p')] := rfl
theorem rnd_8 (a b c d e f g p w r : Int) : rnd [a, b, c, d, e, f, g, p] w r = [wr32 (oneD [a, b, c, d, e, f, g, p] w r + twoD [a, b, c, d, e, f, g, p]), a, b, c, wr32 (d + oneD [a, b, c, d, e, f, g, p] w r), e, f, g] := rfl
theorem sch_take (bl : List Int) {n : Nat} (hn : n < 64) : (schUp bl (n + 1)).take (n + 1) = (schUp bl n).take n ++ [schV bl (schUp bl n) n] := by
  have l := schUp_len bl n
  rw [schUp, List.take_add_one, List.take_set_of_le (Nat.le_refl _), List.getElem?_set_self (by omega)]
  rfl
end Go.Q.Ye
/- Slot: the document's small helpers of a fingerprint. -/
namespace Go.Q.Ye
theorem tr_stepI {x : Int} (hx : W32 x) {n : Nat} (hn : n < 32) : IntKind.u32.wrap (IntKind.u32.wrap (Int.tdiv (trI x n) 2) + IntKind.u32.wrap (Int.tmod (trI x n) 2 * 2147483648)) = trI x (n + 1) := by
  have h0 := hx.1
  have h1 := hx.2
  have s := tr_step (x := x.toNat) hn
  have l := tr_lt (x := x.toNat) (by omega) n (by omega)
  have l1 := tr_lt (x := x.toNat) (by omega) (n + 1) (by omega)
  unfold trI
  generalize trN x.toNat (n + 1) = z at *
  generalize trN x.toNat n = y at *
  rw [Int.tdiv_eq_ediv_of_nonneg (by omega), Int.tmod_eq_emod_of_nonneg (by omega), wU32, wU32, wU32]
  omega
theorem turn_ok {x : Int} {n : Nat} {k : Int → Heap → Prop} {h : Heap} (hx : W32 x) (hn : n ≤ 32) (H : k (trI x n) h) : ref02_turn x (n : Int) k h := by
  unfold ref02_turn ref02_turn_l1
  have e0 : trI x 0 = x := by unfold trI; rw [tr_zero]; exact Int.toNat_of_nonneg hx.1
  refine ⟨fun s h' => h' = h ∧ ∃ i : Nat, i ≤ n ∧ s.2 = (i : Int) ∧ s.1 = trI x i, fun s _ => ((n : Int) - s.2).toNat, ⟨rfl, 0, Nat.zero_le _, rfl, e0.symm⟩, ?_⟩
  rintro y i h' ⟨rfl, i, hi, e, ey⟩
  dsimp only at e ey
  subst e ey
  unfold ref02_turn_l1b
  by_cases c : i < n
  · rw [if_pos (by rw [decide_eq_true_eq]; omega)]
    refine ⟨_, rfl, _, rfl, _, rfl, ⟨rfl, i + 1, by omega, ?_, tr_stepI hx (by omega)⟩, ?_⟩
    · dsimp only; rw [wrapI64 (by omega) (by omega)]; omega
    · dsimp only; rw [wrapI64 (by omega) (by omega)]; omega
  · rw [if_neg (by rw [decide_eq_true_eq]; omega), show i = n from by omega]
    exact H
theorem cut_ok {x : Int} {n : Nat} {k : Int → Heap → Prop} {h : Heap} (hx : W32 x) (hn : n ≤ 32) (H : k (x / 2 ^ n) h) : ref02_cut x (n : Int) k h := by
  have h0 := hx.1
  have h1 := hx.2
  unfold ref02_cut ref02_cut_l1
  refine ⟨fun s h' => h' = h ∧ ∃ i : Nat, i ≤ n ∧ s.2 = (i : Int) ∧ s.1 = x / 2 ^ i, fun s _ => ((n : Int) - s.2).toNat, ⟨rfl, 0, Nat.zero_le _, rfl, by simp⟩, ?_⟩
  rintro y i h' ⟨rfl, i, hi, e, ey⟩
  dsimp only at e ey
  unfold ref02_cut_l1b
  have y0 : 0 ≤ y := by rw [ey]; exact Int.ediv_nonneg h0 (Int.pow_nonneg (by decide))
  have y1 : y < 4294967296 := by rw [ey]; exact Int.lt_of_le_of_lt (Int.ediv_le_self _ h0) h1
  by_cases c : i < n
  · rw [if_pos (by rw [decide_eq_true_eq]; omega)]
    refine ⟨_, rfl, _, rfl, ⟨rfl, i + 1, by omega, ?_, ?_⟩, ?_⟩
    · dsimp only; rw [e, wrapI64 (by omega) (by omega)]; omega
    · dsimp only
      rw [Int.tdiv_eq_ediv_of_nonneg y0, wU32, Int.emod_eq_of_lt (by omega) (by omega), ey, Int.pow_succ, Int.ediv_ediv_of_nonneg (Int.pow_nonneg (by decide))]
    · dsimp only; rw [e, wrapI64 (by omega) (by omega)]; omega
  · rw [if_neg (by rw [decide_eq_true_eq]; omega), ey, show i = n from by omega]
    exact H
theorem num_ok {s : Slc} {a : Addr} {x0 x1 x2 x3 : Int} {k : Int → Heap → Prop} {h : Heap} (ha : s.a = some a) (hl : s.len = 4)
    (c0 : cellH h (a.add 0) = some (.int .u8 x0)) (c1 : cellH h (a.add 1) = some (.int .u8 x1)) (c2 : cellH h (a.add 2) = some (.int .u8 x2)) (c3 : cellH h (a.add 3) = some (.int .u8 x3))
    (b0 : isBy x0) (b1 : isBy x1) (b2 : isBy x2) (b3 : isBy x3) (H : k (num4 x0 x1 x2 x3) h) : ref02_number s k h := by
  unfold ref02_number ref02_number_l1
  refine ⟨fun q h' => h' = h ∧ (q = (0, 0) ∨ q = (x0, 1) ∨ q = (x0 * 256 + x1, 2) ∨ q = ((x0 * 256 + x1) * 256 + x2, 3) ∨ q = (num4 x0 x1 x2 x3, 4)), fun q _ => (4 - q.2).toNat, ⟨rfl, .inl rfl⟩, ?_⟩
  have g0 := b0.1
  have g0' := b0.2
  have g1 := b1.1
  have g1' := b1.2
  have g2 := b2.1
  have g2' := b2.2
  have g3 := b3.1
  have g3' := b3.2
  rintro y i h' ⟨rfl, e⟩
  unfold ref02_number_l1b
  rw [hl]
  rcases e with e | e | e | e | e <;> (obtain ⟨rfl, rfl⟩ := Prod.mk.injEq _ _ _ _ ▸ e)
  · rw [if_pos (by decide)]
    refine ⟨a, ha, by decide, by decide, x0, c0, _, rfl, _, rfl, ⟨rfl, .inr (.inl ?_)⟩, by dsimp only; decide⟩
    rw [wU64, wU64, wU64]; refine Prod.ext ?_ rfl; dsimp only; omega
  · rw [if_pos (by decide)]
    refine ⟨a, ha, by decide, by decide, x1, c1, _, rfl, _, rfl, ⟨rfl, .inr (.inr (.inl ?_))⟩, by dsimp only; decide⟩
    rw [wU64, wU64, wU64]; refine Prod.ext ?_ rfl; dsimp only; omega
  · rw [if_pos (by decide)]
    refine ⟨a, ha, by decide, by decide, x2, c2, _, rfl, _, rfl, ⟨rfl, .inr (.inr (.inr (.inl ?_)))⟩, by dsimp only; decide⟩
    rw [wU64, wU64, wU64]; refine Prod.ext ?_ rfl; dsimp only; omega
  · rw [if_pos (by decide)]
    refine ⟨a, ha, by decide, by decide, x3, c3, _, rfl, _, rfl, ⟨rfl, .inr (.inr (.inr (.inr ?_)))⟩, by dsimp only; decide⟩
    unfold num4
    rw [wU64, wU64, wU64]; refine Prod.ext ?_ rfl; dsimp only; omega
  · rw [if_neg (by decide)]
    exact H
theorem zrow_b8 (n : Nat) : zrow [.int .u8 0] n = b8 (List.replicate n 0) := by
  rw [← zeroCells_zrow]; exact zeros_b8 n
theorem hi_step {N w j : Nat} (hj : j < w) : (List.replicate (w - j) (0 : Int) ++ (hiL N w).drop (w - j)).set (w - 1 - j) ((N / 256 ^ j % 256 : Nat) : Int) = List.replicate (w - (j + 1)) (0 : Int) ++ (hiL N w).drop (w - (j + 1)) := by
  have l := hiL_len N w
  have e : w - j = (w - (j + 1)) + 1 := by omega
  rw [show w - 1 - j = w - (j + 1) from by omega]
  rw [List.drop_eq_getElem_cons (i := w - (j + 1)) (by omega), hiL_at (by omega), ← e, show w - 1 - (w - (j + 1)) = j from by omega]
  generalize (hiL N w).drop (w - j) = D
  rw [e, List.replicate_succ', List.append_assoc, List.set_append_right _ _ (by rw [List.length_replicate]; exact Nat.le_refl _), List.length_replicate, Nat.sub_self]
  rfl
theorem high_ok {N w : Nat} {k : Slc → Heap → Prop} {h : Heap} (hN : N < 18446744073709551616) (hw : w ≤ 64) (H : ∀ h', Blk h' h.size (b8 (hiL N w)) 5 → Ext h.size h h' → k ⟨some ⟨h.size, 0, none⟩, w, w⟩ h') : ref02_high (N : Int) (w : Int) k h := by
  unfold ref02_high
  refine ⟨_, _, by omega, by omega, by omega, by omega, rfl, rfl, _, rfl, ?_⟩
  rw [Int.toNat_natCast, wrapI64 (by omega) (by omega), zrow_b8]
  have P := Blk.push h (b8 (List.replicate w 0)) 5
  have X := Ext.push h (.cells (b8 (List.replicate w 0)).toArray 5) (Nat.le_refl _)
  generalize h.push (.cells (b8 (List.replicate w 0)).toArray 5) = h1 at *
  unfold ref02_high_l1
  refine ⟨fun q h' => ∃ j : Nat, j ≤ w ∧ q.2 = (w : Int) - 1 - (j : Int) ∧ q.1 = ((N / 256 ^ j : Nat) : Int) ∧ Blk h' h.size (b8 (List.replicate (w - j) 0 ++ (hiL N w).drop (w - j))) 5 ∧ Ext h.size h h', fun q _ => (q.2 + 1).toNat, ⟨0, Nat.zero_le _, by dsimp only; omega, by simp, ?_, X⟩, ?_⟩
  · rw [Nat.sub_zero, List.drop_of_length_le (by rw [hiL_len]; exact Nat.le_refl _), List.append_nil]; exact P
  rintro y i h2 ⟨j, hj, e2, e1, P2, X2⟩
  dsimp only at e1 e2 P2
  subst e2
  unfold ref02_high_l1b
  have ln : (List.replicate (w - j) (0 : Int) ++ (hiL N w).drop (w - j)).length = w := by
    rw [List.length_append, List.length_replicate, List.length_drop, hiL_len]; omega
  by_cases c : j < w
  · rw [if_pos (by rw [decide_eq_true_eq]; omega)]
    have ea : ((⟨h.size, 0, none⟩ : Addr).add (((w : Int) - 1 - (j : Int)).toNat * 1)) = ⟨h.size, w - 1 - j, none⟩ := by
      rw [add_mk, Nat.zero_add, Nat.mul_one]; congr 1; omega
    have hd : N / 256 ^ j ≤ N := Nat.div_le_self _ _
    have h3 := P2.set (i := w - 1 - j) (v := .int .u8 ((N / 256 ^ j % 256 : Nat) : Int))
    rw [show (b8 (List.replicate (w - j) 0 ++ (hiL N w).drop (w - j))).set (w - 1 - j) (.int .u8 ((N / 256 ^ j % 256 : Nat) : Int)) = b8 ((List.replicate (w - j) 0 ++ (hiL N w).drop (w - j)).set (w - 1 - j) ((N / 256 ^ j % 256 : Nat) : Int)) from List.map_set.symm, hi_step c] at h3
    have ev : IntKind.u8.wrap (Int.tmod y 256) = ((N / 256 ^ j % 256 : Nat) : Int) := by
      rw [e1]; generalize N / 256 ^ j = z at *
      rw [Int.tmod_eq_emod_of_nonneg (by omega), wU8]; omega
    refine ⟨⟨h.size, 0, none⟩, rfl, by omega, by dsimp only; omega, _, ?_, rfl, _, rfl, _, rfl, ?_⟩
    · rw [ea]; exact P2.wr (by rw [List.length_map, ln]; omega)
    · rw [ea, ev]
      rw [wrapI64 (by omega) (by omega)]
      refine ⟨⟨j + 1, by omega, by dsimp only; omega, ?_, h3, X2.trans (Ext.set _ _ (Nat.le_refl _))⟩, by dsimp only; omega⟩
      dsimp only
      rw [e1, Nat.pow_succ, ← Nat.div_div_eq_div_mul]
      generalize N / 256 ^ j = z at *
      rw [Int.tdiv_eq_ediv_of_nonneg (by omega), wU64]
      omega
  · rw [if_neg (by rw [decide_eq_true_eq]; omega)]
    have ej : j = w := by omega
    rw [ej, Nat.sub_self] at P2
    exact H _ (by simpa using P2) X2
theorem consts_ok {k : Slc → Heap → Prop} {h : Heap} (H : ∀ h', Blk h' h.size (u32s rcL) 83 → Ext h.size h h' → k ⟨some ⟨h.size, 0, none⟩, 64, 64⟩ h') : ref02_constants k h := by
  unfold ref02_constants
  refine ⟨_, _, rfl, rfl, ?_⟩
  exact H _ (Blk.push h (u32s rcL) 83) (Ext.push h (.cells (u32s rcL).toArray 83) (Nat.le_refl _))
end Go.Q.Ye
/- Slot: the document's fingerprint is the fingerprint. -/
namespace Go.Q.Ye
theorem one_u32 (l : List Int) : ∀ v ∈ u32s l, v.oneCell' = true := u32s_one l
/-- one word more -/
theorem wapp {B : Nat} {t : Slc} {h1 : Heap} {l1 : List Int} {v : Int} {K : Slc → Heap → Prop} (R : Row B h1 83 1 t (u32s l1)) (hB : B ≤ h1.size) (hl : l1.length ≤ 1000)
    (F : ∀ t' h2, Row B h2 83 1 t' (u32s (l1 ++ [v])) → Ext B h1 h2 → K t' h2) : ∃ (b28 : Nat) (h29 : Heap), b28 = h1.size ∧ h29 = h1.push (.cells ([.int .u32 v]).toArray 83) ∧ App 83 1 4 [.int .u32 0] h29 t 1 ([.int .u32 v]) K := by
  refine ⟨_, _, rfl, rfl, ?_⟩
  have R2 := R.pushed (.cells ([.int .u32 v] : List Value).toArray 83)
  have W2 := Ext.push h1 (.cells ([.int .u32 v] : List Value).toArray 83) (Nat.le_refl _)
  generalize h1.push (.cells ([.int .u32 v] : List Value).toArray 83) = h2 at *
  have z2 := W2.size
  have lt : t.len = l1.length := by have := R.len; rw [this, List.length_map]
  refine App.row2 R2 (by omega) rfl (by simp) (fun x hx => by rw [List.mem_singleton] at hx; rw [hx]; rfl) (by omega) (by simp only [maxLen]; omega) fun t' h3 R3 l3 z3 kp _ _ => ?_
  refine F t' h3 (by rw [u32s, List.map_append]; exact R3) ?_
  have ne : ∀ i, i < B → t.blk ≠ some i := fun i hi e => by have := (R.bd e).1; omega
  exact ⟨by omega, fun i hi => (kp i (by omega) (ne i hi)).trans (W2.block i (by omega))⟩
theorem u32_nth {h : Heap} {B : Nat} {t : Slc} {l : List Int} (R : Row B h 83 1 t (u32s l)) {i : Int} {j : Nat} (hi : i = (j : Int)) (hj : j < l.length) : ∃ a : Addr, t.a = some a ∧ (0 : Int) ≤ i ∧ i < (t.len : Int) ∧ cellH h (a.add (i.toNat * 1)) = some (.int .u32 (l.getD j 0)) := by
  have lt : t.len = l.length := by have := R.len; rw [this, List.length_map]
  obtain ⟨a, ha, hc⟩ := R.at (j := j) (by omega)
  refine ⟨a, ha, by omega, by omega, ?_⟩
  rw [hi, Int.toNat_natCast, Nat.mul_one, hc]
  simp [hj]
/-- the rounds -/
theorem Rounds_ok {t2 : Addr} {t3 t4 t5 t7 : Slc} {t6 : Int} {Hs W : List Int} {g kb B : Nat} {h : Heap} {k : List Int → Heap → Prop} {nx1 : Slc → Heap → Prop} {nx2 nx3 nx4 : Slc × Int → Heap → Prop}
    (lH : Hs.length = 8) (aH : AW Hs) (e4 : t4 = ⟨some ⟨g, 0, none⟩, 8, 8⟩) (Q : Blk h g (u32s Hs) 83) (e5 : t5 = ⟨some ⟨kb, 0, none⟩, 64, 64⟩) (C : Blk h kb (u32s rcL) 83) (R : Row B h 83 1 t7 (u32s W)) (lW : W.length = 64)
    (F : ∀ h', Blk h' h.size (u32s (addUp Hs (rndUp Hs W 64) 8)) 83 → Ext h.size h h' → nx2 (⟨some ⟨h.size, 0, none⟩, 8, 8⟩, IntKind.i64.wrap (t6 + 64)) h') :
    ref02_Sum_l5 t2 t3 t4 t5 t6 t7 (Hs.getD 0 0) (Hs.getD 1 0) (Hs.getD 2 0) (Hs.getD 3 0) (Hs.getD 4 0) (Hs.getD 5 0) (Hs.getD 6 0) (Hs.getD 7 0) 0 k nx1 nx2 nx3 nx4 h := by
  unfold ref02_Sum_l5
  refine ⟨fun q h' => h' = h ∧ ∃ i : Nat, i ≤ 64 ∧ q.2.2.2.2.2.2.2.2 = (i : Int) ∧ rndUp Hs W i = [q.1, q.2.1, q.2.2.1, q.2.2.2.1, q.2.2.2.2.1, q.2.2.2.2.2.1, q.2.2.2.2.2.2.1, q.2.2.2.2.2.2.2.1], fun q _ => (64 - q.2.2.2.2.2.2.2.2).toNat, ⟨rfl, 0, by omega, rfl, ?_⟩, ?_⟩
  · obtain ⟨a, b, c, d, e, f, g', p, rfl⟩ := len8 lH; rfl
  rintro a b c d e f g' p i' h1 ⟨rfl, i, hi, ei, V⟩
  dsimp only at ei V
  subst ei
  have wV : AW [a, b, c, d, e, f, g', p] := by rw [← V]; exact rndUp_W aH i
  have wa : W32 a := wV a (by simp)
  have we : W32 e := wV e (by simp)
  unfold ref02_Sum_l5b
  by_cases ci : i < 64
  · rw [if_pos (by rw [decide_eq_true_eq]; omega)]
    refine turn_ok (n := 6) we (by omega) (turn_ok (n := 11) we (by omega) (turn_ok (n := 25) we (by omega) ⟨_, rfl, ?_⟩))
    obtain ⟨aw, haw, i0, i1, cw⟩ := u32_nth R (i := (i : Int)) rfl (by omega)
    refine ⟨⟨kb, 0, none⟩, by rw [e5], by omega, by rw [e5]; dsimp only; omega, rcL.getD i 0, ?_, aw, haw, i0, i1, _, cw, ?_⟩
    · rw [Int.toNat_natCast, add_mk, Nat.zero_add, Nat.mul_one]; exact u32_at C (by show i < 64; exact ci)
    refine turn_ok (n := 2) wa (by omega) (turn_ok (n := 13) wa (by omega) (turn_ok (n := 22) wa (by omega) ⟨_, rfl, _, rfl, _, rfl, _, rfl, ?_⟩))
    rw [wrapI64 (by omega) (by omega)]
    refine ⟨⟨rfl, i + 1, by omega, by dsimp only; omega, ?_⟩, by dsimp only; omega⟩
    dsimp only
    rw [rndUp, V, rnd_8]
    have e1 : oneD [a, b, c, d, e, f, g', p] (W.getD i 0) (rcL.getD i 0) = wr32 (wr32 (wr32 (wr32 (p + bwXor .u32 (bwXor .u32 (trI e 6) (trI e 11)) (trI e 25)) + bwXor .u32 (bwAnd .u32 e f) (bwAnd .u32 (IntKind.u32.wrap (4294967295 - e)) g')) + rcL.getD i 0) + W.getD i 0) := by
      rw [cpl_eq we, ← turn3 we]; rfl
    have e2 : twoD [a, b, c, d, e, f, g', p] = wr32 (bwXor .u32 (bwXor .u32 (trI a 2) (trI a 13)) (trI a 22) + bwXor .u32 (bwXor .u32 (bwAnd .u32 a b) (bwAnd .u32 a c)) (bwAnd .u32 b c)) := by
      rw [← turn4 wa]; rfl
    rw [e1, e2]
  · rw [if_neg (by rw [decide_eq_true_eq]; omega)]
    have e64 : i = 64 := by omega
    rw [e64] at V
    rw [e4]
    have cl : ∀ j : Nat, j < 8 → cellH h1 ((⟨g, 0, none⟩ : Addr).add (((j : Nat) : Int).toNat * 1)) = some (.int .u32 (Hs.getD j 0)) := fun j hj => by
      rw [Int.toNat_natCast, add_mk, Nat.zero_add, Nat.mul_one]; exact u32_at Q (by omega)
    refine ⟨⟨g, 0, none⟩, rfl, by decide, by dsimp only; decide, _, cl 0 (by omega), ⟨g, 0, none⟩, rfl, by decide, by dsimp only; decide, _, cl 1 (by omega), ⟨g, 0, none⟩, rfl, by decide, by dsimp only; decide, _, cl 2 (by omega), ⟨g, 0, none⟩, rfl, by decide, by dsimp only; decide, _, cl 3 (by omega), ⟨g, 0, none⟩, rfl, by decide, by dsimp only; decide, _, cl 4 (by omega), ⟨g, 0, none⟩, rfl, by decide, by dsimp only; decide, _, cl 5 (by omega), ⟨g, 0, none⟩, rfl, by decide, by dsimp only; decide, _, cl 6 (by omega), ⟨g, 0, none⟩, rfl, by decide, by dsimp only; decide, _, cl 7 (by omega), _, _, rfl, rfl, _, rfl, ?_⟩
    rw [V] at F
    obtain ⟨a1, b1, c1, d1, f1, g1, p1, q1, rfl⟩ := len8 lH
    rw [addUp_8] at F
    exact F _ (Blk.push h1 _ 83) (Ext.push h1 _ (Nat.le_refl _))
theorem take_getD {l : List Int} {i j : Nat} (h : j < i) : (l.take i).getD j 0 = l.getD j 0 := by
  simp [List.getD_eq_getElem?_getD, List.getElem?_take_of_lt h]
/-- the later words of the schedule -/
theorem Later_ok {t2 : Addr} {t3 t4 t5 t7 : Slc} {t6 : Int} {Hs bl : List Int} {g kb B : Nat} {h : Heap} {k : List Int → Heap → Prop} {nx1 : Slc → Heap → Prop} {nx2 nx3 : Slc × Int → Heap → Prop}
    (lH : Hs.length = 8) (aH : AW Hs) (e4 : t4 = ⟨some ⟨g, 0, none⟩, 8, 8⟩) (Q : Blk h g (u32s Hs) 83) (e5 : t5 = ⟨some ⟨kb, 0, none⟩, 64, 64⟩) (C : Blk h kb (u32s rcL) 83) (Bg : g < B ∧ kb < B) (BB : B ≤ h.size) (R : Row B h 83 1 t7 (u32s ((schUp bl 16).take 16)))
    (F : ∀ g' h', Blk h' g' (u32s (stepD Hs bl)) 83 → Ext B h h' → nx2 (⟨some ⟨g', 0, none⟩, 8, 8⟩, IntKind.i64.wrap (t6 + 64)) h') :
    ref02_Sum_l4 t2 t3 t4 t5 t6 t7 16 k nx1 nx2 nx3 h := by
  unfold ref02_Sum_l4
  refine ⟨fun q h' => ∃ i : Nat, 16 ≤ i ∧ i ≤ 64 ∧ q.2 = (i : Int) ∧ Row B h' 83 1 q.1 (u32s ((schUp bl i).take i)) ∧ Ext B h h', fun q _ => (64 - q.2).toNat, ⟨16, by omega, by omega, rfl, R, Ext.refl _ _⟩, ?_⟩
  rintro t i' h1 ⟨i, hi0, hi, ei, R1, X1⟩
  dsimp only at ei R1
  subst ei
  have Q1 := Q.ext X1 Bg.1
  have C1 := C.ext X1 Bg.2
  have z1 := X1.size
  have lS := schUp_len bl i
  have lT : ((schUp bl i).take i).length = i := by rw [List.length_take]; omega
  unfold ref02_Sum_l4b
  by_cases ci : i < 64
  · rw [if_pos (by rw [decide_eq_true_eq]; omega)]
    rw [wrapI64 (x := (i : Int) - 15) (by omega) (by omega), wrapI64 (x := (i : Int) - 2) (by omega) (by omega), wrapI64 (x := (i : Int) - 16) (by omega) (by omega), wrapI64 (x := (i : Int) - 7) (by omega) (by omega)]
    obtain ⟨a15, ha15, p15, q15, c15⟩ := u32_nth R1 (i := (i : Int) - 15) (j := i - 15) (by omega) (by omega)
    obtain ⟨a2, ha2, p2, q2, c2⟩ := u32_nth R1 (i := (i : Int) - 2) (j := i - 2) (by omega) (by omega)
    obtain ⟨a16, ha16, p16, q16, c16⟩ := u32_nth R1 (i := (i : Int) - 16) (j := i - 16) (by omega) (by omega)
    obtain ⟨a7, ha7, p7, q7, c7⟩ := u32_nth R1 (i := (i : Int) - 7) (j := i - 7) (by omega) (by omega)
    rw [take_getD (by omega)] at c15 c2 c16 c7
    have aS := schUp_W bl i
    have w15 := aS.getD (i - 15)
    have w2 := aS.getD (i - 2)
    refine ⟨a15, ha15, p15, q15, _, c15, a15, ha15, p15, q15, _, c15, a15, ha15, p15, q15, _, c15, turn_ok (n := 7) w15 (by omega) ⟨c15, c15, turn_ok (n := 18) w15 (by omega) ⟨c15, cut_ok (n := 3) w15 (by omega) ?_⟩⟩⟩
    refine ⟨a2, ha2, p2, q2, _, c2, a2, ha2, p2, q2, _, c2, a2, ha2, p2, q2, _, c2, turn_ok (n := 17) w2 (by omega) ⟨c2, c2, turn_ok (n := 19) w2 (by omega) ⟨c2, cut_ok (n := 10) w2 (by omega) ?_⟩⟩⟩
    refine ⟨a16, ha16, p16, q16, _, c16, a7, ha7, p7, q7, _, c7, ?_⟩
    refine wapp R1 (by omega) (by rw [lT]; omega) fun t' h2 R2 X2 => ?_
    rw [wrapI64 (x := (i : Int) + 1) (by omega) (by omega)]
    refine ⟨_, rfl, ⟨i + 1, by omega, by omega, by dsimp only; omega, ?_, X1.trans X2⟩, by dsimp only; omega⟩
    dsimp only
    rw [sch_take bl ci]
    have es : schV bl (schUp bl i) i = IntKind.u32.wrap (IntKind.u32.wrap (IntKind.u32.wrap ((schUp bl i).getD (i - 16) 0 + bwXor .u32 (bwXor .u32 (trI ((schUp bl i).getD (i - 15) 0) 7) (trI ((schUp bl i).getD (i - 15) 0) 18)) ((schUp bl i).getD (i - 15) 0 / 2 ^ 3)) + (schUp bl i).getD (i - 7) 0) + bwXor .u32 (bwXor .u32 (trI ((schUp bl i).getD (i - 2) 0) 17) (trI ((schUp bl i).getD (i - 2) 0) 19)) ((schUp bl i).getD (i - 2) 0 / 2 ^ 10)) := by
      unfold schV
      rw [if_neg (by omega), turn1 w15, turn2 w2]
      rfl
    rw [es]
    exact R2
  · rw [if_neg (by rw [decide_eq_true_eq]; omega)]
    have e64 : i = 64 := by omega
    rw [e64] at R1 lS
    rw [List.take_of_length_le (by omega)] at R1
    have cl : ∀ j : Nat, j < 8 → cellH h1 ((⟨g, 0, none⟩ : Addr).add (((j : Nat) : Int).toNat * 1)) = some (.int .u32 (Hs.getD j 0)) := fun j hj => by
      rw [Int.toNat_natCast, add_mk, Nat.zero_add, Nat.mul_one]; exact u32_at Q1 (by omega)
    have e4' : t4.a = some ⟨g, 0, none⟩ := by rw [e4]
    have l4' : t4.len = 8 := by rw [e4]
    rw [l4']
    refine ⟨⟨g, 0, none⟩, e4', by decide, by decide, _, cl 0 (by omega), ⟨g, 0, none⟩, e4', by decide, by decide, _, cl 1 (by omega), ⟨g, 0, none⟩, e4', by decide, by decide, _, cl 2 (by omega), ⟨g, 0, none⟩, e4', by decide, by decide, _, cl 3 (by omega), ⟨g, 0, none⟩, e4', by decide, by decide, _, cl 4 (by omega), ⟨g, 0, none⟩, e4', by decide, by decide, _, cl 5 (by omega), ⟨g, 0, none⟩, e4', by decide, by decide, _, cl 6 (by omega), ⟨g, 0, none⟩, e4', by decide, by decide, _, cl 7 (by omega), ?_⟩
    refine Rounds_ok lH aH e4 Q1 e5 C1 R1 lS fun h2 Q2 X2 => ?_
    exact F _ _ Q2 (X1.trans (X2.mono (by omega)))
/-- the first words of the schedule -/
theorem First_ok {t2 : Addr} {t3 t4 t5 : Slc} {n : Nat} {M Hs : List Int} {g kb : Nat} {h : Heap} {k : List Int → Heap → Prop} {nx1 : Slc → Heap → Prop} {nx2 : Slc × Int → Heap → Prop}
    (S : SlcAt h t3 (b8 M)) (lM : 64 * (n + 1) ≤ M.length) (l3 : t3.len = M.length) (lc : t3.len ≤ t3.cap) (hm : M.length ≤ 200000) (hM : ∀ b ∈ M, isBy b)
    (lH : Hs.length = 8) (aH : AW Hs) (e4 : t4 = ⟨some ⟨g, 0, none⟩, 8, 8⟩) (Q : Blk h g (u32s Hs) 83) (e5 : t5 = ⟨some ⟨kb, 0, none⟩, 64, 64⟩) (C : Blk h kb (u32s rcL) 83)
    (F : ∀ g' h', Blk h' g' (u32s (stepD Hs ((M.drop (64 * n)).take 64))) 83 → Ext h.size h h' → nx2 (⟨some ⟨g', 0, none⟩, 8, 8⟩, IntKind.i64.wrap (((64 * n : Nat) : Int) + 64)) h') :
    ref02_Sum_l3 t2 t3 t4 t5 ((64 * n : Nat) : Int) (⟨none, 0, 0⟩ : Slc) 0 k nx1 nx2 h := by
  generalize ebl : (M.drop (64 * n)).take 64 = bl at F
  unfold ref02_Sum_l3
  refine ⟨fun q h' => ∃ i : Nat, i ≤ 16 ∧ q.2 = (i : Int) ∧ Row h.size h' 83 1 q.1 (u32s ((schUp bl i).take i)) ∧ Ext h.size h h', fun q _ => (16 - q.2).toNat, ⟨0, by omega, rfl, Row.nil _ _ _ _, Ext.refl _ _⟩, ?_⟩
  rintro t i' h1 ⟨i, hi, ei, R1, X1⟩
  dsimp only at ei R1
  subst ei
  have z1 := X1.size
  have lS := schUp_len bl i
  have lT : ((schUp bl i).take i).length = i := by rw [List.length_take]; omega
  unfold ref02_Sum_l3b
  by_cases ci : i < 16
  · rw [if_pos (by rw [decide_eq_true_eq]; omega)]
    rw [wrapI64 (x := 4 * (i : Int)) (by omega) (by omega), wrapI64 (x := ((64 * n : Nat) : Int) + 4 * (i : Int)) (by omega) (by omega), wrapI64 (x := ((64 * n : Nat) : Int) + 4 * (i : Int) + 4) (by omega) (by omega)]
    have S1 := S.ext X1
    have lb : (b8 M).length = M.length := by rw [List.length_map]
    have lo : (((64 * n : Nat) : Int) + 4 * (i : Int)).toNat = 64 * n + 4 * i := by omega
    have hi' : (((64 * n : Nat) : Int) + 4 * (i : Int) + 4).toNat = 64 * n + 4 * i + 4 := by omega
    obtain ⟨a, ha, hl, hc⟩ := sub_at (lo := 64 * n + 4 * i) (hi := 64 * n + 4 * i + 4) (m := t3.cap) S1 (by omega) (by omega) (by omega) (by omega)
    refine ⟨_, by omega, by omega, by omega, by omega, rfl, ?_⟩
    rw [lo, hi', Int.toNat_natCast]
    generalize subS t3 1 (64 * n + 4 * i) (64 * n + 4 * i + 4) t3.cap = s5 at *
    have cj : ∀ j : Nat, j < 4 → cellH h1 (a.add j) = some (.int .u8 (bl.getD (4 * i + j) 0)) := fun j hj => by
      rw [hc j (by omega), ← ebl]
      have : 64 * n + 4 * i + j < M.length := by omega
      rw [List.getElem?_map, List.getElem?_eq_getElem this]
      simp only [Option.map_some, List.getD_eq_getElem?_getD]
      rw [List.getElem?_take_of_lt (by omega), List.getElem?_drop, show 64 * n + (4 * i + j) = 64 * n + 4 * i + j from by omega, List.getElem?_eq_getElem this]
      rfl
    have bj : ∀ j : Nat, isBy (bl.getD j 0) := fun j => by
      rcases Nat.lt_or_ge j bl.length with c | c
      · rw [show bl.getD j 0 = bl[j] from by simp [c]]
        refine hM _ ?_
        have sub : ∀ x ∈ bl, x ∈ M := fun x hx => by rw [← ebl] at hx; exact List.mem_of_mem_drop (List.mem_of_mem_take hx)
        exact sub _ (List.getElem_mem c)
      · rw [show bl.getD j 0 = 0 from by simp [c]]; exact ⟨by omega, by omega⟩
    refine num_ok ha (by omega) (cj 0 (by omega)) (cj 1 (by omega)) (cj 2 (by omega)) (cj 3 (by omega)) (bj _) (bj _) (bj _) (bj _) ?_
    refine wapp R1 (by omega) (by rw [lT]; omega) fun t' h2 R2 X2 => ?_
    rw [wrapI64 (x := (i : Int) + 1) (by omega) (by omega)]
    refine ⟨_, rfl, ⟨i + 1, by omega, by dsimp only; omega, ?_, X1.trans X2⟩, by dsimp only; omega⟩
    dsimp only
    rw [sch_take bl (by omega)]
    have es : schV bl (schUp bl i) i = IntKind.u32.wrap (num4 (bl.getD (4 * i + 0) 0) (bl.getD (4 * i + 1) 0) (bl.getD (4 * i + 2) 0) (bl.getD (4 * i + 3) 0)) := by
      unfold schV
      rw [if_pos ci]
      unfold wordD
      rw [word_num (bj _) (bj _) (bj _) (bj _)]
      have g0 := bj (4 * i + 0)
      have g1 := bj (4 * i + 1)
      have g2 := bj (4 * i + 2)
      have g3 := bj (4 * i + 3)
      unfold isBy at g0 g1 g2 g3
      rw [wU32]
      unfold num4
      simp only [Nat.add_zero] at *
      omega
    rw [es]
    exact R2
  · rw [if_neg (by rw [decide_eq_true_eq]; omega)]
    have e16 : i = 16 := by omega
    rw [e16] at R1
    exact Later_ok lH aH e4 (Q.ext X1 Q.lt) e5 (C.ext X1 C.lt) ⟨Q.lt, C.lt⟩ z1 R1 fun g' h2 Q2 X2 => F g' h2 Q2 (X1.trans X2)
end Go.Q.Ye
/- Slot: the document's fingerprint, whole. -/
namespace Go.Q.Ye
theorem getD_lt {l : List Int} {i : Nat} (h : i < l.length) : l.getD i 0 = l[i] := by simp [h]
theorem outUp_eq {H : List Int} (hH : AW H) {i j : Nat} (hi : i < 32) : outV H i = (hiL (H.getD (i / 4) 0).toNat 4).getD (i % 4) 0 := by
  rw [outV_hi hH hi]
  have l := hiL_len (H.getD (i / 4) 0).toNat 4
  have : i % 4 < 4 := Nat.mod_lt _ (by omega)
  rw [getD_lt (l := hiL _ _) (by omega), hiL_at this]
/-- the bytes of the words -/
theorem Told_ok {b1 b2 g : Nat} {t4 : Slc} {Hs : List Int} {B : Nat} {h0 h : Heap} {k : List Int → Heap → Prop} {nx1 : Slc → Heap → Prop} {nx2 : Slc × Int → Heap → Prop}
    (e4 : t4 = ⟨some ⟨g, 0, none⟩, 8, 8⟩) (Q : Blk h g (u32s Hs) 83) (lH : Hs.length = 8) (aH : AW Hs) (P1 : Blk h b1 (arr 32 .u8 ([] : List Int)) 63) (P2 : Blk h b2 (arr 32 .u8 ([] : List Int)) 63)
    (d : b1 ≠ b2) (Bb : B ≤ b1 ∧ B ≤ b2) (X : Ext B h0 h) (F : ∀ h', Ext B h0 h' → k (outUp Hs 32) h') : ref02_Sum_l6 ⟨b1, 0, none⟩ t4 ⟨b2, 0, none⟩ 0 k nx1 nx2 h := by
  unfold ref02_Sum_l6
  have P2' : Blk h b2 (b8 (outUp Hs 0)) 63 := P2
  have dg : b2 ≠ g := Blk.unlike P2 Q (by decide)
  refine ⟨fun i h' => 0 ≤ i ∧ i ≤ 32 ∧ Blk h' g (u32s Hs) 83 ∧ Blk h' b1 (arr 32 .u8 ([] : List Int)) 63 ∧ Blk h' b2 (b8 (outUp Hs i.toNat)) 63 ∧ Ext B h0 h', fun i _ => (32 - i).toNat, ⟨by omega, by omega, Q, P1, P2', X⟩, ?_⟩
  rintro i h1 ⟨i0, i1, Q1, R1, R2, X1⟩
  have lo := outUp_len Hs i.toNat
  unfold ref02_Sum_l6b
  by_cases c : i < 32
  · rw [if_pos (by rw [decide_eq_true_eq]; exact c)]
    have ed : Int.tdiv i 4 = ((i.toNat / 4 : Nat) : Int) := by rw [Int.tdiv_eq_ediv_of_nonneg i0]; omega
    have em : Int.tmod i 4 = ((i.toNat % 4 : Nat) : Int) := by rw [Int.tmod_eq_emod_of_nonneg i0]; omega
    rw [ed, em, wrapI64 (by omega) (by omega)]
    have w := aH.getD (i.toNat / 4)
    have w0 := w.1
    have w1 := w.2
    refine ⟨⟨g, 0, none⟩, by rw [e4], by omega, by rw [e4]; dsimp only; omega, Hs.getD (i.toNat / 4) 0, ?_, ?_⟩
    · rw [Int.toNat_natCast, add_mk, Nat.zero_add, Nat.mul_one]; exact u32_at Q1 (by omega)
    have ew : IntKind.u64.wrap (Hs.getD (i.toNat / 4) 0) = (((Hs.getD (i.toNat / 4) 0).toNat : Nat) : Int) := by rw [wU64]; omega
    rw [ew]
    refine high_ok (w := 4) (by omega) (by omega) fun h2 B2 X2 => ?_
    have l4 := hiL_len (Hs.getD (i.toNat / 4) 0).toNat 4
    have m4 : i.toNat % 4 < 4 := Nat.mod_lt _ (by omega)
    refine ⟨_, rfl, by omega, by dsimp only; omega, outV Hs i.toNat, ?_, i0, c, ?_⟩
    · rw [Int.toNat_natCast, add_mk, Nat.zero_add, Nat.mul_one, B2.cell, outUp_eq (j := 0) aH (by omega), List.getElem?_map, List.getElem?_eq_getElem (by omega), getD_lt (l := hiL _ _) (by omega)]
      rfl
    rw [add_mk, Nat.zero_add, Nat.mul_one]
    have Q2 := Q1.ext X2 Q1.lt
    have S1 := R1.ext X2 R1.lt
    have S2 := R2.ext X2 R2.lt
    refine ⟨_, S2.wr (by rw [List.length_map]; omega), rfl, _, rfl, ?_⟩
    rw [wrapI64 (by omega) (by omega)]
    have z := X1.size
    refine ⟨⟨by omega, by omega, Q2.old (setH_other dg.symm), S1.old (setH_other d), ?_, ?_⟩, by dsimp only; omega⟩
    · rw [show (i + 1).toNat = i.toNat + 1 from by omega, outUp, b8, List.map_set]
      exact S2.set (i := i.toNat) (v := .int .u8 (outV Hs i.toNat))
    · refine X1.trans ((X2.mono ?_).trans (Ext.set _ _ Bb.2))
      have := R2.lt; omega
  · rw [if_neg (by rw [decide_eq_true_eq]; exact c)]
    rw [show i.toNat = 32 from by omega] at R2 lo
    have ea : arr 32 .u8 (outUp Hs 32) = b8 (outUp Hs 32) := arr_full lo
    refine ⟨outUp Hs 32, by rw [ea]; exact CellsAt.of_blk R2, _, WrsAt.of_blk R1 (by show 32 ≤ 32; omega), rfl, outUp Hs 32, CellsAt.of_blk (R1.sets_all (by rw [ea, List.length_map, lo]; rfl)), ?_⟩
    exact F _ (X1.trans (Ext.sets _ _ _ Bb.1))
theorem padD_by {bs : List Int} (hb : ∀ b ∈ bs, isBy b) : ∀ b ∈ padD bs, isBy b := fun b hx => by
  unfold padD at hx
  rcases List.mem_append.1 hx with hx | hx
  · rcases List.mem_append.1 hx with hx | hx
    · rcases List.mem_append.1 hx with hx | hx
      · exact hb b hx
      · rw [List.mem_singleton] at hx; rw [hx]; exact ⟨by omega, by omega⟩
    · rw [List.mem_replicate] at hx; rw [hx.2]; exact ⟨by omega, by omega⟩
  · unfold lenB at hx
    obtain ⟨i, _, rfl⟩ := List.mem_map.1 hx
    rw [wU8]; exact ⟨by omega, by omega⟩
theorem Sum_ok {s : Slc} {bs : List Int} {k : List Int → Heap → Prop} {h : Heap} (A : SlcAt h s (b8 bs)) (ls : s.len = bs.length) (m : bs.length ≤ 60000) (hb : ∀ b ∈ bs, isBy b)
    (H : ∀ h', Ext h.size h h' → k (shaD bs) h') : ref02_Sum s k h := by
  unfold ref02_Sum
  refine ⟨_, _, rfl, rfl, _, _, rfl, rfl, b8 bs, ?_⟩
  have P := Blk.push h (arr 32 .u8 ([] : List Int)) 63
  have W := Ext.push h (.cells (arr 32 .u8 ([] : List Int)).toArray 63) (Nat.le_refl _)
  have pl := P.lt
  generalize h.push (.cells (arr 32 .u8 ([] : List Int)).toArray 63) = h2 at *
  have z2 := W.size
  have Q := Blk.push h2 ([] : List Value) 5
  have W2 := Ext.push h2 (.cells ([] : List Value).toArray 5) (Nat.le_refl _)
  generalize h2.push (.cells ([] : List Value).toArray 5) = h4 at *
  have z4 := W2.size
  obtain ⟨b1, eb1⟩ : ∃ y, y = h.size := ⟨_, rfl⟩
  have X04 : Ext b1 h h4 := by rw [eb1]; exact W.trans (W2.mono z2)
  have P4 := P.ext W2 pl
  have A4 : SlcAt h4 s (b8 bs) := (A.ext W).ext W2
  rw [← eb1] at P4 H pl z2 ⊢
  have R0 : Row (b1 + 1) h4 5 1 ⟨some ⟨h2.size, 0, none⟩, 0, 0⟩ (b8 ([] : List Int)) := Row.of_blk (xs := []) (zs := []) Q (by omega) rfl rfl (by omega)
  have zb4 : b1 + 1 ≤ h4.size := by omega
  clear P W W2 A
  refine ⟨A4, ?_⟩
  have app : ∀ {t : Slc} {h1 : Heap} {l1 l2 : List Int} {m2 : Nat} {K : Slc → Heap → Prop}, Row (b1 + 1) h1 5 1 t (b8 l1) → Blk h1 b1 (arr 32 .u8 ([] : List Int)) 63 → Ext b1 h h1 → l1.length ≤ 61000 → l2.length = m2 → m2 ≤ 61000 → b1 + 1 ≤ h1.size →
      (∀ t' h2, Row (b1 + 1) h2 5 1 t' (b8 (l1 ++ l2)) → Blk h2 b1 (arr 32 .u8 ([] : List Int)) 63 → Ext b1 h h2 → t'.len = l1.length + m2 → b1 + 1 ≤ h2.size → K t' h2) → App 5 1 1 [.int .u8 0] h1 t m2 (b8 l2) K := fun {t h1 l1 l2 m2 K} R B X hl hl2 hm hz F => by
    have lt : t.len = l1.length := by have := R.len; rw [this, List.length_map]
    refine App.row2 R hz rfl (by simp [hl2]) (fun x hx => by obtain ⟨_, _, rfl⟩ := List.mem_map.1 hx; rfl) (by omega) (by simp only [maxLen]; omega) fun t' h2 R2 l2' z2 kp _ _ => ?_
    have ne : ∀ i, i ≤ b1 → t.blk ≠ some i := fun i hi e => by have := (R.bd e).1; omega
    refine F t' h2 (by rw [b8, List.map_append]; exact R2) (B.old (kp b1 B.lt (ne b1 (Nat.le_refl _)))) (X.trans ⟨z2, fun i hi => kp i (by omega) (ne i (by omega))⟩) (by omega) (by omega)
  refine app R0 P4 X04 (by simp) ls.symm (by omega) zb4 fun s6 h6 R6 P6 X6 l6 z6 => ?_
  rw [List.nil_append] at R6
  refine ⟨_, _, rfl, rfl, ?_⟩
  have W7 := Ext.push h6 (.cells ([.int .u8 128] : List Value).toArray 5) (Nat.le_refl _)
  have R7 := R6.pushed (.cells ([.int .u8 128] : List Value).toArray 5)
  generalize h6.push (.cells ([.int .u8 128] : List Value).toArray 5) = h7 at *
  have z7 := W7.size
  have P7 := P6.ext W7 P6.lt
  have X07 : Ext b1 h h7 := X6.trans (W7.mono (by omega))
  refine app (l2 := [128]) R7 P7 X07 (by omega) rfl (by omega) (by omega) fun s8 h9 R9 P9 X9 l9 z9 => ?_
  unfold ref02_Sum_l1
  refine ⟨fun t h' => ∃ j, j ≤ padN bs.length ∧ Row (b1 + 1) h' 5 1 t (b8 (bs ++ [128] ++ List.replicate j 0)) ∧ Blk h' b1 (arr 32 .u8 ([] : List Int)) 63 ∧ Ext b1 h h' ∧ t.len = bs.length + 1 + j ∧ b1 + 1 ≤ h'.size, fun t _ => bs.length + 1 + padN bs.length - t.len, ⟨0, Nat.zero_le _, by simpa using R9, P9, X9, by omega, z9⟩, ?_⟩
  rintro t h1 ⟨j, hj, R1, P1, X1, lt, z1⟩
  have pn : padN bs.length < 64 := by unfold padN; omega
  have pm : (bs.length + 1 + padN bs.length) % 64 = 56 := by unfold padN; omega
  have et : Int.tmod (t.len : Int) 64 = (((bs.length + 1 + j) % 64 : Nat) : Int) := by
    rw [Int.tmod_eq_emod_of_nonneg (by omega), lt]; omega
  unfold ref02_Sum_l1b
  rw [et]
  by_cases c : (bs.length + 1 + j) % 64 = 56
  · have ej : j = padN bs.length := by omega
    rw [if_neg (by rw [c]; decide)]
    rw [ej] at R1
    clear lt c hj et
    rw [ls, show IntKind.u64.wrap (IntKind.u64.wrap ((bs.length : Nat) : Int) * 8) = ((bs.length * 8 : Nat) : Int) from by rw [wU64, wU64]; omega]
    refine high_ok (w := 8) (by omega) (by omega) fun h2' B2 X2 => ?_
    refine ⟨b8 (hiL (bs.length * 8) 8), Blk.slc (o := 0) (n := 8) B2 (by rw [List.drop_zero, List.take_of_length_le (by rw [List.length_map, hiL_len]; exact Nat.le_refl _)]), ?_⟩
    have z2' := X2.size
    have R2 := R1.ext X2 fun g hg => (R1.bd hg).2
    have lh := hiL_len (bs.length * 8) 8
    refine app R2 (P1.ext X2 P1.lt) (X1.trans (X2.mono (by omega))) (by simp only [List.length_append, List.length_replicate, List.length_singleton]; omega) lh (by dsimp only; omega) (by omega) fun t3 h3 R3 P3 X3 l3 z3 => ?_
    rw [← lenB_hi (by omega)] at R3
    change Row (b1 + 1) h3 5 1 t3 (b8 (padD bs)) at R3
    have hM := padD_by hb
    obtain ⟨c', lM⟩ := padD_len bs
    have esh : shaD bs = outUp (blkUp (padD bs) (c' + 1)) 32 := by
      unfold shaD; rw [lM, Nat.mul_div_cancel_left _ (by omega)]
    have l3' : t3.len = 64 * (c' + 1) := by have := R3.len; rw [this, List.length_map, lM]
    simp only [List.length_append, List.length_replicate, List.length_singleton] at l3
    rw [esh] at H
    generalize padD bs = M at *
    refine ⟨_, _, rfl, rfl, ?_⟩
    have Q4 := Blk.push h3 (u32s startL) 83
    have W4 := Ext.push h3 (.cells (u32s startL).toArray 83) (Nat.le_refl _)
    change ref02_constants _ (h3.push (.cells (u32s startL).toArray 83))
    generalize h3.push (.cells (u32s startL).toArray 83) = h5 at *
    have z5 := W4.size
    refine consts_ok fun h8 C8 X8 => ?_
    have z8 := X8.size
    have Q8 := Q4.ext X8 Q4.lt
    have R8 := (R3.ext W4 fun g hg => (R3.bd hg).2).ext X8 fun g hg => by have := (R3.bd hg).2; omega
    have P8 := (P3.ext W4 P3.lt).ext X8 (by have := P3.lt; omega)
    have X08 : Ext b1 h h8 := X3.trans ((W4.mono (by omega)).trans (X8.mono (by omega)))
    have S8 := R8.slc
    have lc : t3.len ≤ t3.cap := R8.cap
    generalize h5.size = kb at *
    generalize h3.size = gg at *
    unfold ref02_Sum_l2
    refine ⟨fun q h' => ∃ n g : Nat, n ≤ c' + 1 ∧ q.2 = ((64 * n : Nat) : Int) ∧ q.1 = ⟨some ⟨g, 0, none⟩, 8, 8⟩ ∧ Blk h' g (u32s (blkUp M n)) 83 ∧ Ext h8.size h8 h', fun q _ => (64 * ((c' : Int) + 1) - q.2).toNat, ⟨0, gg, by omega, rfl, rfl, Q8, Ext.refl _ _⟩, ?_⟩
    rintro t4 q6 h9 ⟨n, g, hn, e6, e4, Q9, X9⟩
    dsimp only at e6 e4
    subst e6
    have z9 := X9.size
    have C9 := C8.ext X9 C8.lt
    have lB := blkUp_len M n
    have wB := blkUp_W M n
    unfold ref02_Sum_l2b
    by_cases c2 : n < c' + 1
    · rw [if_pos (by rw [decide_eq_true_eq]; omega)]
      refine First_ok (S8.ext X9) (by omega) (by omega) lc (by omega) hM lB wB e4 Q9 rfl C9 fun g' h10 Q10 X10 => ?_
      rw [wrapI64 (by omega) (by omega)]
      exact ⟨⟨n + 1, g', by omega, by dsimp only; omega, rfl, Q10, X9.trans (X10.mono z9)⟩, by dsimp only; omega⟩
    · rw [if_neg (by rw [decide_eq_true_eq]; omega)]
      have en : n = c' + 1 := by omega
      rw [en] at Q9 lB wB
      refine ⟨_, _, rfl, rfl, ?_⟩
      have P10 := Blk.push h9 (arr 32 .u8 ([] : List Int)) 63
      have W10 := Ext.push h9 (.cells (arr 32 .u8 ([] : List Int)).toArray 63) (Nat.le_refl _)
      generalize h9.push (.cells (arr 32 .u8 ([] : List Int)).toArray 63) = h10 at *
      have P8l := P8.lt
      refine Told_ok (B := b1) (h0 := h) e4 (Q9.ext W10 Q9.lt) lB wB ((P8.ext X9 P8.lt).ext W10 (by omega)) P10 (by omega) ⟨by omega, by omega⟩ (X08.trans ((X9.mono (by omega)).trans (W10.mono (by omega)))) fun h11 X11 => ?_
      exact H h11 X11
  · have cj : j < padN bs.length := by
      rcases Nat.lt_or_ge j (padN bs.length) with q | q
      · exact q
      · exact absurd (by rw [show j = padN bs.length from by omega]; exact pm) c
    rw [if_pos (by simp only [bne_iff_ne, ne_eq]; omega)]
    refine ⟨_, _, rfl, rfl, ?_⟩
    have W3 := Ext.push h1 (.cells ([.int .u8 0] : List Value).toArray 5) (Nat.le_refl _)
    have R3 := R1.pushed (.cells ([.int .u8 0] : List Value).toArray 5)
    generalize h1.push (.cells ([.int .u8 0] : List Value).toArray 5) = h3 at *
    have z3 := W3.size
    refine app (l2 := [0]) R3 (P1.ext W3 P1.lt) (X1.trans (W3.mono (by omega))) (by simp only [List.length_append, List.length_replicate, List.length_singleton]; omega) rfl (by omega) (by omega) fun t' h4' R4 P4' X4' l4 z4' => ?_
    simp only [List.length_append, List.length_replicate, List.length_singleton] at l4
    refine ⟨⟨j + 1, by omega, ?_, P4', X4', by omega, z4'⟩, by dsimp only; omega⟩
    rw [List.replicate_succ', ← List.append_assoc]
    exact R4
end Go.Q.Ye
/- Slot: the document's laying. -/
namespace Go.Q.Ye
theorem RForm_ok {n w : Int} {k : Slc → Heap → Prop} {h : Heap} (w0 : 0 ≤ w) (w1 : w ≤ 8) (n0 : 0 ≤ n) (n1 : n < 18446744073709551616) (H : ∀ s' h', Row h.size h' 5 1 s' (b8 (formL n w.toNat)) → Ext h.size h h' → k s' h') : ref01_Form n w k h := by
  unfold ref01_Form
  refine ⟨fun q h' => ∃ l, Row h.size h' 5 1 q.2.1 (b8 l) ∧ l ++ formL q.1 (w - q.2.2).toNat = formL n w.toNat ∧ 0 ≤ q.1 ∧ q.1 < 18446744073709551616 ∧ 0 ≤ q.2.2 ∧ q.2.2 ≤ w ∧ Ext h.size h h', fun q _ => (w - q.2.2).toNat, ⟨[], Row.nil _ _ _ _, by simp, n0, n1, by simp, by simpa using w0, Ext.refl _ _⟩, ?_⟩
  rintro n s i h1 ⟨l, R, hL, n0, n1, i0, i1, X⟩
  simp only at R hL n0 n1 i0 i1
  unfold ref01_Form_l1b
  have ht : Int.tmod n 256 = n % 256 := Int.tmod_eq_emod_of_nonneg n0
  have hd : Int.tdiv n 256 = n / 256 := Int.tdiv_eq_ediv_of_nonneg n0
  rw [ht, hd, wU8, show n % 256 % 256 = n % 256 from by omega]
  by_cases hi : i < w
  · rw [if_pos (by simpa using hi)]
    refine ⟨_, _, rfl, rfl, ?_⟩
    have hll : l.length ≤ 8 := by have := congrArg List.length hL; simp [formL_length] at this; omega
    have hlen := R.len
    simp at hlen
    have hX := X.size
    refine App.row (R.pushed _) (by simp; omega) rfl rfl (by simp [Value.oneCell']) (by omega) (by simp only [maxLen]; omega) fun s' h2 R' _ hs ho _ => ?_
    rw [wrapI64 (by omega) (by omega), wrapU64 (by omega) (by omega)]
    refine ⟨_, rfl, _, rfl, ⟨l ++ [n % 256], by simpa using R', ?_, by simp only; omega, by simp only; omega, by simp only; omega, by simp only; omega, X.trans ⟨by simp at hs; omega, fun j hj => ?_⟩⟩, ?_⟩
    · simp only
      rw [show (w - i).toNat = (w - (i + 1)).toNat + 1 from by omega] at hL
      simpa [formL] using hL
    · rw [ho j (by simp; omega) (fun e => by have := (R.bd e).1; omega), Array.getElem?_push, if_neg (by omega)]
    · show (w - (i + 1)).toNat < (w - i).toNat
      omega
  · rw [if_neg (by simpa using hi)]
    have : (w - i).toNat = 0 := by omega
    rw [this] at hL
    simp [formL] at hL
    subst hL
    exact H _ _ R X
theorem formL_num' : ∀ {l : List Int}, isB l → formL (numL l) l.length = l
  | [], _ => rfl
  | b :: r, h => by
    have h1 := h b (by simp)
    have h2 := formL_num' (l := r) fun x hx => h x (List.mem_cons_of_mem _ hx)
    simp only [numL, List.length_cons, formL]
    rw [show (b + 256 * numL r) % 256 = b from by omega, show (b + 256 * numL r) / 256 = numL r from by omega, h2]
/-- a sector, as the document tells it -/
def rowD (n : Int) (bs : List Int) (i : Nat) : List Int := padB (laySec (headD (n - 1) bs) bs i)
theorem lay_eq {n : Int} {bs : List Int} {i : Nat} : formL n 8 ++ formL (i : Int) 2 ++ formL (prtD bs.length) 2 ++ formL (bs.length : Int) 4 ++ (shaD bs).take 8 ++ (bs.drop (i * 104)).take 104 = laySec (headD (n - 1) bs) bs i := by
  have l8 : ((shaD bs).take 8).length = 8 := by rw [List.length_take, shaD_len]; rfl
  have e : formL (sumD bs) 8 = (shaD bs).take 8 := by
    have := formL_num' (l := (shaD bs).take 8) (isB_take (shaD_B bs) 8)
    rw [l8] at this
    exact this
  unfold laySec hbD headD
  dsimp only
  rw [e, show n - 1 + 1 = n from by omega]
/-- rows of sectors -/
structure Secs (B : Nat) (h : Heap) (s : Slc) (n : Int) (bs : List Int) (m : Nat) (ys : List Slc) : Prop where
  l : ys.length = m
  r : Row B h 23 1 s (ys.map Slc.v)
  row : ∀ (i : Nat) y, ys[i]? = some y → Row B h 5 1 y (b8 (rowD n bs i))
theorem Secs.keep {B : Nat} {h h' : Heap} {s : Slc} {n : Int} {bs : List Int} {m : Nat} {ys : List Slc} (K : Secs B h s n bs m ys) (X : Ext h.size h h') : Secs B h' s n bs m ys :=
  ⟨K.l, K.r.ext X fun g hg => (K.r.bd hg).2, fun i y hy => (K.row i y hy).ext X fun g hg => ((K.row i y hy).bd hg).2⟩
theorem Secs.mono {B B' : Nat} {h : Heap} {s : Slc} {n : Int} {bs : List Int} {m : Nat} {ys : List Slc} (K : Secs B h s n bs m ys) (hB : B' ≤ B) : Secs B' h s n bs m ys :=
  ⟨K.l, K.r.mono hB, fun i y hy => (K.row i y hy).mono hB⟩
theorem row_len (n : Int) (bs : List Int) (i : Nat) : (rowD n bs i).length = 128 := pad_len (sec_le _ _ _)
theorem RLay_ok {s : Slc} {n : Int} {bs : List Int} {k : Slc → Heap → Prop} {h : Heap} (n0 : 0 ≤ n) (n1 : n < 18446744073709551616) (A : SlcAt h s (b8 bs)) (ls : s.len = bs.length) (lc : s.len ≤ s.cap) (m : bs.length ≤ 60000) (hb : ∀ b ∈ bs, isBy b)
    (H : ∀ s' h' ys, Secs h.size h' s' n bs (prtD bs.length).toNat ys → Ext h.size h h' → k s' h') : ref10_Lay s n k h := by
  have p1 := prt_pos bs.length
  have p2 : prtD bs.length ≤ 600 := by unfold prtD; split <;> omega
  have core : ref10_Lay_j1 s n (prtD bs.length) k h := by
    unfold ref10_Lay_j1
    refine Sum_ok A ls m hb fun h3 X3 => ⟨_, _, rfl, rfl, ?_⟩
    have P := Blk.push h3 (arr 32 .u8 ([] : List Int)) 63
    have W := Ext.push h3 (.cells (arr 32 .u8 ([] : List Int)).toArray 63) (Nat.le_refl _)
    generalize h3.push (.cells (arr 32 .u8 ([] : List Int)).toArray 63) = h5 at *
    have lsh := shaD_len bs
    have es : arr 32 .u8 (shaD bs) = b8 (shaD bs) := arr_full lsh
    refine ⟨_, WrsAt.of_blk P (by show 32 ≤ 32; omega), rfl, ?_⟩
    rw [es]
    have P6 : Blk (setsH h5 ⟨h3.size, 0, none⟩ 0 (b8 (shaD bs))) h3.size (b8 (shaD bs)) 63 := P.sets_all (by rw [List.length_map, lsh]; rfl)
    have X6 := W.trans (Ext.sets h5 (a := ⟨h3.size, 0, none⟩) 0 (b8 (shaD bs)) (Nat.le_refl _))
    generalize setsH h5 ⟨h3.size, 0, none⟩ 0 (b8 (shaD bs)) = h6 at *
    have z3 := X3.size
    have z6 := X6.size
    have X06 : Ext h.size h h6 := X3.trans (X6.mono z3)
    have A6 := A.ext X06
    generalize h3.size = b4 at *
    clear P W es
    unfold ref10_Lay_l2
    refine ⟨fun q h' => ∃ (i : Nat) (ys : List Slc), (i : Int) ≤ prtD bs.length ∧ q.2 = (i : Int) ∧ Secs h6.size h' q.1 n bs i ys ∧ Ext h6.size h6 h', fun q _ => (prtD bs.length - q.2).toNat, ⟨0, [], by omega, rfl, ⟨rfl, Row.nil _ _ _ _, fun i y hy => by simp at hy⟩, Ext.refl _ _⟩, ?_⟩
    rintro t7 t8 h1 ⟨i, ys, hi, e8, K, X1⟩
    dsimp only at e8 K
    subst e8
    have z1 := X1.size
    unfold ref10_Lay_l2b
    by_cases ci : (i : Int) < prtD bs.length
    · rw [if_pos (by rw [decide_eq_true_eq]; exact ci)]
      have P1 := P6.ext X1 P6.lt
      have pl := P6.lt
      have A1 := A6.ext X1
      have i104 : i * 104 ≤ bs.length := by unfold prtD at ci; split at ci <;> omega
      rw [show IntKind.u64.wrap (i : Int) = (i : Int) from by rw [wU64]; omega, show IntKind.u64.wrap (prtD bs.length) = prtD bs.length from by rw [wU64]; omega, ls, show IntKind.u64.wrap ((bs.length : Nat) : Int) = ((bs.length : Nat) : Int) from by rw [wU64]; omega]
      refine RForm_ok (w := 8) (by omega) (by omega) n0 n1 fun r7 h8 R8 Y8 => ?_
      have z8 := Y8.size
      refine RForm_ok (w := 2) (by omega) (by omega) (by omega) (by omega) fun r9 h10 R10 Y10 => ?_
      have z10 := Y10.size
      have R8' := R8.ext Y10 fun g hg => (R8.bd hg).2
      refine ⟨_, R10.slc, ?_⟩
      refine AppB R8' (by omega) (by rw [(Row.pb R10)]) (by rw [formL_length, formL_length]; decide) fun s11 h12 R12 Y12 => ?_
      have z12 := Y12.size
      refine RForm_ok (w := 2) (by omega) (by omega) (by omega) (by omega) fun r14 h15 R15 Y15 => ?_
      have z15 := Y15.size
      have R12' := R12.ext Y15 fun g hg => (R12.bd hg).2
      refine ⟨_, R15.slc, ?_⟩
      refine AppB R12' (by omega) (by rw [(Row.pb R15)]) (by simp only [List.length_append, formL_length]; decide) fun s16 h17 R17 Y17 => ?_
      have z17 := Y17.size
      refine RForm_ok (w := 4) (by omega) (by omega) (by omega) (by omega) fun r19 h20 R20 Y20 => ?_
      have z20 := Y20.size
      have R17' := R17.ext Y20 fun g hg => (R17.bd hg).2
      refine ⟨_, R20.slc, ?_⟩
      refine AppB R17' (by omega) (by rw [(Row.pb R20)]) (by simp only [List.length_append, formL_length]; decide) fun s21 h22 R22 Y22 => ?_
      have z22 := Y22.size
      have X22 : Ext h1.size h1 h22 := Y8.trans ((Y10.mono z8).trans (Y12.trans ((Y15.mono (by omega)).trans (Y17.trans ((Y20.mono (by omega)).trans Y22)))))
      refine ⟨_, by omega, by omega, by omega, rfl, b8 ((shaD bs).take 8), ?_, ?_⟩
      · have P22 := P1.ext X22 P1.lt
        have S := (SlcAt.of_blk (n := 32) (m := 32) (ys := []) (xs := b8 (shaD bs)) (by simpa using P22)).sub (w := 1) (l := 0) (u := 8) (m := 32) (by omega) (by omega)
        rw [Nat.zero_mul, List.drop_zero, show (8 - 0) * 1 = 8 from rfl, ← List.map_take] at S
        exact S
      have l8 : ((shaD bs).take 8).length = 8 := by rw [List.length_take, lsh]; rfl
      refine AppB R22 (by omega) (by rw [subS_len, l8]; rfl) (by simp only [List.length_append, formL_length, l8]; decide) fun s25 h26 R26 Y26 => ?_
      have z26 := Y26.size
      have X26 : Ext h1.size h1 h26 := X22.trans Y26
      have ew : IntKind.i64.wrap (IntKind.i64.wrap ((i : Int) * 104) + 104) = (i : Int) * 104 + 104 := by rw [wrapI64 (x := (i : Int) * 104) (by omega) (by omega), wrapI64 (by omega) (by omega)]
      rw [ew, wrapI64 (x := (i : Int) * 104) (by omega) (by omega)]
      obtain ⟨u, hu, u1, u2⟩ : ∃ u : Nat, (if (i : Int) * 104 + 104 < ((bs.length : Nat) : Int) then (i : Int) * 104 + 104 else ((bs.length : Nat) : Int)) = (u : Int) ∧ u = min (i * 104 + 104) bs.length ∧ i * 104 ≤ u := by
        refine ⟨min (i * 104 + 104) bs.length, ?_, rfl, by omega⟩
        split <;> omega
      rw [hu]
      refine ⟨_, by omega, by omega, by omega, by omega, rfl, b8 ((bs.drop (i * 104)).take 104), ?_, ?_⟩
      · have S := (A1.ext X26).sub (w := 1) (l := i * 104) (u := u) (m := s.cap) u2 (by omega)
        rw [show ((i : Int) * 104).toNat = i * 104 from by omega, Int.toNat_natCast, Int.toNat_natCast]
        rw [Nat.mul_one, Nat.mul_one, ← List.map_drop, ← List.map_take] at S
        rw [show (bs.drop (i * 104)).take 104 = (bs.drop (i * 104)).take (u - i * 104) from ?_]
        · exact S
        · rw [u1]
          by_cases c : i * 104 + 104 ≤ bs.length
          · rw [Nat.min_eq_left c]; congr 1; omega
          · rw [Nat.min_eq_right (by omega), List.take_of_length_le (by rw [List.length_drop]; omega), List.take_of_length_le (by rw [List.length_drop]; omega)]
      have lr : ((bs.drop (i * 104)).take 104).length = u - i * 104 := by rw [List.length_take, List.length_drop]; omega
      refine AppB R26 (by omega) (by rw [subS_len, lr]; omega) (by simp only [List.length_append, formL_length, l8, lr]; omega) fun s29 h30 R30 Y30 => ?_
      have z30 := Y30.size
      have X30 : Ext h1.size h1 h30 := X26.trans Y30
      have el : formL n (8 : Int).toNat ++ formL (i : Int) (2 : Int).toNat ++ formL (prtD bs.length) (2 : Int).toNat ++ formL (bs.length : Int) (4 : Int).toNat ++ (shaD bs).take 8 ++ (bs.drop (i * 104)).take 104 = laySec (headD (n - 1) bs) bs i := lay_eq
      rw [el] at R30
      have sl := sec_le (headD (n - 1) bs) bs i
      unfold ref10_Lay_l3
      refine ⟨fun q h' => ∃ j : Nat, (laySec (headD (n - 1) bs) bs i).length + j ≤ 128 ∧ Row h1.size h' 5 1 q (b8 (laySec (headD (n - 1) bs) bs i ++ List.replicate j 0)) ∧ Ext h1.size h1 h', fun q _ => 128 - q.len, ⟨0, by omega, by simpa using R30, X30⟩, ?_⟩
      rintro q h2 ⟨j, hj, R2, X2⟩
      have lq : q.len = (laySec (headD (n - 1) bs) bs i).length + j := by rw [(Row.pb R2), List.length_append, List.length_replicate]
      have z2 := X2.size
      unfold ref10_Lay_l3b
      by_cases c : (laySec (headD (n - 1) bs) bs i).length + j < 128
      · rw [if_pos (by rw [decide_eq_true_eq]; omega)]
        refine ⟨_, _, rfl, rfl, ?_⟩
        have W3 := Ext.push h2 (.cells ([.int .u8 0] : List Value).toArray 5) z2
        have R3 := R2.pushed (.cells ([.int .u8 0] : List Value).toArray 5)
        generalize h2.push (.cells ([.int .u8 0] : List Value).toArray 5) = h3' at *
        have z3' := W3.size
        refine AppB (m := [0]) R3 (by omega) rfl (by simp only [List.length_append, List.length_replicate, List.length_singleton]; omega) fun q' h4 R4 Y4 => ?_
        have lq' : q'.len = (laySec (headD (n - 1) bs) bs i).length + j + 1 := by rw [(Row.pb R4)]; simp only [List.length_append, List.length_replicate, List.length_singleton]
        refine ⟨⟨j + 1, by omega, ?_, X2.trans (W3.trans Y4)⟩, by dsimp only; omega⟩
        rw [List.replicate_succ', ← List.append_assoc]
        exact R4
      · rw [if_neg (by rw [decide_eq_true_eq]; omega)]
        have ej : j = 128 - (laySec (headD (n - 1) bs) bs i).length := by omega
        rw [ej] at R2
        change Row h1.size h2 5 1 q (b8 (rowD n bs i)) at R2
        refine ⟨_, _, rfl, rfl, ?_⟩
        have W3 := Ext.push h2 (.cells ([Slc.v q] : List Value).toArray 23) (Nat.le_refl _)
        have R3 := R2.pushed (.cells ([Slc.v q] : List Value).toArray 23)
        have K2 := K.keep X2
        have K3 := K2.keep W3
        generalize h2.push (.cells ([Slc.v q] : List Value).toArray 23) = h3' at *
        have z3' := W3.size
        have z06 := X06.size
        have lt : t7.len = i := by have := K3.r.len; rw [this, List.length_map, K3.l]
        refine App.row2 K3.r (by omega) rfl (by simp) (fun x hx => by rw [List.mem_singleton] at hx; rw [hx]; rfl) (by omega) (by simp only [maxLen]; omega) fun t' h4 R4 l4 z4 kp _ _ => ?_
        rw [wrapI64 (by omega) (by omega)]
        have kr : ∀ {C : Nat} {y : Slc} {l : List Value}, Row C h3' 5 1 y l → Row C h4 5 1 y l := fun {C y l} Ry => by
          refine Ry.keep fun g hg => kp g (Ry.bd hg).2 ?_
          exact Row.ne_row Ry K3.r (by decide) hg
        refine ⟨_, rfl, ⟨i + 1, ys ++ [q], by omega, by dsimp only; omega, ⟨by rw [List.length_append, K.l]; rfl, by rw [List.map_append]; exact R4, fun j' y hy => ?_⟩, ?_⟩, by dsimp only; omega⟩
        · by_cases cj : j' < ys.length
          · rw [List.getElem?_append_left cj] at hy
            exact kr (K3.row j' y hy)
          · rw [List.getElem?_append_right (by omega)] at hy
            have : j' = i := by
              have := (List.getElem?_eq_some_iff.1 hy).1
              rw [List.length_singleton] at this
              have := K.l
              omega
            rw [this, K.l, Nat.sub_self] at hy
            cases hy
            rw [this]
            exact kr (R3.mono (by omega))
        · refine X1.trans ⟨by omega, fun g hg => ?_⟩
          exact (kp g (by omega) (fun e => by have := (K3.r.bd e).1; omega)).trans ((W3.block g (by omega)).trans (X2.block g (by omega)))
    · rw [if_neg (by rw [decide_eq_true_eq]; exact ci)]
      have ei : (prtD bs.length).toNat = i := by omega
      refine H t7 h1 ys ?_ (X06.trans (X1.mono X06.size))
      rw [ei]; exact K.mono X06.size
  unfold ref10_Lay
  rw [ls, wrapI64 (x := ((bs.length : Nat) : Int) + 103) (by omega) (by omega), Int.tdiv_eq_ediv_of_nonneg (by omega), wrapI64 (by omega) (by omega)]
  refine ⟨_, rfl, ?_⟩
  by_cases c : ((bs.length : Int) + 103) / 104 = 0
  · rw [if_pos (by simpa using c)]
    have : prtD bs.length = 1 := by unfold prtD; rw [if_neg (by omega)]
    rw [← this]; exact core
  · rw [if_neg (by simpa using c)]
    have : prtD bs.length = ((bs.length : Int) + 103) / 104 := by unfold prtD; split <;> omega
    rw [← this]; exact core
end Go.Q.Ye
/- Slot: a laying that nothing cuts. -/
namespace Go.Q.Ye
theorem burn_free {X : DK} (hf : X.fuse = 0) : (burnD X).1 = false ∧ (burnD X).2.dead = X.dead ∧ (burnD X).2.fuse = 0 := by
  unfold burnD
  rw [if_pos hf]
  exact ⟨rfl, rfl, hf⟩
theorem lay_free {X : DK} {p : Int} {f : S_slot_head} {bs : List Int} (hd : X.dead = false) (hf : X.fuse = 0) (p0 : 0 ≤ p) : ∀ n : Nat, p + n ≤ 1024 → (layUp p f bs X n).1 = 0 ∧ (layUp p f bs X n).2.dead = false ∧ (layUp p f bs X n).2.fuse = 0
  | 0, _ => ⟨rfl, hd, hf⟩
  | n + 1, hn => by
    obtain ⟨e, dd, ff⟩ := lay_free (f := f) (bs := bs) hd hf p0 n (by omega)
    have el : layUp p f bs X (n + 1) = (endD (burnD (laidD (layUp p f bs X n).2 (p + n) (newS f bs n))).1, (burnD (laidD (layUp p f bs X n).2 (p + n) (newS f bs n))).2) := by
      rw [layUp, if_neg (by rw [e]; simp)]
      show writeD (layUp p f bs X n).2 (p + n) (newS f bs n) = _
      unfold writeD
      rw [if_neg (by rw [dd]; simp), if_neg (by omega), if_neg (by have := newS_le f bs n; omega)]
    obtain ⟨b1, b2, b3⟩ := burn_free (X := laidD (layUp p f bs X n).2 (p + n) (newS f bs n)) ff
    rw [el]
    dsimp only
    exact ⟨by rw [b1]; rfl, by rw [b2]; exact dd, b3⟩
theorem layD_free {X : DK} {p : Int} {f : S_slot_head} {bs : List Int} {N : Nat} (hd : X.dead = false) (hf : X.fuse = 0) (hs : X.safe = []) (p0 : 0 ≤ p) (pN : p + N ≤ 1024) :
    (layD p f bs X N).1 = (f.f_n, 0) ∧ (layD p f bs X N).2.dead = false ∧ (layD p f bs X N).2.fuse = 0 ∧ (layD p f bs X N).2.safe = [] ∧ LU X (layD p f bs X N).2 p f bs N := by
  obtain ⟨e, dd, ff⟩ := lay_free (f := f) (bs := bs) hd hf p0 N pN
  obtain ⟨b1, b2, b3⟩ := burn_free (X := (layUp p f bs X N).2) ff
  have es : syncD (layUp p f bs X N).2 = (0, { (burnD (layUp p f bs X N).2).2 with safe := [] }) := by
    unfold syncD
    rw [if_neg (by rw [dd]; simp), if_neg (by rw [b1]; simp)]
  have el : layD p f bs X N = ((f.f_n, 0), { (burnD (layUp p f bs X N).2).2 with safe := [] }) := by
    unfold layD
    rw [if_neg (by rw [e]; simp), es, if_neg (by simp)]
  rcases layD_end (f := f) (bs := bs) (N := N) hd hs p0 pN with ⟨_, _, _, _, L⟩ | ⟨_, q, _⟩
  · refine ⟨by rw [el], by rw [el]; exact b2.trans dd, by rw [el]; exact b3, by rw [el], L⟩
  · rw [el] at q
    have : (burnD (layUp p f bs X N).2).2.dead = true := q
    rw [b2, dd] at this
    cases this
structure WS (X : DK) (bs : List Int) (t : Int) (N : Nat) (r : Int × Int) (Y : DK) : Prop where
  r : r = (grD X 0 12 + 1, 0)
  good : GoodX Y
  safe : Y.safe = []
  fuse : Y.fuse = 0
  dead : Y.dead = false
  gr : grD Y 0 12 = grD X 0 12 + 1
  bp : BP Y 0 6 t
  new : ∀ j : Nat, j < N → readD Y (t * 6 + j) = (padB (newS (headD (grD X 0 12) bs) bs j), 0)
  old : ∀ u : Int, (u = 0 ∨ u = 1) → u ≠ t → ∀ i : Nat, i < 6 → readD Y (u * 6 + i) = readD X (u * 6 + i)
theorem pad_zero : padB [] = nrm 128 [] := by decide
theorem ws_ok {X : DK} {bs : List Int} {slot t : Int} {r : Int × Int} {Y : DK} {N : Nat} (g : GoodX X) (hs : X.safe = []) (hd : X.dead = false) (hf : X.fuse = 0) (hB : isB bs) (bl : bs.length ≤ 600) (gl : grD X 0 12 < 4611686018427387904)
    (b : BP X 0 6 slot) (ht : t = if slot = 0 then 1 else 0) (hN : (prtD bs.length).toNat ≤ N) (N6 : N ≤ 6) (hr : (r, Y) = layD (0 + t * 6) (headD (grD X 0 12) bs) bs X N) : WS X bs t N r Y := by
  have p1 := prt_pos bs.length
  have p6 : prtD bs.length ≤ 6 := by unfold prtD; split <;> omega
  have gn := gr_nn g 0 12
  have tt : t = 0 ∨ t = 1 := by rw [ht]; split <;> omega
  obtain ⟨gr, egr⟩ : ∃ gr, gr = grD X 0 12 := ⟨_, rfl⟩
  rw [← egr] at gl hr gn
  have er : r = (layD (0 + t * 6) (headD gr bs) bs X N).1 := congrArg (·.1) hr
  have eY : Y = (layD (0 + t * 6) (headD gr bs) bs X N).2 := congrArg (·.2) hr
  obtain ⟨q1, q2, q3, q4, L⟩ := layD_free (f := headD gr bs) (bs := bs) (N := N) (p := 0 + t * 6) hd hf hs (by omega) (by omega)
  rw [← er] at q1
  rw [← eY] at q2 q3 q4 L
  have rdn : ∀ j : Nat, j < N → readD Y (t * 6 + j) = (padB (newS (headD gr bs) bs j), 0) := fun j hj => by
    have := L.all j hj
    rw [show 0 + t * 6 + (j : Int) = t * 6 + j from by omega] at this
    exact rd_new (by omega) this
  have tri : ∀ a, readD Y a = readD X a ∨ ∃ j : Nat, j < N ∧ a = t * 6 + j := fun a => by
    rcases L.now a with h | ⟨j, h1, h2⟩
    · exact .inl (rd_cong h)
    · exact .inr ⟨j, h1, by omega⟩
  have gY : GoodX Y := good_of q4 fun a => by
    rcases L.now a with h | ⟨j, h1, h2⟩
    · rw [h]; exact g.1 a
    · rw [h2, L.all j h1]; exact newV_B hB
  have hdn : ∀ j : Nat, j < N → ((j : Int) < prtD bs.length → (hdD (padB (newS (headD gr bs) bs j))).f_n = gr + 1) ∧ (hdD (padB (newS (headD gr bs) bs j))).f_n ≤ gr + 1 := fun j hj => by
    unfold newS
    by_cases c : (j : Int) < (headD gr bs).f_parts
    · rw [if_pos c]
      have := hd_sec (f := headD gr bs) (bs := bs) (i := j) ⟨by show 0 ≤ gr + 1; omega, by show gr + 1 < _; omega⟩ (by omega) (by show 0 ≤ prtD _ ∧ prtD _ < 65536; omega) (by show (0 : Int) ≤ (bs.length : Int) ∧ (bs.length : Int) < 4294967296; omega) (sum_bd bs)
      rw [this]
      exact ⟨fun _ => rfl, Int.le_refl _⟩
    · rw [if_neg c, pad_zero, fn_zero]
      exact ⟨fun h => absurd h c, by omega⟩
  have nX : ∀ a : Int, 0 ≤ a → a < 12 → (readD X a).2 = 0 → (fst1 X a).f_n ≤ gr := fun a a0 a1 e => by
    have := gr_ge X 0 12 a.toNat (by omega)
    rw [show (0 : Int) + ((a.toNat : Nat) : Int) = a from by omega, ← egr] at this
    exact this e
  have oth : ∀ u : Int, (u = 0 ∨ u = 1) → u ≠ t → ∀ i : Nat, i < 6 → readD Y (u * 6 + i) = readD X (u * 6 + i) := fun u hu ne i hi => by
    rcases tri (u * 6 + i) with h | ⟨j, h1, h2⟩
    · exact h
    · omega
  have rd : ∀ j : Nat, (j : Int) < prtD bs.length → readD Y (0 + t * 6 + j) = (padB (laySec (headD gr bs) bs j), 0) := fun j hj => by
    rw [show 0 + t * 6 + (j : Int) = t * 6 + j from by omega, rdn j (by omega)]
    unfold newS
    rw [if_pos (show (j : Int) < (headD gr bs).f_parts from hj)]
  obtain ⟨a, b1, c, d⟩ := lay_whole (kk := 6) (by omega) p6 ⟨gn, gl⟩ rd
  have w : IsW Y 0 6 t := ⟨a, b1⟩
  have nw : numW Y 0 6 t = gr + 1 := c
  have cmp : ∀ u : Int, (u = 0 ∨ u = 1) → u ≠ t → IsW Y 0 6 u → numW Y 0 6 u ≤ gr := fun u hu ne wu => by
    have o0 := oth u hu ne 0 (by omega)
    rw [show u * 6 + ((0 : Nat) : Int) = 0 + u * 6 from by omega] at o0
    have e : numW Y 0 6 u = (fst1 X (0 + u * 6)).f_n := by unfold numW fst1; rw [o0]
    rw [e]
    exact nX (0 + u * 6) (by omega) (by omega) (by rw [← o0]; exact wu.1)
  refine ⟨by rw [q1, ← egr]; rfl, gY, q4, q3, q2, ?_, ?_, by rw [← egr]; exact rdn, oth⟩
  · rw [← egr]
    refine Int.le_antisymm (gr_le (by omega) 12 fun i hi e => ?_) ?_
    · rcases tri (0 + i) with h | ⟨j, h1, h2⟩
      · have := nX (0 + i) (by omega) (by omega) (by rw [← h]; exact e)
        have e2 : fst1 Y (0 + i) = fst1 X (0 + i) := by unfold fst1; rw [h]
        rw [e2]; omega
      · have e3 := rdn j h1
        rw [← h2] at e3
        have : fst1 Y (0 + i) = hdD (padB (newS (headD gr bs) bs j)) := by unfold fst1; rw [e3]
        rw [this]; exact (hdn j h1).2
    · have e3 := rdn 0 (by omega)
      have := gr_ge Y 0 12 (t * 6).toNat (by omega)
      rw [show (0 : Int) + (((t * 6).toNat : Nat) : Int) = t * 6 + ((0 : Nat) : Int) from by omega, e3] at this
      have e4 : fst1 Y (t * 6 + ((0 : Nat) : Int)) = hdD (padB (newS (headD gr bs) bs 0)) := by unfold fst1; rw [e3]
      rw [e4, (hdn 0 (by omega)).1 (by omega)] at this
      exact this rfl
  · rcases tt with e | e
    · subst e
      exact .inr (.inl ⟨rfl, w, fun w1 => by have := cmp 1 (.inr rfl) (by omega) w1; omega⟩)
    · subst e
      exact .inr (.inr ⟨rfl, w, fun w0 => by have := cmp 0 (.inl rfl) (by omega) w0; omega⟩)
theorem new_row {n : Int} {bs : List Int} {j : Nat} {gr : Int} (e : n = gr + 1) : padB (newS (headD gr bs) bs j) = if (j : Int) < prtD bs.length then rowD n bs j else List.replicate 128 0 := by
  unfold newS rowD
  by_cases c : (j : Int) < prtD bs.length
  · rw [if_pos c, if_pos (show (j : Int) < (headD gr bs).f_parts from c), show n - 1 = gr from by omega]
  · rw [if_neg c, if_neg (show ¬ (j : Int) < (headD gr bs).f_parts from c)]
    decide
theorem j6_ok {t5 : Option Addr} {t11 t12 c u v : Slc} {t13 t14 : Int} {a f : Bool} {i : Int} {C U V : List Int} {k : Bool → Heap → Prop} {nx1 : Int → Heap → Prop} {nx2 : (Int × Int) → Heap → Prop} {nx4 : (Bool × Bool × Int) → Heap → Prop} {h : Heap}
    (i0 : 0 ≤ i ∧ i < 6) (Sc : SlcAt h c (b8 C)) (lc : c.len = C.length) (Su : SlcAt h u (b8 U)) (lu : u.len = U.length) (Sv : SlcAt h v (b8 V)) (lv : v.len = V.length) (lC : C.length ≤ 1000)
    (H : ∀ a' f', (a = true → C = U → a' = true) → (f = true → C = V → f' = true) → nx4 (a', f', i + 1) h) : law10_SlotWipes_j6 t5 t11 t12 t13 t14 a f i c u v k nx1 nx2 nx4 h := by
  have g8 : ∀ a' f', (a = true → C = U → a' = true) → (f = true → C = V → f' = true) → law10_SlotWipes_g8 t5 t11 t12 t13 t14 a' i f' k nx1 nx2 nx4 h := fun a' f' h1 h2 => by
    unfold law10_SlotWipes_g8
    rw [wrapI64 (by omega) (by omega)]
    exact ⟨_, rfl, H a' f' h1 h2⟩
  have g7 : ∀ a', (a = true → C = U → a' = true) → law10_SlotWipes_g7 t5 t11 t12 t13 t14 f i c v a' k nx1 nx2 nx4 h := fun a' h1 => by
    unfold law10_SlotWipes_g7
    cases hf : f with
    | true =>
      rw [if_pos rfl]
      refine DSame_ok Sc lc Sv lv (by omega) ?_
      exact g8 _ _ h1 fun _ e => by rw [decide_eq_true_eq]; exact e
    | false =>
      rw [if_neg (by simp)]
      exact g8 _ _ h1 fun e => by rw [hf] at e; cases e
  unfold law10_SlotWipes_j6
  cases ha : a with
  | true =>
    rw [if_pos rfl]
    refine DSame_ok Sc lc Su lu (by omega) ?_
    exact g7 _ fun _ e => by rw [decide_eq_true_eq]; exact e
  | false =>
    rw [if_neg (by simp)]
    exact g7 _ fun e => by rw [ha] at e; cases e
end Go.Q.Ye
/- Slot: SlotWipes walked. -/
namespace Go.Q.Ye
theorem Secs.get {B : Nat} {h : Heap} {s : Slc} {n : Int} {bs : List Int} {m : Nat} {ys : List Slc} (K : Secs B h s n bs m ys) {i : Int} (i0 : 0 ≤ i) (im : i < m) : ∃ a y, s.a = some a ∧ i < (s.len : Int) ∧ cellH h (a.add (i.toNat * 1)) = some (Slc.v y) ∧ SlcAt h y (b8 (rowD n bs i.toNat)) ∧ y.len = (rowD n bs i.toNat).length := by
  have l := K.l
  have lt : s.len = m := by have := K.r.len; rw [this, List.length_map, l]
  obtain ⟨a, ha, hc⟩ := K.r.at (j := i.toNat) (by omega)
  have e : ys[i.toNat]? = some (ys[i.toNat]'(by omega)) := List.getElem?_eq_getElem (by omega)
  have R := K.row _ _ e
  refine ⟨a, _, ha, by omega, by rw [Nat.mul_one, hc, List.getElem?_map, e]; rfl, R.slc, Row.pb R⟩
theorem WipesL_ok {hb : Heap} {p0 p1 : Slc} {bss : List (List Int)} {ys : List Slc} {zs : List Int} {k : Bool → Heap → Prop} (r : R0 hb) (R : Rws hb p0 bss ys) (F1 : SlcAt hb p1 (b8 zs)) (l1 : p1.len = zs.length) (c1 : p1.len ≤ p1.cap) (b1 : isB zs)
    (H : ∀ h', Ext hb.size hb h' → k true h') : law10_SlotWipes p0 p1 k hb := by
  have r0 := r.pos
  have aw : ∀ h', Ext hb.size hb h' → law10_awake (fun r5 h6 => k r5 h6) h' := fun h' X => awake10_ok (r.ext X r0) fun h2 X2 => H h2 (X.trans (X2.mono X.size))
  unfold law10_SlotWipes
  by_cases sz : p0.len ≤ 8 ∧ p1.len ≤ 600
  rotate_left
  · rw [if_pos (by simp only [Bool.or_eq_true, decide_eq_true_eq]; omega)]
    exact aw hb (Ext.refl _ _)
  rw [if_neg (by simp only [Bool.or_eq_true, decide_eq_true_eq]; omega)]
  refine DNew_ok (B := hb.size) (Nat.le_refl _) fun d rn rs h2 D2 X2 => ?_
  refine Open_ok (by omega) (by omega) (fun e => absurd e (show ¬ roomD 0 6 = false from by decide)) fun _ pr h4 P4 X4 pB => ?_
  have D4 := D2.ext X4
  have X04 := X2.trans (X4.mono X2.size)
  unfold law10_SlotWipes_l1
  have nw : ∀ u : Int, ¬ IsW X0 0 6 u := fun u => by
    by_cases q : 0 ≤ u * 6 ∧ u * 6 < 1024
    · exact not_whole (.inr (by rw [rdZ (by omega) rfl]))
    · exact not_whole (.inl (by unfold readD; rw [if_pos (by omega)]; decide))
  have g0 : grD X0 0 12 ≤ 0 := gr_le (Int.le_refl _) 12 fun i hi e => by
    have : fst1 X0 (0 + i) = hdD (nrm 128 []) := by unfold fst1; rw [rdZ (by omega) rfl]
    rw [this, fn_zero]; omega
  refine ⟨fun j h' => 0 ≤ j ∧ j ≤ p0.len ∧ ∃ X c slot, Ext hb.size hb h' ∧ DAt hb.size c h' d rn rs X ∧ PairAt h' pr d 0 6 ∧ GoodX X ∧ X.safe = [] ∧ X.fuse = 0 ∧ X.dead = false ∧ grD X 0 12 ≤ j ∧ BP X 0 6 slot, fun j _ => ((p0.len : Int) - j).toNat, ⟨by omega, by omega, X0, 0, -1, X04, D4, P4, gX0, rfl, rfl, rfl, g0, .inl ⟨rfl, nw 0, nw 1⟩⟩, ?_⟩
  rintro j h ⟨j0, j1, X, c, slot, E, D, P, g, sf, fu, dd, gr, b⟩
  have gn := gr_nn g 0 12
  have hz : ∀ h', DF d rn rs h h' → Ext hb.size hb h' := fun h' F' => E.trans (F'.ext D E.size)
  unfold law10_SlotWipes_l1b
  by_cases cj : j < p0.len
  · rw [if_pos (by rw [decide_eq_true_eq]; exact cj)]
    obtain ⟨y, bs, a, ey, eb, ha, hc, S, yl, yc, bB⟩ := R.get j0 cj
    refine ⟨a, ha, j0, cj, y, E.cellAt hc, ?_⟩
    by_cases q : (y.len : Int) > 600
    · rw [if_pos (by rw [decide_eq_true_eq]; exact q)]
      exact aw _ E
    rw [if_neg (by rw [decide_eq_true_eq]; exact q)]
    refine ⟨a, ha, j0, cj, y, E.cellAt hc, ?_⟩
    refine Save_ok (bs := bs) D P (r.ext E r0) g (by omega) (by omega) (fun h' F' => S.ext (hz h' F')) yl yc (by omega) fun rr Y c1' h1 L c1l D1 F1' => ?_
    have E1 := hz h1 F1'
    have P1 := P.df D F1'
    rw [wrapI64 (by omega) (by omega)]
    refine ⟨_, rfl, ?_⟩
    rcases L with ⟨q, _⟩ | ⟨_, q, _⟩ | ⟨_, _, s', t, bp, et, el⟩
    · exfalso; unfold prtD at q; split at q <;> omega
    · exfalso; rw [show ((2 : Int) * 6).toNat = 12 from rfl] at q; omega
    rw [show ((2 : Int) * 6).toNat = 12 from rfl, show toN 6 bs false = (prtD bs.length).toNat from by unfold toN; rw [if_neg (by simp)]] at el
    have w := ws_ok g sf dd fu bB (by omega) (by omega) bp et (Nat.le_refl _) (by unfold prtD; split <;> omega) el
    exact ⟨⟨by omega, by omega, Y, c1', t, E1, D1, P1, w.good, w.safe, w.fuse, w.dead, by have := w.gr; omega, w.bp⟩, by dsimp only; omega⟩
  rw [if_neg (by rw [decide_eq_true_eq]; exact cj)]
  unfold slot_Pair_Wipe
  rw [if_neg (by simp)]
  have p6 : prtD zs.length ≤ 6 := by unfold prtD; split <;> omega
  have p1' := prt_pos zs.length
  refine Lay_ok (bs := zs) D P (r.ext E r0) g (by omega) (by omega) (fun h' F' => F1.ext (hz h' F')) l1 c1 (by omega) fun rr Y c1' h1 L c1l D1 F1' => ?_
  have E1 := hz h1 F1'
  have P1 := P.df D F1'
  rcases L with ⟨q, _⟩ | ⟨_, q, _⟩ | ⟨_, _, s', t, bp, et, el⟩
  · exfalso; omega
  · exfalso; rw [show ((2 : Int) * 6).toNat = 12 from rfl] at q; omega
  rw [show ((2 : Int) * 6).toNat = 12 from rfl, show toN 6 zs true = 6 from by unfold toN; rw [if_pos rfl]; rfl] at el
  have w := ws_ok g sf dd fu b1 (by omega) (by omega) bp et (by omega) (Nat.le_refl _) el
  have tt : t = 0 ∨ t = 1 := by rw [et]; split <;> omega
  rw [w.r]
  rw [if_neg (by simp)]
  have hz1 : ∀ h', DF d rn rs h1 h' → Ext hb.size hb h' := fun h' F' => E1.trans (F'.ext D1 E1.size)
  refine Lay_ok (bs := zs) D1 P1 (r.ext E1 r0) w.good (by omega) (by omega) (fun h' F' => F1.ext (hz1 h' F')) l1 c1 (by omega) fun rr2 Z c2' h3 L2 c2l D3 F3 => ?_
  have E3 := hz1 h3 F3
  have gr1 := w.gr
  rcases L2 with ⟨q, _⟩ | ⟨_, q, _⟩ | ⟨_, _, s2, t2, bp2, et2, el2⟩
  · exfalso; omega
  · exfalso; rw [show ((2 : Int) * 6).toNat = 12 from rfl] at q; omega
  rw [show ((2 : Int) * 6).toNat = 12 from rfl, show toN 6 zs true = 6 from by unfold toN; rw [if_pos rfl]; rfl] at el2
  have w2 := ws_ok w.good w.safe w.dead w.fuse b1 (by omega) (by omega) bp2 et2 (by omega) (Nat.le_refl _) el2
  have e2 : s2 = t := bp_uniq bp2 w.bp
  have tt2 : t2 = 0 ∨ t2 = 1 := by rw [et2]; split <;> omega
  have ne : t ≠ t2 := by rw [et2, e2]; split <;> omega
  rw [w2.r, gr1]
  dsimp only
  rw [if_neg (by simp; omega)]
  -- what is read
  have rdN : ∀ j : Nat, j < 6 → readD Z (t2 * 6 + j) = (if (j : Int) < prtD zs.length then rowD (grD X 0 12 + 1 + 1) zs j else List.replicate 128 0, 0) := fun j hj => by
    rw [w2.new j hj, new_row (n := grD X 0 12 + 1 + 1) (by rw [gr1])]
  have rdO : ∀ j : Nat, j < 6 → readD Z (t * 6 + j) = (if (j : Int) < prtD zs.length then rowD (grD X 0 12 + 1) zs j else List.replicate 128 0, 0) := fun j hj => by
    rw [w2.old t tt ne j hj, w.new j hj, new_row (n := grD X 0 12 + 1) rfl]
  generalize grD X 0 12 = gg at *
  refine RLay_ok (by omega) (by omega) (F1.ext E3) l1 c1 (by omega) b1 fun x h5 xs K5 X5 => ?_
  have z5 := X5.size
  have z3 := E3.size
  rw [show IntKind.u64.wrap (gg + 1 + 1 - 1) = gg + 1 from by rw [wU64]; omega]
  refine RLay_ok (by omega) (by omega) ((F1.ext E3).ext (X5.mono (Nat.le_refl _))) l1 c1 (by omega) b1 fun y h6 ysl K6 X6 => ?_
  have z6 := X6.size
  have K5' := K5.keep X6
  have D6 := (D3.ext X5).ext X6
  have E6 : Ext hb.size hb h6 := E3.trans ((X5.mono z3).trans (X6.mono (by omega)))
  clear K5 D D1 D2 D3 D4 P P1 P4 X04 X2 X4 w w2
  have ln : ∀ {n : Int} {B : Nat} {h' : Heap} {s : Slc} {l : List Slc}, Secs B h' s n zs (prtD zs.length).toNat l → (s.len : Int) = prtD zs.length := fun {n B h' s l} K => by
    have := K.r.len
    rw [List.length_map, K.l] at this
    omega
  have lx := ln K5'
  have ly := ln K6
  unfold law10_SlotWipes_l2
  refine ⟨fun q h' => 0 ≤ q.2 ∧ q.2 ≤ 2 ∧ q.1 = q.2 ∧ Ext h6.size h6 h', fun q _ => (2 - q.2).toNat, ⟨by dsimp only; omega, by dsimp only; omega, rfl, Ext.refl _ _⟩, ?_⟩
  rintro fnd s h7 ⟨s0, s1', ef, X7⟩
  dsimp only at s0 s1' ef
  subst ef
  unfold law10_SlotWipes_l2b
  by_cases cs : fnd < 2
  rotate_left
  · rw [if_neg (by rw [decide_eq_true_eq]; exact cs), if_pos (by simp only [beq_iff_eq]; omega)]
    have E7 := E6.trans (X7.mono (by omega))
    refine awake10_ok (r.ext E7 r0) fun h8 X8 => ?_
    unfold law10_SlotWipes_g9
    exact H h8 (E7.trans (X8.mono E7.size))
  rw [if_pos (by rw [decide_eq_true_eq]; exact cs)]
  unfold law10_SlotWipes_l4
  refine ⟨fun q h' => 0 ≤ q.2.2 ∧ q.2.2 ≤ 6 ∧ (fnd = t2 → q.1 = true) ∧ (fnd = t → q.2.1 = true) ∧ Ext h6.size h6 h', fun q _ => (6 - q.2.2).toNat, ⟨by dsimp only; omega, by dsimp only; omega, fun _ => rfl, fun _ => rfl, X7⟩, ?_⟩
  rintro a f i h8 ⟨i0, i1, hA, hF, X8⟩
  dsimp only at i0 i1 hA hF
  unfold law10_SlotWipes_l4b
  by_cases ci : i < 6
  rotate_left
  · rw [if_neg (by rw [decide_eq_true_eq]; exact ci)]
    have : (a || f) = true := by
      rw [Bool.or_eq_true]
      by_cases c : fnd = t2
      · exact .inl (hA c)
      · exact .inr (hF (by omega))
    rw [if_pos this]
    unfold law10_SlotWipes_j3
    rw [wrapI64 (by omega) (by omega)]
    exact ⟨_, rfl, _, rfl, ⟨by dsimp only; omega, by dsimp only; omega, rfl, X8⟩, by dsimp only; omega⟩
  rw [if_pos (by rw [decide_eq_true_eq]; exact ci)]
  rw [wrapI64 (x := 6 * fnd) (by omega) (by omega), wrapI64 (x := 6 * fnd + i) (by omega) (by omega)]
  have z8 := X8.size
  refine DRead_ok (D6.ext X8) fun c9 h9 Sc lc _ _ X9 => ?_
  have z9 := X9.size
  have rN : fnd = t2 → (readD Z (6 * fnd + i)).1 = if i < prtD zs.length then rowD (gg + 1 + 1) zs i.toNat else List.replicate 128 0 := fun e => by
    have := rdN i.toNat (by omega)
    rw [show ((i.toNat : Nat) : Int) = i from by omega, show t2 * 6 + i = 6 * fnd + i from by omega] at this
    rw [this]
  have rO : fnd = t → (readD Z (6 * fnd + i)).1 = if i < prtD zs.length then rowD (gg + 1) zs i.toNat else List.replicate 128 0 := fun e => by
    have := rdO i.toNat (by omega)
    rw [show ((i.toNat : Nat) : Int) = i from by omega, show t * 6 + i = 6 * fnd + i from by omega] at this
    rw [this]
  have lC : (readD Z (6 * fnd + i)).1.length ≤ 1000 := by
    by_cases c : fnd = t2
    · rw [rN c]; split
      · rw [row_len]; omega
      · simp
    · rw [rO (by omega)]; split
      · rw [row_len]; omega
      · simp
  dsimp only
  have body : ∀ h10 (bu bv : Nat), Ext h9.size h9 h10 → SlcAt h10 ⟨some ⟨bu, 0, none⟩, 128, 128⟩ (b8 (List.replicate 128 0)) → SlcAt h10 ⟨some ⟨bv, 0, none⟩, 128, 128⟩ (b8 (List.replicate 128 0)) →
      law10_SlotWipes_j5 (some ⟨d, 0, none⟩) x y fnd fnd a f i c9 (⟨some ⟨bu, 0, none⟩, (128 : Int).toNat, (128 : Int).toNat⟩ : Slc) (⟨some ⟨bv, 0, none⟩, (128 : Int).toNat, (128 : Int).toNat⟩ : Slc) k
        (fun s h' => (0 ≤ s ∧ s ≤ (p0.len : Int) ∧ ∃ X c slot, Ext hb.size hb h' ∧ DAt hb.size c h' d rn rs X ∧ PairAt h' pr d 0 6 ∧ GoodX X ∧ X.safe = [] ∧ X.fuse = 0 ∧ X.dead = false ∧ grD X 0 12 ≤ s ∧ BP X 0 6 slot) ∧ ((p0.len : Int) - s).toNat < ((p0.len : Int) - j).toNat)
        (fun q h' => (0 ≤ q.2 ∧ q.2 ≤ 2 ∧ q.1 = q.2 ∧ Ext h6.size h6 h') ∧ (2 - q.2).toNat < (2 - fnd).toNat)
        (fun q h' => (0 ≤ q.2.2 ∧ q.2.2 ≤ 6 ∧ (fnd = t2 → q.1 = true) ∧ (fnd = t → q.2.1 = true) ∧ Ext h6.size h6 h') ∧ (6 - q.2.2).toNat < (6 - i).toNat) h10 := fun h10 bu bv X10 Su Sv => by
    have X610 : Ext h6.size h6 h10 := X8.trans ((X9.mono z8).trans (X10.mono (by omega)))
    have Kx := K5'.keep X610
    have Ky := K6.keep X610
    unfold law10_SlotWipes_j5
    by_cases cx : i < prtD zs.length
    · rw [if_pos (by rw [decide_eq_true_eq]; omega)]
      obtain ⟨ax, yx, hax, hlx, hcx, Sx, l_x⟩ := Kx.get i0 (by omega)
      obtain ⟨ay, yy, hay, hly, hcy, Sy, l_y⟩ := Ky.get i0 (by omega)
      refine ⟨ax, hax, i0, hlx, yx, hcx, ay, hay, i0, hly, yy, hcy, ?_⟩
      refine j6_ok ⟨i0, ci⟩ (Sc.ext X10) lc Sx l_x Sy l_y lC fun a' f' qa qf => ?_
      refine ⟨⟨by dsimp only; omega, by dsimp only; omega, fun e => qa (hA e) ?_, fun e => qf (hF e) ?_, X610⟩, by dsimp only; omega⟩
      · rw [rN e, if_pos cx]
      · rw [rO e, if_pos cx]
    · rw [if_neg (by rw [decide_eq_true_eq]; omega)]
      refine j6_ok ⟨i0, ci⟩ (Sc.ext X10) lc Su (by rw [List.length_replicate]; rfl) Sv (by rw [List.length_replicate]; rfl) lC fun a' f' qa qf => ?_
      refine ⟨⟨by dsimp only; omega, by dsimp only; omega, fun e => qa (hA e) ?_, fun e => qf (hF e) ?_, X610⟩, by dsimp only; omega⟩
      · rw [rN e, if_neg cx]
      · rw [rO e, if_neg cx]
  have mk : ∀ (hh : Heap), Blk (hh.push (.cells (zrow [.int .u8 0] (128 : Int).toNat).toArray 5)) hh.size (b8 (List.replicate 128 0)) 5 := fun hh => by
    rw [zrow_b8]; exact Blk.push hh _ 5
  have two : ∃ h10 h11 : Heap, h10 = h9.push (.cells (zrow [.int .u8 0] (128 : Int).toNat).toArray 5) ∧ h11 = h10.push (.cells (zrow [.int .u8 0] (128 : Int).toNat).toArray 5) ∧ Ext h9.size h9 h11 ∧ (∀ b, b = h9.size → SlcAt h11 ⟨some ⟨b, 0, none⟩, 128, 128⟩ (b8 (List.replicate 128 0))) ∧ (∀ b, b = h10.size → SlcAt h11 ⟨some ⟨b, 0, none⟩, 128, 128⟩ (b8 (List.replicate 128 0))) := by
    refine ⟨_, _, rfl, rfl, ?_, ?_, ?_⟩
    · exact (Ext.push h9 _ (Nat.le_refl _)).trans (Ext.push _ _ (by rw [Array.size_push]; omega))
    · rintro b rfl
      exact Blk.slc (o := 0) (n := 128) ((mk h9).ext (Ext.push _ _ (Nat.le_refl _)) (mk h9).lt) (by rw [List.drop_zero, List.take_of_length_le (by rw [List.length_map, List.length_replicate]; exact Nat.le_refl _)])
    · rintro b rfl
      exact Blk.slc (o := 0) (n := 128) (mk _) (by rw [List.drop_zero, List.take_of_length_le (by rw [List.length_map, List.length_replicate]; exact Nat.le_refl _)])
  obtain ⟨h10, h11, e10, e11, X11, S1, S2⟩ := two
  constructor
  · exact ⟨_, _, by decide, by decide, by decide, by decide, rfl, e10, _, _, by decide, by decide, by decide, by decide, rfl, e11, body h11 _ _ X11 (S1 _ rfl) (S2 _ rfl)⟩
  · exact ⟨_, _, by decide, by decide, by decide, by decide, rfl, e10, _, _, by decide, by decide, by decide, by decide, rfl, e11, body h11 _ _ X11 (S2 _ rfl) (S1 _ rfl)⟩
end Go.Q.Ye

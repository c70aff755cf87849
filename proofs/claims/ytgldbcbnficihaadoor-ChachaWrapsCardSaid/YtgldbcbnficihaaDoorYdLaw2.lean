/- A part of the proof of statements of this seat: lemmas, no statement of their own. -/
import Derived.Test.YtgldbcbnficihaaDoorYdLaw1
set_option linter.unusedVariables false
set_option linter.unusedSimpArgs false
set_option maxRecDepth 20000
namespace Go.Q.Yd
def qflat : List Int := [0, 4, 8, 12, 1, 5, 9, 13, 2, 6, 10, 14, 3, 7, 11, 15, 0, 5, 10, 15, 1, 6, 11, 12, 2, 7, 8, 13, 3, 4, 9, 14]
def qa (i : Nat) : Nat := ([0, 1, 2, 3, 0, 1, 2, 3] : List Nat).getD i 0
def qb (i : Nat) : Nat := ([4, 5, 6, 7, 5, 6, 7, 4] : List Nat).getD i 0
def qc (i : Nat) : Nat := ([8, 9, 10, 11, 10, 11, 8, 9] : List Nat).getD i 0
def qd (i : Nat) : Nat := ([12, 13, 14, 15, 15, 12, 13, 14] : List Nat).getD i 0
theorem q_ok : ∀ i : Nat, i < 8 → (qflat.drop (i * 4)).take 4 = [(qa i : Int), (qb i : Int), (qc i : Int), (qd i : Int)] ∧ qa i < 16 ∧ qb i < 16 ∧ qc i < 16 ∧ qd i < 16 := by decide
/-- the first i quarters of a round -/
def qs (w : List Int) : Nat → List Int
  | 0 => w
  | i + 1 => qrL (qs w i) (qa i) (qb i) (qc i) (qd i)
def rounds (w : List Int) : Nat → List Int
  | 0 => w
  | r + 1 => qs (rounds w r) 8
theorem Wd.qs {w : List Int} (h : Wd w) : ∀ i, Wd (qs w i)
  | 0 => h
  | i + 1 => (h.qs i).qr
theorem Wd.rounds {w : List Int} (h : Wd w) : ∀ r, Wd (rounds w r)
  | 0 => h
  | r + 1 => (h.rounds r).qs 8
def wordAt (l : List Int) (i : Nat) : Int := numL ((l.drop (4 * i)).take 4)
theorem wordAt_bd {l : List Int} (h : isB l) (i : Nat) : 0 ≤ wordAt l i ∧ wordAt l i < 4294967296 := by
  have := numL_bd (l := (l.drop (4 * i)).take 4) fun x hx => h x (List.mem_of_mem_drop (List.mem_of_mem_take hx))
  have h2 : (256 : Int) ^ ((l.drop (4 * i)).take 4).length ≤ 256 ^ 4 := pow_mono (by rw [List.length_take]; omega)
  have h4 : (256 : Int) ^ 4 = 4294967296 := by decide
  exact ⟨this.1, by unfold wordAt; omega⟩
def startL (key : List Int) (n : Int) (nonce : List Int) : List Int :=
  [1634760805, 857760878, 2036477234, 1797285236, wordAt key 0, wordAt key 1, wordAt key 2, wordAt key 3, wordAt key 4, wordAt key 5, wordAt key 6, wordAt key 7, n, wordAt nonce 0, wordAt nonce 1, wordAt nonce 2]
theorem startL_wd {key nonce : List Int} {n : Int} (hk : isB key) (hn : isB nonce) (n0 : 0 ≤ n) (n1 : n < 4294967296) : Wd (startL key n nonce) := by
  refine ⟨rfl, fun x hx => ?_⟩
  simp only [startL, List.mem_cons, List.not_mem_nil, or_false] at hx
  rcases hx with rfl | rfl | rfl | rfl | rfl | rfl | rfl | rfl | rfl | rfl | rfl | rfl | rfl | rfl | rfl | rfl
  all_goals first | (exact ⟨by decide, by decide⟩) | exact wordAt_bd hk _ | exact wordAt_bd hn _ | exact ⟨n0, n1⟩
theorem startL_key {key nonce : List Int} {n : Int} {i : Nat} (hi : i < 8) : (startL key n nonce)[4 + i]? = some (wordAt key i) := by
  match i, hi with
  | 0, _ | 1, _ | 2, _ | 3, _ | 4, _ | 5, _ | 6, _ | 7, _ => rfl
theorem startL_nonce {key nonce : List Int} {n : Int} {i : Nat} (hi : i < 3) : (startL key n nonce)[13 + i]? = some (wordAt nonce i) := by
  match i, hi with
  | 0, _ | 1, _ | 2, _ => rfl
def outL (w s : List Int) : Nat → List Int
  | 0 => []
  | i + 1 => outL w s i ++ formL ((gw w i + gw s i) % 4294967296) 4
theorem outL_len (w s : List Int) : ∀ i, (outL w s i).length = 4 * i
  | 0 => rfl
  | i + 1 => by simp [outL, outL_len w s i, formL_length]; omega
theorem outL_B (w s : List Int) : ∀ i, isB (outL w s i)
  | 0 => by intro b hb; simp [outL] at hb
  | i + 1 => by
    intro b hb
    simp only [outL, List.mem_append] at hb
    rcases hb with hb | hb
    · exact outL_B w s i b hb
    · exact formL_B _ _ b hb
theorem formL_get (n : Int) : ∀ (w j : Nat), j < w → (formL n w)[j]? = some (n / 256 ^ j % 256) := by
  intro w
  induction w generalizing n with
  | zero => intro j hj; omega
  | succ w ih =>
    intro j hj
    cases j with
    | zero => simp [formL]
    | succ j =>
      simp only [formL, List.getElem?_cons_succ]
      rw [ih (n / 256) j (by omega), Int.ediv_ediv_of_nonneg (by decide), Int.pow_succ, Int.mul_comm 256]
theorem outL_get (w s : List Int) : ∀ (i j : Nat), j < 4 * i → (outL w s i)[j]? = some ((gw w (j / 4) + gw s (j / 4)) % 4294967296 / 256 ^ (j % 4) % 256)
  | 0, j, h => by omega
  | i + 1, j, h => by
    simp only [outL]
    rcases Nat.lt_or_ge j (4 * i) with h1 | h1
    · rw [List.getElem?_append_left (by rw [outL_len]; exact h1)]
      exact outL_get w s i j h1
    · rw [List.getElem?_append_right (by rw [outL_len]; exact h1), outL_len, formL_get _ _ _ (by omega), show j / 4 = i from by omega, show j - 4 * i = j % 4 from by omega]
def blockL (key : List Int) (n : Int) (nonce : List Int) : List Int := outL (rounds (startL key n nonce) 10) (startL key n nonce) 16
theorem blockL_len (key : List Int) (n : Int) (nonce : List Int) : (blockL key n nonce).length = 64 := by unfold blockL; rw [outL_len]
theorem blockL_B (key : List Int) (n : Int) (nonce : List Int) : isB (blockL key n nonce) := outL_B _ _ _
/-! ### the program's block -/
theorem word_eq {a b c d : Int} (ha : 0 ≤ a ∧ a < 256) (hb : 0 ≤ b ∧ b < 256) (hc : 0 ≤ c ∧ c < 256) (hd : 0 ≤ d ∧ d < 256) :
    bwOr .u32 (bwOr .u32 (bwOr .u32 (IntKind.u32.wrap a) (shl .u32 (IntKind.u32.wrap b) (8 : Int).toNat)) (shl .u32 (IntKind.u32.wrap c) (16 : Int).toNat)) (shl .u32 (IntKind.u32.wrap d) (24 : Int).toNat) = numL [a, b, c, d] := by
  obtain ⟨a, rfl⟩ := Int.eq_ofNat_of_zero_le ha.1
  obtain ⟨b, rfl⟩ := Int.eq_ofNat_of_zero_le hb.1
  obtain ⟨c, rfl⟩ := Int.eq_ofNat_of_zero_le hc.1
  obtain ⟨d, rfl⟩ := Int.eq_ofNat_of_zero_le hd.1
  have s8 : shl .u32 (b : Int) (8 : Int).toNat = ((b * 2 ^ 8 : Nat) : Int) := by unfold shl; rw [wU32]; simp only [IntKind.bits]; rw [show min ((8 : Int).toNat) 32 = 8 from rfl]; omega
  have s16 : shl .u32 (c : Int) (16 : Int).toNat = ((c * 2 ^ 16 : Nat) : Int) := by unfold shl; rw [wU32]; simp only [IntKind.bits]; rw [show min ((16 : Int).toNat) 32 = 16 from rfl]; omega
  have s24 : shl .u32 (d : Int) (24 : Int).toNat = ((d * 2 ^ 24 : Nat) : Int) := by unfold shl; rw [wU32]; simp only [IntKind.bits]; rw [show min ((24 : Int).toNat) 32 = 24 from rfl]; omega
  rw [wrapU32 (x := a) (by omega) (by omega), wrapU32 (x := b) (by omega) (by omega), wrapU32 (x := c) (by omega) (by omega), wrapU32 (x := d) (by omega) (by omega), s8, s16, s24]
  rw [bwOr32 (by omega) (by omega), Nat.or_comm a, or_add (by omega), bwOr32 (by omega) (by omega), Nat.or_comm _ (c * 2 ^ 16), or_add (by omega), bwOr32 (by omega) (by omega), Nat.or_comm _ (d * 2 ^ 24), or_add (by omega)]
  simp only [numL]
  omega
theorem take4 {l : List Int} (h : 4 ≤ l.length) : ∃ a b c d r, l = a :: b :: c :: d :: r := by
  match l, h with
  | a :: b :: c :: d :: r, _ => exact ⟨a, b, c, d, r, rfl⟩
theorem cword_ok {s : Slc} {l : List Int} {k : Int → Heap → Prop} {h : Heap} (h0 : SlcAt h s (b8 l)) (l0 : s.len = l.length) (hl : 4 ≤ l.length) (hB : isB l) (H : k (numL (l.take 4)) h) : chacha_word s k h := by
  obtain ⟨a, b, c, d, r, rfl⟩ := take4 hl
  have n0 : s.a ≠ none := fun hn => by have := h0.1 hn; simp at this
  obtain ⟨x, hx⟩ := Option.ne_none_iff_exists'.1 n0
  have hlen : (4 : Int) ≤ s.len := by omega
  have c0 := h0.2 x hx 0 (.int .u8 a) rfl
  have c1 := h0.2 x hx 1 (.int .u8 b) rfl
  have c2 := h0.2 x hx 2 (.int .u8 c) rfl
  have c3 := h0.2 x hx 3 (.int .u8 d) rfl
  refine ⟨x, hx, by decide, by omega, a, c0, x, hx, by decide, by omega, b, c1, x, hx, by decide, by omega, c, c2, x, hx, by decide, by omega, d, c3, ?_⟩
  rw [word_eq (hB a (by simp)) (hB b (by simp)) (hB c (by simp)) (hB d (by simp))]
  exact H
end Go.Q.Yd

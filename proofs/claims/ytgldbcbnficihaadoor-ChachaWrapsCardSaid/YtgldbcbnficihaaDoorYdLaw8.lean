/- A part of the proof of statements of this seat: lemmas, no statement of their own. -/
import Derived.Test.YtgldbcbnficihaaDoorYdTable
set_option linter.unusedVariables false
set_option linter.unusedSimpArgs false
set_option maxRecDepth 20000
namespace Go.Q.Yd
/-- the number of the block of byte i -/
def blkNo (n : Int) (i : Nat) : Int := (n + i / 64) % 4294967296
def strL (key nonce : List Int) (n : Int) (l : List Int) : Nat → List Int
  | 0 => []
  | i + 1 => strL key nonce n l i ++ [bwXor .u8 (gw l i) (gw (blockL key (blkNo n (i / 64 * 64)) nonce) (i % 64))]
def xorL (key nonce : List Int) (n : Int) (l : List Int) : List Int := strL key nonce n l l.length
theorem strL_len (key nonce : List Int) (n : Int) (l : List Int) : ∀ i, (strL key nonce n l i).length = i
  | 0 => rfl
  | i + 1 => by simp [strL, strL_len key nonce n l i]
theorem strL_B (key nonce : List Int) (n : Int) (l : List Int) : ∀ i, isB (strL key nonce n l i)
  | 0 => by intro b hb; simp [strL] at hb
  | i + 1 => by
    intro b hb
    simp only [strL, List.mem_append, List.mem_singleton] at hb
    rcases hb with hb | rfl
    · exact strL_B key nonce n l i b hb
    · exact bwXor_bd8 _ _
theorem and63 {i : Int} (i0 : 0 ≤ i) (i1 : i < 9223372036854775808) : bwAnd .i64 i 63 = i % 64 := by
  obtain ⟨i, rfl⟩ := Int.eq_ofNat_of_zero_le i0
  show IntKind.i64.wrap ((BitVec.ofInt 64 (i : Int) &&& BitVec.ofInt 64 ((63 : Nat) : Int)).toNat) = _
  rw [and_nat 64 i 63 (by omega) (by omega), show i &&& 63 = i % 64 from Nat.and_two_pow_sub_one_eq_mod i 6, wrapI64 (by omega) (by omega)]
  omega
theorem gw_get {l : List Int} {i : Nat} (h : i < l.length) : l[i]? = some (gw l i) := by simp [gw, List.getD, h]
/-- the program's stream -/
theorem Xor_ok {key nonce : List Int} {n : Int} {p3 : Slc} {l : List Int} {k : Slc → Heap → Prop} {h : Heap} (lk : key.length = 32) (Bk : isB key) (ln : nonce.length = 12) (Bn : isB nonce) (n0 : 0 ≤ n) (n1 : n < 4294967296) (Q : Q0 h)
    (h0 : SlcAt h p3 (b8 l)) (l0 : p3.len = l.length) (hl : l.length ≤ 70368744177664)
    (H : ∀ s' h', Row h.size h' 5 1 s' (b8 (xorL key nonce n l)) → Ext h.size h h' → k s' h') : chacha_Xor key nonce n p3 k h := by
  unfold chacha_Xor
  have hQ := Q.lt
  refine ⟨_, _, rfl, rfl, _, _, rfl, rfl, _, _, rfl, rfl, ?_⟩
  have K1 := Blk.push h (b8 key) 23
  obtain ⟨h2, e2⟩ : ∃ x, x = h.push (.cells (b8 key).toArray 23) := ⟨_, rfl⟩
  rw [← e2] at K1 ⊢
  have z2 : h2.size = h.size + 1 := by rw [e2]; simp
  have X2 : Ext h.size h h2 := by rw [e2]; exact Ext.push h _ (Nat.le_refl _)
  have K2 := Blk.push h2 (b8 nonce) 26
  obtain ⟨h4, e4⟩ : ∃ x, x = h2.push (.cells (b8 nonce).toArray 26) := ⟨_, rfl⟩
  rw [← e4] at K2 ⊢
  have z4 : h4.size = h.size + 2 := by rw [e4]; simp [z2]
  have X4 : Ext h2.size h2 h4 := by rw [e4]; exact Ext.push h2 _ (Nat.le_refl _)
  have K3 := Blk.push h4 (b8 (List.replicate 64 0)) 27
  obtain ⟨h6, e6⟩ : ∃ x, x = h4.push (.cells (b8 (List.replicate 64 0)).toArray 27) := ⟨_, rfl⟩
  rw [← e6] at K3 ⊢
  have z6 : h6.size = h.size + 3 := by rw [e6]; simp [z4]
  have X6 : Ext h4.size h4 h6 := by rw [e6]; exact Ext.push h4 _ (Nat.le_refl _)
  have A1 : Blk h6 h.size (b8 key) 23 := (K1.ext X4 (by omega)).ext X6 (by omega)
  have A2 : Blk h6 h2.size (b8 nonce) 26 := K2.ext X6 (by omega)
  have Xa : Ext h.size h h6 := X2.trans ((X4.mono (by omega)).trans (X6.mono (by omega)))
  refine ⟨fun q h' => ∃ c : List Int, 0 ≤ q.2.2 ∧ q.2.2 ≤ l.length ∧ q.1 = blkNo n (q.2.2.toNat + 63) ∧ c.length = 64 ∧ (0 < q.2.2.toNat % 64 → c = blockL key (blkNo n (q.2.2.toNat / 64 * 64)) nonce) ∧ Blk h' h.size (b8 key) 23 ∧ Blk h' h2.size (b8 nonce) 26 ∧ Blk h' h4.size (b8 c) 27 ∧ Row h6.size h' 5 1 q.2.1 (b8 (strL key nonce n l q.2.2.toNat)) ∧ Ext h.size h h' ∧ h6.size ≤ h'.size,
    fun q _ => (l.length - q.2.2).toNat, ⟨_, by simp, by simp, ?_, List.length_replicate, by simp, A1, A2, K3, Row.nil _ _ _ _, Xa, Nat.le_refl _⟩, ?_⟩
  · simp only [blkNo]; simp; omega
  rintro n' out i h1 ⟨c, i0, i1, hn, lc, hc, A1, A2, K3, R, X, z1⟩
  simp only at i0 i1 hn hc R
  unfold chacha_Xor_l1b
  rw [l0]
  by_cases hi : i < l.length
  · rw [if_pos (by simpa using hi), and63 i0 (by omega)]
    have np : p3.a ≠ none := fun hn => by have := h0.1 hn; simp at this; simp [this] at hi; omega
    obtain ⟨a, ha⟩ := Option.ne_none_iff_exists'.1 np
    refine ⟨a, ha, i0, hi, gw l i.toNat, ?_, ?_⟩
    · rw [Nat.mul_one]
      exact X.cellAt (h0.2 a ha i.toNat _ (by rw [List.getElem?_map, gw_get (by omega)]; rfl))
    -- the rest of the turn
    have rest : ∀ {h' : Heap} {c : List Int} {m : Int}, c = blockL key (blkNo n (i.toNat / 64 * 64)) nonce → m = blkNo n (i.toNat + 64) → Blk h' h.size (b8 key) 23 → Blk h' h2.size (b8 nonce) 26 → Blk h' h4.size (b8 c) 27 → Row h6.size h' 5 1 out (b8 (strL key nonce n l i.toNat)) → Ext h.size h h' → h6.size ≤ h'.size →
        chacha_Xor_j2 ⟨h.size, 0, none⟩ ⟨h2.size, 0, none⟩ out ⟨h4.size, 0, none⟩ i (gw l i.toNat) p3 (l.length : Int) i m k (fun s h' => (∃ c : List Int, 0 ≤ s.2.2 ∧ s.2.2 ≤ l.length ∧ s.1 = blkNo n (s.2.2.toNat + 63) ∧ c.length = 64 ∧ (0 < s.2.2.toNat % 64 → c = blockL key (blkNo n (s.2.2.toNat / 64 * 64)) nonce) ∧ Blk h' h.size (b8 key) 23 ∧ Blk h' h2.size (b8 nonce) 26 ∧ Blk h' h4.size (b8 c) 27 ∧ Row h6.size h' 5 1 s.2.1 (b8 (strL key nonce n l s.2.2.toNat)) ∧ Ext h.size h h' ∧ h6.size ≤ h'.size) ∧ (l.length - s.2.2).toNat < (l.length - i).toNat) h' := by
      intro h' c m hc hm A1 A2 K3 R X z1
      unfold chacha_Xor_j2
      have lc : c.length = 64 := by rw [hc, blockL_len]
      rw [and63 i0 (by omega), wrapI64 (x := i + 1) (by omega) (by omega)]
      have hol := R.len
      simp [strL_len] at hol
      refine ⟨by omega, by omega, _, bcell K3 (gw_get (by omega)), _, _, rfl, rfl, App.row (R.pushed _) (by simp; omega) rfl rfl (by simp [Value.oneCell']) (by omega) (by simp only [maxLen]; omega) fun s' h3 R' _ zs ho _ => ?_⟩
      have z3 : h'.size + 1 ≤ h3.size := by simpa using zs
      have old : ∀ j, j < h6.size → h3[j]? = h'[j]? := fun j hj => by
        rw [ho j (by simp; omega) (fun e => by have := (R.bd e).1; omega), Array.getElem?_push, if_neg (by omega)]
      refine ⟨⟨c, by dsimp only; omega, by dsimp only; omega, ?_, lc, ?_, A1.old (old _ (by omega)), A2.old (old _ (by omega)), K3.old (old _ (by omega)), ?_, X.trans ⟨by omega, fun j hj => old j (by omega)⟩, by omega⟩, by dsimp only; omega⟩
      · dsimp only; rw [hm]; congr 1; omega
      · dsimp only
        intro hpos
        rw [hc, show (i + 1).toNat / 64 = i.toNat / 64 from by omega]
      · dsimp only
        rw [show (i + 1).toNat = i.toNat + 1 from by omega, show (i % 64).toNat = i.toNat % 64 from by omega, hc] at *
        have e : b8 (strL key nonce n l (i.toNat + 1)) = b8 (strL key nonce n l i.toNat) ++ [.int .u8 (bwXor .u8 (gw l i.toNat) (gw (blockL key (blkNo n (i.toNat / 64 * 64)) nonce) (i.toNat % 64)))] := by
          simp only [strL, List.map_append]; rfl
        rw [e]; exact R'
    by_cases h64 : i % 64 = 0
    · rw [if_pos (by simpa using h64)]
      have hno : n' = blkNo n (i.toNat / 64 * 64) := by rw [hn]; simp only [blkNo]; omega
      have nb : 0 ≤ n' ∧ n' < 4294967296 := by rw [hno]; simp only [blkNo]; omega
      refine ⟨_, lk, CellsAt.of_blk A1, _, ln, CellsAt.of_blk A2, Block_ok lk Bk ln Bn nb.1 nb.2 (Q.ext X hQ) fun h3 X3 => ?_⟩
      have z3 := X3.size
      have K4 := (K3.ext X3 K3.lt).sets_all (vs := b8 (blockL key n' nonce)) (by simp [blockL_len, lc])
      have o4 : ∀ {j : Nat}, j ≠ h4.size → (setsH h3 ⟨h4.size, 0, none⟩ 0 (b8 (blockL key n' nonce)))[j]? = h3[j]? := fun hj => setsH_other _ _ (by simpa using hj)
      refine ⟨_, blockL_len _ _ _, WrsAt.of_blk (K3.ext X3 K3.lt) (by simp [lc]), rfl, _, rfl, rest (by rw [hno]) ?_ ((A1.ext X3 A1.lt).old (o4 (by omega))) ((A2.ext X3 A2.lt).old (o4 (by omega))) K4 ?_ ?_ (by rw [setsH_size]; omega)⟩
      · rw [hn, wU32]; simp only [blkNo]; omega
      · exact R.keep fun g hg => by rw [o4 (by have := (R.bd hg).1; omega)]; exact X3.block g (R.bd hg).2
      · exact X.trans ((X3.mono X.size).trans (Ext.sets _ _ _ (by simp only; omega)))
    · rw [if_neg (by simpa using h64)]
      refine rest (hc (by omega)) ?_ A1 A2 K3 R X z1
      rw [hn]; simp only [blkNo]; omega
  · rw [if_neg (by simpa using hi)]
    have : i.toNat = l.length := by omega
    rw [this] at R
    exact H _ _ (R.mono (by omega)) X
end Go.Q.Yd

/- A part of the proof of statements of this seat: lemmas, no statement of their own. -/
import Derived.Test.YtgldbcbnficihaaDoorYdLaw3
set_option linter.unusedVariables false
set_option linter.unusedSimpArgs false
set_option maxRecDepth 20000
namespace Go.Q.Yd
/-- the table of the quarters -/
def Q0 (h : Heap) : Prop := CellsAt h ⟨0, 0, none⟩ (bi64 qflat)
theorem Q0.lt {h : Heap} (q : Q0 h) : 0 < h.size := cellH_lt (q 0 _ rfl)
theorem Q0.keep {h h' : Heap} (q : Q0 h) (e : h'[0]? = h[0]?) : Q0 h' := fun j v hj => by rw [cellH_of (h := h) (by rw [add_block]; exact e)]; exact q j v hj
theorem Q0.ext {B : Nat} {h h' : Heap} (q : Q0 h) (X : Ext B h h') (hB : 0 < B) : Q0 h' := q.keep (X.block 0 hB)
theorem block_l2_ok {B F W : Nat} {a6 a7 : Addr} {n : Int} {w : List Int} {k : List Int → Heap → Prop} {nx : Int → Heap → Prop} {h h0 : Heap} (hW : Blk h W (b32 w) 40) (Wd0 : Wd w) (X : Upd W h0 h) (hW0 : W < h0.size)
    (H : ∀ h', Blk h' W (b32 (qs w 8)) 40 → Upd W h0 h' → nx (IntKind.i64.wrap (n + 1)) h') : chacha_Block_l2 a6 a7 ⟨W, 0, none⟩ n qflat 0 k nx h := by
  refine ⟨fun i h' => 0 ≤ i ∧ i ≤ 8 ∧ Blk h' W (b32 (qs w i.toNat)) 40 ∧ Upd W h0 h', fun i _ => (8 - i).toNat, ⟨by omega, by omega, hW, X⟩, ?_⟩
  rintro i h1 ⟨i0, i1, K, X⟩
  unfold chacha_Block_l2b
  by_cases hi : i < 8
  · rw [if_pos (by simpa using hi), wrapI64 (x := i + 1) (by omega) (by omega)]
    obtain ⟨qe, q1, q2, q3, q4⟩ := q_ok i.toNat (by omega)
    rw [qe]
    have T0 := Blk.push h1 (bi64 (List.replicate 4 0)) 42
    have T1 := T0.sets_all (vs := bi64 [(qa i.toNat : Int), (qb i.toNat : Int), (qc i.toNat : Int), (qd i.toNat : Int)]) rfl
    have lt := K.lt
    have z := X.size
    refine ⟨i0, hi, _, _, rfl, rfl, _, rfl, WrsAt.of_blk T0 (by simp), rfl, _, rfl, CellsAt.of_blk T1, ?_⟩
    have K1 := (K.pushed (.cells (bi64 (List.replicate 4 0)).toArray 42)).old (setsH_other (bi64 [(qa i.toNat : Int), (qb i.toNat : Int), (qc i.toNat : Int), (qd i.toNat : Int)]) (a := ⟨h1.size, 0, none⟩) 0 (j := W) (by simp; omega))
    refine quarter_ok K1 (Wd0.qs i.toNat) q1 q2 q3 q4 fun h2 K2 U2 => ?_
    refine ⟨⟨by omega, by omega, by rw [show (i + 1).toNat = i.toNat + 1 from by omega]; exact K2, ?_⟩, by dsimp only; omega⟩
    refine X.trans (Upd.trans ?_ U2)
    exact Upd.of_ext ((Ext.push h1 _ (Nat.le_refl _)).trans (Ext.sets _ _ _ (Nat.le_refl _)))
  · rw [if_neg (by simpa using hi)]
    have : i.toNat = 8 := by omega
    rw [this] at K
    exact H h1 K X
theorem shr2 {i : Int} (i0 : 0 ≤ i) (i1 : i < 64) : shr .i64 i (2 : Int).toNat = i / 4 := by
  unfold shr
  simp only [IntKind.bits]
  rw [show min ((2 : Int).toNat) 64 = 2 from rfl]
  exact Int.fdiv_eq_ediv_of_nonneg _ (by decide)
theorem and3 {i : Int} (i0 : 0 ≤ i) (i1 : i < 64) : bwAnd .u64 (IntKind.u64.wrap i) 3 = i % 4 := by
  rw [wrapU64 (by omega) (by omega)]
  obtain ⟨i, rfl⟩ := Int.eq_ofNat_of_zero_le i0
  show IntKind.u64.wrap ((BitVec.ofInt 64 (i : Int) &&& BitVec.ofInt 64 ((3 : Nat) : Int)).toNat) = _
  rw [and_nat 64 i 3 (by omega) (by omega), show i &&& 3 = i % 4 from Nat.and_two_pow_sub_one_eq_mod i 2, wU64]
  omega
theorem block_l3_ok {B b5 F W C : Nat} {w s : List Int} {k : List Int → Heap → Prop} {nx : Int → Heap → Prop} {h h0 : Heap} (hF : Blk h F (b32 s) 40) (hW : Blk h W (b32 w) 40) (Ws : Wd s) (Ww : Wd w) (hC : Blk h C (b8 (List.replicate 64 0)) 27) (h5 : ∃ z, Blk h b5 (b8 z) 27 ∧ z.length = 64)
    (d1 : F ≠ C) (d2 : W ≠ C) (d3 : b5 ≠ C) (s1 : h0.size ≤ C) (s2 : h0.size ≤ b5) (X : Ext h0.size h0 h)
    (H : ∀ h', Ext h0.size h0 h' → k (outL w s 16) h') : chacha_Block_l3 ⟨b5, 0, none⟩ ⟨F, 0, none⟩ ⟨W, 0, none⟩ ⟨C, 0, none⟩ 0 k nx h := by
  refine ⟨fun i h' => ∃ c, 0 ≤ i ∧ i ≤ 64 ∧ Blk h' F (b32 s) 40 ∧ Blk h' W (b32 w) 40 ∧ Blk h' C (b8 c) 27 ∧ c.length = 64 ∧ c.take i.toNat = (outL w s 16).take i.toNat ∧ (∃ z, Blk h' b5 (b8 z) 27 ∧ z.length = 64) ∧ Ext h0.size h0 h', fun i _ => (64 - i).toNat, ⟨_, by omega, by omega, hF, hW, hC, by simp, by simp, h5, X⟩, ?_⟩
  rintro i h1 ⟨c, i0, i1, hF, hW, hC, lc, hc, ⟨z, h5, lz⟩, X⟩
  unfold chacha_Block_l3b
  by_cases hi : i < 64
  · rw [if_pos (by simpa using hi), wrapI64 (x := i + 1) (by omega) (by omega), shr2 i0 hi, and3 i0 hi, wrapU64 (x := 8 * (i % 4)) (by omega) (by omega)]
    refine ⟨by omega, by omega, _, wcell hW Ww (by omega) (by omega), by omega, by omega, _, wcell hF Ws (by omega) (by omega), by omega, i0, hi, _, ?_, rfl, ?_⟩
    · rw [add_mk]; exact hC.wr (by simp [lc]; omega)
    · have hv : IntKind.u8.wrap (shr .u32 (IntKind.u32.wrap (gw w (i / 4).toNat + gw s (i / 4).toNat)) (8 * (i % 4)).toNat) = (gw w (i.toNat / 4) + gw s (i.toNat / 4)) % 4294967296 / 256 ^ (i.toNat % 4) % 256 := by
        unfold shr
        rw [wU8, wU32, show (i / 4).toNat = i.toNat / 4 from by omega]
        simp only [IntKind.bits]
        rw [Nat.min_eq_left (by omega), Int.fdiv_eq_ediv_of_nonneg _ (Int.pow_nonneg (by decide)), show (8 * (i % 4)).toNat = 8 * (i.toNat % 4) from by omega, Int.pow_mul]
        rfl
      rw [hv]
      refine ⟨⟨c.set i.toNat ((gw w (i.toNat / 4) + gw s (i.toNat / 4)) % 4294967296 / 256 ^ (i.toNat % 4) % 256), by omega, by omega, hF.old (setH_other (by simpa using d1)), hW.old (setH_other (by simpa using d2)), ?_, by simpa using lc, ?_, ⟨z, h5.old (setH_other (by simpa using d3)), lz⟩, X.trans (Ext.set _ _ (by simpa using s1))⟩, by dsimp only; omega⟩
      · rw [add_mk, Nat.zero_add, Nat.mul_one]
        have := hC.set (i := i.toNat) (v := .int .u8 ((gw w (i.toNat / 4) + gw s (i.toNat / 4)) % 4294967296 / 256 ^ (i.toNat % 4) % 256))
        rw [← List.map_set] at this
        exact this
      · rw [show (i + 1).toNat = i.toNat + 1 from by omega]
        exact take_set_succ hc (by omega) (outL_get w s 16 i.toNat (by omega))
  · rw [if_neg (by simpa using hi)]
    have : i = 64 := by omega
    subst this
    rw [List.take_of_length_le (by rw [lc]; decide), List.take_of_length_le (by rw [outL_len]; decide)] at hc
    subst hc
    have h6 := h5.sets_all (vs := b8 (outL w s 16)) (by simp [lz, outL_len])
    refine ⟨_, lc, CellsAt.of_blk hC, _, lc, WrsAt.of_blk h5 (by simp [lz]), rfl, _, lc, CellsAt.of_blk h6, H _ (X.trans (Ext.sets _ _ _ s2))⟩
theorem Block_ok {key nonce : List Int} {n : Int} {k : List Int → Heap → Prop} {h : Heap} (lk : key.length = 32) (Bk : isB key) (ln : nonce.length = 12) (Bn : isB nonce) (n0 : 0 ≤ n) (n1 : n < 4294967296) (Q : Q0 h)
    (H : ∀ h', Ext h.size h h' → k (blockL key n nonce) h') : chacha_Block key n nonce k h := by
  unfold chacha_Block
  have hQ := Q.lt
  refine ⟨_, _, rfl, rfl, _, _, rfl, rfl, _, _, rfl, rfl, ?_⟩
  have K1 := Blk.push h (b8 key) 23
  obtain ⟨h2, e2⟩ : ∃ x, x = h.push (.cells (b8 key).toArray 23) := ⟨_, rfl⟩
  rw [← e2] at K1 ⊢
  have z2 : h2.size = h.size + 1 := by rw [e2]; simp
  have X2 : Ext h.size h h2 := by rw [e2]; exact Ext.push h _ (Nat.le_refl _)
  have K2 := Blk.push h2 (b8 nonce) 26
  obtain ⟨h4, e4⟩ : ∃ x, x = h2.push (.cells (b8 nonce).toArray 26) := ⟨_, rfl⟩
  rw [← e4] at K2 ⊢
  have z4 : h4.size = h.size + 2 := by rw [e4]; simp [z2]
  have X4 : Ext h2.size h2 h4 := by rw [e4]; exact Ext.push h2 _ (Nat.le_refl _)
  have K3 := Blk.push h4 (b8 (List.replicate 64 0)) 27
  obtain ⟨h6, e6⟩ : ∃ x, x = h4.push (.cells (b8 (List.replicate 64 0)).toArray 27) := ⟨_, rfl⟩
  rw [← e6] at K3 ⊢
  have z6 : h6.size = h.size + 3 := by rw [e6]; simp [z4]
  have X6 : Ext h4.size h4 h6 := by rw [e6]; exact Ext.push h4 _ (Nat.le_refl _)
  have A1 : Blk h6 h.size (b8 key) 23 := (K1.ext X4 (by omega)).ext X6 (by omega)
  have A2 : Blk h6 h2.size (b8 nonce) 26 := K2.ext X6 (by omega)
  have Xa : Ext h.size h h6 := X2.trans ((X4.mono (by omega)).trans (X6.mono (by omega)))
  refine ⟨key, lk, CellsAt.of_blk A1, nonce, ln, CellsAt.of_blk A2, start_ok lk Bk ln Bn fun h10 X10 => ?_⟩
  have z10 := X10.size
  have Ws := startL_wd (key := key) (nonce := nonce) (n := n) Bk Bn n0 n1
  obtain ⟨s, es⟩ : ∃ s, s = startL key n nonce := ⟨_, rfl⟩
  rw [← es] at Ws ⊢
  have A3 : Blk h10 h4.size (b8 (List.replicate 64 0)) 27 := K3.ext X10 (by omega)
  refine ⟨_, _, rfl, rfl, ?_⟩
  have F0 := Blk.push h10 (b32 (List.replicate 16 0)) 40
  obtain ⟨h12, e12⟩ : ∃ x, x = h10.push (.cells (b32 (List.replicate 16 0)).toArray 40) := ⟨_, rfl⟩
  rw [← e12] at F0 ⊢
  have z12 : h12.size = h10.size + 1 := by rw [e12]; simp
  have X12 : Ext h10.size h10 h12 := by rw [e12]; exact Ext.push h10 _ (Nat.le_refl _)
  have F1 := F0.sets_all (vs := b32 s) (by simp [Ws.len])
  refine ⟨_, Ws.len, WrsAt.of_blk F0 (by simp), rfl, _, Ws.len, CellsAt.of_blk F1, ?_⟩
  have X13 : Ext h10.size h10 (setsH h12 ⟨h10.size, 0, none⟩ 0 (b32 s)) := X12.trans (Ext.sets _ _ _ (Nat.le_refl _))
  obtain ⟨h13, e13⟩ : ∃ x, x = setsH h12 ⟨h10.size, 0, none⟩ 0 (b32 s) := ⟨_, rfl⟩
  rw [← e13] at F1 X13 ⊢
  have z13 : h13.size = h10.size + 1 := by rw [e13, setsH_size, z12]
  refine ⟨_, _, rfl, rfl, ?_⟩
  have G0 := Blk.push h13 (b32 (List.replicate 16 0)) 40
  obtain ⟨h16, e16⟩ : ∃ x, x = h13.push (.cells (b32 (List.replicate 16 0)).toArray 40) := ⟨_, rfl⟩
  rw [← e16] at G0 ⊢
  have z16 : h16.size = h13.size + 1 := by rw [e16]; simp
  have X16 : Ext h13.size h13 h16 := by rw [e16]; exact Ext.push h13 _ (Nat.le_refl _)
  have G1 := G0.sets_all (vs := b32 s) (by simp [Ws.len])
  refine ⟨_, Ws.len, WrsAt.of_blk G0 (by simp), rfl, ?_⟩
  have X17 : Ext h13.size h13 (setsH h16 ⟨h13.size, 0, none⟩ 0 (b32 s)) := X16.trans (Ext.sets _ _ _ (Nat.le_refl _))
  obtain ⟨h17, e17⟩ : ∃ x, x = setsH h16 ⟨h13.size, 0, none⟩ 0 (b32 s) := ⟨_, rfl⟩
  rw [← e17] at G1 X17 ⊢
  have z17 : h17.size = h13.size + 1 := by rw [e17, setsH_size, z16]
  have F2 : Blk h17 h10.size (b32 s) 40 := F1.ext X17 (by omega)
  have B5 : Blk h17 h4.size (b8 (List.replicate 64 0)) 27 := (A3.ext X13 (by omega)).ext X17 (by omega)
  have Xb : Ext h.size h h17 := Xa.trans ((X10.mono (by omega)).trans ((X13.mono (by omega)).trans (X17.mono (by omega))))
  refine ⟨fun r h' => 0 ≤ r ∧ r ≤ 10 ∧ Blk h' h13.size (b32 (rounds s r.toNat)) 40 ∧ Upd h13.size h17 h', fun r _ => (10 - r).toNat, ⟨by omega, by omega, G1, Upd.refl _ _⟩, ?_⟩
  rintro r h1 ⟨r0, r1, K, U⟩
  have Q1 : Q0 h1 := (Q.ext Xb hQ).keep (U.block 0 (by omega) (by omega))
  unfold chacha_Block_l1b
  by_cases hr : r < 10
  · rw [if_pos (by simpa using hr)]
    refine ⟨qflat, rfl, Q1, block_l2_ok (B := 0) (F := 0) (h0 := h17) K (Ws.rounds _) U (by omega) fun h2 K2 U2 => ?_⟩
    rw [wrapI64 (by omega) (by omega)]
    exact ⟨⟨by omega, by omega, by rw [show (r + 1).toNat = r.toNat + 1 from by omega]; exact K2, U2⟩, by dsimp only; omega⟩
  · rw [if_neg (by simpa using hr)]
    have : r.toNat = 10 := by omega
    rw [this] at K
    have z1 := U.size
    have C0 := Blk.push h1 (b8 (List.replicate 64 0)) 27
    have F3 := (U.blk F2 (by omega)).pushed (.cells (b8 (List.replicate 64 0)).toArray 27)
    have B6 := (U.blk B5 (by omega)).pushed (.cells (b8 (List.replicate 64 0)).toArray 27)
    refine ⟨_, _, rfl, rfl, block_l3_ok (B := 0) (h0 := h) F3 (K.pushed _) Ws (Ws.rounds 10) C0 ⟨_, B6, by simp⟩ (by omega) (by omega) (by omega) (by omega) (by omega) ?_ fun h' X' => ?_⟩
    · exact (Xb.trans (U.ext (by omega) (by omega))).trans (Ext.push _ _ (by omega))
    · have := H h' X'
      unfold blockL at this
      rw [← es] at this
      exact this
end Go.Q.Yd

/- A part of the proof of statements of this seat: lemmas, no statement of their own. -/
import Derived.Test.YtgldbcbnficihaaDoorYdLaw6
set_option linter.unusedVariables false
set_option linter.unusedSimpArgs false
set_option maxRecDepth 20000
namespace Go.Q.Yd
def exKey : List Int := [0, 1, 2, 3, 4, 5, 6, 7, 8, 9, 10, 11, 12, 13, 14, 15, 16, 17, 18, 19, 20, 21, 22, 23, 24, 25, 26, 27, 28, 29, 30, 31]
def exNonce : List Int := [0, 0, 0, 9, 0, 0, 0, 74, 0, 0, 0, 0]
def exOk : List Int → Bool | l => (l[0]? == some 16) && (l[1]? == some 241) && (l[2]? == some 231) && (l[3]? == some 228) && (l[63]? == some 78)
theorem ex_ok : exOk (blockL exKey 1 exNonce) = true := by kernel_rfl
theorem bcell {h : Heap} {b E : Nat} {l : List Int} (K : Blk h b (b8 l) E) {i : Nat} {v : Int} (hv : l[i]? = some v) : cellH h ((⟨b, 0, none⟩ : Addr).add (i * 1)) = some (.int .u8 v) := by
  rw [add_mk, Nat.zero_add, Nat.mul_one, K.cell, List.getElem?_map, hv]; rfl
theorem awake_ok {k : Bool → Heap → Prop} {h : Heap} (Q : Q0 h) (H : ∀ h', Ext h.size h h' → k true h') : law04_awake k h := by
  unfold law04_awake
  have hQ := Q.lt
  refine ⟨_, _, rfl, rfl, ?_⟩
  have K0 := Blk.push h (b8 (List.replicate 32 0)) 23
  have X0 := Ext.push h (.cells (b8 (List.replicate 32 0)).toArray 23) (Nat.le_refl _)
  have z0 : (h.push (.cells (b8 (List.replicate 32 0)).toArray 23)).size = h.size + 1 := by simp
  refine ⟨fun i h' => ∃ c, 0 ≤ i ∧ i ≤ 32 ∧ Blk h' h.size (b8 c) 23 ∧ c.length = 32 ∧ c.take i.toNat = exKey.take i.toNat ∧ Ext h.size h h', fun i _ => (32 - i).toNat, ⟨_, by omega, by omega, K0, rfl, rfl, X0⟩, ?_⟩
  rintro i h1 ⟨c, i0, i1, K, lc, hc, X⟩
  unfold law04_awake_l1b
  by_cases hi : i < 32
  · rw [if_pos (by simpa using hi), wrapU8 (by omega) (by omega), wrapI64 (by omega) (by omega)]
    refine ⟨i0, hi, _, ?_, rfl, _, rfl, ⟨c.set i.toNat i, by omega, by omega, ?_, by simpa using lc, ?_, X.trans (Ext.set _ _ (by simp))⟩, by dsimp only; omega⟩
    · rw [add_mk]; exact K.wr (by simp [lc]; omega)
    · rw [add_mk, Nat.zero_add, Nat.mul_one]
      have := K.set (i := i.toNat) (v := .int .u8 i)
      rw [← List.map_set] at this
      exact this
    · rw [show (i + 1).toNat = i.toNat + 1 from by omega]
      refine take_set_succ hc (by omega) ?_
      have : ∀ j : Nat, j < 32 → exKey[j]? = some (j : Int) := by decide
      rw [this _ (by omega)]; congr 1; omega
  · rw [if_neg (by simpa using hi)]
    have : i.toNat = 32 := by omega
    rw [this, List.take_of_length_le (by rw [lc]; decide)] at hc
    subst hc
    refine ⟨_, lc, CellsAt.of_blk K, Block_ok lc (by rw [show List.take 32 exKey = exKey from rfl]; unfold isB; decide) rfl (by unfold isB; decide) (by decide) (by decide) (Q.ext X hQ) fun h2 X2 => ?_⟩
    rw [show List.take 32 exKey = exKey from rfl]
    have hx := ex_ok
    have hl := blockL_len exKey 1 exNonce
    show ∃ (b9 : Nat) (h10 : Heap), b9 = h2.size ∧ _
    rw [show ([0, 0, 0, 9, 0, 0, 0, 74, 0, 0, 0, 0] : List Int) = exNonce from rfl]
    generalize blockL exKey 1 exNonce = l at *
    simp only [exOk, Bool.and_eq_true, beq_iff_eq] at hx
    obtain ⟨⟨⟨⟨x0, x1⟩, x2⟩, x3⟩, x4⟩ := hx
    have P0 := Blk.push h2 (b8 (List.replicate 64 0)) 27
    have P1 := P0.sets_all (vs := b8 l) (by simp [hl])
    have XX := X.trans ((X2.mono X.size).trans ((Ext.push h2 (.cells (b8 (List.replicate 64 0)).toArray 27) (B := h.size) (by have := X.size; have := X2.size; omega)).trans (Ext.sets (B := h.size) (a := ⟨h2.size, 0, none⟩) _ 0 (b8 l) (by have := X.size; have := X2.size; simp only; omega))))
    refine ⟨_, _, rfl, rfl, _, hl, WrsAt.of_blk P0 (by simp), rfl, by decide, by decide, _, bcell P1 x0, ?_⟩
    show (if ((16 : Int) == 16) = true then _ else _)
    rw [if_pos (by decide)]
    refine ⟨by decide, by decide, _, bcell P1 x1, ?_⟩
    show law04_awake_g2 _ true _ _ _
    unfold law04_awake_g2
    rw [if_pos rfl]
    refine ⟨by decide, by decide, _, bcell P1 x2, ?_⟩
    show law04_awake_g3 _ true _ _ _
    unfold law04_awake_g3
    rw [if_pos rfl]
    refine ⟨by decide, by decide, _, bcell P1 x3, ?_⟩
    show law04_awake_g4 _ true _ _ _
    unfold law04_awake_g4
    rw [if_pos rfl]
    refine ⟨by decide, by decide, _, bcell P1 x4, ?_⟩
    exact H _ XX
theorem ChachaBlocks_ok {key nonce : List Int} {n : Int} {k : Bool → Heap → Prop} {h : Heap} (lk : key.length = 32) (Bk : isB key) (ln : nonce.length = 12) (Bn : isB nonce) (n0 : 0 ≤ n) (n1 : n < 4294967296) (Q : Q0 h)
    (H : ∀ h', Ext h.size h h' → k true h') : law04_ChachaBlocks key n nonce k h := by
  unfold law04_ChachaBlocks
  have hQ := Q.lt
  refine ⟨_, _, rfl, rfl, _, _, rfl, rfl, ?_⟩
  have K1 := Blk.push h (b8 key) 23
  obtain ⟨h2, e2⟩ : ∃ x, x = h.push (.cells (b8 key).toArray 23) := ⟨_, rfl⟩
  rw [← e2] at K1 ⊢
  have z2 : h2.size = h.size + 1 := by rw [e2]; simp
  have X2 : Ext h.size h h2 := by rw [e2]; exact Ext.push h _ (Nat.le_refl _)
  have K2 := Blk.push h2 (b8 nonce) 26
  obtain ⟨h4, e4⟩ : ∃ x, x = h2.push (.cells (b8 nonce).toArray 26) := ⟨_, rfl⟩
  rw [← e4] at K2 ⊢
  have z4 : h4.size = h.size + 2 := by rw [e4]; simp [z2]
  have X4 : Ext h2.size h2 h4 := by rw [e4]; exact Ext.push h2 _ (Nat.le_refl _)
  have A1 : Blk h4 h.size (b8 key) 23 := K1.ext X4 (by omega)
  have Xa : Ext h.size h h4 := X2.trans (X4.mono (by omega))
  refine ⟨_, lk, CellsAt.of_blk A1, _, ln, CellsAt.of_blk K2, Block_ok lk Bk ln Bn n0 n1 (Q.ext Xa hQ) fun h8 X8 => ?_⟩
  have z8 := X8.size
  have hl := blockL_len key n nonce
  have P0 := Blk.push h8 (b8 (List.replicate 64 0)) 27
  have P1 := P0.sets_all (vs := b8 (blockL key n nonce)) (by simp [hl])
  have X11 : Ext h8.size h8 (setsH (h8.push (.cells (b8 (List.replicate 64 0)).toArray 27)) ⟨h8.size, 0, none⟩ 0 (b8 (blockL key n nonce))) := (Ext.push h8 _ (Nat.le_refl _)).trans (Ext.sets _ _ _ (Nat.le_refl _))
  refine ⟨_, _, rfl, rfl, _, hl, WrsAt.of_blk P0 (by simp), rfl, ?_⟩
  obtain ⟨h11, e11⟩ : ∃ x, x = setsH (h8.push (.cells (b8 (List.replicate 64 0)).toArray 27)) ⟨h8.size, 0, none⟩ 0 (b8 (blockL key n nonce)) := ⟨_, rfl⟩
  rw [← e11] at P1 X11 ⊢
  have z11 : h11.size = h8.size + 1 := by rw [e11, setsH_size]; simp
  have A2 : Blk h11 h.size (b8 key) 23 := (A1.ext X8 (by omega)).ext X11 (by omega)
  have A3 : Blk h11 h2.size (b8 nonce) 26 := (K2.ext X8 (by omega)).ext X11 (by omega)
  have Xb : Ext h.size h h11 := Xa.trans ((X8.mono (by omega)).trans (X11.mono (by omega)))
  refine ⟨_, by decide, by decide, by decide, rfl, _, lk, CellsAt.of_blk A2, _, ln, CellsAt.of_blk A3, rBlock_ok lk Bk ln Bn n0 n1 fun r h16 R X16 => ?_⟩
  have P2 := P1.ext X16 (by omega)
  rw [show subS ⟨some ⟨h8.size, 0, none⟩, 64, 64⟩ 1 (0 : Int).toNat (64 : Int).toNat 64 = ⟨some ⟨h8.size, 0, none⟩, 64, 64⟩ from rfl]
  refine Same_ok (l := blockL key n nonce) (m := blockL key n nonce) (SlcAt.of_blk (ys := []) (by simpa using P2)) hl.symm R.slc (by simpa using R.len) (by rw [hl]; decide) ?_
  rw [show decide (blockL key n nonce = blockL key n nonce) = true from by simp]
  show (if true = true then _ else _)
  rw [if_pos rfl]
  have Xc : Ext h.size h h16 := Xb.trans (X16.mono (by omega))
  exact awake_ok (Q.ext Xc hQ) fun h' X' => H h' (Xc.trans (X'.mono Xc.size))
end Go.Q.Yd

/- A part of the proof of statements of this seat: lemmas, no statement of their own. -/
import Derived.Test.YtgldbcbnficihaaDoorYdLaw8
set_option linter.unusedVariables false
set_option linter.unusedSimpArgs false
set_option maxRecDepth 20000
namespace Go.Q.Yd
/-- the document's stream -/
theorem rXor_ok {key nonce : List Int} {n : Int} {p3 : Slc} {l : List Int} {k : Slc → Heap → Prop} {h : Heap} (lk : key.length = 32) (Bk : isB key) (ln : nonce.length = 12) (Bn : isB nonce) (n0 : 0 ≤ n) (n1 : n < 4294967296)
    (h0 : SlcAt h p3 (b8 l)) (l0 : p3.len = l.length) (hl : l.length ≤ 70368744177664)
    (H : ∀ s' h', Row h.size h' 5 1 s' (b8 (xorL key nonce n l)) → Ext h.size h h' → k s' h') : ref04_Xor key nonce n p3 k h := by
  unfold ref04_Xor
  refine ⟨_, _, rfl, rfl, _, _, rfl, rfl, ?_⟩
  have K1 := Blk.push h (b8 key) 22
  obtain ⟨h2, e2⟩ : ∃ x, x = h.push (.cells (b8 key).toArray 22) := ⟨_, rfl⟩
  rw [← e2] at K1 ⊢
  have z2 : h2.size = h.size + 1 := by rw [e2]; simp
  have X2 : Ext h.size h h2 := by rw [e2]; exact Ext.push h _ (Nat.le_refl _)
  have K2 := Blk.push h2 (b8 nonce) 25
  obtain ⟨h4, e4⟩ : ∃ x, x = h2.push (.cells (b8 nonce).toArray 25) := ⟨_, rfl⟩
  rw [← e4] at K2 ⊢
  have z4 : h4.size = h.size + 2 := by rw [e4]; simp [z2]
  have X4 : Ext h2.size h2 h4 := by rw [e4]; exact Ext.push h2 _ (Nat.le_refl _)
  have A1 : Blk h4 h.size (b8 key) 22 := K1.ext X4 (by omega)
  have Xa : Ext h.size h h4 := X2.trans (X4.mono (by omega))
  refine ⟨fun q h' => ∃ c : List Int, 0 ≤ q.2.2.2 ∧ q.2.2.2 ≤ l.length ∧ q.1 = blkNo n (q.2.2.2.toNat + 63) ∧ (0 < q.2.2.2.toNat % 64 → c = blockL key (blkNo n (q.2.2.2.toNat / 64 * 64)) nonce) ∧ Blk h' h.size (b8 key) 22 ∧ Blk h' h2.size (b8 nonce) 25 ∧ Row h4.size h' 5 1 q.2.2.1 (b8 c) ∧ Row h4.size h' 5 1 q.2.1 (b8 (strL key nonce n l q.2.2.2.toNat)) ∧ (∀ g, q.2.1.blk = some g → q.2.2.1.blk ≠ some g) ∧ Ext h.size h h' ∧ h4.size ≤ h'.size,
    fun q _ => (l.length - q.2.2.2).toNat, ⟨[], by simp, by simp, ?_, by simp, A1, K2, Row.nil _ _ _ _, Row.nil _ _ _ _, fun g hg => (by simp [Slc.blk] at hg), Xa, Nat.le_refl _⟩, ?_⟩
  · simp only [blkNo]; simp; omega
  rintro n' out blk i h1 ⟨c, i0, i1, hn, hc, A1, A2, Rb, R, D, X, z1⟩
  simp only at i0 i1 hn hc R Rb D
  unfold ref04_Xor_l1b
  rw [l0]
  have tm : Int.tmod i 64 = i % 64 := Int.tmod_eq_emod_of_nonneg i0
  rw [tm]
  by_cases hi : i < l.length
  · rw [if_pos (by simpa using hi)]
    have np : p3.a ≠ none := fun hn => by have := h0.1 hn; simp at this; simp [this] at hi; omega
    obtain ⟨a, ha⟩ := Option.ne_none_iff_exists'.1 np
    -- the rest of the turn
    have rest : ∀ {h' : Heap} {c : List Int} {m : Int} {blk : Slc}, c = blockL key (blkNo n (i.toNat / 64 * 64)) nonce → m = blkNo n (i.toNat + 64) → Blk h' h.size (b8 key) 22 → Blk h' h2.size (b8 nonce) 25 → Row h4.size h' 5 1 blk (b8 c) → Row h4.size h' 5 1 out (b8 (strL key nonce n l i.toNat)) → (∀ g, out.blk = some g → blk.blk ≠ some g) → Ext h.size h h' → h4.size ≤ h'.size →
        ref04_Xor_j2 p3 ⟨h.size, 0, none⟩ ⟨h2.size, 0, none⟩ out i m blk k (fun s h' => (∃ c : List Int, 0 ≤ s.2.2.2 ∧ s.2.2.2 ≤ l.length ∧ s.1 = blkNo n (s.2.2.2.toNat + 63) ∧ (0 < s.2.2.2.toNat % 64 → c = blockL key (blkNo n (s.2.2.2.toNat / 64 * 64)) nonce) ∧ Blk h' h.size (b8 key) 22 ∧ Blk h' h2.size (b8 nonce) 25 ∧ Row h4.size h' 5 1 s.2.2.1 (b8 c) ∧ Row h4.size h' 5 1 s.2.1 (b8 (strL key nonce n l s.2.2.2.toNat)) ∧ (∀ g, s.2.1.blk = some g → s.2.2.1.blk ≠ some g) ∧ Ext h.size h h' ∧ h4.size ≤ h'.size) ∧ (l.length - s.2.2.2).toNat < (l.length - i).toNat) h' := by
      intro h' c m blk hc hm A1 A2 Rb R D X z1
      unfold ref04_Xor_j2
      have lc : c.length = 64 := by rw [hc, blockL_len]
      rw [tm, wrapI64 (x := i + 1) (by omega) (by omega)]
      have hol := R.len
      have hbl := Rb.len
      simp [strL_len] at hol
      simp [lc] at hbl
      obtain ⟨G, zs, eb, bg, KB, cb, kb⟩ := Rb.opened (by omega)
      have ea : blk.a = some ⟨G, 0, none⟩ := by rw [eb]
      refine ⟨a, ha, i0, by omega, gw l i.toNat, ?_, _, ea, by omega, by omega, gw c (i % 64).toNat, ?_, _, _, rfl, rfl, App.row (R.pushed _) (by simp; omega) rfl rfl (by simp [Value.oneCell']) (by omega) (by simp only [maxLen]; omega) fun s' h3 R' _ zs' ho hb' => ?_⟩
      · rw [Nat.mul_one]
        exact X.cellAt (h0.2 a ha i.toNat _ (by rw [List.getElem?_map, gw_get (by omega)]; rfl))
      · rw [add_mk, Nat.zero_add, Nat.mul_one, KB.cell, List.getElem?_append_left (by simp [lc]; omega), List.getElem?_map, gw_get (by omega)]; rfl
      have z3 : h'.size + 1 ≤ h3.size := by simpa using zs'
      have old : ∀ j, j < h4.size → h3[j]? = h'[j]? := fun j hj => by
        rw [ho j (by simp; omega) (fun e => by have := (R.bd e).1; omega), Array.getElem?_push, if_neg (by omega)]
      refine ⟨_, rfl, ⟨c, by dsimp only; omega, by dsimp only; omega, ?_, ?_, A1.old (old _ (by omega)), A2.old (old _ (by omega)), ?_, ?_, ?_, X.trans ⟨by omega, fun j hj => old j (by omega)⟩, by omega⟩, by dsimp only; omega⟩
      · dsimp only; rw [hm]; congr 1; omega
      · dsimp only
        intro hpos
        rw [hc, show (i + 1).toNat / 64 = i.toNat / 64 from by omega]
      · dsimp only
        refine Rb.keep fun g hg => ?_
        have hlt := (Rb.bd hg).2
        rw [ho g (by simp; omega) (fun e => D g e hg), Array.getElem?_push, if_neg (by omega)]
      · dsimp only
        rw [show (i + 1).toNat = i.toNat + 1 from by omega, show (i % 64).toNat = i.toNat % 64 from by omega, hc] at *
        have e : b8 (strL key nonce n l (i.toNat + 1)) = b8 (strL key nonce n l i.toNat) ++ [.int .u8 (bwXor .u8 (gw l i.toNat) (gw (blockL key (blkNo n (i.toNat / 64 * 64)) nonce) (i.toNat % 64)))] := by
          simp only [strL, List.map_append]; rfl
        rw [e]; exact R'
      · dsimp only
        intro g hg e
        rcases hb' with hb' | hb'
        · exact D g (by rw [← hb']; exact hg) e
        · rw [hb'] at hg; cases hg
          have := (Rb.bd e).2
          simp at this; try omega
    by_cases h64 : i % 64 = 0
    · rw [if_pos (by simpa using h64)]
      have hno : n' = blkNo n (i.toNat / 64 * 64) := by rw [hn]; simp only [blkNo]; omega
      have nb : 0 ≤ n' ∧ n' < 4294967296 := by rw [hno]; simp only [blkNo]; omega
      refine ⟨_, lk, CellsAt.of_blk A1, _, ln, CellsAt.of_blk A2, rBlock_ok lk Bk ln Bn nb.1 nb.2 fun r h3 R3 X3 => ?_⟩
      have z3 := X3.size
      refine ⟨_, rfl, rest (by rw [hno]) ?_ (A1.ext X3 A1.lt) (A2.ext X3 A2.lt) (R3.mono (by omega)) (R.ext X3 fun g hg => (R.bd hg).2) (fun g hg e => ?_) (X.trans (X3.mono X.size)) (by omega)⟩
      · rw [hn, wU32]; simp only [blkNo]; omega
      · have := (R.bd hg).2
        have := (R3.bd e).1
        omega
    · rw [if_neg (by simpa using h64)]
      refine rest (hc (by omega)) ?_ A1 A2 Rb R D X z1
      rw [hn]; simp only [blkNo]; omega
  · rw [if_neg (by simpa using hi)]
    have : i.toNat = l.length := by omega
    rw [this] at R
    exact H _ _ (R.mono (by omega)) X
end Go.Q.Yd

/- A part of the proof of statements of this seat: lemmas, no statement of their own. -/
import Derived.Test.YtgldbcbnficihaaDoorYdLaw2
set_option linter.unusedVariables false
set_option linter.unusedSimpArgs false
set_option maxRecDepth 20000
namespace Go.Q.Yd
theorem take_set_succ {w v : List Int} {i : Nat} {x : Int} (ht : w.take i = v.take i) (hi : i < w.length) (hx : v[i]? = some x) : (w.set i x).take (i + 1) = v.take (i + 1) := by
  rw [List.take_succ_eq_append_getElem (by simpa using hi), List.take_add_one, hx]
  simp [List.take_set]
  rw [List.set_eq_of_length_le (by simp; omega), ht]
theorem key_sub {h : Heap} {b E N : Nat} {l : List Int} {i : Int} (K : Blk h b (b8 l) E) (hl : l.length = N) (i0 : 0 ≤ i) (i1 : 4 * i + 4 ≤ N) :
    SlcAt h (subS ⟨some ⟨b, 0, none⟩, N, N⟩ 1 (4 * i).toNat (N : Int).toNat N) (b8 (l.drop (4 * i.toNat))) ∧ (subS ⟨some ⟨b, 0, none⟩, N, N⟩ 1 (4 * i).toNat (N : Int).toNat N).len = (l.drop (4 * i.toNat)).length ∧ 4 ≤ (l.drop (4 * i.toNat)).length := by
  have s0 : SlcAt h ⟨some ⟨b, 0, none⟩, N, N⟩ (b8 l) := SlcAt.of_blk (ys := []) (by simpa using K)
  have s1 := s0.sub (w := 1) (l := (4 * i).toNat) (u := (N : Int).toNat) (m := N) (by omega) (by omega)
  refine ⟨?_, by rw [subS_len, List.length_drop]; omega, by rw [List.length_drop]; omega⟩
  have : ((b8 l).drop ((4 * i).toNat * 1)).take (((N : Int).toNat - (4 * i).toNat) * 1) = b8 (l.drop (4 * i.toNat)) := by
    rw [← List.map_drop, List.take_of_length_le (by simp; omega), show (4 * i).toNat * 1 = 4 * i.toNat from by omega]
  rw [← this]; exact s1
theorem start_l2_ok {h0 : Heap} {b3 b5 b7 : Nat} {key nonce : List Int} {n : Int} {k : List Int → Heap → Prop} {nx : Int → Heap → Prop} {h : Heap} {w : List Int} (ln : nonce.length = 12) (Bn : isB nonce)
    (N : Blk h b3 (b8 nonce) 26) (K : Blk h b7 (b32 w) 40) (lw : w.length = 16) (hw : w.take 13 = (startL key n nonce).take 13) (h35 : b3 ≠ b5) (h37 : b3 ≠ b7) (h57 : b5 ≠ b7) (R : ∃ z, Blk h b5 (b32 z) 40 ∧ z.length = 16) (s0 : h0.size ≤ b3) (s1 : h0.size ≤ b5) (s2 : h0.size ≤ b7) (X : Ext h0.size h0 h)
    (H : ∀ h', Ext h0.size h0 h' → k (startL key n nonce) h') : chacha_start_l2 ⟨b3, 0, none⟩ ⟨b5, 0, none⟩ ⟨b7, 0, none⟩ 0 k nx h := by
  refine ⟨fun i h' => ∃ w, 0 ≤ i ∧ i ≤ 3 ∧ Blk h' b3 (b8 nonce) 26 ∧ Blk h' b7 (b32 w) 40 ∧ w.length = 16 ∧ w.take (13 + i.toNat) = (startL key n nonce).take (13 + i.toNat) ∧ (∃ z, Blk h' b5 (b32 z) 40 ∧ z.length = 16) ∧ Ext h0.size h0 h', fun i _ => (3 - i).toNat, ⟨w, by omega, by omega, N, K, lw, hw, R, X⟩, ?_⟩
  rintro i h1 ⟨w, i0, i1, N, K, lw, hw, ⟨z, R, lz⟩, X⟩
  unfold chacha_start_l2b
  by_cases hi : i < 3
  · rw [if_pos (by simpa using hi), wrapI64 (x := 4 * i) (by omega) (by omega), wrapI64 (x := 13 + i) (by omega) (by omega), wrapI64 (x := i + 1) (by omega) (by omega)]
    obtain ⟨c1, c2, c3⟩ := key_sub (N := 12) N ln i0 (by omega)
    refine ⟨_, by omega, by omega, by omega, rfl, cword_ok c1 c2 c3 (fun x hx => Bn x (List.mem_of_mem_drop hx)) ?_⟩
    refine ⟨by omega, by omega, _, ?_, rfl, ⟨w.set (13 + i.toNat) (wordAt nonce i.toNat), by omega, by omega, N.old (setH_other (by simpa using h37)), ?_, by simpa using lw, ?_, ⟨z, R.old (setH_other (by simpa using h57)), lz⟩, X.trans (Ext.set _ _ (by simpa using s2))⟩, by dsimp only; omega⟩
    · rw [add_mk]; exact K.wr (by simp [lw]; omega)
    · rw [add_mk, Nat.zero_add, Nat.mul_one, show (13 + i).toNat = 13 + i.toNat from by omega]
      have := K.set (i := 13 + i.toNat) (v := .int .u32 (wordAt nonce i.toNat))
      rw [← List.map_set] at this
      exact this
    · rw [show 13 + (i + 1).toNat = (13 + i.toNat) + 1 from by omega]
      exact take_set_succ hw (by omega) (startL_nonce (by omega))
  · rw [if_neg (by simpa using hi)]
    have hi3 : i = 3 := by omega
    subst hi3
    have hw2 : w = startL key n nonce := by
      rw [List.take_of_length_le (by rw [lw]; decide), List.take_of_length_le (by simp [startL])] at hw
      exact hw
    subst hw2
    have R2 := R.sets_all (vs := b32 (startL key n nonce)) (by simp [startL, lz])
    refine ⟨_, rfl, CellsAt.of_blk K, _, rfl, WrsAt.of_blk R (by simp [lz]), rfl, _, rfl, CellsAt.of_blk R2, H _ (X.trans (Ext.sets _ _ _ s1))⟩
theorem start_ok {key nonce : List Int} {n : Int} {k : List Int → Heap → Prop} {h : Heap} (lk : key.length = 32) (Bk : isB key) (ln : nonce.length = 12) (Bn : isB nonce)
    (H : ∀ h', Ext h.size h h' → k (startL key n nonce) h') : chacha_start key n nonce k h := by
  unfold chacha_start
  refine ⟨_, _, rfl, rfl, _, _, rfl, rfl, _, _, rfl, rfl, _, _, rfl, rfl, ?_⟩
  have K1 := Blk.push h (b8 key) 23
  obtain ⟨h2, e2⟩ : ∃ x, x = h.push (.cells (b8 key).toArray 23) := ⟨_, rfl⟩
  rw [← e2] at K1 ⊢
  have z2 : h2.size = h.size + 1 := by rw [e2]; simp
  have X2 : Ext h.size h h2 := by rw [e2]; exact Ext.push h _ (Nat.le_refl _)
  have K2 := Blk.push h2 (b8 nonce) 26
  obtain ⟨h4, e4⟩ : ∃ x, x = h2.push (.cells (b8 nonce).toArray 26) := ⟨_, rfl⟩
  rw [← e4] at K2 ⊢
  have z4 : h4.size = h.size + 2 := by rw [e4]; simp [z2]
  have X4 : Ext h2.size h2 h4 := by rw [e4]; exact Ext.push h2 _ (Nat.le_refl _)
  have K3 := Blk.push h4 (b32 (List.replicate 16 0)) 40
  obtain ⟨h6, e6⟩ : ∃ x, x = h4.push (.cells (b32 (List.replicate 16 0)).toArray 40) := ⟨_, rfl⟩
  rw [← e6] at K3 ⊢
  have z6 : h6.size = h.size + 3 := by rw [e6]; simp [z4]
  have X6 : Ext h4.size h4 h6 := by rw [e6]; exact Ext.push h4 _ (Nat.le_refl _)
  have K4 := Blk.push h6 (b32 (List.replicate 16 0)) 40
  obtain ⟨h8, e8⟩ : ∃ x, x = h6.push (.cells (b32 (List.replicate 16 0)).toArray 40) := ⟨_, rfl⟩
  rw [← e8] at K4 ⊢
  have z8 : h8.size = h.size + 4 := by rw [e8]; simp [z6]
  have X8 : Ext h6.size h6 h8 := by rw [e8]; exact Ext.push h6 _ (Nat.le_refl _)
  have A1 : Blk h8 h.size (b8 key) 23 := ((K1.ext X4 (by omega)).ext X6 (by omega)).ext X8 (by omega)
  have A2 : Blk h8 h2.size (b8 nonce) 26 := (K2.ext X6 (by omega)).ext X8 (by omega)
  have A3 : Blk h8 h4.size (b32 (List.replicate 16 0)) 40 := K3.ext X8 (by omega)
  have X : Ext h.size h h8 := X2.trans ((X4.mono (by omega)).trans ((X6.mono (by omega)).trans (X8.mono (by omega))))
  have A4 := K4.sets_all (vs := b32 [1634760805, 857760878, 2036477234, 1797285236, 0, 0, 0, 0, 0, 0, 0, 0, 0, 0, 0, 0]) rfl
  have o4 : ∀ {j : Nat}, j ≠ h6.size → (setsH h8 ⟨h6.size, 0, none⟩ 0 (b32 [1634760805, 857760878, 2036477234, 1797285236, 0, 0, 0, 0, 0, 0, 0, 0, 0, 0, 0, 0]))[j]? = h8[j]? := fun hj => setsH_other _ _ (by simpa using hj)
  refine ⟨_, rfl, WrsAt.of_blk K4 (by simp), rfl, ?_⟩
  refine ⟨fun i h' => ∃ w, 0 ≤ i ∧ i ≤ 8 ∧ Blk h' h.size (b8 key) 23 ∧ Blk h' h2.size (b8 nonce) 26 ∧ Blk h' h6.size (b32 w) 40 ∧ w.length = 16 ∧ w.take (4 + i.toNat) = (startL key n nonce).take (4 + i.toNat) ∧ (∃ z, Blk h' h4.size (b32 z) 40 ∧ z.length = 16) ∧ Ext h.size h h', fun i _ => (8 - i).toNat,
    ⟨_, by omega, by omega, A1.old (o4 (by omega)), A2.old (o4 (by omega)), A4, rfl, rfl, ⟨_, A3.old (o4 (by omega)), rfl⟩, X.trans (Ext.sets _ _ _ (by simp only; omega))⟩, ?_⟩
  rintro i h1 ⟨w, i0, i1, B1, B2, K, lw, hw, ⟨z, R, lz⟩, X⟩
  unfold chacha_start_l1b
  by_cases hi : i < 8
  · rw [if_pos (by simpa using hi), wrapI64 (x := 4 * i) (by omega) (by omega), wrapI64 (x := 4 + i) (by omega) (by omega), wrapI64 (x := i + 1) (by omega) (by omega)]
    obtain ⟨c1, c2, c3⟩ := key_sub (N := 32) B1 lk i0 (by omega)
    refine ⟨_, by omega, by omega, by omega, rfl, cword_ok c1 c2 c3 (fun x hx => Bk x (List.mem_of_mem_drop hx)) ?_⟩
    refine ⟨by omega, by omega, _, ?_, rfl, ⟨w.set (4 + i.toNat) (wordAt key i.toNat), by omega, by omega, B1.old (setH_other (by simp; omega)), B2.old (setH_other (by simp; omega)), ?_, by simpa using lw, ?_, ⟨z, R.old (setH_other (by simp; omega)), lz⟩, X.trans (Ext.set _ _ (by simp; omega))⟩, by dsimp only; omega⟩
    · rw [add_mk]; exact K.wr (by simp [lw]; omega)
    · rw [add_mk, Nat.zero_add, Nat.mul_one, show (4 + i).toNat = 4 + i.toNat from by omega]
      have := K.set (i := 4 + i.toNat) (v := .int .u32 (wordAt key i.toNat))
      rw [← List.map_set] at this
      exact this
    · rw [show 4 + (i + 1).toNat = (4 + i.toNat) + 1 from by omega]
      exact take_set_succ hw (by omega) (startL_key (by omega))
  · rw [if_neg (by simpa using hi)]
    have hi3 : i = 8 := by omega
    subst hi3
    have K5 := K.set (i := 12) (v := .int .u32 n)
    rw [← List.map_set] at K5
    refine ⟨by decide, by decide, _, ?_, rfl, ?_⟩
    · rw [add_mk]; exact K.wr (by simp [lw])
    · rw [add_mk]
      refine start_l2_ok (h0 := h) ln Bn (B2.old (setH_other (by simp; omega))) K5 (by simpa using lw) (take_set_succ (i := 12) hw (by omega) rfl) (by omega) (by omega) (by omega) ⟨z, R.old (setH_other (by simp; omega)), lz⟩ (by omega) (by omega) (by omega) (X.trans (Ext.set _ _ (by simp; omega))) H
end Go.Q.Yd

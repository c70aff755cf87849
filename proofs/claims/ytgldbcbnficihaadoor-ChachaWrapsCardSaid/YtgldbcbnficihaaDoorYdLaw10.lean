/- A part of the proof of statements of this seat: lemmas, no statement of their own. -/
import Derived.Test.YtgldbcbnficihaaDoorYdLaw9
set_option linter.unusedVariables false
set_option linter.unusedSimpArgs false
set_option maxRecDepth 20000
namespace Go.Q.Yd
theorem strL_get (key nonce : List Int) (n : Int) (l : List Int) : ∀ (i j : Nat), j < i → (strL key nonce n l i)[j]? = some (bwXor .u8 (gw l j) (gw (blockL key (blkNo n (j / 64 * 64)) nonce) (j % 64)))
  | 0, j, h => by omega
  | i + 1, j, h => by
    simp only [strL]
    rcases Nat.lt_or_ge j i with h1 | h1
    · rw [List.getElem?_append_left (by rw [strL_len]; exact h1)]
      exact strL_get key nonce n l i j h1
    · have : j = i := by omega
      subst this
      rw [List.getElem?_append_right (by rw [strL_len]; exact Nat.le_refl _), strL_len]
      simp
theorem xorL_len (key nonce : List Int) (n : Int) (l : List Int) : (xorL key nonce n l).length = l.length := strL_len _ _ _ _ _
theorem xorL_get (key nonce : List Int) (n : Int) (l : List Int) {j : Nat} (h : j < l.length) : (xorL key nonce n l)[j]? = some (bwXor .u8 (gw l j) (gw (blockL key (blkNo n (j / 64 * 64)) nonce) (j % 64))) := strL_get _ _ _ _ _ _ h
theorem gw_of {l : List Int} {i : Nat} {v : Int} (h : l[i]? = some v) : gw l i = v := by simp [gw, List.getD, h]
theorem gw_B {l : List Int} (h : isB l) {i : Nat} (hi : i < l.length) : 0 ≤ gw l i ∧ gw l i < 256 := by
  have : gw l i = l[i] := by simp [gw, List.getD, hi]
  rw [this]; exact h _ (List.getElem_mem hi)
theorem xorL_twice {key nonce : List Int} {n : Int} {l : List Int} (hl : isB l) : xorL key nonce n (xorL key nonce n l) = l := by
  apply List.ext_getElem?
  intro j
  rcases Nat.lt_or_ge j l.length with h | h
  · rw [xorL_get _ _ _ _ (by rw [xorL_len]; exact h), gw_of (xorL_get _ _ _ _ h), bwXor8_twice (gw_B hl h) (gw_B (blockL_B _ _ _) (by rw [blockL_len]; omega)), gw_get h]
  · rw [List.getElem?_eq_none (by rw [xorL_len, xorL_len]; exact h), List.getElem?_eq_none h]
theorem gw_take {l : List Int} {i m : Nat} (h : i < m) : gw (l.take m) i = gw l i := by simp [gw, List.getD, List.getElem?_take, h]
theorem gw_drop {l : List Int} {i m : Nat} : gw (l.drop m) i = gw l (m + i) := by simp [gw, List.getD, List.getElem?_drop]
theorem xorL_parts {key nonce : List Int} {n : Int} {l : List Int} (h64 : 64 ≤ l.length) : xorL key nonce n l = xorL key nonce n (l.take 64) ++ xorL key nonce ((n + 1) % 4294967296) (l.drop 64) := by
  have lt : (xorL key nonce n (l.take 64)).length = 64 := by rw [xorL_len, List.length_take]; omega
  apply List.ext_getElem?
  intro j
  rcases Nat.lt_or_ge j l.length with h | h
  · rw [xorL_get _ _ _ _ h]
    rcases Nat.lt_or_ge j 64 with h1 | h1
    · rw [List.getElem?_append_left (by rw [lt]; exact h1), xorL_get _ _ _ _ (by rw [List.length_take]; omega), gw_take h1]
    · rw [List.getElem?_append_right (by rw [lt]; exact h1), lt, xorL_get _ _ _ _ (by rw [List.length_drop]; omega), gw_drop, show 64 + (j - 64) = j from by omega, show (j - 64) % 64 = j % 64 from by omega]
      have : blkNo n (j / 64 * 64) = blkNo ((n + 1) % 4294967296) ((j - 64) / 64 * 64) := by simp only [blkNo]; omega
      rw [this]
  · rw [List.getElem?_eq_none (by rw [xorL_len]; exact h), List.getElem?_eq_none (by rw [List.length_append, lt, xorL_len, List.length_drop]; omega)]
/-- an argument: bytes that came in -/
structure Arg8 (h : Heap) (s : Slc) (l : List Int) : Prop where
  at' : SlcAt h s (b8 l)
  len : s.len = l.length
  cap : s.len ≤ s.cap
  B : isB l
theorem Arg8.ext {h h' : Heap} {s : Slc} {l : List Int} (a : Arg8 h s l) (X : Ext h.size h h') : Arg8 h' s l := ⟨⟨a.at'.1, fun b hb j v hj => X.cellAt (a.at'.2 b hb j v hj)⟩, a.len, a.cap, a.B⟩
theorem Ext.chain {a b c : Heap} (p : Ext a.size a b) (q : Ext b.size b c) : Ext a.size a c := p.trans (q.mono p.size)
theorem if_true' {A B : Prop} (h : A) : if true = true then A else B := by rw [if_pos rfl]; exact h
theorem ChachaStreams_ok {key nonce : List Int} {n : Int} {p3 : Slc} {l : List Int} {k : Bool → Heap → Prop} {h : Heap} (lk : key.length = 32) (Bk : isB key) (ln : nonce.length = 12) (Bn : isB nonce) (n0 : 0 ≤ n) (n1 : n < 4294967296) (Q : Q0 h) (A : Arg8 h p3 l)
    (H : ∀ h', Ext h.size h h' → k true h') : law04_ChachaStreams key nonce n p3 k h := by
  unfold law04_ChachaStreams
  have hQ := Q.lt
  refine ⟨_, _, rfl, rfl, _, _, rfl, rfl, ?_⟩
  have K1 := Blk.push h (b8 key) 23
  obtain ⟨h2, e2⟩ : ∃ x, x = h.push (.cells (b8 key).toArray 23) := ⟨_, rfl⟩
  rw [← e2] at K1 ⊢
  have z2 : h2.size = h.size + 1 := by rw [e2]; simp
  have X2 : Ext h.size h h2 := by rw [e2]; exact Ext.push h _ (Nat.le_refl _)
  have K2 := Blk.push h2 (b8 nonce) 26
  obtain ⟨h4, e4⟩ : ∃ x, x = h2.push (.cells (b8 nonce).toArray 26) := ⟨_, rfl⟩
  rw [← e4] at K2 ⊢
  have X4 : Ext h2.size h2 h4 := by rw [e4]; exact Ext.push h2 _ (Nat.le_refl _)
  have Xa := Ext.chain X2 X4
  have A1 : Blk h4 h.size (b8 key) 23 := K1.ext X4 K1.lt
  by_cases hl : l.length > 300
  · rw [if_pos (by simp [A.len]; omega)]
    exact awake_ok (Q.ext Xa hQ) fun h' X' => H h' (Ext.chain Xa X')
  · rw [if_neg (by simp [A.len]; omega)]
    have a4 := A.ext Xa
    refine Lent_ok a4.at' a4.len (by omega) fun h8 KL X8 _ => ?_
    have A18 := A1.ext X8 A1.lt
    have A28 := K2.ext X8 K2.lt
    have X08 := Ext.chain Xa X8
    refine ⟨_, lk, CellsAt.of_blk A18, _, ln, CellsAt.of_blk A28, Xor_ok (l := l) lk Bk ln Bn n0 n1 (Q.ext X08 hQ) (SlcAt.of_blk (ys := b8 (List.replicate 8 165)) (by rw [← List.map_append]; exact KL)) rfl (by omega) fun r11 h12 R11 X12 => ?_⟩
    have X012 := Ext.chain X08 X12
    have a12 := A.ext X012
    have A112 := A18.ext X12 A18.lt
    have A212 := A28.ext X12 A28.lt
    refine ⟨_, lk, CellsAt.of_blk A112, _, ln, CellsAt.of_blk A212, rXor_ok lk Bk ln Bn n0 n1 a12.at' a12.len (by omega) fun r15 h16 R15 X16 => ?_⟩
    have R11' := R11.ext X16 fun g hg => (R11.bd hg).2
    have lx := xorL_len key nonce n l
    refine Same_ok (l := xorL key nonce n l) (m := xorL key nonce n l) R11'.slc (by simpa using R11'.len) R15.slc (by simpa using R15.len) (by omega) ?_
    rw [show decide (xorL key nonce n l = xorL key nonce n l) = true from by simp]
    refine if_true' ?_
    have X016 := Ext.chain X012 X16
    refine ⟨_, lk, CellsAt.of_blk (A112.ext X16 A112.lt), _, ln, CellsAt.of_blk (A212.ext X16 A212.lt), Xor_ok (l := xorL key nonce n l) lk Bk ln Bn n0 n1 (Q.ext X016 hQ) R11'.slc (by simpa using R11'.len) (by omega) fun r25 h26 R25 X26 => ?_⟩
    rw [xorL_twice A.B] at R25
    have X026 := Ext.chain X016 X26
    have a26 := A.ext X026
    refine Same_ok (l := l) (m := l) R25.slc (by simpa using R25.len) a26.at' a26.len (by omega) ?_
    rw [show decide (l = l) = true from by simp]
    show law04_ChachaStreams_g1 _ _ true _ _
    unfold law04_ChachaStreams_g1
    refine if_true' ?_
    have KL' := ((KL.ext X12 KL.lt).ext X16 (KL.ext X12 KL.lt).lt).ext X26 ((KL.ext X12 KL.lt).ext X16 (KL.ext X12 KL.lt).lt).lt
    refine Kept_ok KL' a26.at' a26.len (by omega) ?_
    rw [show decide (l = l) = true from by simp]
    show law04_ChachaStreams_g2 true _ _
    unfold law04_ChachaStreams_g2
    refine if_true' ?_
    exact awake_ok (Q.ext X026 hQ) fun h' X' => H h' (Ext.chain X026 X')
theorem ChachaParts_ok {key nonce : List Int} {n : Int} {p3 : Slc} {l : List Int} {k : Bool → Heap → Prop} {h : Heap} (lk : key.length = 32) (Bk : isB key) (ln : nonce.length = 12) (Bn : isB nonce) (n0 : 0 ≤ n) (n1 : n < 4294967296) (Q : Q0 h) (A : Arg8 h p3 l)
    (H : ∀ h', Ext h.size h h' → k true h') : law04_ChachaParts key nonce n p3 k h := by
  unfold law04_ChachaParts
  have hQ := Q.lt
  refine ⟨_, _, rfl, rfl, _, _, rfl, rfl, ?_⟩
  have K1 := Blk.push h (b8 key) 23
  obtain ⟨h2, e2⟩ : ∃ x, x = h.push (.cells (b8 key).toArray 23) := ⟨_, rfl⟩
  rw [← e2] at K1 ⊢
  have X2 : Ext h.size h h2 := by rw [e2]; exact Ext.push h _ (Nat.le_refl _)
  have K2 := Blk.push h2 (b8 nonce) 26
  obtain ⟨h4, e4⟩ : ∃ x, x = h2.push (.cells (b8 nonce).toArray 26) := ⟨_, rfl⟩
  rw [← e4] at K2 ⊢
  have X4 : Ext h2.size h2 h4 := by rw [e4]; exact Ext.push h2 _ (Nat.le_refl _)
  have Xa := Ext.chain X2 X4
  have A1 : Blk h4 h.size (b8 key) 23 := K1.ext X4 K1.lt
  have al := A.len
  have ac := A.cap
  by_cases hl : l.length < 64 ∨ l.length > 300
  · rw [if_pos (by simp [A.len]; omega)]
    exact awake_ok (Q.ext Xa hQ) fun h' X' => H h' (Ext.chain Xa X')
  · rw [if_neg (by simp [A.len]; omega)]
    have a4 := A.ext Xa
    have s4 := a4.at'.sub (w := 1) (l := (0 : Int).toNat) (u := (64 : Int).toNat) (m := (p3.cap : Int).toNat) (by decide) (by simp only [Int.toNat_natCast]; show 64 ≤ p3.cap; omega)
    have e4' : ((b8 l).drop ((0 : Int).toNat * 1)).take (((64 : Int).toNat - (0 : Int).toNat) * 1) = b8 (l.take 64) := by
      show ((b8 l).drop 0).take 64 = _
      rw [List.drop_zero, ← List.map_take]
    rw [e4'] at s4
    have l64 : (l.take 64).length = 64 := by rw [List.length_take]; omega
    refine ⟨_, lk, CellsAt.of_blk A1, _, ln, CellsAt.of_blk K2, _, by decide, by decide, by omega, Int.le_refl _, rfl, Xor_ok (l := l.take 64) lk Bk ln Bn n0 n1 (Q.ext Xa hQ) s4 (by rw [subS_len, l64]; rfl) (by omega) fun r10 h11 R10 X11 => ?_⟩
    have X011 := Ext.chain Xa X11
    have a11 := A.ext X011
    have A111 := A1.ext X11 A1.lt
    have A211 := K2.ext X11 K2.lt
    have s11 := a11.at'.sub (w := 1) (l := (64 : Int).toNat) (u := (p3.len : Int).toNat) (m := (p3.cap : Int).toNat) (by simp only [Int.toNat_natCast]; show 64 ≤ p3.len; omega) (by omega)
    have e11 : ((b8 l).drop ((64 : Int).toNat * 1)).take (((p3.len : Int).toNat - (64 : Int).toNat) * 1) = b8 (l.drop 64) := by
      rw [← List.map_drop, List.take_of_length_le (by simp [A.len])]
      rfl
    rw [e11] at s11
    have ld : (l.drop 64).length = l.length - 64 := List.length_drop
    rw [wU32]
    refine ⟨_, lk, CellsAt.of_blk A111, _, ln, CellsAt.of_blk A211, _, by decide, by omega, by omega, Int.le_refl _, rfl, Xor_ok (l := l.drop 64) lk Bk ln Bn (by omega) (by omega) (Q.ext X011 hQ) s11 (by rw [subS_len, ld]; show p3.len - 64 = _; omega) (by omega) fun r15 h16 R15 X16 => ?_⟩
    have X016 := Ext.chain X011 X16
    have a16 := A.ext X016
    have A116 := A111.ext X16 A111.lt
    have A216 := A211.ext X16 A211.lt
    have R10a := R10.ext X16 fun g hg => (R10.bd hg).2
    refine ⟨_, lk, CellsAt.of_blk A116, _, ln, CellsAt.of_blk A216, Xor_ok (l := l) lk Bk ln Bn n0 n1 (Q.ext X016 hQ) a16.at' a16.len (by omega) fun r19 h20 R19 X20 => ?_⟩
    have X020 := Ext.chain X016 X20
    have R10b := R10a.ext X20 fun g hg => (R10a.bd hg).2
    have R15b := R15.ext X20 fun g hg => (R15.bd hg).2
    have l10 := R10b.len
    have l15 := R15b.len
    simp [xorL_len, l64] at l10
    simp [xorL_len] at l15
    have z20 := X020.size
    have z4 := Xa.size
    have z16 := X16.size
    have z11 := X11.size
    have zz := X20.size
    refine ⟨_, R15b.slc, App.row R10b (by omega) rfl (by simp [xorL_len, l15]) (b8_one _) (by omega) (by simp only [maxLen]; omega) fun s21 h22 R22 _ z22 ho _ => ?_⟩
    have X022 : Ext h.size h h22 := X020.trans ⟨z22, fun j hj => ho j (by omega) fun e => by have := (R10b.bd e).1; omega⟩
    have R19' : Row h16.size h22 5 1 r19 (b8 (xorL key nonce n l)) := R19.keep fun g hg => ho g (R19.bd hg).2 fun e => by
      have a := (R19.bd hg).1
      have b := (R10a.bd e).2
      omega
    rw [← List.map_append, ← xorL_parts (by omega)] at R22
    have lx := xorL_len key nonce n l
    refine Same_ok (l := xorL key nonce n l) (m := xorL key nonce n l) R19'.slc (by simpa using R19'.len) R22.slc (by simpa using R22.len) (by omega) ?_
    rw [show decide (xorL key nonce n l = xorL key nonce n l) = true from by simp]
    refine if_true' ?_
    exact awake_ok (Q.ext X022 hQ) fun h' X' => H h' (Ext.chain X022 X')
theorem xorL_wraps {key nonce z l : List Int} (hz : z.length = 64) : (xorL key nonce 4294967295 (z ++ l)).drop 64 = xorL key nonce 0 l := by
  have h := xorL_parts (key := key) (nonce := nonce) (n := 4294967295) (l := z ++ l) (by rw [List.length_append]; omega)
  have h1 : (4294967295 + 1 : Int) % 4294967296 = 0 := by decide
  rw [h, List.take_left' hz, List.drop_left' (by rw [xorL_len, hz]), List.drop_left' hz, h1]
theorem ChachaWraps_ok {key nonce : List Int} {p2 : Slc} {l : List Int} {k : Bool → Heap → Prop} {h : Heap} (lk : key.length = 32) (Bk : isB key) (ln : nonce.length = 12) (Bn : isB nonce) (Q : Q0 h) (A : Arg8 h p2 l)
    (H : ∀ h', Ext h.size h h' → k true h') : law04_ChachaWraps key nonce p2 k h := by
  unfold law04_ChachaWraps
  have hQ := Q.lt
  refine ⟨_, _, rfl, rfl, _, _, rfl, rfl, ?_⟩
  have K1 := Blk.push h (b8 key) 23
  obtain ⟨h2, e2⟩ : ∃ x, x = h.push (.cells (b8 key).toArray 23) := ⟨_, rfl⟩
  rw [← e2] at K1 ⊢
  have X2 : Ext h.size h h2 := by rw [e2]; exact Ext.push h _ (Nat.le_refl _)
  have K2 := Blk.push h2 (b8 nonce) 26
  obtain ⟨h4, e4⟩ : ∃ x, x = h2.push (.cells (b8 nonce).toArray 26) := ⟨_, rfl⟩
  rw [← e4] at K2 ⊢
  have X4 : Ext h2.size h2 h4 := by rw [e4]; exact Ext.push h2 _ (Nat.le_refl _)
  have Xa := Ext.chain X2 X4
  have A1 : Blk h4 h.size (b8 key) 23 := K1.ext X4 K1.lt
  have al := A.len
  by_cases hl : l.length > 200
  · rw [if_pos (by simp [A.len]; omega)]
    exact awake_ok (Q.ext Xa hQ) fun h' X' => H h' (Ext.chain Xa X')
  · rw [if_neg (by simp [A.len]; omega)]
    refine ⟨_, lk, CellsAt.of_blk A1, _, ln, CellsAt.of_blk K2, _, _, by decide, by decide, by decide, by decide, rfl, rfl, ?_⟩
    have ez : zrow [.int .u8 0] (64 : Int).toNat = b8 (List.replicate 64 0) := rfl
    rw [ez]
    have M0 := Blk.push h4 (b8 (List.replicate 64 0)) 5
    obtain ⟨h10, e10⟩ : ∃ x, x = h4.push (.cells (b8 (List.replicate 64 0)).toArray 5) := ⟨_, rfl⟩
    rw [← e10] at M0 ⊢
    have X10 : Ext h4.size h4 h10 := by rw [e10]; exact Ext.push h4 _ (Nat.le_refl _)
    have z10 : h10.size = h4.size + 1 := by rw [e10]; simp
    have X010 := Ext.chain Xa X10
    have a10 := A.ext X010
    have A110 := A1.ext X10 A1.lt
    have A210 := K2.ext X10 K2.lt
    have R0 : Row h4.size h10 5 1 ⟨some ⟨h4.size, 0, none⟩, 64, 64⟩ (b8 (List.replicate 64 0)) := Row.of_blk (zs := []) (by simpa using M0) (Nat.le_refl _) (by simp) (by simp) (by decide)
    refine ⟨CellsAt.of_blk A210, CellsAt.of_blk A110, _, a10.at', App.row R0 (by omega) rfl (by simp [al]) (b8_one _) (by simp only; omega) (by simp only [maxLen]; omega) fun s13 h14 R14 _ z14 ho _ => ?_⟩
    have X14 : Ext h4.size h4 h14 := X10.trans ⟨z14, fun j hj => ho j (by omega) fun e => by have := (R0.bd e).1; omega⟩
    have X014 := Ext.chain Xa X14
    have A114 := A1.ext X14 A1.lt
    have A214 := K2.ext X14 K2.lt
    rw [← List.map_append] at R14
    have lz : (List.replicate 64 (0 : Int) ++ l).length = 64 + l.length := by rw [List.length_append, List.length_replicate]
    refine ⟨CellsAt.of_blk A214, CellsAt.of_blk A114, Xor_ok (l := List.replicate 64 (0 : Int) ++ l) lk Bk ln Bn (by decide) (by decide) (Q.ext X014 hQ) R14.slc (by simpa using R14.len) (by omega) fun r18 h19 R19 X19 => ?_⟩
    have X019 := Ext.chain X014 X19
    have l18 := R19.len
    simp [xorL_len] at l18
    have c18 := R19.cap
    rw [wrapI64 (x := 64 + (p2.len : Int)) (by omega) (by omega)]
    rw [if_pos (by simp; omega)]
    have s19 := R19.slc.sub (w := 1) (l := (64 : Int).toNat) (u := (r18.len : Int).toNat) (m := (r18.cap : Int).toNat) (by simp only [Int.toNat_natCast]; show 64 ≤ r18.len; omega) (by omega)
    have e19 : ((b8 (xorL key nonce 4294967295 (List.replicate 64 (0 : Int) ++ l))).drop ((64 : Int).toNat * 1)).take (((r18.len : Int).toNat - (64 : Int).toNat) * 1) = b8 (xorL key nonce 0 l) := by
      rw [← List.map_drop, List.take_of_length_le (by rw [List.length_map, List.length_drop, xorL_len, lz]; show _ ≤ (r18.len - 64) * 1; omega)]
      exact congrArg b8 (xorL_wraps List.length_replicate)
    rw [e19] at s19
    have A119 := A114.ext X19 A114.lt
    have A219 := A214.ext X19 A214.lt
    have a19 := A.ext X019
    refine ⟨_, by decide, by omega, by omega, Int.le_refl _, rfl, _, lk, CellsAt.of_blk A119, _, ln, CellsAt.of_blk A219, Xor_ok (l := l) lk Bk ln Bn (by decide) (by decide) (Q.ext X019 hQ) a19.at' a19.len (by omega) fun r23 h24 R24 X24 => ?_⟩
    have X024 := Ext.chain X019 X24
    have s24 : SlcAt h24 _ (b8 (xorL key nonce 0 l)) := ⟨s19.1, fun b hb j v hj => X24.cellAt (s19.2 b hb j v hj)⟩
    have lx := xorL_len key nonce 0 l
    refine Same_ok (l := xorL key nonce 0 l) (m := xorL key nonce 0 l) s24 (by rw [subS_len, lx]; show _ - 64 = _; omega) R24.slc (by simpa using R24.len) (by omega) ?_
    rw [show decide (xorL key nonce 0 l = xorL key nonce 0 l) = true from by simp]
    refine if_true' ?_
    exact awake_ok (Q.ext X024 hQ) fun h' X' => H h' (Ext.chain X024 X')
end Go.Q.Yd

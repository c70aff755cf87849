/- A part of the proof of statements of this seat: lemmas, no statement of their own. -/
import Derived.Test.YtidhlagdagbggaaDoorYfSd
set_option linter.unusedVariables false
set_option linter.unusedSimpArgs false
set_option maxRecDepth 100000
/- Slot: the fingerprint of bytes, walked whole. -/
namespace Go.Q.Yf
theorem lenB_at (z : Int) {j : Nat} (hj : j < 8) : (lenB z)[j]? = some (IntKind.u8.wrap (shr .u64 z (IntKind.u64.wrap (56 - 8 * (j : Int))).toNat)) := by
  have : j = 0 ∨ j = 1 ∨ j = 2 ∨ j = 3 ∨ j = 4 ∨ j = 5 ∨ j = 6 ∨ j = 7 := by omega
  rcases this with rfl | rfl | rfl | rfl | rfl | rfl | rfl | rfl <;> rfl
theorem view_eq {g o n c : Nat} (hc : c ≠ 0) : subS ⟨some ⟨g, o, none⟩, n, c⟩ 1 (0 : Int).toNat (64 : Int).toNat ((c : Nat) : Int).toNat = ⟨some ⟨g, o, none⟩, 64, c⟩ := by
  unfold subS
  simp only [Int.toNat_natCast, Int.toNat_zero, Nat.sub_zero, Nat.zero_mul]
  rw [if_neg hc]
  simp only [Option.map_some, add_mk, Nat.add_zero]
  rfl
theorem view_next {g o n c : Nat} (hc : c ≠ 64) : subS ⟨some ⟨g, o, none⟩, n, c⟩ 1 (64 : Int).toNat ((n : Nat) : Int).toNat ((c : Nat) : Int).toNat = ⟨some ⟨g, o + 64, none⟩, n - 64, c - 64⟩ := by
  unfold subS
  simp only [Int.toNat_natCast]
  rw [if_neg (by show ¬ c = 64; exact hc)]
  simp only [Option.map_some, add_mk]
  rfl
theorem Of_ok {p0 s : Slc} {bs : List Int} {k : List Int → Heap → Prop} {h : Heap} (r : R0 h) (S : SlcAt h p0 [Slc.v s]) (l : p0.len = 1) (A : SlcAt h s (b8 bs)) (ls : s.len = bs.length) (m : bs.length ≤ 60000)
    (H : ∀ h', Ext h.size h h' → k (shaD bs) h') : sha_Of p0 k h := by
  have r0 := r.pos
  unfold sha_Of
  refine ⟨_, _, rfl, rfl, ?_⟩
  have P := Blk.push h (arr 32 .u8 ([] : List Int)) 92
  have W := Ext.push h (.cells (arr 32 .u8 ([] : List Int)).toArray 92) (Nat.le_refl _)
  have pl := P.lt
  generalize h.push (.cells (arr 32 .u8 ([] : List Int)).toArray 92) = h2 at *
  have z2 := W.size
  refine Concat_ok (L := [(s, bs)]) (S.ext W) l (fun q hq => by rw [List.mem_singleton] at hq; rw [hq]; exact ⟨A.ext W, ls⟩) (by simp) (by simp [flatS]; omega) fun s4 h4 R4 X4 => ?_
  have ef : flatS [(s, bs)] = bs := by simp [flatS]
  rw [ef] at R4
  have z4 := X4.size
  have l4 : s4.len = bs.length := by have := R4.len; rw [this, List.length_map]
  obtain ⟨b1, eb1⟩ : ∃ y, y = h.size := ⟨_, rfl⟩
  have P4 := P.ext X4 pl
  have X04 : Ext b1 h h4 := by rw [eb1]; exact W.trans (X4.mono z2)
  have R4' : Row (b1 + 1) h4 5 1 s4 (b8 bs) := R4.mono (by omega)
  rw [← eb1] at P4 r0 H ⊢
  have zb4 : b1 + 1 ≤ h4.size := by omega
  clear P W X4 R4 S
  refine ⟨_, rfl, _, _, rfl, rfl, ?_⟩
  rw [l4, show shl .u64 (IntKind.u64.wrap ((bs.length : Nat) : Int)) (3 : Int).toNat = sizeD bs.length from rfl]
  have W7 := Ext.push h4 (.cells ([.int .u8 128] : List Value).toArray 5) (Nat.le_refl _)
  have R7 := R4'.pushed (.cells ([.int .u8 128] : List Value).toArray 5)
  generalize h4.push (.cells ([.int .u8 128] : List Value).toArray 5) = h7 at *
  have z7 := W7.size
  have P7 := P4.ext W7 P4.lt
  have X07 : Ext b1 h h7 := X04.trans (W7.mono (by omega))
  -- one byte more
  have app : ∀ {t : Slc} {h1 : Heap} {l1 : List Int} {v : Int} {K : Slc → Heap → Prop}, Row (b1 + 1) h1 5 1 t (b8 l1) → Blk h1 b1 (arr 32 .u8 ([] : List Int)) 92 → Ext b1 h h1 → l1.length ≤ 61000 → b1 + 1 ≤ h1.size →
      (∀ t' h2, Row (b1 + 1) h2 5 1 t' (b8 (l1 ++ [v])) → Blk h2 b1 (arr 32 .u8 ([] : List Int)) 92 → Ext b1 h h2 → t'.len = l1.length + 1 → b1 + 1 ≤ h2.size → K t' h2) → App 5 1 1 [.int .u8 0] h1 t 1 [.int .u8 v] K := fun {t h1 l1 v K} R B X hl hz F => by
    have lt : t.len = l1.length := by have := R.len; rw [this, List.length_map]
    refine App.row2 R hz rfl (by simp) (fun x hx => by rw [List.mem_singleton] at hx; rw [hx]; rfl) (by omega) (by simp only [maxLen]; omega) fun t' h2 R2 l2 z2 kp _ _ => ?_
    have ne : ∀ i, i ≤ b1 → t.blk ≠ some i := fun i hi e => by have := (R.bd e).1; omega
    refine F t' h2 (by rw [b8, List.map_append]; exact R2) (B.old (kp b1 B.lt (ne b1 (Nat.le_refl _)))) (X.trans ⟨z2, fun i hi => kp i (by omega) (ne i (by omega))⟩) (by omega) (by omega)
  refine app R7 P7 X07 (by omega) (by omega) fun s8 h9 R9 P9 X9 l9 z9 => ?_
  -- bytes 00
  unfold sha_Of_l1
  refine ⟨fun t h' => ∃ j, j ≤ padN bs.length ∧ Row (b1 + 1) h' 5 1 t (b8 (bs ++ [128] ++ List.replicate j 0)) ∧ Blk h' b1 (arr 32 .u8 ([] : List Int)) 92 ∧ Ext b1 h h' ∧ t.len = bs.length + 1 + j ∧ b1 + 1 ≤ h'.size, fun t _ => bs.length + 1 + padN bs.length - t.len, ⟨0, Nat.zero_le _, by simpa using R9, P9, X9, by omega, z9⟩, ?_⟩
  rintro t h1 ⟨j, hj, R1, P1, X1, lt, z1⟩
  have pn : padN bs.length < 64 := by unfold padN; omega
  have pm : (bs.length + 1 + padN bs.length) % 64 = 56 := by unfold padN; omega
  unfold sha_Of_l1b
  rw [lt, and63 (by omega)]
  by_cases c : (bs.length + 1 + j) % 64 = 56
  · have ej : j = padN bs.length := by omega
    rw [if_neg (by rw [c]; decide)]
    rw [ej] at R1
    clear lt c hj
    -- the size
    unfold sha_Of_l2
    refine ⟨fun q h' => ∃ i : Nat, i ≤ 8 ∧ q.2 = 56 - 8 * (i : Int) ∧ Row (b1 + 1) h' 5 1 q.1 (b8 (bs ++ [128] ++ List.replicate (padN bs.length) 0 ++ (lenB (sizeD bs.length)).take i)) ∧ Blk h' b1 (arr 32 .u8 ([] : List Int)) 92 ∧ Ext b1 h h' ∧ b1 + 1 ≤ h'.size, fun q _ => (q.2 + 8).toNat, ⟨0, Nat.zero_le _, rfl, by simpa using R1, P1, X1, z1⟩, ?_⟩
    rintro t2 q2 h2' ⟨i, hi, e2, R2, P2, X2, z2'⟩
    dsimp only at e2 R2
    unfold sha_Of_l2b
    by_cases c2 : i < 8
    · rw [if_pos (by rw [decide_eq_true_eq]; omega)]
      refine ⟨nn64 _, _, _, rfl, rfl, ?_⟩
      have W3 := Ext.push h2' (.cells ([.int .u8 (IntKind.u8.wrap (shr .u64 (sizeD bs.length) (IntKind.u64.wrap q2).toNat))] : List Value).toArray 5) (Nat.le_refl _)
      have R3 := R2.pushed (.cells ([.int .u8 (IntKind.u8.wrap (shr .u64 (sizeD bs.length) (IntKind.u64.wrap q2).toNat))] : List Value).toArray 5)
      generalize h2'.push (.cells ([.int .u8 (IntKind.u8.wrap (shr .u64 (sizeD bs.length) (IntKind.u64.wrap q2).toNat))] : List Value).toArray 5) = h3 at *
      have z3 := W3.size
      have ll : (lenB (sizeD bs.length)).length = 8 := rfl
      refine app R3 (P2.ext W3 P2.lt) (X2.trans (W3.mono (by omega))) (by simp only [List.length_append, List.length_replicate, List.length_take, ll, List.length_singleton]; omega) (by omega) fun t' h4' R4 P4' X4' _ z4' => ?_
      refine ⟨_, rfl, ?_⟩
      rw [wrapI64 (by omega) (by omega)]
      refine ⟨⟨i + 1, by omega, by dsimp only; omega, ?_, P4', X4', z4'⟩, by dsimp only; omega⟩
      rw [List.take_add_one, lenB_at _ c2, Option.toList_some, ← List.append_assoc, ← e2]
      exact R4
    · rw [if_neg (by rw [decide_eq_true_eq]; omega)]
      have e8 : i = 8 := by omega
      rw [e8, List.take_of_length_le (show (lenB (sizeD bs.length)).length ≤ 8 from Nat.le_refl _)] at R2
      change Row (b1 + 1) h2' 5 1 t2 (b8 (padD bs)) at R2
      obtain ⟨c', lM⟩ := padD_len bs
      generalize eM : padD bs = M at *
      have lt2 : t2.len = 64 * (c' + 1) := by have := R2.len; rw [this, List.length_map, lM]
      refine Start_ok fun h21 X21 => ?_
      have z21 := X21.size
      refine ⟨_, _, rfl, rfl, ?_⟩
      have Q := Blk.push h21 (arr 8 .u32 ([] : List Int)) 110
      have W22 := Ext.push h21 (.cells (arr 8 .u32 ([] : List Int)).toArray 110) (Nat.le_refl _)
      generalize h21.push (.cells (arr 8 .u32 ([] : List Int)).toArray 110) = h23 at *
      refine ⟨_, WrsAt.of_blk Q (by show 8 ≤ 8; omega), rfl, ?_⟩
      have Q24 : Blk (setsH h23 ⟨h21.size, 0, none⟩ 0 (arr 8 .u32 startL)) h21.size (u32s (blkUp M 0)) 110 := Q.sets_all rfl
      have X24 : Ext h21.size h21 (setsH h23 ⟨h21.size, 0, none⟩ 0 (arr 8 .u32 startL)) := W22.trans (Ext.sets _ _ _ (Nat.le_refl _))
      generalize setsH h23 ⟨h21.size, 0, none⟩ 0 (arr 8 .u32 startL) = h24 at *
      have X224 : Ext h2'.size h2' h24 := X21.trans (X24.mono z21)
      have z24 := X224.size
      have R24 := R2.ext X224 fun g hg => (R2.bd hg).2
      obtain ⟨b22, eb⟩ : ∃ y, y = h21.size := ⟨_, rfl⟩
      have P24 := P2.ext X224 P2.lt
      have pl2 := P2.lt
      rw [← eb] at Q24 ⊢
      have bb : b1 < b22 := by omega
      obtain ⟨g, zs, et, gB, Bg, lc, gb⟩ := R24.opened (by omega)
      have gl : g < h2'.size := (R2.bd gb).2
      have gn : g ≠ b22 := by omega
      have lbg : (b8 M ++ zs).length ≥ t2.len := by rw [List.length_append, List.length_map]; omega
      have capl : 64 * (c' + 1) ≤ t2.cap := by omega
      generalize t2.cap = cp at *
      rw [lt2] at et
      rw [et]
      unfold sha_Of_l3
      refine ⟨fun t h' => ∃ j, j ≤ c' ∧ t = ⟨some ⟨g, 64 * j, none⟩, 64 * (c' + 1 - j), cp - 64 * j⟩ ∧ Blk h' g (b8 M ++ zs) 5 ∧ Blk h' b1 (arr 32 .u8 ([] : List Int)) 92 ∧ Blk h' b22 (u32s (blkUp M j)) 110 ∧ Ext b1 h h', fun t _ => t.len, ⟨0, Nat.zero_le _, rfl, Bg, P24, Q24, X2.trans (X224.mono (by omega))⟩, ?_⟩
      rintro t3 h5 ⟨j3, hj3, rfl, B5, P5, Q5, X5⟩
      have Q5l := Q5.lt
      unfold sha_Of_l3b
      have lb := blkUp_len M j3
      have e8 : arr 8 .u32 (blkUp M j3) = u32s (blkUp M j3) := arr_full lb
      refine ⟨blkUp M j3, by rw [e8]; exact CellsAt.of_blk Q5, _, by omega, by omega, by show (64 : Int) ≤ ((cp - 64 * j3 : Nat) : Int); omega, by omega, rfl, ?_⟩
      rw [view_eq (by omega)]
      have hd : ((b8 M ++ zs).drop (64 * j3)).take 64 = b8 ((M.drop (64 * j3)).take 64) := by
        rw [List.drop_append_of_le_length (by rw [List.length_map]; omega), List.take_append_of_le_length (by rw [List.length_drop, List.length_map]; omega), ← List.map_drop, ← List.map_take]
      refine Step_ok (bl := (M.drop (64 * j3)).take 64) (r.ext X5 r0) lb (B5.slc hd) rfl (by rw [List.length_take, List.length_drop]; omega) (by show 64 ≤ cp - 64 * j3; omega) fun h6 X6 => ?_
      have z6 := X6.size
      have Q6 := Q5.ext X6 Q5.lt
      have P6 := P5.ext X6 P5.lt
      have B6 := B5.ext X6 B5.lt
      have lb1 := blkUp_len M (j3 + 1)
      have e9 : arr 8 .u32 (stepD (blkUp M j3) ((M.drop (64 * j3)).take 64)) = u32s (blkUp M (j3 + 1)) := arr_full lb1
      refine ⟨_, WrsAt.of_blk Q6 (by rw [List.length_map, lb]; omega), rfl, ?_⟩
      rw [e9]
      have Q7 : Blk (setsH h6 ⟨b22, 0, none⟩ 0 (u32s (blkUp M (j3 + 1)))) b22 (u32s (blkUp M (j3 + 1))) 110 := Q6.sets_all (by rw [List.length_map, List.length_map, lb, lb1])
      have o7 : ∀ i, i ≠ b22 → (setsH h6 ⟨b22, 0, none⟩ 0 (u32s (blkUp M (j3 + 1))))[i]? = h6[i]? := fun i hi => setsH_other _ _ hi
      have X7 : Ext b1 h (setsH h6 ⟨b22, 0, none⟩ 0 (u32s (blkUp M (j3 + 1)))) := (X5.trans (X6.mono (by omega))).trans (Ext.sets _ _ _ (by show b1 ≤ b22; omega))
      generalize setsH h6 ⟨b22, 0, none⟩ 0 (u32s (blkUp M (j3 + 1))) = h7' at *
      have P7' := P6.old (o7 b1 (by omega))
      have B7' := B6.old (o7 g gn)
      refine ⟨_, by omega, by show (64 : Int) ≤ ((64 * (c' + 1 - j3) : Nat) : Int); omega, by show ((64 * (c' + 1 - j3) : Nat) : Int) ≤ ((cp - 64 * j3 : Nat) : Int); omega, by omega, rfl, ?_⟩
      by_cases last : j3 = c'
      · rw [if_pos (by
          show ((((64 * (c' + 1 - j3) : Nat) : Int).toNat - (64 : Int).toNat : Nat) : Int) == 0
          rw [last]; simp)]
        refine ⟨_, _, rfl, rfl, ?_⟩
        have U := Blk.push h7' (arr 32 .u8 ([] : List Int)) 92
        have W8 := Ext.push h7' (.cells (arr 32 .u8 ([] : List Int)).toArray 92) (Nat.le_refl _)
        have q7 := Q7.lt
        have p7 := P7'.lt
        generalize h7'.push (.cells (arr 32 .u8 ([] : List Int)).toArray 92) = h8 at *
        refine Out_ok (B := b1) (h0 := h) (P7'.ext W8 p7) (Q7.ext W8 q7) U ⟨by omega, by omega, by omega⟩ ⟨Nat.le_refl _, by omega⟩ lb1 (X7.trans (W8.mono (by omega))) fun h' X' => ?_
        have := H h' X'
        unfold shaD at this
        rw [eM, lM, show 64 * (c' + 1) / 64 = j3 + 1 from by omega] at this
        exact this
      · rw [if_neg (by
          show ¬ (((((64 * (c' + 1 - j3) : Nat) : Int).toNat - (64 : Int).toNat : Nat) : Int) == 0) = true
          simp; omega)]
        rw [view_next (by omega)]
        refine ⟨⟨j3 + 1, by omega, ?_, B7', P7', Q7, X7⟩, by show 64 * (c' + 1 - j3) - 64 < 64 * (c' + 1 - j3); omega⟩
        congr 1 <;> omega
  · rw [if_pos (by simp; omega)]
    refine ⟨_, _, rfl, rfl, ?_⟩
    have W3 := Ext.push h1 (.cells ([.int .u8 0] : List Value).toArray 5) (Nat.le_refl _)
    have R3 := R1.pushed (.cells ([.int .u8 0] : List Value).toArray 5)
    generalize h1.push (.cells ([.int .u8 0] : List Value).toArray 5) = h3 at *
    have z3 := W3.size
    refine app R3 (P1.ext W3 P1.lt) (X1.trans (W3.mono (by omega))) (by simp only [List.length_append, List.length_replicate, List.length_singleton]; omega) (by omega) fun t' h4' R4 P4' X4' lt' z4' => ?_
    have nj : j ≠ padN bs.length := fun e => c (by rw [e]; exact pm)
    simp only [List.length_append, List.length_replicate, List.length_singleton] at lt'
    refine ⟨⟨j + 1, by omega, ?_, P4', X4', by omega, z4'⟩, by dsimp only; omega⟩
    rw [List.replicate_succ', ← List.append_assoc]
    exact R4
end Go.Q.Yf

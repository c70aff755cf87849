/- A part of the proof of statements of this seat: lemmas, no statement of their own. -/
import Derived.Test.YtidhlagdagbggaaDoorYfTab
import Derived.Test.YtidhlagdagbggaaDoorQDraw2
import Derived.Test.YtidhlagdagbggaaDoorQUn
set_option linter.unusedVariables false
set_option maxRecDepth 100000
set_option maxHeartbeats 1000000
namespace Go.Q.Yf
/-- math bits.RotateLeft32 -/
def math_bits_RotateLeft32 (p0 : Int) (p1 : Int) (k : (Int) → Heap → Prop) (h : Heap) : Prop :=
  ∃ x1 : Int, x1 = (bwAnd .u64 (IntKind.u64.wrap p1) 31) ∧ ((0 : Int) ≤ x1 ∧ ((0 : Int) ≤ (IntKind.u64.wrap (32 - x1)) ∧ (∃ x4 : Int, x4 = (bwOr .u32 (shl .u32 p0 x1.toNat) (shr .u32 p0 (IntKind.u64.wrap (32 - x1)).toNat)) ∧ (k x4 h))))

/-- quaestor sha.turned -/
def sha_turned_j1 (t0_1 : Int) (t1_1 : Int) (t2_1 : Int) (t11_1 : Int) (k : (Int) → Heap → Prop) (h_1 : Heap) : Prop :=
  math_bits_RotateLeft32 t0_1 (IntKind.i64.wrap (0 - t1_1)) (fun (r3 : Int) h4 => math_bits_RotateLeft32 t0_1 (IntKind.i64.wrap (0 - t2_1)) (fun (r5 : Int) h6 => ∃ x7 : Int, x7 = (bwXor .u32 (bwXor .u32 r3 r5) t11_1) ∧ (k x7 h6)) h4) h_1
def sha_turned (p0 : Int) (p1 : Int) (p2 : Int) (p3 : Int) (p4 : Bool) (k : (Int) → Heap → Prop) (h : Heap) : Prop :=
  math_bits_RotateLeft32 p0 (IntKind.i64.wrap (0 - p3)) (fun (r1 : Int) h2 => if p4 then ((0 : Int) ≤ (IntKind.u64.wrap p3) ∧ (∃ x9 : Int, x9 = (shr .u32 p0 (IntKind.u64.wrap p3).toNat) ∧ (sha_turned_j1 p0 p1 p2 x9 k h2))) else (sha_turned_j1 p0 p1 p2 r1 k h2)) h

/-- quaestor sha.schedule -/
def sha_schedule_j2 (t0_2 : Slc) (t2_2 : Addr) (t3_2 : Addr) (t6_2 : Int) (k : (List Int) → Heap → Prop) (nx1 : (Int) → Heap → Prop) (h_2 : Heap) : Prop :=
  nx1 (IntKind.i64.wrap (t6_2 + 1)) h_2
def sha_schedule_l1b (t0_1 : Slc) (t2_1 : Addr) (t3_1 : Addr) (t6_1 : Int) (k : (List Int) → Heap → Prop) (nx1 : (Int) → Heap → Prop) (h_1 : Heap) : Prop :=
  if (decide (t6_1 < 64)) then (if (decide (t6_1 < 16)) then (∃ s5 : Slc, (0 : Int) ≤ (IntKind.i64.wrap (4 * t6_1)) ∧ ((IntKind.i64.wrap (4 * t6_1)) : Int) ≤ (t0_1.len : Int) ∧ ((t0_1.len : Int) : Int) ≤ (t0_1.cap : Int) ∧ (t0_1.cap : Int) ≤ (t0_1.cap : Int) ∧ s5 = subS t0_1 1 (IntKind.i64.wrap (4 * t6_1)).toNat (t0_1.len : Int).toNat (t0_1.cap : Int).toNat ∧ (∃ a6 : Addr, s5.a = some a6 ∧ (0 : Int) ≤ 0 ∧ 0 < (s5.len : Int) ∧ (∃ v7 : Int, cellH h_1 (a6.add ((0 : Int).toNat * 1)) = some (.int .u8 v7) ∧ (∃ a8 : Addr, s5.a = some a8 ∧ (0 : Int) ≤ 1 ∧ 1 < (s5.len : Int) ∧ (∃ v9 : Int, cellH h_1 (a8.add ((1 : Int).toNat * 1)) = some (.int .u8 v9) ∧ (∃ a10 : Addr, s5.a = some a10 ∧ (0 : Int) ≤ 2 ∧ 2 < (s5.len : Int) ∧ (∃ v11 : Int, cellH h_1 (a10.add ((2 : Int).toNat * 1)) = some (.int .u8 v11) ∧ (∃ a12 : Addr, s5.a = some a12 ∧ (0 : Int) ≤ 3 ∧ 3 < (s5.len : Int) ∧ (∃ v13 : Int, cellH h_1 (a12.add ((3 : Int).toNat * 1)) = some (.int .u8 v13) ∧ ((0 : Int) ≤ t6_1 ∧ t6_1 < (64 : Int) ∧ (∃ h15 : Heap, WrH h_1 (t3_1.add (t6_1.toNat * 1)) ∧ h15 = setH h_1 (t3_1.add (t6_1.toNat * 1)) (.int .u32 (bwOr .u32 (bwOr .u32 (bwOr .u32 (shl .u32 (IntKind.u32.wrap v7) (24 : Int).toNat) (shl .u32 (IntKind.u32.wrap v9) (16 : Int).toNat)) (shl .u32 (IntKind.u32.wrap v11) (8 : Int).toNat)) (IntKind.u32.wrap v13))) ∧ (sha_schedule_j2 t0_1 t2_1 t3_1 t6_1 k nx1 h15)))))))))))) else ((0 : Int) ≤ (IntKind.i64.wrap (t6_1 - 16)) ∧ (IntKind.i64.wrap (t6_1 - 16)) < (64 : Int) ∧ (∃ v17 : Int, cellH h_1 (t3_1.add ((IntKind.i64.wrap (t6_1 - 16)).toNat * 1)) = some (.int .u32 v17) ∧ ((0 : Int) ≤ (IntKind.i64.wrap (t6_1 - 15)) ∧ (IntKind.i64.wrap (t6_1 - 15)) < (64 : Int) ∧ (∃ v19 : Int, cellH h_1 (t3_1.add ((IntKind.i64.wrap (t6_1 - 15)).toNat * 1)) = some (.int .u32 v19) ∧ ((0 : Int) ≤ (IntKind.i64.wrap (t6_1 - 7)) ∧ (IntKind.i64.wrap (t6_1 - 7)) < (64 : Int) ∧ (∃ v21 : Int, cellH h_1 (t3_1.add ((IntKind.i64.wrap (t6_1 - 7)).toNat * 1)) = some (.int .u32 v21) ∧ ((0 : Int) ≤ (IntKind.i64.wrap (t6_1 - 2)) ∧ (IntKind.i64.wrap (t6_1 - 2)) < (64 : Int) ∧ (∃ v23 : Int, cellH h_1 (t3_1.add ((IntKind.i64.wrap (t6_1 - 2)).toNat * 1)) = some (.int .u32 v23) ∧ (sha_turned v19 7 18 3 true (fun (r24 : Int) h25 => cellH h25 (t3_1.add ((IntKind.i64.wrap (t6_1 - 2)).toNat * 1)) = some (.int .u32 v23) ∧ cellH h25 (t3_1.add ((IntKind.i64.wrap (t6_1 - 7)).toNat * 1)) = some (.int .u32 v21) ∧ cellH h25 (t3_1.add ((IntKind.i64.wrap (t6_1 - 16)).toNat * 1)) = some (.int .u32 v17) ∧ (sha_turned v23 17 19 10 true (fun (r29 : Int) h30 => cellH h30 (t3_1.add ((IntKind.i64.wrap (t6_1 - 7)).toNat * 1)) = some (.int .u32 v21) ∧ cellH h30 (t3_1.add ((IntKind.i64.wrap (t6_1 - 16)).toNat * 1)) = some (.int .u32 v17) ∧ ((0 : Int) ≤ t6_1 ∧ t6_1 < (64 : Int) ∧ (∃ h34 : Heap, WrH h30 (t3_1.add (t6_1.toNat * 1)) ∧ h34 = setH h30 (t3_1.add (t6_1.toNat * 1)) (.int .u32 (IntKind.u32.wrap ((IntKind.u32.wrap ((IntKind.u32.wrap (v17 + r24)) + v21)) + r29))) ∧ (sha_schedule_j2 t0_1 t2_1 t3_1 t6_1 k nx1 h34)))) h25)) h_1)))))))))) else (∃ v35 : List Int, CellsAt h_1 t3_1 (arr 64 .u32 v35) ∧ (∃ h36 : Heap, WrsAt h_1 t2_1 64 ∧ h36 = setsH h_1 t2_1 0 (arr 64 .u32 v35) ∧ (∃ v37 : List Int, CellsAt h36 t2_1 (arr 64 .u32 v37) ∧ k v37 h36)))
def sha_schedule_l1 (t0_1 : Slc) (t2_1 : Addr) (t3_1 : Addr) (i6 : Int) (k : (List Int) → Heap → Prop) (h : Heap) : Prop :=
  ∃ (I : Int → Heap → Prop) (μ : Int → Heap → Nat), I i6 h ∧ ∀ (t6_1 : Int) (h : Heap), I t6_1 h → sha_schedule_l1b t0_1 t2_1 t3_1 t6_1 k (fun s h' => I s h' ∧ μ s h' < μ t6_1 h) h
def sha_schedule (p0 : Slc) (k : (List Int) → Heap → Prop) (h : Heap) : Prop :=
  ∃ (b1 : Nat) (h2 : Heap), b1 = h.size ∧ h2 = h.push (.cells (arr 64 .u32 ([] : List Int)).toArray 125) ∧ (∃ (b3 : Nat) (h4 : Heap), b3 = h2.size ∧ h4 = h2.push (.cells (arr 64 .u32 ([] : List Int)).toArray 125) ∧ (sha_schedule_l1 p0 (⟨b1, 0, none⟩ : Addr) (⟨b3, 0, none⟩ : Addr) 0 k h4))

/-- quaestor sha.start -/
def sha_start (k : (List Int) → Heap → Prop) (h : Heap) : Prop :=
  ∃ (b1 : Nat) (h2 : Heap), b1 = h.size ∧ h2 = h.push (.cells (arr 8 .u32 ([] : List Int)).toArray 110) ∧ (∃ h3 : Heap, WrsAt h2 (⟨b1, 0, none⟩ : Addr) 8 ∧ h3 = setsH h2 (⟨b1, 0, none⟩ : Addr) 0 (arr 8 .u32 ([1779033703, 3144134277, 1013904242, 2773480762, 1359893119, 2600822924, 528734635, 1541459225] : List Int)) ∧ (∃ v4 : List Int, CellsAt h3 (⟨b1, 0, none⟩ : Addr) (arr 8 .u32 v4) ∧ k v4 h3))

/-- (quaestor sha.words).step -/
def sha_words_step_l2b (t2_2 : Addr) (t4_2 : Addr) (t5_2 : Addr) (t77_2 : Int) (k : (List Int) → Heap → Prop) (nx1 : (Int) → Heap → Prop) (nx2 : (Int) → Heap → Prop) (h_2 : Heap) : Prop :=
  if (decide (t77_2 < 8)) then ((0 : Int) ≤ t77_2 ∧ t77_2 < (8 : Int) ∧ (∃ v56 : Int, cellH h_2 (t2_2.add (t77_2.toNat * 1)) = some (.int .u32 v56) ∧ ((0 : Int) ≤ t77_2 ∧ t77_2 < (8 : Int) ∧ (∃ v58 : Int, cellH h_2 (t5_2.add (t77_2.toNat * 1)) = some (.int .u32 v58) ∧ ((0 : Int) ≤ t77_2 ∧ t77_2 < (8 : Int) ∧ (∃ h60 : Heap, WrH h_2 (t2_2.add (t77_2.toNat * 1)) ∧ h60 = setH h_2 (t2_2.add (t77_2.toNat * 1)) (.int .u32 (IntKind.u32.wrap (v56 + v58))) ∧ (nx2 (IntKind.i64.wrap (t77_2 + 1)) h60))))))) else (∃ v61 : List Int, CellsAt h_2 t2_2 (arr 8 .u32 v61) ∧ (∃ h62 : Heap, WrsAt h_2 t4_2 8 ∧ h62 = setsH h_2 t4_2 0 (arr 8 .u32 v61) ∧ (∃ v63 : List Int, CellsAt h62 t4_2 (arr 8 .u32 v63) ∧ k v63 h62)))
def sha_words_step_l2 (t2_2 : Addr) (t4_2 : Addr) (t5_2 : Addr) (i77 : Int) (k : (List Int) → Heap → Prop) (nx1 : (Int) → Heap → Prop) (h : Heap) : Prop :=
  ∃ (I : Int → Heap → Prop) (μ : Int → Heap → Nat), I i77 h ∧ ∀ (t77_2 : Int) (h : Heap), I t77_2 h → sha_words_step_l2b t2_2 t4_2 t5_2 t77_2 k nx1 (fun s h' => I s h' ∧ μ s h' < μ t77_2 h) h
def sha_words_step_l1b (t2_1 : Addr) (t4_1 : Addr) (t5_1 : Addr) (t15_1 : List Int) (t16_1 : Int) (k : (List Int) → Heap → Prop) (nx1 : (Int) → Heap → Prop) (h_1 : Heap) : Prop :=
  if (decide (t16_1 < 64)) then ((0 : Int) ≤ t16_1 ∧ t16_1 < (64 : Int) ∧ (∃ x12 : Int, x12 = (t15_1.getD t16_1.toNat 0) ∧ ((0 : Int) ≤ 0 ∧ 0 < (8 : Int) ∧ (∃ v14 : Int, cellH h_1 (t5_1.add ((0 : Int).toNat * 1)) = some (.int .u32 v14) ∧ ((0 : Int) ≤ 4 ∧ 4 < (8 : Int) ∧ (∃ v16 : Int, cellH h_1 (t5_1.add ((4 : Int).toNat * 1)) = some (.int .u32 v16) ∧ ((0 : Int) ≤ 7 ∧ 7 < (8 : Int) ∧ (∃ v18 : Int, cellH h_1 (t5_1.add ((7 : Int).toNat * 1)) = some (.int .u32 v18) ∧ ((0 : Int) ≤ 5 ∧ 5 < (8 : Int) ∧ (∃ v20 : Int, cellH h_1 (t5_1.add ((5 : Int).toNat * 1)) = some (.int .u32 v20) ∧ ((0 : Int) ≤ 6 ∧ 6 < (8 : Int) ∧ (∃ v22 : Int, cellH h_1 (t5_1.add ((6 : Int).toNat * 1)) = some (.int .u32 v22) ∧ ((0 : Int) ≤ t16_1 ∧ t16_1 < (64 : Int) ∧ (∃ v24 : Int, cellH h_1 ((⟨0, 0, none⟩ : Addr).add (t16_1.toNat * 1)) = some (.int .u32 v24) ∧ (sha_turned v16 6 11 25 false (fun (r25 : Int) h26 => cellH h26 ((⟨0, 0, none⟩ : Addr).add (t16_1.toNat * 1)) = some (.int .u32 v24) ∧ cellH h26 (t5_1.add ((6 : Int).toNat * 1)) = some (.int .u32 v22) ∧ cellH h26 (t5_1.add ((5 : Int).toNat * 1)) = some (.int .u32 v20) ∧ cellH h26 (t5_1.add ((7 : Int).toNat * 1)) = some (.int .u32 v18) ∧ ((0 : Int) ≤ 1 ∧ 1 < (8 : Int) ∧ (∃ v32 : Int, cellH h26 (t5_1.add ((1 : Int).toNat * 1)) = some (.int .u32 v32) ∧ ((0 : Int) ≤ 2 ∧ 2 < (8 : Int) ∧ (∃ v34 : Int, cellH h26 (t5_1.add ((2 : Int).toNat * 1)) = some (.int .u32 v34) ∧ ((0 : Int) ≤ 1 ∧ 1 < (8 : Int) ∧ (∃ v36 : Int, cellH h26 (t5_1.add ((1 : Int).toNat * 1)) = some (.int .u32 v36) ∧ ((0 : Int) ≤ 2 ∧ 2 < (8 : Int) ∧ (∃ v38 : Int, cellH h26 (t5_1.add ((2 : Int).toNat * 1)) = some (.int .u32 v38) ∧ (sha_turned v14 2 13 22 false (fun (r39 : Int) h40 => cellH h40 (t5_1.add ((2 : Int).toNat * 1)) = some (.int .u32 v38) ∧ cellH h40 (t5_1.add ((1 : Int).toNat * 1)) = some (.int .u32 v36) ∧ cellH h40 (t5_1.add ((2 : Int).toNat * 1)) = some (.int .u32 v34) ∧ cellH h40 (t5_1.add ((1 : Int).toNat * 1)) = some (.int .u32 v32) ∧ (∃ s45 : Slc, (0 : Int) ≤ 1 ∧ 1 ≤ (8 : Int) ∧ 8 ≤ (8 : Int) ∧ s45 = subS ⟨some t5_1, 8, 8⟩ 1 (1 : Int).toNat (8 : Int).toNat 8 ∧ (∃ s46 : Slc, (0 : Int) ≤ 0 ∧ 0 ≤ (7 : Int) ∧ 7 ≤ (8 : Int) ∧ s46 = subS ⟨some t5_1, 8, 8⟩ 1 (0 : Int).toNat (7 : Int).toNat 8 ∧ (∃ l47 : List Value, Cpy 1 h40 s45 s46 l47 (fun h48 => (0 : Int) ≤ 4 ∧ 4 < (8 : Int) ∧ (∃ v50 : Int, cellH h48 (t5_1.add ((4 : Int).toNat * 1)) = some (.int .u32 v50) ∧ ((0 : Int) ≤ 0 ∧ 0 < (8 : Int) ∧ (∃ h52 : Heap, WrH h48 (t5_1.add ((0 : Int).toNat * 1)) ∧ h52 = setH h48 (t5_1.add ((0 : Int).toNat * 1)) (.int .u32 (IntKind.u32.wrap ((IntKind.u32.wrap ((IntKind.u32.wrap ((IntKind.u32.wrap ((IntKind.u32.wrap (v18 + r25)) + (bwXor .u32 (bwAnd .u32 v16 v20) (bwAnd .u32 (bwXor .u32 4294967295 v16) v22)))) + v24)) + x12)) + (IntKind.u32.wrap (r39 + (bwXor .u32 (bwXor .u32 (bwAnd .u32 v14 v32) (bwAnd .u32 v14 v34)) (bwAnd .u32 v36 v38))))))) ∧ ((0 : Int) ≤ 4 ∧ 4 < (8 : Int) ∧ (∃ h54 : Heap, WrH h52 (t5_1.add ((4 : Int).toNat * 1)) ∧ h54 = setH h52 (t5_1.add ((4 : Int).toNat * 1)) (.int .u32 (IntKind.u32.wrap (v50 + (IntKind.u32.wrap ((IntKind.u32.wrap ((IntKind.u32.wrap ((IntKind.u32.wrap (v18 + r25)) + (bwXor .u32 (bwAnd .u32 v16 v20) (bwAnd .u32 (bwXor .u32 4294967295 v16) v22)))) + v24)) + x12))))) ∧ (nx1 (IntKind.i64.wrap (t16_1 + 1)) h54))))))))))) h26)))))))))) h_1))))))))))))))) else (sha_words_step_l2 t2_1 t4_1 t5_1 0 k nx1 h_1)
def sha_words_step_l1 (t2_1 : Addr) (t4_1 : Addr) (t5_1 : Addr) (t15_1 : List Int) (i16 : Int) (k : (List Int) → Heap → Prop) (h : Heap) : Prop :=
  ∃ (I : Int → Heap → Prop) (μ : Int → Heap → Nat), I i16 h ∧ ∀ (t16_1 : Int) (h : Heap), I t16_1 h → sha_words_step_l1b t2_1 t4_1 t5_1 t15_1 t16_1 k (fun s h' => I s h' ∧ μ s h' < μ t16_1 h) h
def sha_words_step (p0 : List Int) (p1 : Slc) (k : (List Int) → Heap → Prop) (h : Heap) : Prop :=
  ∃ (b1 : Nat) (h2 : Heap), b1 = h.size ∧ h2 = h.push (.cells (arr 8 .u32 p0).toArray 110) ∧ (∃ (b3 : Nat) (h4 : Heap), b3 = h2.size ∧ h4 = h2.push (.cells (arr 8 .u32 ([] : List Int)).toArray 110) ∧ (∃ v5 : List Int, CellsAt h4 (⟨b1, 0, none⟩ : Addr) (arr 8 .u32 v5) ∧ (∃ (b6 : Nat) (h7 : Heap), b6 = h4.size ∧ h7 = h4.push (.cells (arr 8 .u32 ([] : List Int)).toArray 110) ∧ (∃ h8 : Heap, WrsAt h7 (⟨b6, 0, none⟩ : Addr) 8 ∧ h8 = setsH h7 (⟨b6, 0, none⟩ : Addr) 0 (arr 8 .u32 v5) ∧ (sha_schedule p1 (fun (r9 : List Int) h10 => sha_words_step_l1 (⟨b1, 0, none⟩ : Addr) (⟨b3, 0, none⟩ : Addr) (⟨b6, 0, none⟩ : Addr) r9 0 k h10) h8)))))

/-- slices.Grow   byte byte  -/
def slices_Grow_byte_byte_j2 (t0_2 : Slc) (k : (Slc) → Heap → Prop) (h_2 : Heap) : Prop :=
  k t0_2 h_2
def slices_Grow_byte_byte_j1 (t0_1 : Slc) (t1_1 : Int) (k : (Slc) → Heap → Prop) (h_1 : Heap) : Prop :=
  ∃ x1 : Int, x1 = (IntKind.i64.wrap (t1_1 - (IntKind.i64.wrap ((t0_1.cap : Int) - (t0_1.len : Int))))) ∧ (if (decide (x1 > 0)) then (∃ s2 : Slc, (0 : Int) ≤ 0 ∧ (0 : Int) ≤ (t0_1.cap : Int) ∧ ((t0_1.cap : Int) : Int) ≤ (t0_1.cap : Int) ∧ (t0_1.cap : Int) ≤ (t0_1.cap : Int) ∧ s2 = subS t0_1 1 (0 : Int).toNat (t0_1.cap : Int).toNat (t0_1.cap : Int).toNat ∧ ((0 : Int) ≤ x1 ∧ s2.cap < s2.len + x1.toNat ∧ 0 < x1.toNat * 1 ∧ App 5 1 1 [.int .u8 0] h_1 s2 x1.toNat (Builtin.zeroCells ([.int .u8 0] : List Value).toArray x1.toNat).toList (fun s3 h4 => ∃ s5 : Slc, (0 : Int) ≤ 0 ∧ (0 : Int) ≤ (t0_1.len : Int) ∧ ((t0_1.len : Int) : Int) ≤ (s3.cap : Int) ∧ (s3.cap : Int) ≤ (s3.cap : Int) ∧ s5 = subS s3 1 (0 : Int).toNat (t0_1.len : Int).toNat (s3.cap : Int).toNat ∧ (slices_Grow_byte_byte_j2 s5 k h4)))) else (slices_Grow_byte_byte_j2 t0_1 k h_1))
def slices_Grow_byte_byte (p0 : Slc) (p1 : Int) (k : (Slc) → Heap → Prop) (h : Heap) : Prop :=
  if (decide (p1 < 0)) then (False) else (slices_Grow_byte_byte_j1 p0 p1 k h)

/-- slices.Concat   byte byte  -/
def slices_Concat_byte_byte_j2 (t0_2 : Slc) (t9_2 : Slc) (t10_2 : Int) (t11_2 : Int) (t3_2 : Int) (k : (Slc) → Heap → Prop) (nx1 : (Int × Int) → Heap → Prop) (h_2 : Heap) : Prop :=
  nx1 (t3_2, (IntKind.i64.wrap (t11_2 + 1))) h_2
def slices_Concat_byte_byte_l3b (t25_3 : Slc) (t26_3 : Int) (t6_3 : Slc) (t27_3 : Int) (k : (Slc) → Heap → Prop) (nx1 : (Int × Int) → Heap → Prop) (nx3 : (Slc × Int) → Heap → Prop) (h_3 : Heap) : Prop :=
  if (decide (t27_3 < t26_3)) then (∃ a6 : Addr, t25_3.a = some a6 ∧ (0 : Int) ≤ t27_3 ∧ t27_3 < (t25_3.len : Int) ∧ (∃ v7 : Slc, cellH h_3 (a6.add (t27_3.toNat * 1)) = some (Slc.v v7) ∧ (∃ l10 : List Value, SlcAt h_3 v7 l10 ∧ App 5 1 1 [.int .u8 0] h_3 t6_3 v7.len l10 (fun s8 h9 => nx3 (s8, (IntKind.i64.wrap (t27_3 + 1))) h9)))) else (k t6_3 h_3)
def slices_Concat_byte_byte_l3 (t25_3 : Slc) (t26_3 : Int) (i6 : Slc) (i27 : Int) (k : (Slc) → Heap → Prop) (nx1 : (Int × Int) → Heap → Prop) (h : Heap) : Prop :=
  ∃ (I : (Slc × Int) → Heap → Prop) (μ : (Slc × Int) → Heap → Nat), I (i6, i27) h ∧ ∀ (t6_3 : Slc) (t27_3 : Int) (h : Heap), I (t6_3, t27_3) h → slices_Concat_byte_byte_l3b t25_3 t26_3 t6_3 t27_3 k nx1 (fun s h' => I s h' ∧ μ s h' < μ (t6_3, t27_3) h) h
def slices_Concat_byte_byte_l1b (t0_1 : Slc) (t9_1 : Slc) (t10_1 : Int) (t3_1 : Int) (t11_1 : Int) (k : (Slc) → Heap → Prop) (nx1 : (Int × Int) → Heap → Prop) (h_1 : Heap) : Prop :=
  if (decide (t11_1 < t10_1)) then (∃ a1 : Addr, t9_1.a = some a1 ∧ (0 : Int) ≤ t11_1 ∧ t11_1 < (t9_1.len : Int) ∧ (∃ v2 : Slc, cellH h_1 (a1.add (t11_1.toNat * 1)) = some (Slc.v v2) ∧ (∃ x3 : Int, x3 = (IntKind.i64.wrap (t3_1 + (v2.len : Int))) ∧ (if (decide (x3 < 0)) then (False) else (slices_Concat_byte_byte_j2 t0_1 t9_1 t10_1 t11_1 x3 k nx1 h_1))))) else (slices_Grow_byte_byte (⟨none, 0, 0⟩ : Slc) t3_1 (fun (r4 : Slc) h5 => slices_Concat_byte_byte_l3 t0_1 (t0_1.len : Int) r4 0 k nx1 h5) h_1)
def slices_Concat_byte_byte_l1 (t0_1 : Slc) (t9_1 : Slc) (t10_1 : Int) (i3 : Int) (i11 : Int) (k : (Slc) → Heap → Prop) (h : Heap) : Prop :=
  ∃ (I : (Int × Int) → Heap → Prop) (μ : (Int × Int) → Heap → Nat), I (i3, i11) h ∧ ∀ (t3_1 : Int) (t11_1 : Int) (h : Heap), I (t3_1, t11_1) h → slices_Concat_byte_byte_l1b t0_1 t9_1 t10_1 t3_1 t11_1 k (fun s h' => I s h' ∧ μ s h' < μ (t3_1, t11_1) h) h
def slices_Concat_byte_byte (p0 : Slc) (k : (Slc) → Heap → Prop) (h : Heap) : Prop :=
  slices_Concat_byte_byte_l1 p0 p0 (p0.len : Int) 0 0 k h

/-- quaestor sha.Of -/
def sha_Of_l4b (t2_4 : Addr) (t6_4 : Addr) (t7_4 : Addr) (t47_4 : Int) (k : (List Int) → Heap → Prop) (nx1 : (Slc) → Heap → Prop) (nx2 : (Slc × Int) → Heap → Prop) (nx3 : (Slc) → Heap → Prop) (nx4 : (Int) → Heap → Prop) (h_4 : Heap) : Prop :=
  if (decide (t47_4 < 32)) then ((0 : Int) ≤ (shr .i64 t47_4 (2 : Int).toNat) ∧ (shr .i64 t47_4 (2 : Int).toNat) < (8 : Int) ∧ (∃ v34 : Int, cellH h_4 (t6_4.add ((shr .i64 t47_4 (2 : Int).toNat).toNat * 1)) = some (.int .u32 v34) ∧ ((0 : Int) ≤ (IntKind.u64.wrap (24 - (IntKind.u64.wrap (8 * (bwAnd .u64 (IntKind.u64.wrap t47_4) 3))))) ∧ ((0 : Int) ≤ t47_4 ∧ t47_4 < (32 : Int) ∧ (∃ h37 : Heap, WrH h_4 (t7_4.add (t47_4.toNat * 1)) ∧ h37 = setH h_4 (t7_4.add (t47_4.toNat * 1)) (.int .u8 (IntKind.u8.wrap (shr .u32 v34 (IntKind.u64.wrap (24 - (IntKind.u64.wrap (8 * (bwAnd .u64 (IntKind.u64.wrap t47_4) 3))))).toNat))) ∧ (nx4 (IntKind.i64.wrap (t47_4 + 1)) h37)))))) else (∃ v38 : List Int, CellsAt h_4 t7_4 (arr 32 .u8 v38) ∧ (∃ h39 : Heap, WrsAt h_4 t2_4 32 ∧ h39 = setsH h_4 t2_4 0 (arr 32 .u8 v38) ∧ (∃ v40 : List Int, CellsAt h39 t2_4 (arr 32 .u8 v40) ∧ k v40 h39)))
def sha_Of_l4 (t2_4 : Addr) (t6_4 : Addr) (t7_4 : Addr) (i47 : Int) (k : (List Int) → Heap → Prop) (nx1 : (Slc) → Heap → Prop) (nx2 : (Slc × Int) → Heap → Prop) (nx3 : (Slc) → Heap → Prop) (h : Heap) : Prop :=
  ∃ (I : Int → Heap → Prop) (μ : Int → Heap → Nat), I i47 h ∧ ∀ (t47_4 : Int) (h : Heap), I t47_4 h → sha_Of_l4b t2_4 t6_4 t7_4 t47_4 k nx1 nx2 nx3 (fun s h' => I s h' ∧ μ s h' < μ t47_4 h) h
def sha_Of_l3b (t2_3 : Addr) (t6_3 : Addr) (t3_3 : Slc) (k : (List Int) → Heap → Prop) (nx1 : (Slc) → Heap → Prop) (nx2 : (Slc × Int) → Heap → Prop) (nx3 : (Slc) → Heap → Prop) (h_3 : Heap) : Prop :=
  ∃ v25 : List Int, CellsAt h_3 t6_3 (arr 8 .u32 v25) ∧ (∃ s26 : Slc, (0 : Int) ≤ 0 ∧ (0 : Int) ≤ 64 ∧ (64 : Int) ≤ (t3_3.cap : Int) ∧ (t3_3.cap : Int) ≤ (t3_3.cap : Int) ∧ s26 = subS t3_3 1 (0 : Int).toNat (64 : Int).toNat (t3_3.cap : Int).toNat ∧ (sha_words_step v25 s26 (fun (r27 : List Int) h28 => ∃ h29 : Heap, WrsAt h28 t6_3 8 ∧ h29 = setsH h28 t6_3 0 (arr 8 .u32 r27) ∧ (∃ s30 : Slc, (0 : Int) ≤ 64 ∧ (64 : Int) ≤ (t3_3.len : Int) ∧ ((t3_3.len : Int) : Int) ≤ (t3_3.cap : Int) ∧ (t3_3.cap : Int) ≤ (t3_3.cap : Int) ∧ s30 = subS t3_3 1 (64 : Int).toNat (t3_3.len : Int).toNat (t3_3.cap : Int).toNat ∧ (if ((s30.len : Int) == 0) then (∃ (b31 : Nat) (h32 : Heap), b31 = h29.size ∧ h32 = h29.push (.cells (arr 32 .u8 ([] : List Int)).toArray 92) ∧ (sha_Of_l4 t2_3 t6_3 (⟨b31, 0, none⟩ : Addr) 0 k nx1 nx2 nx3 h32)) else (nx3 s30 h29)))) h_3))
def sha_Of_l3 (t2_3 : Addr) (t6_3 : Addr) (i3 : Slc) (k : (List Int) → Heap → Prop) (nx1 : (Slc) → Heap → Prop) (nx2 : (Slc × Int) → Heap → Prop) (h : Heap) : Prop :=
  ∃ (I : Slc → Heap → Prop) (μ : Slc → Heap → Nat), I i3 h ∧ ∀ (t3_3 : Slc) (h : Heap), I t3_3 h → sha_Of_l3b t2_3 t6_3 t3_3 k nx1 nx2 (fun s h' => I s h' ∧ μ s h' < μ t3_3 h) h
def sha_Of_l2b (t2_2 : Addr) (t4_2 : Int) (t3_2 : Slc) (t5_2 : Int) (k : (List Int) → Heap → Prop) (nx1 : (Slc) → Heap → Prop) (nx2 : (Slc × Int) → Heap → Prop) (h_2 : Heap) : Prop :=
  if (decide (t5_2 ≥ 0)) then ((0 : Int) ≤ (IntKind.u64.wrap t5_2) ∧ (∃ (b15 : Nat) (h16 : Heap), b15 = h_2.size ∧ h16 = h_2.push (.cells ([.int .u8 (IntKind.u8.wrap (shr .u64 t4_2 (IntKind.u64.wrap t5_2).toNat))]).toArray 5) ∧ (App 5 1 1 [.int .u8 0] h16 t3_2 1 ([.int .u8 (IntKind.u8.wrap (shr .u64 t4_2 (IntKind.u64.wrap t5_2).toNat))]) (fun s17 h18 => ∃ x19 : Int, x19 = (IntKind.i64.wrap (t5_2 - 8)) ∧ (nx2 (s17, x19) h18))))) else (sha_start  (fun (r20 : List Int) h21 => ∃ (b22 : Nat) (h23 : Heap), b22 = h21.size ∧ h23 = h21.push (.cells (arr 8 .u32 ([] : List Int)).toArray 110) ∧ (∃ h24 : Heap, WrsAt h23 (⟨b22, 0, none⟩ : Addr) 8 ∧ h24 = setsH h23 (⟨b22, 0, none⟩ : Addr) 0 (arr 8 .u32 r20) ∧ (sha_Of_l3 t2_2 (⟨b22, 0, none⟩ : Addr) t3_2 k nx1 nx2 h24))) h_2)
def sha_Of_l2 (t2_2 : Addr) (t4_2 : Int) (i3 : Slc) (i5 : Int) (k : (List Int) → Heap → Prop) (nx1 : (Slc) → Heap → Prop) (h : Heap) : Prop :=
  ∃ (I : (Slc × Int) → Heap → Prop) (μ : (Slc × Int) → Heap → Nat), I (i3, i5) h ∧ ∀ (t3_2 : Slc) (t5_2 : Int) (h : Heap), I (t3_2, t5_2) h → sha_Of_l2b t2_2 t4_2 t3_2 t5_2 k nx1 (fun s h' => I s h' ∧ μ s h' < μ (t3_2, t5_2) h) h
def sha_Of_l1b (t2_1 : Addr) (t4_1 : Int) (t3_1 : Slc) (k : (List Int) → Heap → Prop) (nx1 : (Slc) → Heap → Prop) (h_1 : Heap) : Prop :=
  if ((bwAnd .i64 (t3_1.len : Int) 63) != 56) then (∃ (b10 : Nat) (h11 : Heap), b10 = h_1.size ∧ h11 = h_1.push (.cells ([.int .u8 0]).toArray 5) ∧ (App 5 1 1 [.int .u8 0] h11 t3_1 1 ([.int .u8 0]) (fun s12 h13 => nx1 s12 h13))) else (sha_Of_l2 t2_1 t4_1 t3_1 56 k nx1 h_1)
def sha_Of_l1 (t2_1 : Addr) (t4_1 : Int) (i3 : Slc) (k : (List Int) → Heap → Prop) (h : Heap) : Prop :=
  ∃ (I : Slc → Heap → Prop) (μ : Slc → Heap → Nat), I i3 h ∧ ∀ (t3_1 : Slc) (h : Heap), I t3_1 h → sha_Of_l1b t2_1 t4_1 t3_1 k (fun s h' => I s h' ∧ μ s h' < μ t3_1 h) h
def sha_Of (p0 : Slc) (k : (List Int) → Heap → Prop) (h : Heap) : Prop :=
  ∃ (b1 : Nat) (h2 : Heap), b1 = h.size ∧ h2 = h.push (.cells (arr 32 .u8 ([] : List Int)).toArray 92) ∧ (slices_Concat_byte_byte p0 (fun (r3 : Slc) h4 => ∃ x5 : Int, x5 = (shl .u64 (IntKind.u64.wrap (r3.len : Int)) (3 : Int).toNat) ∧ (∃ (b6 : Nat) (h7 : Heap), b6 = h4.size ∧ h7 = h4.push (.cells ([.int .u8 128]).toArray 5) ∧ (App 5 1 1 [.int .u8 0] h7 r3 1 ([.int .u8 128]) (fun s8 h9 => sha_Of_l1 (⟨b1, 0, none⟩ : Addr) x5 s8 k h9)))) h2)

/-- quaestor num.Get -/
def num_Get_l1b (t0_1 : Slc) (t6_1 : Int) (t7_1 : Int) (k : (Int × Int) → Heap → Prop) (nx1 : (Int × Int) → Heap → Prop) (h_1 : Heap) : Prop :=
  if (decide (t7_1 ≥ 0)) then (∃ a2 : Addr, t0_1.a = some a2 ∧ (0 : Int) ≤ t7_1 ∧ t7_1 < (t0_1.len : Int) ∧ (∃ v3 : Int, cellH h_1 (a2.add (t7_1.toNat * 1)) = some (.int .u8 v3) ∧ (∃ x4 : Int, x4 = (bwOr .u64 (shl .u64 t6_1 (8 : Int).toNat) (IntKind.u64.wrap v3)) ∧ (∃ x5 : Int, x5 = (IntKind.i64.wrap (t7_1 - 1)) ∧ (nx1 (x4, x5) h_1))))) else (k (t6_1, 0) h_1)
def num_Get_l1 (t0_1 : Slc) (i6 : Int) (i7 : Int) (k : (Int × Int) → Heap → Prop) (h : Heap) : Prop :=
  ∃ (I : (Int × Int) → Heap → Prop) (μ : (Int × Int) → Heap → Nat), I (i6, i7) h ∧ ∀ (t6_1 : Int) (t7_1 : Int) (h : Heap), I (t6_1, t7_1) h → num_Get_l1b t0_1 t6_1 t7_1 k (fun s h' => I s h' ∧ μ s h' < μ (t6_1, t7_1) h) h
def num_Get (p0 : Slc) (p1 : Int) (k : (Int × Int) → Heap → Prop) (h : Heap) : Prop :=
  if ((decide (p1 < 1)) || (decide (p1 > 8))) then (k (0, 1) h) else (if (decide ((p0.len : Int) < p1)) then (k (0, 2) h) else (∃ x1 : Int, x1 = (IntKind.i64.wrap (p1 - 1)) ∧ (num_Get_l1 p0 0 x1 k h)))

/-- quaestor sha.Short -/
def sha_Short (p0 : List Int) (k : (Int) → Heap → Prop) (h : Heap) : Prop :=
  ∃ (b1 : Nat) (h2 : Heap), b1 = h.size ∧ h2 = h.push (.cells (arr 32 .u8 p0).toArray 92) ∧ (∃ s3 : Slc, (0 : Int) ≤ 0 ∧ 0 ≤ (32 : Int) ∧ 32 ≤ (32 : Int) ∧ s3 = subS ⟨some (⟨b1, 0, none⟩ : Addr), 32, 32⟩ 1 (0 : Int).toNat (32 : Int).toNat 32 ∧ (num_Get s3 8 (fun (r4 : Int × Int) h5 => k r4.1 h5) h2))

theorem math_bits_RotateLeft32_ok : CallOk Go.Proofs.Tryd.prog 84 := ⟨_, Go.Proofs.Tryd.func84, by kernel_rfl, by kernel_rfl⟩
theorem math_bits_RotateLeft32_ref (p0 : Int) (p1 : Int) (k : (Int) → Heap → Prop) (h : Heap) (H : math_bits_RotateLeft32 p0 p1 k h) : CallsH Go.Proofs.Tryd.prog 84 #[.int .u32 p0, .int .i64 p1] h (fun v h' => ∃ r : Int, v = .int .u32 r ∧ k r h') := by
  refine f_enter (N := 17) Go.Proofs.Tryd.func84 rfl rfl rfl (fun w0 => ?_)
  unfold math_bits_RotateLeft32 at H
  refine c_weak [(0, .int .u32 p0), (1, .int .i64 p1)] ⟨rfl, rfl, trivial⟩ ?_
  refine c_seq ?_
  refine c_region ?_
  refine w_p tok rfl rfl rfl ?_
  refine w_end ?_
  refine x_seq ?_
  refine c_seq ?_
  refine c_region ?_
  refine w_p tok rfl rfl rfl ?_
  refine w_p tok rfl rfl rfl ?_
  refine w_p tok rfl rfl rfl ?_
  obtain ⟨x1, ex1, H⟩ := H
  refine w_pe tok rfl (congrArg (fun z => (.int .u64 z : Value)) ex1) rfl rfl ?_
  refine w_end ?_
  refine x_seq ?_
  refine c_seq ?_
  refine c_region ?_
  refine w_p tok rfl rfl rfl ?_
  refine w_p tok rfl rfl rfl ?_
  obtain ⟨z2, H⟩ := H
  refine w_y (y_shl rfl rfl rfl z2) rfl rfl ?_
  refine w_p tok rfl rfl rfl ?_
  refine w_p tok rfl rfl rfl ?_
  refine w_p tok rfl rfl rfl ?_
  obtain ⟨z3, H⟩ := H
  refine w_y (y_shr rfl rfl rfl z3) rfl rfl ?_
  refine w_p tok rfl rfl rfl ?_
  obtain ⟨x4, ex4, H⟩ := H
  refine w_pe tok rfl (congrArg (fun z => (.int .u32 z : Value)) ex4) rfl rfl ?_
  refine w_end ?_
  refine x_seq ?_
  refine c_weak [(4, .int .u32 x4)] ⟨rfl, trivial⟩ ?_
  refine c_ret ?_
  exact x_ret _ rfl _ rfl ⟨x4, rfl, H⟩

theorem sha_turned_ok : CallOk Go.Proofs.Tryd.prog 77 := ⟨_, Go.Proofs.Tryd.func77, by kernel_rfl, by kernel_rfl⟩
theorem sha_turned_ref (p0 : Int) (p1 : Int) (p2 : Int) (p3 : Int) (p4 : Bool) (k : (Int) → Heap → Prop) (h : Heap) (H : sha_turned p0 p1 p2 p3 p4 k h) : CallsH Go.Proofs.Tryd.prog 77 #[.int .u32 p0, .int .i64 p1, .int .i64 p2, .int .i64 p3, .bool p4] h (fun v h' => ∃ r : Int, v = .int .u32 r ∧ k r h') := by
  refine f_enter (N := 32) Go.Proofs.Tryd.func77 rfl rfl rfl (fun w0 => ?_)
  unfold sha_turned at H
  refine c_weak [(0, .int .u32 p0), (1, .int .i64 p1), (2, .int .i64 p2), (3, .int .i64 p3), (4, .bool p4)] ⟨rfl, rfl, rfl, rfl, rfl, trivial⟩ ?_
  refine c_seq ?_
  refine c_region ?_
  refine w_p tok rfl rfl rfl ?_
  refine w_end ?_
  refine x_seq ?_
  refine c_seq ?_
  refine c_region ?_
  refine w_p tok rfl rfl rfl ?_
  refine w_p tok rfl rfl rfl ?_
  refine w_p tok rfl rfl rfl ?_
  refine w_call math_bits_RotateLeft32_ok (math_bits_RotateLeft32_ref _ _ _ _ H) rfl rfl rfl rfl ?_
  rintro _ h2 ⟨r1, rfl, H⟩
  refine w_p tok rfl rfl rfl ?_
  refine w_end ?_
  refine x_seq ?_
  refine c_seqJ (α := Int) (fun (s : Int) => [(11, .int .u32 s), (0, .int .u32 p0), (1, .int .i64 p1), (2, .int .i64 p2)]) (fun (s : Int) h => sha_turned_j1 p0 p1 p2 s k h) ?_ ?_
  ·
    rintro t11_1 h_1 H
    replace H : sha_turned_j1 p0 p1 p2 t11_1 k h_1 := H
    unfold sha_turned_j1 at H
    refine c_weak [(11, .int .u32 t11_1), (0, .int .u32 p0), (1, .int .i64 p1), (2, .int .i64 p2)] ⟨rfl, rfl, rfl, rfl, trivial⟩ ?_
    refine c_seq ?_
    refine c_region ?_
    refine w_p tok rfl rfl rfl ?_
    refine w_p tok rfl rfl rfl ?_
    refine w_p tok rfl rfl rfl ?_
    refine w_call math_bits_RotateLeft32_ok (math_bits_RotateLeft32_ref _ _ _ _ H) rfl rfl rfl rfl ?_
    rintro _ h4 ⟨r3, rfl, H⟩
    refine w_p tok rfl rfl rfl ?_
    refine w_p tok rfl rfl rfl ?_
    refine w_p tok rfl rfl rfl ?_
    refine w_call math_bits_RotateLeft32_ok (math_bits_RotateLeft32_ref _ _ _ _ H) rfl rfl rfl rfl ?_
    rintro _ h6 ⟨r5, rfl, H⟩
    refine w_p tok rfl rfl rfl ?_
    refine w_p tok rfl rfl rfl ?_
    refine w_p tok rfl rfl rfl ?_
    obtain ⟨x7, ex7, H⟩ := H
    refine w_pe tok rfl (congrArg (fun z => (.int .u32 z : Value)) ex7) rfl rfl ?_
    refine w_end ?_
    refine x_seq ?_
    refine c_weak [(10, .int .u32 x7)] ⟨rfl, trivial⟩ ?_
    refine c_ret ?_
    exact x_ret _ rfl _ rfl ⟨x7, rfl, H⟩
  ·
    refine c_seq ?_
    refine c_region ?_
    refine w_p tok rfl rfl rfl ?_
    refine w_end ?_
    refine x_seq ?_
    refine c_if H rfl (fun H => ?_) (fun H => ?_)
    ·
      refine c_region ?_
      refine w_p tok rfl rfl rfl ?_
      refine w_p tok rfl rfl rfl ?_
      refine w_p tok rfl rfl rfl ?_
      obtain ⟨z8, H⟩ := H
      refine w_y (y_shr rfl rfl rfl z8) rfl rfl ?_
      obtain ⟨x9, ex9, H⟩ := H
      refine w_pe tok rfl (congrArg (fun z => (.int .u32 z : Value)) ex9) rfl rfl ?_
      refine w_end ?_
      exact x_join x9 H ⟨rfl, rfl, rfl, rfl, trivial⟩
    ·
      refine c_skip ?_
      exact x_join r1 H ⟨rfl, rfl, rfl, rfl, trivial⟩

theorem sha_schedule_ok : CallOk Go.Proofs.Tryd.prog 76 := ⟨_, Go.Proofs.Tryd.func76, by kernel_rfl, by kernel_rfl⟩
theorem sha_schedule_ref (p0 : Slc) (k : (List Int) → Heap → Prop) (h : Heap) (H : sha_schedule p0 k h) : CallsH Go.Proofs.Tryd.prog 76 #[Slc.v p0] h (fun v h' => ∃ r : List Int, v = .agg (arr 64 .u32 r).toArray ∧ k r h') := by
  refine f_enter (N := 64) Go.Proofs.Tryd.func76 rfl rfl rfl (fun w0 => ?_)
  unfold sha_schedule at H
  refine c_weak [(0, Slc.v p0)] ⟨rfl, trivial⟩ ?_
  refine c_seq ?_
  refine c_region ?_
  obtain ⟨b1, h2, eb1, eh2, H⟩ := H
  refine w_h (h_alloc tok rfl rfl eb1 eh2) rfl rfl ?_
  refine w_end ?_
  refine x_seq ?_
  refine c_seq ?_
  refine c_region ?_
  obtain ⟨b3, h4, eb3, eh4, H⟩ := H
  refine w_h (h_alloc tok rfl rfl eb3 eh4) rfl rfl ?_
  refine w_end ?_
  refine x_seq ?_
  refine c_seq ?_
  refine c_seq ?_
  refine c_region ?_
  refine w_p tok rfl rfl rfl ?_
  refine w_end ?_
  refine x_seq ?_
  refine c_block ?_
  obtain ⟨I1, μ1, H0, HI⟩ := H
  refine c_loop (σ := Int) (fun (s : Int) => [(6, .int .i64 s), (0, Slc.v p0), (2, .pointer (some (⟨b1, 0, none⟩ : Addr))), (3, .pointer (some (⟨b3, 0, none⟩ : Addr)))]) I1 μ1 0 H0 ⟨rfl, rfl, rfl, rfl, trivial⟩ ?_
  rintro t6_1 h_1 H
  replace H := HI t6_1 h_1 H
  unfold sha_schedule_l1b at H
  refine c_weak [(6, .int .i64 t6_1), (0, Slc.v p0), (2, .pointer (some (⟨b1, 0, none⟩ : Addr))), (3, .pointer (some (⟨b3, 0, none⟩ : Addr)))] ⟨rfl, rfl, rfl, rfl, trivial⟩ ?_
  refine c_seq ?_
  refine c_region ?_
  refine w_p tok rfl rfl rfl ?_
  refine w_end ?_
  refine x_seq ?_
  refine c_seq ?_
  refine c_if H rfl (fun H => ?_) (fun H => ?_)
  ·
    refine c_skip ?_
    refine x_seq ?_
    refine c_seqJ (α := Unit) (fun (s : Unit) => [(0, Slc.v p0), (2, .pointer (some (⟨b1, 0, none⟩ : Addr))), (3, .pointer (some (⟨b3, 0, none⟩ : Addr))), (6, .int .i64 t6_1)]) (fun (s : Unit) h => sha_schedule_j2 p0 (⟨b1, 0, none⟩ : Addr) (⟨b3, 0, none⟩ : Addr) t6_1 k (fun s h' => I1 s h' ∧ μ1 s h' < μ1 t6_1 h_1) h) ?_ ?_
    ·
      rintro _ h_2 H
      replace H : sha_schedule_j2 p0 (⟨b1, 0, none⟩ : Addr) (⟨b3, 0, none⟩ : Addr) t6_1 k (fun s h' => I1 s h' ∧ μ1 s h' < μ1 t6_1 h_1) h_2 := H
      unfold sha_schedule_j2 at H
      refine c_weak [(0, Slc.v p0), (2, .pointer (some (⟨b1, 0, none⟩ : Addr))), (3, .pointer (some (⟨b3, 0, none⟩ : Addr))), (6, .int .i64 t6_1)] ⟨rfl, rfl, rfl, rfl, trivial⟩ ?_
      refine c_region ?_
      refine w_p tok rfl rfl rfl ?_
      refine w_p tok rfl rfl rfl ?_
      refine w_end ?_
      exact x_join (IntKind.i64.wrap (t6_1 + 1)) H ⟨rfl, rfl, rfl, rfl, trivial⟩
    ·
      refine c_block ?_
      refine c_seq ?_
      refine c_region ?_
      refine w_p tok rfl rfl rfl ?_
      refine w_p tok rfl rfl rfl ?_
      refine w_end ?_
      refine x_seq ?_
      refine c_seq ?_
      refine c_seq ?_
      refine c_region ?_
      refine w_p tok rfl rfl rfl ?_
      refine w_p tok rfl rfl rfl ?_
      refine w_end ?_
      refine x_seq ?_
      refine c_if H rfl (fun H => ?_) (fun H => ?_)
      ·
        refine c_seq ?_
        refine c_region ?_
        refine w_p tok rfl rfl rfl ?_
        refine w_p tok rfl rfl rfl ?_
        refine w_p tok rfl rfl rfl ?_
        obtain ⟨s5, ps5, qs5, rs5, ts5, es5, H⟩ := H
        refine w_ye (y_sl (s := p0) (L := (IntKind.i64.wrap (4 * t6_1))) (H := (p0.len : Int)) (M := (p0.cap : Int)) tok rfl rfl rfl rfl rfl rfl rfl (by simp) ps5 qs5 rs5 ts5) (congrArg Slc.v es5) rfl rfl ?_
        refine w_p tok rfl rfl rfl ?_
        refine w_end ?_
        refine x_seq ?_
        refine c_weak [(6, .int .i64 t6_1), (0, Slc.v p0), (2, .pointer (some (⟨b1, 0, none⟩ : Addr))), (3, .pointer (some (⟨b3, 0, none⟩ : Addr))), (4, .int .i64 t6_1), (5, Slc.v s5)] ⟨rfl, rfl, rfl, rfl, rfl, rfl, trivial⟩ ?_
        refine c_seq ?_
        refine c_sim [(0, Slc.v p0), (2, .pointer (some (⟨b1, 0, none⟩ : Addr))), (3, .pointer (some (⟨b3, 0, none⟩ : Addr))), (4, .int .i64 t6_1), (5, Slc.v s5), (6, .int .i64 t6_1)] (by kernel_rfl) (by kernel_rfl) ⟨rfl, rfl, rfl, rfl, rfl, rfl, trivial⟩ (fun wf => ?_)
        refine sim_p 0 (ei := [(4, .int .i64 t6_1)]) (d := (some 15)) wf (by kernel_rfl) ⟨rfl, trivial⟩ (by kernel_rfl) (by kernel_rfl) (fun _ => pf_p tok rfl rfl rfl rfl) (fun P_0 => ?_)
        refine sim_p 1 (ei := [(5, Slc.v s5)]) (d := (some 16)) wf (by kernel_rfl) ⟨rfl, trivial⟩ (by kernel_rfl) (by kernel_rfl) (fun _ => pf_p tok rfl rfl rfl rfl) (fun P_1 => ?_)
        obtain ⟨a6, ha6, la6, ua6, H⟩ := H
        refine sim_p 2 (ei := [(16, Slc.v s5)]) (d := (some 17)) wf (by kernel_rfl) ⟨rfl, trivial⟩ (by kernel_rfl) (by kernel_rfl) (fun _ => pf_y rfl rfl rfl (y_ixa' tok rfl rfl ha6 rfl rfl rfl la6 ua6)) (fun P_2 => ?_)
        obtain ⟨v7, hv7, H⟩ := H
        refine sim_l 3 (ei := [(17, .pointer (some (a6.add ((0 : Int).toNat * 1))))]) (d := (some 18)) wf (by kernel_rfl) ⟨rfl, trivial⟩ (by kernel_rfl) (by kernel_rfl) (pf_y rfl rfl rfl (y_ld tok rfl rfl rfl rfl hv7)) (fun P_3 => ?_)
        refine sim_p 4 (ei := [(18, .int .u8 v7)]) (d := (some 19)) wf (by kernel_rfl) ⟨rfl, trivial⟩ (by kernel_rfl) (by kernel_rfl) (fun _ => pf_p tok rfl rfl rfl rfl) (fun P_4 => ?_)
        refine sim_p 5 (ei := [(19, .int .u32 (IntKind.u32.wrap v7))]) (d := (some 20)) wf (by kernel_rfl) ⟨rfl, trivial⟩ (by kernel_rfl) (by kernel_rfl) (fun _ => pf_p tok rfl rfl rfl rfl) (fun P_5 => ?_)
        refine sim_p 6 (ei := [(5, Slc.v s5)]) (d := (some 21)) wf (by kernel_rfl) ⟨rfl, trivial⟩ (by kernel_rfl) (by kernel_rfl) (fun _ => pf_p tok rfl rfl rfl rfl) (fun P_6 => ?_)
        obtain ⟨a8, ha8, la8, ua8, H⟩ := H
        refine sim_p 7 (ei := [(21, Slc.v s5)]) (d := (some 22)) wf (by kernel_rfl) ⟨rfl, trivial⟩ (by kernel_rfl) (by kernel_rfl) (fun _ => pf_y rfl rfl rfl (y_ixa' tok rfl rfl ha8 rfl rfl rfl la8 ua8)) (fun P_7 => ?_)
        obtain ⟨v9, hv9, H⟩ := H
        refine sim_l 8 (ei := [(22, .pointer (some (a8.add ((1 : Int).toNat * 1))))]) (d := (some 23)) wf (by kernel_rfl) ⟨rfl, trivial⟩ (by kernel_rfl) (by kernel_rfl) (pf_y rfl rfl rfl (y_ld tok rfl rfl rfl rfl hv9)) (fun P_8 => ?_)
        refine sim_p 9 (ei := [(23, .int .u8 v9)]) (d := (some 24)) wf (by kernel_rfl) ⟨rfl, trivial⟩ (by kernel_rfl) (by kernel_rfl) (fun _ => pf_p tok rfl rfl rfl rfl) (fun P_9 => ?_)
        refine sim_p 10 (ei := [(24, .int .u32 (IntKind.u32.wrap v9))]) (d := (some 25)) wf (by kernel_rfl) ⟨rfl, trivial⟩ (by kernel_rfl) (by kernel_rfl) (fun _ => pf_p tok rfl rfl rfl rfl) (fun P_10 => ?_)
        refine sim_p 11 (ei := [(20, .int .u32 (shl .u32 (IntKind.u32.wrap v7) (24 : Int).toNat)), (25, .int .u32 (shl .u32 (IntKind.u32.wrap v9) (16 : Int).toNat))]) (d := (some 26)) wf (by kernel_rfl) ⟨rfl, rfl, trivial⟩ (by kernel_rfl) (by kernel_rfl) (fun _ => pf_p tok rfl rfl rfl rfl) (fun P_11 => ?_)
        refine sim_p 12 (ei := [(5, Slc.v s5)]) (d := (some 27)) wf (by kernel_rfl) ⟨rfl, trivial⟩ (by kernel_rfl) (by kernel_rfl) (fun _ => pf_p tok rfl rfl rfl rfl) (fun P_12 => ?_)
        obtain ⟨a10, ha10, la10, ua10, H⟩ := H
        refine sim_p 13 (ei := [(27, Slc.v s5)]) (d := (some 28)) wf (by kernel_rfl) ⟨rfl, trivial⟩ (by kernel_rfl) (by kernel_rfl) (fun _ => pf_y rfl rfl rfl (y_ixa' tok rfl rfl ha10 rfl rfl rfl la10 ua10)) (fun P_13 => ?_)
        obtain ⟨v11, hv11, H⟩ := H
        refine sim_l 14 (ei := [(28, .pointer (some (a10.add ((2 : Int).toNat * 1))))]) (d := (some 29)) wf (by kernel_rfl) ⟨rfl, trivial⟩ (by kernel_rfl) (by kernel_rfl) (pf_y rfl rfl rfl (y_ld tok rfl rfl rfl rfl hv11)) (fun P_14 => ?_)
        refine sim_p 15 (ei := [(29, .int .u8 v11)]) (d := (some 30)) wf (by kernel_rfl) ⟨rfl, trivial⟩ (by kernel_rfl) (by kernel_rfl) (fun _ => pf_p tok rfl rfl rfl rfl) (fun P_15 => ?_)
        refine sim_p 16 (ei := [(30, .int .u32 (IntKind.u32.wrap v11))]) (d := (some 31)) wf (by kernel_rfl) ⟨rfl, trivial⟩ (by kernel_rfl) (by kernel_rfl) (fun _ => pf_p tok rfl rfl rfl rfl) (fun P_16 => ?_)
        refine sim_p 17 (ei := [(26, .int .u32 (bwOr .u32 (shl .u32 (IntKind.u32.wrap v7) (24 : Int).toNat) (shl .u32 (IntKind.u32.wrap v9) (16 : Int).toNat))), (31, .int .u32 (shl .u32 (IntKind.u32.wrap v11) (8 : Int).toNat))]) (d := (some 32)) wf (by kernel_rfl) ⟨rfl, rfl, trivial⟩ (by kernel_rfl) (by kernel_rfl) (fun _ => pf_p tok rfl rfl rfl rfl) (fun P_17 => ?_)
        refine sim_p 18 (ei := [(5, Slc.v s5)]) (d := (some 33)) wf (by kernel_rfl) ⟨rfl, trivial⟩ (by kernel_rfl) (by kernel_rfl) (fun _ => pf_p tok rfl rfl rfl rfl) (fun P_18 => ?_)
        obtain ⟨a12, ha12, la12, ua12, H⟩ := H
        refine sim_p 19 (ei := [(33, Slc.v s5)]) (d := (some 34)) wf (by kernel_rfl) ⟨rfl, trivial⟩ (by kernel_rfl) (by kernel_rfl) (fun _ => pf_y rfl rfl rfl (y_ixa' tok rfl rfl ha12 rfl rfl rfl la12 ua12)) (fun P_19 => ?_)
        obtain ⟨v13, hv13, H⟩ := H
        refine sim_l 20 (ei := [(34, .pointer (some (a12.add ((3 : Int).toNat * 1))))]) (d := (some 35)) wf (by kernel_rfl) ⟨rfl, trivial⟩ (by kernel_rfl) (by kernel_rfl) (pf_y rfl rfl rfl (y_ld tok rfl rfl rfl rfl hv13)) (fun P_20 => ?_)
        refine sim_p 21 (ei := [(35, .int .u8 v13)]) (d := (some 36)) wf (by kernel_rfl) ⟨rfl, trivial⟩ (by kernel_rfl) (by kernel_rfl) (fun _ => pf_p tok rfl rfl rfl rfl) (fun P_21 => ?_)
        refine sim_p 22 (ei := [(32, .int .u32 (bwOr .u32 (bwOr .u32 (shl .u32 (IntKind.u32.wrap v7) (24 : Int).toNat) (shl .u32 (IntKind.u32.wrap v9) (16 : Int).toNat)) (shl .u32 (IntKind.u32.wrap v11) (8 : Int).toNat))), (36, .int .u32 (IntKind.u32.wrap v13))]) (d := (some 37)) wf (by kernel_rfl) ⟨rfl, rfl, trivial⟩ (by kernel_rfl) (by kernel_rfl) (fun _ => pf_p tok rfl rfl rfl rfl) (fun P_22 => ?_)
        obtain ⟨lb14, ub14, H⟩ := H
        refine sim_p 23 (ei := [(3, .pointer (some (⟨b3, 0, none⟩ : Addr))), (15, .int .i64 t6_1)]) (d := (some 38)) wf (by kernel_rfl) ⟨rfl, rfl, trivial⟩ (by kernel_rfl) (by kernel_rfl) (fun _ => pf_y rfl rfl rfl (y_ixp tok rfl rfl rfl rfl rfl lb14 ub14)) (fun P_23 => ?_)
        obtain ⟨h15, wh15, eh15, H⟩ := H
        refine sim_h 24 [0, 1, 2, 3, 4, 5, 6, 7, 8, 9, 10, 11, 12, 13, 14, 15, 16, 17, 18, 19, 20, 21, 22, 23] [0, 1, 2, 3, 4, 5, 6, 7, 8, 9, 10, 11, 12, 13, 14, 15, 16, 17, 18, 19, 20, 21, 22, 23] (ei := [(37, .int .u32 (bwOr .u32 (bwOr .u32 (bwOr .u32 (shl .u32 (IntKind.u32.wrap v7) (24 : Int).toNat) (shl .u32 (IntKind.u32.wrap v9) (16 : Int).toNat)) (shl .u32 (IntKind.u32.wrap v11) (8 : Int).toNat)) (IntKind.u32.wrap v13))), (38, .pointer (some ((⟨b3, 0, none⟩ : Addr).add (t6_1.toNat * 1))))]) wf ⟨P_23 _, P_22 _, P_21 _, P_20, P_19 _, P_18 _, P_17 _, P_16 _, P_15 _, P_14, P_13 _, P_12 _, P_11 _, P_10 _, P_9 _, P_8, P_7 _, P_6 _, P_5 _, P_4 _, P_3, P_2 _, P_1 _, P_0 _, trivial⟩ (by kernel_rfl) ⟨rfl, rfl, trivial⟩ (by kernel_rfl) rfl rfl rfl (h_st tok rfl rfl rfl rfl rfl rfl wh15 eh15) ?_
        refine sim_end wf ⟨trivial, trivial, trivial, trivial, trivial, trivial, trivial, trivial, trivial, trivial, trivial, trivial, trivial, trivial, trivial, trivial, trivial, trivial, trivial, trivial, trivial, trivial, trivial, trivial, trivial⟩ (by kernel_rfl) ?_
        clear wf P_0 P_1 P_10 P_11 P_12 P_13 P_14 P_15 P_16 P_17 P_18 P_19 P_2 P_20 P_21 P_22 P_23 P_3 P_4 P_5 P_6 P_7 P_8 P_9
        refine x_seq ?_
        refine c_weak [(0, Slc.v p0), (2, .pointer (some (⟨b1, 0, none⟩ : Addr))), (3, .pointer (some (⟨b3, 0, none⟩ : Addr))), (6, .int .i64 t6_1)] ⟨rfl, rfl, rfl, rfl, trivial⟩ ?_
        refine c_exit ?_
        refine x_te ?_
        refine x_bh ?_
        exact x_join () H ⟨rfl, rfl, rfl, rfl, trivial⟩
      ·
        refine c_skip ?_
        refine x_seq ?_
        refine c_sim [(0, Slc.v p0), (2, .pointer (some (⟨b1, 0, none⟩ : Addr))), (3, .pointer (some (⟨b3, 0, none⟩ : Addr))), (4, .int .i64 t6_1), (6, .int .i64 t6_1)] (by kernel_rfl) (by kernel_rfl) ⟨rfl, rfl, rfl, rfl, rfl, trivial⟩ (fun wf => ?_)
        refine sim_p 0 (ei := [(4, .int .i64 t6_1)]) (d := (some 39)) wf (by kernel_rfl) ⟨rfl, trivial⟩ (by kernel_rfl) (by kernel_rfl) (fun _ => pf_p tok rfl rfl rfl rfl) (fun P_0 => ?_)
        refine sim_p 1 (ei := [(4, .int .i64 t6_1)]) (d := (some 40)) wf (by kernel_rfl) ⟨rfl, trivial⟩ (by kernel_rfl) (by kernel_rfl) (fun _ => pf_p tok rfl rfl rfl rfl) (fun P_1 => ?_)
        refine sim_p 2 (ei := [(40, .int .i64 t6_1)]) (d := (some 41)) wf (by kernel_rfl) ⟨rfl, trivial⟩ (by kernel_rfl) (by kernel_rfl) (fun _ => pf_p tok rfl rfl rfl rfl) (fun P_2 => ?_)
        obtain ⟨lb16, ub16, H⟩ := H
        refine sim_p 3 (ei := [(3, .pointer (some (⟨b3, 0, none⟩ : Addr))), (41, .int .i64 (IntKind.i64.wrap (t6_1 - 16)))]) (d := (some 42)) wf (by kernel_rfl) ⟨rfl, rfl, trivial⟩ (by kernel_rfl) (by kernel_rfl) (fun _ => pf_y rfl rfl rfl (y_ixp tok rfl rfl rfl rfl rfl lb16 ub16)) (fun P_3 => ?_)
        obtain ⟨v17, hv17, H⟩ := H
        refine sim_l 4 (ei := [(42, .pointer (some ((⟨b3, 0, none⟩ : Addr).add ((IntKind.i64.wrap (t6_1 - 16)).toNat * 1))))]) (d := (some 43)) wf (by kernel_rfl) ⟨rfl, trivial⟩ (by kernel_rfl) (by kernel_rfl) (pf_y rfl rfl rfl (y_ld tok rfl rfl rfl rfl hv17)) (fun P_4 => ?_)
        refine sim_p 5 (ei := [(4, .int .i64 t6_1)]) (d := (some 44)) wf (by kernel_rfl) ⟨rfl, trivial⟩ (by kernel_rfl) (by kernel_rfl) (fun _ => pf_p tok rfl rfl rfl rfl) (fun P_5 => ?_)
        refine sim_p 6 (ei := [(44, .int .i64 t6_1)]) (d := (some 45)) wf (by kernel_rfl) ⟨rfl, trivial⟩ (by kernel_rfl) (by kernel_rfl) (fun _ => pf_p tok rfl rfl rfl rfl) (fun P_6 => ?_)
        obtain ⟨lb18, ub18, H⟩ := H
        refine sim_p 7 (ei := [(3, .pointer (some (⟨b3, 0, none⟩ : Addr))), (45, .int .i64 (IntKind.i64.wrap (t6_1 - 15)))]) (d := (some 46)) wf (by kernel_rfl) ⟨rfl, rfl, trivial⟩ (by kernel_rfl) (by kernel_rfl) (fun _ => pf_y rfl rfl rfl (y_ixp tok rfl rfl rfl rfl rfl lb18 ub18)) (fun P_7 => ?_)
        obtain ⟨v19, hv19, H⟩ := H
        refine sim_l 8 (ei := [(46, .pointer (some ((⟨b3, 0, none⟩ : Addr).add ((IntKind.i64.wrap (t6_1 - 15)).toNat * 1))))]) (d := (some 47)) wf (by kernel_rfl) ⟨rfl, trivial⟩ (by kernel_rfl) (by kernel_rfl) (pf_y rfl rfl rfl (y_ld tok rfl rfl rfl rfl hv19)) (fun P_8 => ?_)
        refine sim_p 11 (ei := [(4, .int .i64 t6_1)]) (d := (some 50)) wf (by kernel_rfl) ⟨rfl, trivial⟩ (by kernel_rfl) (by kernel_rfl) (fun _ => pf_p tok rfl rfl rfl rfl) (fun P_11 => ?_)
        refine sim_p 12 (ei := [(50, .int .i64 t6_1)]) (d := (some 51)) wf (by kernel_rfl) ⟨rfl, trivial⟩ (by kernel_rfl) (by kernel_rfl) (fun _ => pf_p tok rfl rfl rfl rfl) (fun P_12 => ?_)
        obtain ⟨lb20, ub20, H⟩ := H
        refine sim_p 13 (ei := [(3, .pointer (some (⟨b3, 0, none⟩ : Addr))), (51, .int .i64 (IntKind.i64.wrap (t6_1 - 7)))]) (d := (some 52)) wf (by kernel_rfl) ⟨rfl, rfl, trivial⟩ (by kernel_rfl) (by kernel_rfl) (fun _ => pf_y rfl rfl rfl (y_ixp tok rfl rfl rfl rfl rfl lb20 ub20)) (fun P_13 => ?_)
        obtain ⟨v21, hv21, H⟩ := H
        refine sim_l 14 (ei := [(52, .pointer (some ((⟨b3, 0, none⟩ : Addr).add ((IntKind.i64.wrap (t6_1 - 7)).toNat * 1))))]) (d := (some 53)) wf (by kernel_rfl) ⟨rfl, trivial⟩ (by kernel_rfl) (by kernel_rfl) (pf_y rfl rfl rfl (y_ld tok rfl rfl rfl rfl hv21)) (fun P_14 => ?_)
        refine sim_p 16 (ei := [(4, .int .i64 t6_1)]) (d := (some 55)) wf (by kernel_rfl) ⟨rfl, trivial⟩ (by kernel_rfl) (by kernel_rfl) (fun _ => pf_p tok rfl rfl rfl rfl) (fun P_16 => ?_)
        refine sim_p 17 (ei := [(55, .int .i64 t6_1)]) (d := (some 56)) wf (by kernel_rfl) ⟨rfl, trivial⟩ (by kernel_rfl) (by kernel_rfl) (fun _ => pf_p tok rfl rfl rfl rfl) (fun P_17 => ?_)
        obtain ⟨lb22, ub22, H⟩ := H
        refine sim_p 18 (ei := [(3, .pointer (some (⟨b3, 0, none⟩ : Addr))), (56, .int .i64 (IntKind.i64.wrap (t6_1 - 2)))]) (d := (some 57)) wf (by kernel_rfl) ⟨rfl, rfl, trivial⟩ (by kernel_rfl) (by kernel_rfl) (fun _ => pf_y rfl rfl rfl (y_ixp tok rfl rfl rfl rfl rfl lb22 ub22)) (fun P_18 => ?_)
        obtain ⟨v23, hv23, H⟩ := H
        refine sim_l 19 (ei := [(57, .pointer (some ((⟨b3, 0, none⟩ : Addr).add ((IntKind.i64.wrap (t6_1 - 2)).toNat * 1))))]) (d := (some 58)) wf (by kernel_rfl) ⟨rfl, trivial⟩ (by kernel_rfl) (by kernel_rfl) (pf_y rfl rfl rfl (y_ld tok rfl rfl rfl rfl hv23)) (fun P_19 => ?_)
        refine sim_c 9 [5, 6, 7, 8] [5, 6, 7, 8] (ei := [(47, .int .u32 v19)]) sha_turned_ok (sha_turned_ref _ _ _ _ _ _ _ H) wf ⟨P_19, P_18 _, P_17 _, P_16 _, P_14, P_13 _, P_12 _, P_11 _, P_8, P_7 _, P_6 _, P_5 _, P_4, P_3 _, P_2 _, P_1 _, P_0 _, trivial⟩ (by kernel_rfl) ⟨rfl, trivial⟩ (by kernel_rfl) rfl rfl rfl rfl rfl ?_
        rintro _ h25 ⟨r24, rfl, H⟩
        obtain ⟨hy26, hy27, hy28, H⟩ := H
        refine sim_re (x := ⟨19, .int .u32 v23, [(57, .pointer (some ((⟨b3, 0, none⟩ : Addr).add ((IntKind.i64.wrap (t6_1 - 2)).toNat * 1))))]⟩) (pf_y rfl rfl rfl (y_ld tok rfl rfl rfl rfl hy26)) (fun P_19 => ?_)
        refine sim_re (x := ⟨14, .int .u32 v21, [(52, .pointer (some ((⟨b3, 0, none⟩ : Addr).add ((IntKind.i64.wrap (t6_1 - 7)).toNat * 1))))]⟩) (pf_y rfl rfl rfl (y_ld tok rfl rfl rfl rfl hy27)) (fun P_14 => ?_)
        refine sim_re (x := ⟨4, .int .u32 v17, [(42, .pointer (some ((⟨b3, 0, none⟩ : Addr).add ((IntKind.i64.wrap (t6_1 - 16)).toNat * 1))))]⟩) (pf_y rfl rfl rfl (y_ld tok rfl rfl rfl rfl hy28)) (fun P_4 => ?_)
        refine sim_p 10 (ei := [(43, .int .u32 v17), (48, .int .u32 r24)]) (d := (some 49)) wf (by kernel_rfl) ⟨rfl, rfl, trivial⟩ (by kernel_rfl) (by kernel_rfl) (fun _ => pf_p tok rfl rfl rfl rfl) (fun P_10 => ?_)
        refine sim_p 15 (ei := [(49, .int .u32 (IntKind.u32.wrap (v17 + r24))), (53, .int .u32 v21)]) (d := (some 54)) wf (by kernel_rfl) ⟨rfl, rfl, trivial⟩ (by kernel_rfl) (by kernel_rfl) (fun _ => pf_p tok rfl rfl rfl rfl) (fun P_15 => ?_)
        refine sim_c 20 [5, 6, 7, 8, 9, 16, 17, 18, 19] [5, 6, 7, 8, 16, 17, 18, 19] (ei := [(58, .int .u32 v23)]) sha_turned_ok (sha_turned_ref _ _ _ _ _ _ _ H) wf ⟨P_15 _, P_10 _, P_19, P_18 _, P_17 _, P_16 _, P_14, P_13 _, P_12 _, P_11 _, trivial, trivial, trivial, trivial, P_4, P_3 _, P_2 _, P_1 _, P_0 _, trivial⟩ (by kernel_rfl) ⟨rfl, trivial⟩ (by kernel_rfl) rfl rfl rfl rfl rfl ?_
        rintro _ h30 ⟨r29, rfl, H⟩
        obtain ⟨hy31, hy32, H⟩ := H
        refine sim_re (x := ⟨14, .int .u32 v21, [(52, .pointer (some ((⟨b3, 0, none⟩ : Addr).add ((IntKind.i64.wrap (t6_1 - 7)).toNat * 1))))]⟩) (pf_y rfl rfl rfl (y_ld tok rfl rfl rfl rfl hy31)) (fun P_14 => ?_)
        refine sim_re (x := ⟨4, .int .u32 v17, [(42, .pointer (some ((⟨b3, 0, none⟩ : Addr).add ((IntKind.i64.wrap (t6_1 - 16)).toNat * 1))))]⟩) (pf_y rfl rfl rfl (y_ld tok rfl rfl rfl rfl hy32)) (fun P_4 => ?_)
        refine sim_p 21 (ei := [(54, .int .u32 (IntKind.u32.wrap ((IntKind.u32.wrap (v17 + r24)) + v21))), (59, .int .u32 r29)]) (d := (some 60)) wf (by kernel_rfl) ⟨rfl, rfl, trivial⟩ (by kernel_rfl) (by kernel_rfl) (fun _ => pf_p tok rfl rfl rfl rfl) (fun P_21 => ?_)
        obtain ⟨lb33, ub33, H⟩ := H
        refine sim_p 22 (ei := [(3, .pointer (some (⟨b3, 0, none⟩ : Addr))), (39, .int .i64 t6_1)]) (d := (some 61)) wf (by kernel_rfl) ⟨rfl, rfl, trivial⟩ (by kernel_rfl) (by kernel_rfl) (fun _ => pf_y rfl rfl rfl (y_ixp tok rfl rfl rfl rfl rfl lb33 ub33)) (fun P_22 => ?_)
        obtain ⟨h34, wh34, eh34, H⟩ := H
        refine sim_h 23 [0, 1, 2, 3, 4, 5, 6, 7, 8, 9, 10, 11, 12, 13, 14, 15, 16, 17, 18, 19, 20, 21, 22] [0, 1, 2, 3, 4, 5, 6, 7, 8, 10, 11, 12, 13, 14, 15, 16, 17, 18, 19, 21, 22] (ei := [(60, .int .u32 (IntKind.u32.wrap ((IntKind.u32.wrap ((IntKind.u32.wrap (v17 + r24)) + v21)) + r29))), (61, .pointer (some ((⟨b3, 0, none⟩ : Addr).add (t6_1.toNat * 1))))]) wf ⟨P_22 _, P_21 _, P_15 _, P_10 _, trivial, trivial, trivial, trivial, P_14, P_13 _, P_12 _, P_11 _, trivial, trivial, trivial, trivial, P_4, P_3 _, P_2 _, P_1 _, P_0 _, trivial⟩ (by kernel_rfl) ⟨rfl, rfl, trivial⟩ (by kernel_rfl) rfl rfl rfl (h_st tok rfl rfl rfl rfl rfl rfl wh34 eh34) ?_
        refine sim_end wf ⟨trivial, trivial, trivial, trivial, trivial, trivial, trivial, trivial, trivial, trivial, trivial, trivial, trivial, trivial, trivial, trivial, trivial, trivial, trivial, trivial, trivial, trivial⟩ (by kernel_rfl) ?_
        clear wf P_0 P_1 P_10 P_11 P_12 P_13 P_14 P_15 P_16 P_17 P_18 P_19 P_2 P_21 P_22 P_3 P_4 P_5 P_6 P_7 P_8
        refine x_blk ?_
        exact x_join () H ⟨rfl, rfl, rfl, rfl, trivial⟩
  ·
    refine c_exit ?_
    refine x_te ?_
    refine x_te ?_
    refine x_bh ?_
    refine x_seq ?_
    refine c_seq ?_
    refine c_region ?_
    obtain ⟨v35, hv35, H⟩ := H
    refine w_y (y_lda tok rfl rfl rfl rfl rfl hv35) rfl rfl ?_
    obtain ⟨h36, wh36, eh36, H⟩ := H
    refine w_h (h_sts tok rfl rfl rfl rfl rfl (oneC (by kernel_rfl)) wh36 eh36) rfl rfl ?_
    refine w_end ?_
    refine x_seq ?_
    refine c_ret ?_
    obtain ⟨v37, hv37, H⟩ := H
    exact x_retc tok _ rfl [.agg (arr 64 .u32 v37).toArray] ⟨⟨_, _, rfl, rfl, .inr ⟨rfl, _, rfl, rfl, hv37⟩⟩, trivial⟩ ⟨v37, rfl, H⟩

theorem sha_start_ok : CallOk Go.Proofs.Tryd.prog 62 := ⟨_, Go.Proofs.Tryd.func62, by kernel_rfl, by kernel_rfl⟩
theorem sha_start_ref (k : (List Int) → Heap → Prop) (h : Heap) (H : sha_start k h) : CallsH Go.Proofs.Tryd.prog 62 #[] h (fun v h' => ∃ r : List Int, v = .agg (arr 8 .u32 r).toArray ∧ k r h') := by
  refine f_enter (N := 2) Go.Proofs.Tryd.func62 rfl rfl rfl (fun w0 => ?_)
  unfold sha_start at H
  refine c_seq ?_
  refine c_region ?_
  obtain ⟨b1, h2, eb1, eh2, H⟩ := H
  refine w_h (h_alloc tok rfl rfl eb1 eh2) rfl rfl ?_
  refine w_end ?_
  refine x_seq ?_
  refine c_seq ?_
  refine c_region ?_
  refine w_y (y_builda tok rfl rfl rfl rfl rfl) rfl rfl ?_
  obtain ⟨h3, wh3, eh3, H⟩ := H
  refine w_h (h_sts tok rfl rfl rfl rfl rfl (oneC (by kernel_rfl)) wh3 eh3) rfl rfl ?_
  refine w_end ?_
  refine x_seq ?_
  refine c_ret ?_
  obtain ⟨v4, hv4, H⟩ := H
  exact x_retc tok _ rfl [.agg (arr 8 .u32 v4).toArray] ⟨⟨_, _, rfl, rfl, .inr ⟨rfl, _, rfl, rfl, hv4⟩⟩, trivial⟩ ⟨v4, rfl, H⟩

theorem sha_words_step_ok : CallOk Go.Proofs.Tryd.prog 63 := ⟨_, Go.Proofs.Tryd.func63, by kernel_rfl, by kernel_rfl⟩
theorem sha_words_step_ref (p0 : List Int) (p1 : Slc) (k : (List Int) → Heap → Prop) (h : Heap) (H : sha_words_step p0 p1 k h) : CallsH Go.Proofs.Tryd.prog 63 #[.agg (arr 8 .u32 p0).toArray, Slc.v p1] h (fun v h' => ∃ r : List Int, v = .agg (arr 8 .u32 r).toArray ∧ k r h') := by
  refine f_enter (N := 90) Go.Proofs.Tryd.func63 rfl rfl rfl (fun w0 => ?_)
  unfold sha_words_step at H
  refine c_weak [(0, .agg (arr 8 .u32 p0).toArray), (1, Slc.v p1)] ⟨rfl, rfl, trivial⟩ ?_
  refine c_seq ?_
  refine c_region ?_
  obtain ⟨b1, h2, eb1, eh2, H⟩ := H
  refine w_h (h_box rfl rfl eb1 eh2) rfl rfl ?_
  obtain ⟨b3, h4, eb3, eh4, H⟩ := H
  refine w_h (h_alloc tok rfl rfl eb3 eh4) rfl rfl ?_
  refine w_end ?_
  refine x_seq ?_
  refine c_seq ?_
  refine c_region ?_
  obtain ⟨v5, hv5, H⟩ := H
  refine w_y (y_lda tok rfl rfl rfl rfl rfl hv5) rfl rfl ?_
  obtain ⟨b6, h7, eb6, eh7, H⟩ := H
  refine w_h (h_alloc tok rfl rfl eb6 eh7) rfl rfl ?_
  obtain ⟨h8, wh8, eh8, H⟩ := H
  refine w_h (h_sts tok rfl rfl rfl rfl rfl (oneC (by kernel_rfl)) wh8 eh8) rfl rfl ?_
  refine w_end ?_
  refine x_seq ?_
  refine c_seq ?_
  refine c_seq ?_
  refine c_region ?_
  refine w_p tok rfl rfl rfl ?_
  refine w_call sha_schedule_ok (sha_schedule_ref _ _ _ H) rfl rfl rfl rfl ?_
  rintro _ h10 ⟨r9, rfl, H⟩
  refine w_p tok rfl rfl rfl ?_
  refine w_end ?_
  refine x_seq ?_
  refine c_block ?_
  obtain ⟨I1, μ1, H0, HI⟩ := H
  refine c_loop (σ := Int) (fun (s : Int) => [(16, .int .i64 s), (2, .pointer (some (⟨b1, 0, none⟩ : Addr))), (4, .pointer (some (⟨b3, 0, none⟩ : Addr))), (5, .pointer (some (⟨b6, 0, none⟩ : Addr))), (15, .agg (arr 64 .u32 r9).toArray)]) I1 μ1 0 H0 ⟨rfl, rfl, rfl, rfl, rfl, trivial⟩ ?_
  rintro t16_1 h_1 H
  replace H := HI t16_1 h_1 H
  unfold sha_words_step_l1b at H
  refine c_weak [(16, .int .i64 t16_1), (2, .pointer (some (⟨b1, 0, none⟩ : Addr))), (4, .pointer (some (⟨b3, 0, none⟩ : Addr))), (5, .pointer (some (⟨b6, 0, none⟩ : Addr))), (15, .agg (arr 64 .u32 r9).toArray)] ⟨rfl, rfl, rfl, rfl, rfl, trivial⟩ ?_
  refine c_seq ?_
  refine c_region ?_
  refine w_p tok rfl rfl rfl ?_
  refine w_end ?_
  refine x_seq ?_
  refine c_seq ?_
  refine c_if H rfl (fun H => ?_) (fun H => ?_)
  ·
    refine c_skip ?_
    refine x_seq ?_
    refine c_seq ?_
    refine c_block ?_
    refine c_seq ?_
    refine c_region ?_
    refine w_p tok rfl rfl rfl ?_
    obtain ⟨lv11, uv11, H⟩ := H
    refine w_y (y_ixr tok rfl rfl rfl rfl rfl rfl lv11 uv11) rfl rfl ?_
    refine w_p tok rfl rfl rfl ?_
    obtain ⟨x12, ex12, H⟩ := H
    refine w_pe tok rfl (congrArg (fun z => (.int .u32 z : Value)) ex12) rfl rfl ?_
    refine w_end ?_
    refine x_seq ?_
    refine c_seq ?_
    refine c_draw (by kernel_rfl) (by kernel_rfl) ?_
    obtain ⟨lb13, ub13, H⟩ := H
    refine q_y (y_ixp tok rfl rfl rfl rfl rfl lb13 ub13) rfl rfl ?_
    obtain ⟨v14, hv14, H⟩ := H
    refine q_y (y_ld tok rfl rfl rfl rfl hv14) rfl rfl ?_
    obtain ⟨lb15, ub15, H⟩ := H
    refine q_y (y_ixp tok rfl rfl rfl rfl rfl lb15 ub15) rfl rfl ?_
    obtain ⟨v16, hv16, H⟩ := H
    refine q_y (y_ld tok rfl rfl rfl rfl hv16) rfl rfl ?_
    refine q_p tok rfl rfl rfl ?_
    refine q_p tok rfl rfl rfl ?_
    refine q_end ?_
    refine x_seq ?_
    refine c_weak [(16, .int .i64 t16_1), (2, .pointer (some (⟨b1, 0, none⟩ : Addr))), (4, .pointer (some (⟨b3, 0, none⟩ : Addr))), (5, .pointer (some (⟨b6, 0, none⟩ : Addr))), (15, .agg (arr 64 .u32 r9).toArray), (6, .int .i64 t16_1), (7, .int .u32 x12), (8, .int .u32 v14), (9, .int .u32 v16)] ⟨rfl, rfl, rfl, rfl, rfl, rfl, rfl, rfl, rfl, trivial⟩ ?_
    refine c_seq ?_
    refine c_sim [(2, .pointer (some (⟨b1, 0, none⟩ : Addr))), (4, .pointer (some (⟨b3, 0, none⟩ : Addr))), (5, .pointer (some (⟨b6, 0, none⟩ : Addr))), (6, .int .i64 t16_1), (7, .int .u32 x12), (8, .int .u32 v14), (9, .int .u32 v16), (15, .agg (arr 64 .u32 r9).toArray), (16, .int .i64 t16_1)] (by kernel_rfl) (by kernel_rfl) ⟨rfl, rfl, rfl, rfl, rfl, rfl, rfl, rfl, rfl, trivial⟩ (fun wf => ?_)
    obtain ⟨lb17, ub17, H⟩ := H
    refine sim_p 0 (ei := [(5, .pointer (some (⟨b6, 0, none⟩ : Addr)))]) (d := (some 24)) wf (by kernel_rfl) ⟨rfl, trivial⟩ (by kernel_rfl) (by kernel_rfl) (fun _ => pf_y rfl rfl rfl (y_ixp tok rfl rfl rfl rfl rfl lb17 ub17)) (fun P_0 => ?_)
    obtain ⟨v18, hv18, H⟩ := H
    refine sim_l 1 (ei := [(24, .pointer (some ((⟨b6, 0, none⟩ : Addr).add ((7 : Int).toNat * 1))))]) (d := (some 25)) wf (by kernel_rfl) ⟨rfl, trivial⟩ (by kernel_rfl) (by kernel_rfl) (pf_y rfl rfl rfl (y_ld tok rfl rfl rfl rfl hv18)) (fun P_1 => ?_)
    refine sim_p 2 (ei := [(9, .int .u32 v16)]) (d := (some 26)) wf (by kernel_rfl) ⟨rfl, trivial⟩ (by kernel_rfl) (by kernel_rfl) (fun _ => pf_p tok rfl rfl rfl rfl) (fun P_2 => ?_)
    refine sim_p 5 (ei := [(9, .int .u32 v16)]) (d := (some 29)) wf (by kernel_rfl) ⟨rfl, trivial⟩ (by kernel_rfl) (by kernel_rfl) (fun _ => pf_p tok rfl rfl rfl rfl) (fun P_5 => ?_)
    obtain ⟨lb19, ub19, H⟩ := H
    refine sim_p 6 (ei := [(5, .pointer (some (⟨b6, 0, none⟩ : Addr)))]) (d := (some 30)) wf (by kernel_rfl) ⟨rfl, trivial⟩ (by kernel_rfl) (by kernel_rfl) (fun _ => pf_y rfl rfl rfl (y_ixp tok rfl rfl rfl rfl rfl lb19 ub19)) (fun P_6 => ?_)
    obtain ⟨v20, hv20, H⟩ := H
    refine sim_l 7 (ei := [(30, .pointer (some ((⟨b6, 0, none⟩ : Addr).add ((5 : Int).toNat * 1))))]) (d := (some 31)) wf (by kernel_rfl) ⟨rfl, trivial⟩ (by kernel_rfl) (by kernel_rfl) (pf_y rfl rfl rfl (y_ld tok rfl rfl rfl rfl hv20)) (fun P_7 => ?_)
    refine sim_p 8 (ei := [(29, .int .u32 v16), (31, .int .u32 v20)]) (d := (some 32)) wf (by kernel_rfl) ⟨rfl, rfl, trivial⟩ (by kernel_rfl) (by kernel_rfl) (fun _ => pf_p tok rfl rfl rfl rfl) (fun P_8 => ?_)
    refine sim_p 9 (ei := [(9, .int .u32 v16)]) (d := (some 33)) wf (by kernel_rfl) ⟨rfl, trivial⟩ (by kernel_rfl) (by kernel_rfl) (fun _ => pf_p tok rfl rfl rfl rfl) (fun P_9 => ?_)
    refine sim_p 10 (ei := [(33, .int .u32 v16)]) (d := (some 34)) wf (by kernel_rfl) ⟨rfl, trivial⟩ (by kernel_rfl) (by kernel_rfl) (fun _ => pf_y rfl rfl rfl (y_cpl rfl rfl)) (fun P_10 => ?_)
    obtain ⟨lb21, ub21, H⟩ := H
    refine sim_p 11 (ei := [(5, .pointer (some (⟨b6, 0, none⟩ : Addr)))]) (d := (some 35)) wf (by kernel_rfl) ⟨rfl, trivial⟩ (by kernel_rfl) (by kernel_rfl) (fun _ => pf_y rfl rfl rfl (y_ixp tok rfl rfl rfl rfl rfl lb21 ub21)) (fun P_11 => ?_)
    obtain ⟨v22, hv22, H⟩ := H
    refine sim_l 12 (ei := [(35, .pointer (some ((⟨b6, 0, none⟩ : Addr).add ((6 : Int).toNat * 1))))]) (d := (some 36)) wf (by kernel_rfl) ⟨rfl, trivial⟩ (by kernel_rfl) (by kernel_rfl) (pf_y rfl rfl rfl (y_ld tok rfl rfl rfl rfl hv22)) (fun P_12 => ?_)
    refine sim_p 13 (ei := [(34, .int .u32 (bwXor .u32 4294967295 v16)), (36, .int .u32 v22)]) (d := (some 37)) wf (by kernel_rfl) ⟨rfl, rfl, trivial⟩ (by kernel_rfl) (by kernel_rfl) (fun _ => pf_p tok rfl rfl rfl rfl) (fun P_13 => ?_)
    refine sim_p 14 (ei := [(32, .int .u32 (bwAnd .u32 v16 v20)), (37, .int .u32 (bwAnd .u32 (bwXor .u32 4294967295 v16) v22))]) (d := (some 38)) wf (by kernel_rfl) ⟨rfl, rfl, trivial⟩ (by kernel_rfl) (by kernel_rfl) (fun _ => pf_p tok rfl rfl rfl rfl) (fun P_14 => ?_)
    refine sim_p 16 (ei := [(6, .int .i64 t16_1)]) (d := (some 40)) wf (by kernel_rfl) ⟨rfl, trivial⟩ (by kernel_rfl) (by kernel_rfl) (fun _ => pf_p tok rfl rfl rfl rfl) (fun P_16 => ?_)
    obtain ⟨lb23, ub23, H⟩ := H
    refine sim_p 17 (ei := [(40, .int .i64 t16_1)]) (d := (some 41)) wf (by kernel_rfl) ⟨rfl, trivial⟩ (by kernel_rfl) (by kernel_rfl) (fun _ => pf_y rfl rfl rfl (y_ixp tok rfl rfl rfl rfl rfl lb23 ub23)) (fun P_17 => ?_)
    obtain ⟨v24, hv24, H⟩ := H
    refine sim_l 18 (ei := [(41, .pointer (some ((⟨0, 0, none⟩ : Addr).add (t16_1.toNat * 1))))]) (d := (some 42)) wf (by kernel_rfl) ⟨rfl, trivial⟩ (by kernel_rfl) (by kernel_rfl) (pf_y rfl rfl rfl (y_ld tok rfl rfl rfl rfl hv24)) (fun P_18 => ?_)
    refine sim_p 20 (ei := [(7, .int .u32 x12)]) (d := (some 44)) wf (by kernel_rfl) ⟨rfl, trivial⟩ (by kernel_rfl) (by kernel_rfl) (fun _ => pf_p tok rfl rfl rfl rfl) (fun P_20 => ?_)
    refine sim_c 3 [2] [2] (ei := [(26, .int .u32 v16)]) sha_turned_ok (sha_turned_ref _ _ _ _ _ _ _ H) wf ⟨P_20 _, P_18, P_17 _, P_16 _, P_14 _, P_13 _, P_12, P_11 _, P_10 _, P_9 _, P_8 _, P_7, P_6 _, P_5 _, P_2 _, P_1, P_0 _, trivial⟩ (by kernel_rfl) ⟨rfl, trivial⟩ (by kernel_rfl) rfl rfl rfl rfl rfl ?_
    rintro _ h26 ⟨r25, rfl, H⟩
    obtain ⟨hy27, hy28, hy29, hy30, H⟩ := H
    refine sim_re (x := ⟨18, .int .u32 v24, [(41, .pointer (some ((⟨0, 0, none⟩ : Addr).add (t16_1.toNat * 1))))]⟩) (pf_y rfl rfl rfl (y_ld tok rfl rfl rfl rfl hy27)) (fun P_18 => ?_)
    refine sim_re (x := ⟨12, .int .u32 v22, [(35, .pointer (some ((⟨b6, 0, none⟩ : Addr).add ((6 : Int).toNat * 1))))]⟩) (pf_y rfl rfl rfl (y_ld tok rfl rfl rfl rfl hy28)) (fun P_12 => ?_)
    refine sim_re (x := ⟨7, .int .u32 v20, [(30, .pointer (some ((⟨b6, 0, none⟩ : Addr).add ((5 : Int).toNat * 1))))]⟩) (pf_y rfl rfl rfl (y_ld tok rfl rfl rfl rfl hy29)) (fun P_7 => ?_)
    refine sim_re (x := ⟨1, .int .u32 v18, [(24, .pointer (some ((⟨b6, 0, none⟩ : Addr).add ((7 : Int).toNat * 1))))]⟩) (pf_y rfl rfl rfl (y_ld tok rfl rfl rfl rfl hy30)) (fun P_1 => ?_)
    refine sim_p 4 (ei := [(25, .int .u32 v18), (27, .int .u32 r25)]) (d := (some 28)) wf (by kernel_rfl) ⟨rfl, rfl, trivial⟩ (by kernel_rfl) (by kernel_rfl) (fun _ => pf_p tok rfl rfl rfl rfl) (fun P_4 => ?_)
    refine sim_p 15 (ei := [(28, .int .u32 (IntKind.u32.wrap (v18 + r25))), (38, .int .u32 (bwXor .u32 (bwAnd .u32 v16 v20) (bwAnd .u32 (bwXor .u32 4294967295 v16) v22)))]) (d := (some 39)) wf (by kernel_rfl) ⟨rfl, rfl, trivial⟩ (by kernel_rfl) (by kernel_rfl) (fun _ => pf_p tok rfl rfl rfl rfl) (fun P_15 => ?_)
    refine sim_p 19 (ei := [(39, .int .u32 (IntKind.u32.wrap ((IntKind.u32.wrap (v18 + r25)) + (bwXor .u32 (bwAnd .u32 v16 v20) (bwAnd .u32 (bwXor .u32 4294967295 v16) v22))))), (42, .int .u32 v24)]) (d := (some 43)) wf (by kernel_rfl) ⟨rfl, rfl, trivial⟩ (by kernel_rfl) (by kernel_rfl) (fun _ => pf_p tok rfl rfl rfl rfl) (fun P_19 => ?_)
    refine sim_p 21 (ei := [(43, .int .u32 (IntKind.u32.wrap ((IntKind.u32.wrap ((IntKind.u32.wrap (v18 + r25)) + (bwXor .u32 (bwAnd .u32 v16 v20) (bwAnd .u32 (bwXor .u32 4294967295 v16) v22)))) + v24))), (44, .int .u32 x12)]) (d := (some 45)) wf (by kernel_rfl) ⟨rfl, rfl, trivial⟩ (by kernel_rfl) (by kernel_rfl) (fun _ => pf_p tok rfl rfl rfl rfl) (fun P_21 => ?_)
    refine sim_p 22 (ei := [(45, .int .u32 (IntKind.u32.wrap ((IntKind.u32.wrap ((IntKind.u32.wrap ((IntKind.u32.wrap (v18 + r25)) + (bwXor .u32 (bwAnd .u32 v16 v20) (bwAnd .u32 (bwXor .u32 4294967295 v16) v22)))) + v24)) + x12)))]) (d := (some 10)) wf (by kernel_rfl) ⟨rfl, trivial⟩ (by kernel_rfl) (by kernel_rfl) (fun _ => pf_p tok rfl rfl rfl rfl) (fun P_22 => ?_)
    refine sim_end wf ⟨P_22 _, P_21 _, P_19 _, P_15 _, P_4 _, P_20 _, P_18, P_17 _, P_16 _, P_14 _, P_13 _, P_12, P_11 _, P_10 _, P_9 _, P_8 _, P_7, P_6 _, P_5 _, trivial, P_1, P_0 _, trivial⟩ (by kernel_rfl) ?_
    clear wf P_0 P_1 P_10 P_11 P_12 P_13 P_14 P_15 P_16 P_17 P_18 P_19 P_2 P_20 P_21 P_22 P_4 P_5 P_6 P_7 P_8 P_9
    refine x_seq ?_
    refine c_weak [(2, .pointer (some (⟨b1, 0, none⟩ : Addr))), (4, .pointer (some (⟨b3, 0, none⟩ : Addr))), (5, .pointer (some (⟨b6, 0, none⟩ : Addr))), (8, .int .u32 v14), (15, .agg (arr 64 .u32 r9).toArray), (16, .int .i64 t16_1), (10, .int .u32 (IntKind.u32.wrap ((IntKind.u32.wrap ((IntKind.u32.wrap ((IntKind.u32.wrap (v18 + r25)) + (bwXor .u32 (bwAnd .u32 v16 v20) (bwAnd .u32 (bwXor .u32 4294967295 v16) v22)))) + v24)) + x12)))] ⟨rfl, rfl, rfl, rfl, rfl, rfl, rfl, trivial⟩ ?_
    refine c_seq ?_
    refine c_sim [(2, .pointer (some (⟨b1, 0, none⟩ : Addr))), (4, .pointer (some (⟨b3, 0, none⟩ : Addr))), (5, .pointer (some (⟨b6, 0, none⟩ : Addr))), (8, .int .u32 v14), (10, .int .u32 (IntKind.u32.wrap ((IntKind.u32.wrap ((IntKind.u32.wrap ((IntKind.u32.wrap (v18 + r25)) + (bwXor .u32 (bwAnd .u32 v16 v20) (bwAnd .u32 (bwXor .u32 4294967295 v16) v22)))) + v24)) + x12))), (15, .agg (arr 64 .u32 r9).toArray), (16, .int .i64 t16_1)] (by kernel_rfl) (by kernel_rfl) ⟨rfl, rfl, rfl, rfl, rfl, rfl, rfl, trivial⟩ (fun wf => ?_)
    refine sim_p 0 (ei := [(8, .int .u32 v14)]) (d := (some 46)) wf (by kernel_rfl) ⟨rfl, trivial⟩ (by kernel_rfl) (by kernel_rfl) (fun _ => pf_p tok rfl rfl rfl rfl) (fun P_0 => ?_)
    refine sim_p 2 (ei := [(8, .int .u32 v14)]) (d := (some 48)) wf (by kernel_rfl) ⟨rfl, trivial⟩ (by kernel_rfl) (by kernel_rfl) (fun _ => pf_p tok rfl rfl rfl rfl) (fun P_2 => ?_)
    obtain ⟨lb31, ub31, H⟩ := H
    refine sim_p 3 (ei := [(5, .pointer (some (⟨b6, 0, none⟩ : Addr)))]) (d := (some 49)) wf (by kernel_rfl) ⟨rfl, trivial⟩ (by kernel_rfl) (by kernel_rfl) (fun _ => pf_y rfl rfl rfl (y_ixp tok rfl rfl rfl rfl rfl lb31 ub31)) (fun P_3 => ?_)
    obtain ⟨v32, hv32, H⟩ := H
    refine sim_l 4 (ei := [(49, .pointer (some ((⟨b6, 0, none⟩ : Addr).add ((1 : Int).toNat * 1))))]) (d := (some 50)) wf (by kernel_rfl) ⟨rfl, trivial⟩ (by kernel_rfl) (by kernel_rfl) (pf_y rfl rfl rfl (y_ld tok rfl rfl rfl rfl hv32)) (fun P_4 => ?_)
    refine sim_p 5 (ei := [(48, .int .u32 v14), (50, .int .u32 v32)]) (d := (some 51)) wf (by kernel_rfl) ⟨rfl, rfl, trivial⟩ (by kernel_rfl) (by kernel_rfl) (fun _ => pf_p tok rfl rfl rfl rfl) (fun P_5 => ?_)
    refine sim_p 6 (ei := [(8, .int .u32 v14)]) (d := (some 52)) wf (by kernel_rfl) ⟨rfl, trivial⟩ (by kernel_rfl) (by kernel_rfl) (fun _ => pf_p tok rfl rfl rfl rfl) (fun P_6 => ?_)
    obtain ⟨lb33, ub33, H⟩ := H
    refine sim_p 7 (ei := [(5, .pointer (some (⟨b6, 0, none⟩ : Addr)))]) (d := (some 53)) wf (by kernel_rfl) ⟨rfl, trivial⟩ (by kernel_rfl) (by kernel_rfl) (fun _ => pf_y rfl rfl rfl (y_ixp tok rfl rfl rfl rfl rfl lb33 ub33)) (fun P_7 => ?_)
    obtain ⟨v34, hv34, H⟩ := H
    refine sim_l 8 (ei := [(53, .pointer (some ((⟨b6, 0, none⟩ : Addr).add ((2 : Int).toNat * 1))))]) (d := (some 54)) wf (by kernel_rfl) ⟨rfl, trivial⟩ (by kernel_rfl) (by kernel_rfl) (pf_y rfl rfl rfl (y_ld tok rfl rfl rfl rfl hv34)) (fun P_8 => ?_)
    refine sim_p 9 (ei := [(52, .int .u32 v14), (54, .int .u32 v34)]) (d := (some 55)) wf (by kernel_rfl) ⟨rfl, rfl, trivial⟩ (by kernel_rfl) (by kernel_rfl) (fun _ => pf_p tok rfl rfl rfl rfl) (fun P_9 => ?_)
    refine sim_p 10 (ei := [(51, .int .u32 (bwAnd .u32 v14 v32)), (55, .int .u32 (bwAnd .u32 v14 v34))]) (d := (some 56)) wf (by kernel_rfl) ⟨rfl, rfl, trivial⟩ (by kernel_rfl) (by kernel_rfl) (fun _ => pf_p tok rfl rfl rfl rfl) (fun P_10 => ?_)
    obtain ⟨lb35, ub35, H⟩ := H
    refine sim_p 11 (ei := [(5, .pointer (some (⟨b6, 0, none⟩ : Addr)))]) (d := (some 57)) wf (by kernel_rfl) ⟨rfl, trivial⟩ (by kernel_rfl) (by kernel_rfl) (fun _ => pf_y rfl rfl rfl (y_ixp tok rfl rfl rfl rfl rfl lb35 ub35)) (fun P_11 => ?_)
    obtain ⟨v36, hv36, H⟩ := H
    refine sim_l 12 (ei := [(57, .pointer (some ((⟨b6, 0, none⟩ : Addr).add ((1 : Int).toNat * 1))))]) (d := (some 58)) wf (by kernel_rfl) ⟨rfl, trivial⟩ (by kernel_rfl) (by kernel_rfl) (pf_y rfl rfl rfl (y_ld tok rfl rfl rfl rfl hv36)) (fun P_12 => ?_)
    obtain ⟨lb37, ub37, H⟩ := H
    refine sim_p 13 (ei := [(5, .pointer (some (⟨b6, 0, none⟩ : Addr)))]) (d := (some 59)) wf (by kernel_rfl) ⟨rfl, trivial⟩ (by kernel_rfl) (by kernel_rfl) (fun _ => pf_y rfl rfl rfl (y_ixp tok rfl rfl rfl rfl rfl lb37 ub37)) (fun P_13 => ?_)
    obtain ⟨v38, hv38, H⟩ := H
    refine sim_l 14 (ei := [(59, .pointer (some ((⟨b6, 0, none⟩ : Addr).add ((2 : Int).toNat * 1))))]) (d := (some 60)) wf (by kernel_rfl) ⟨rfl, trivial⟩ (by kernel_rfl) (by kernel_rfl) (pf_y rfl rfl rfl (y_ld tok rfl rfl rfl rfl hv38)) (fun P_14 => ?_)
    refine sim_p 15 (ei := [(58, .int .u32 v36), (60, .int .u32 v38)]) (d := (some 61)) wf (by kernel_rfl) ⟨rfl, rfl, trivial⟩ (by kernel_rfl) (by kernel_rfl) (fun _ => pf_p tok rfl rfl rfl rfl) (fun P_15 => ?_)
    refine sim_p 16 (ei := [(56, .int .u32 (bwXor .u32 (bwAnd .u32 v14 v32) (bwAnd .u32 v14 v34))), (61, .int .u32 (bwAnd .u32 v36 v38))]) (d := (some 62)) wf (by kernel_rfl) ⟨rfl, rfl, trivial⟩ (by kernel_rfl) (by kernel_rfl) (fun _ => pf_p tok rfl rfl rfl rfl) (fun P_16 => ?_)
    refine sim_c 1 [0] [0] (ei := [(46, .int .u32 v14)]) sha_turned_ok (sha_turned_ref _ _ _ _ _ _ _ H) wf ⟨P_16 _, P_15 _, P_14, P_13 _, P_12, P_11 _, P_10 _, P_9 _, P_8, P_7 _, P_6 _, P_5 _, P_4, P_3 _, P_2 _, P_0 _, trivial⟩ (by kernel_rfl) ⟨rfl, trivial⟩ (by kernel_rfl) rfl rfl rfl rfl rfl ?_
    rintro _ h40 ⟨r39, rfl, H⟩
    obtain ⟨hy41, hy42, hy43, hy44, H⟩ := H
    refine sim_re (x := ⟨14, .int .u32 v38, [(59, .pointer (some ((⟨b6, 0, none⟩ : Addr).add ((2 : Int).toNat * 1))))]⟩) (pf_y rfl rfl rfl (y_ld tok rfl rfl rfl rfl hy41)) (fun P_14 => ?_)
    refine sim_re (x := ⟨12, .int .u32 v36, [(57, .pointer (some ((⟨b6, 0, none⟩ : Addr).add ((1 : Int).toNat * 1))))]⟩) (pf_y rfl rfl rfl (y_ld tok rfl rfl rfl rfl hy42)) (fun P_12 => ?_)
    refine sim_re (x := ⟨8, .int .u32 v34, [(53, .pointer (some ((⟨b6, 0, none⟩ : Addr).add ((2 : Int).toNat * 1))))]⟩) (pf_y rfl rfl rfl (y_ld tok rfl rfl rfl rfl hy43)) (fun P_8 => ?_)
    refine sim_re (x := ⟨4, .int .u32 v32, [(49, .pointer (some ((⟨b6, 0, none⟩ : Addr).add ((1 : Int).toNat * 1))))]⟩) (pf_y rfl rfl rfl (y_ld tok rfl rfl rfl rfl hy44)) (fun P_4 => ?_)
    refine sim_p 17 (ei := [(47, .int .u32 r39), (62, .int .u32 (bwXor .u32 (bwXor .u32 (bwAnd .u32 v14 v32) (bwAnd .u32 v14 v34)) (bwAnd .u32 v36 v38)))]) (d := (some 63)) wf (by kernel_rfl) ⟨rfl, rfl, trivial⟩ (by kernel_rfl) (by kernel_rfl) (fun _ => pf_p tok rfl rfl rfl rfl) (fun P_17 => ?_)
    refine sim_p 18 (ei := [(63, .int .u32 (IntKind.u32.wrap (r39 + (bwXor .u32 (bwXor .u32 (bwAnd .u32 v14 v32) (bwAnd .u32 v14 v34)) (bwAnd .u32 v36 v38)))))]) (d := (some 11)) wf (by kernel_rfl) ⟨rfl, trivial⟩ (by kernel_rfl) (by kernel_rfl) (fun _ => pf_p tok rfl rfl rfl rfl) (fun P_18 => ?_)
    refine sim_end wf ⟨P_18 _, P_17 _, P_16 _, P_15 _, P_14, P_13 _, P_12, P_11 _, P_10 _, P_9 _, P_8, P_7 _, P_6 _, P_5 _, P_4, P_3 _, P_2 _, trivial, trivial⟩ (by kernel_rfl) ?_
    clear wf P_0 P_10 P_11 P_12 P_13 P_14 P_15 P_16 P_17 P_18 P_2 P_3 P_4 P_5 P_6 P_7 P_8 P_9
    refine x_seq ?_
    refine c_weak [(2, .pointer (some (⟨b1, 0, none⟩ : Addr))), (4, .pointer (some (⟨b3, 0, none⟩ : Addr))), (5, .pointer (some (⟨b6, 0, none⟩ : Addr))), (10, .int .u32 (IntKind.u32.wrap ((IntKind.u32.wrap ((IntKind.u32.wrap ((IntKind.u32.wrap (v18 + r25)) + (bwXor .u32 (bwAnd .u32 v16 v20) (bwAnd .u32 (bwXor .u32 4294967295 v16) v22)))) + v24)) + x12))), (15, .agg (arr 64 .u32 r9).toArray), (16, .int .i64 t16_1), (11, .int .u32 (IntKind.u32.wrap (r39 + (bwXor .u32 (bwXor .u32 (bwAnd .u32 v14 v32) (bwAnd .u32 v14 v34)) (bwAnd .u32 v36 v38)))))] ⟨rfl, rfl, rfl, rfl, rfl, rfl, rfl, trivial⟩ ?_
    refine c_seq ?_
    refine c_sim [(2, .pointer (some (⟨b1, 0, none⟩ : Addr))), (4, .pointer (some (⟨b3, 0, none⟩ : Addr))), (5, .pointer (some (⟨b6, 0, none⟩ : Addr))), (10, .int .u32 (IntKind.u32.wrap ((IntKind.u32.wrap ((IntKind.u32.wrap ((IntKind.u32.wrap (v18 + r25)) + (bwXor .u32 (bwAnd .u32 v16 v20) (bwAnd .u32 (bwXor .u32 4294967295 v16) v22)))) + v24)) + x12))), (11, .int .u32 (IntKind.u32.wrap (r39 + (bwXor .u32 (bwXor .u32 (bwAnd .u32 v14 v32) (bwAnd .u32 v14 v34)) (bwAnd .u32 v36 v38))))), (15, .agg (arr 64 .u32 r9).toArray), (16, .int .i64 t16_1)] (by kernel_rfl) (by kernel_rfl) ⟨rfl, rfl, rfl, rfl, rfl, rfl, rfl, trivial⟩ (fun wf => ?_)
    obtain ⟨s45, ps45, qs45, rs45, es45, H⟩ := H
    refine sim_p 0 (ei := [(5, .pointer (some (⟨b6, 0, none⟩ : Addr)))]) (d := (some 64)) wf (by kernel_rfl) ⟨rfl, trivial⟩ (by kernel_rfl) (by kernel_rfl) (fun _ => pf_ye rfl rfl rfl (y_sla (L := 1) (H := 8) tok rfl rfl rfl rfl rfl rfl ps45 qs45 rs45) (congrArg Slc.v es45)) (fun P_0 => ?_)
    obtain ⟨s46, ps46, qs46, rs46, es46, H⟩ := H
    refine sim_p 1 (ei := [(5, .pointer (some (⟨b6, 0, none⟩ : Addr)))]) (d := (some 65)) wf (by kernel_rfl) ⟨rfl, trivial⟩ (by kernel_rfl) (by kernel_rfl) (fun _ => pf_ye rfl rfl rfl (y_sla (L := 0) (H := 7) tok rfl rfl rfl rfl rfl rfl ps46 qs46 rs46) (congrArg Slc.v es46)) (fun P_1 => ?_)
    obtain ⟨l47, H⟩ := H
    refine sim_a 2 [0, 1] [0, 1] (ei := [(64, Slc.v s45), (65, Slc.v s46)]) wf ⟨P_1 _, P_0 _, trivial⟩ (by kernel_rfl) ⟨rfl, rfl, trivial⟩ (by kernel_rfl) rfl rfl rfl (a_cpy (d := s45) (s := s46) tok rfl rfl rfl rfl rfl H) ?_
    rintro _ h48 ⟨rfl, H⟩
    refine sim_end wf ⟨trivial, trivial, trivial⟩ (by kernel_rfl) ?_
    clear wf P_0 P_1
    refine x_seq ?_
    refine c_region ?_
    refine w_p tok rfl rfl rfl ?_
    refine w_p tok rfl rfl rfl ?_
    refine w_p tok rfl rfl rfl ?_
    obtain ⟨lb49, ub49, H⟩ := H
    refine w_y (y_ixp tok rfl rfl rfl rfl rfl lb49 ub49) rfl rfl ?_
    obtain ⟨v50, hv50, H⟩ := H
    refine w_y (y_ld tok rfl rfl rfl rfl hv50) rfl rfl ?_
    refine w_p tok rfl rfl rfl ?_
    refine w_p tok rfl rfl rfl ?_
    obtain ⟨lb51, ub51, H⟩ := H
    refine w_y (y_ixp tok rfl rfl rfl rfl rfl lb51 ub51) rfl rfl ?_
    obtain ⟨h52, wh52, eh52, H⟩ := H
    refine w_h (h_st tok rfl rfl rfl rfl rfl rfl wh52 eh52) rfl rfl ?_
    obtain ⟨lb53, ub53, H⟩ := H
    refine w_y (y_ixp tok rfl rfl rfl rfl rfl lb53 ub53) rfl rfl ?_
    obtain ⟨h54, wh54, eh54, H⟩ := H
    refine w_h (h_st tok rfl rfl rfl rfl rfl rfl wh54 eh54) rfl rfl ?_
    refine w_end ?_
    refine x_blk ?_
    refine x_seq ?_
    refine c_weak [(2, .pointer (some (⟨b1, 0, none⟩ : Addr))), (4, .pointer (some (⟨b3, 0, none⟩ : Addr))), (5, .pointer (some (⟨b6, 0, none⟩ : Addr))), (15, .agg (arr 64 .u32 r9).toArray), (16, .int .i64 t16_1)] ⟨rfl, rfl, rfl, rfl, rfl, trivial⟩ ?_
    refine c_region ?_
    refine w_p tok rfl rfl rfl ?_
    refine w_p tok rfl rfl rfl ?_
    refine w_end ?_
    exact x_join (IntKind.i64.wrap (t16_1 + 1)) H ⟨rfl, rfl, rfl, rfl, rfl, trivial⟩
  ·
    refine c_exit ?_
    refine x_te ?_
    refine x_te ?_
    refine x_bh ?_
    refine x_seq ?_
    refine c_seq ?_
    refine c_seq ?_
    refine c_region ?_
    refine w_p tok rfl rfl rfl ?_
    refine w_end ?_
    refine x_seq ?_
    refine c_block ?_
    obtain ⟨I2, μ2, H0, HI⟩ := H
    refine c_loop (σ := Int) (fun (s : Int) => [(77, .int .i64 s), (2, .pointer (some (⟨b1, 0, none⟩ : Addr))), (4, .pointer (some (⟨b3, 0, none⟩ : Addr))), (5, .pointer (some (⟨b6, 0, none⟩ : Addr)))]) I2 μ2 0 H0 ⟨rfl, rfl, rfl, rfl, trivial⟩ ?_
    rintro t77_2 h_2 H
    replace H := HI t77_2 h_2 H
    unfold sha_words_step_l2b at H
    refine c_weak [(77, .int .i64 t77_2), (2, .pointer (some (⟨b1, 0, none⟩ : Addr))), (4, .pointer (some (⟨b3, 0, none⟩ : Addr))), (5, .pointer (some (⟨b6, 0, none⟩ : Addr)))] ⟨rfl, rfl, rfl, rfl, trivial⟩ ?_
    refine c_seq ?_
    refine c_region ?_
    refine w_p tok rfl rfl rfl ?_
    refine w_end ?_
    refine x_seq ?_
    refine c_seq ?_
    refine c_if H rfl (fun H => ?_) (fun H => ?_)
    ·
      refine c_skip ?_
      refine x_seq ?_
      refine c_seq ?_
      refine c_block ?_
      refine c_seq ?_
      refine c_region ?_
      refine w_p tok rfl rfl rfl ?_
      refine w_p tok rfl rfl rfl ?_
      refine w_end ?_
      refine x_seq ?_
      refine c_sim [(2, .pointer (some (⟨b1, 0, none⟩ : Addr))), (4, .pointer (some (⟨b3, 0, none⟩ : Addr))), (5, .pointer (some (⟨b6, 0, none⟩ : Addr))), (12, .int .i64 t77_2), (77, .int .i64 t77_2)] (by kernel_rfl) (by kernel_rfl) ⟨rfl, rfl, rfl, rfl, rfl, trivial⟩ (fun wf => ?_)
      refine sim_p 0 (ei := [(12, .int .i64 t77_2)]) (d := (some 80)) wf (by kernel_rfl) ⟨rfl, trivial⟩ (by kernel_rfl) (by kernel_rfl) (fun _ => pf_p tok rfl rfl rfl rfl) (fun P_0 => ?_)
      obtain ⟨lb55, ub55, H⟩ := H
      refine sim_p 1 (ei := [(2, .pointer (some (⟨b1, 0, none⟩ : Addr))), (80, .int .i64 t77_2)]) (d := (some 81)) wf (by kernel_rfl) ⟨rfl, rfl, trivial⟩ (by kernel_rfl) (by kernel_rfl) (fun _ => pf_y rfl rfl rfl (y_ixp tok rfl rfl rfl rfl rfl lb55 ub55)) (fun P_1 => ?_)
      obtain ⟨v56, hv56, H⟩ := H
      refine sim_l 2 (ei := [(81, .pointer (some ((⟨b1, 0, none⟩ : Addr).add (t77_2.toNat * 1))))]) (d := (some 82)) wf (by kernel_rfl) ⟨rfl, trivial⟩ (by kernel_rfl) (by kernel_rfl) (pf_y rfl rfl rfl (y_ld tok rfl rfl rfl rfl hv56)) (fun P_2 => ?_)
      refine sim_p 3 (ei := [(12, .int .i64 t77_2)]) (d := (some 83)) wf (by kernel_rfl) ⟨rfl, trivial⟩ (by kernel_rfl) (by kernel_rfl) (fun _ => pf_p tok rfl rfl rfl rfl) (fun P_3 => ?_)
      obtain ⟨lb57, ub57, H⟩ := H
      refine sim_p 4 (ei := [(5, .pointer (some (⟨b6, 0, none⟩ : Addr))), (83, .int .i64 t77_2)]) (d := (some 84)) wf (by kernel_rfl) ⟨rfl, rfl, trivial⟩ (by kernel_rfl) (by kernel_rfl) (fun _ => pf_y rfl rfl rfl (y_ixp tok rfl rfl rfl rfl rfl lb57 ub57)) (fun P_4 => ?_)
      obtain ⟨v58, hv58, H⟩ := H
      refine sim_l 5 (ei := [(84, .pointer (some ((⟨b6, 0, none⟩ : Addr).add (t77_2.toNat * 1))))]) (d := (some 85)) wf (by kernel_rfl) ⟨rfl, trivial⟩ (by kernel_rfl) (by kernel_rfl) (pf_y rfl rfl rfl (y_ld tok rfl rfl rfl rfl hv58)) (fun P_5 => ?_)
      refine sim_p 6 (ei := [(82, .int .u32 v56), (85, .int .u32 v58)]) (d := (some 86)) wf (by kernel_rfl) ⟨rfl, rfl, trivial⟩ (by kernel_rfl) (by kernel_rfl) (fun _ => pf_p tok rfl rfl rfl rfl) (fun P_6 => ?_)
      obtain ⟨lb59, ub59, H⟩ := H
      refine sim_p 7 (ei := [(2, .pointer (some (⟨b1, 0, none⟩ : Addr))), (80, .int .i64 t77_2)]) (d := (some 87)) wf (by kernel_rfl) ⟨rfl, rfl, trivial⟩ (by kernel_rfl) (by kernel_rfl) (fun _ => pf_y rfl rfl rfl (y_ixp tok rfl rfl rfl rfl rfl lb59 ub59)) (fun P_7 => ?_)
      obtain ⟨h60, wh60, eh60, H⟩ := H
      refine sim_h 8 [0, 1, 2, 3, 4, 5, 6, 7] [0, 1, 2, 3, 4, 5, 6, 7] (ei := [(86, .int .u32 (IntKind.u32.wrap (v56 + v58))), (87, .pointer (some ((⟨b1, 0, none⟩ : Addr).add (t77_2.toNat * 1))))]) wf ⟨P_7 _, P_6 _, P_5, P_4 _, P_3 _, P_2, P_1 _, P_0 _, trivial⟩ (by kernel_rfl) ⟨rfl, rfl, trivial⟩ (by kernel_rfl) rfl rfl rfl (h_st tok rfl rfl rfl rfl rfl rfl wh60 eh60) ?_
      refine sim_end wf ⟨trivial, trivial, trivial, trivial, trivial, trivial, trivial, trivial, trivial⟩ (by kernel_rfl) ?_
      clear wf P_0 P_1 P_2 P_3 P_4 P_5 P_6 P_7
      refine x_blk ?_
      refine x_seq ?_
      refine c_weak [(2, .pointer (some (⟨b1, 0, none⟩ : Addr))), (4, .pointer (some (⟨b3, 0, none⟩ : Addr))), (5, .pointer (some (⟨b6, 0, none⟩ : Addr))), (77, .int .i64 t77_2)] ⟨rfl, rfl, rfl, rfl, trivial⟩ ?_
      refine c_region ?_
      refine w_p tok rfl rfl rfl ?_
      refine w_p tok rfl rfl rfl ?_
      refine w_end ?_
      exact x_join (IntKind.i64.wrap (t77_2 + 1)) H ⟨rfl, rfl, rfl, rfl, trivial⟩
    ·
      refine c_exit ?_
      refine x_te ?_
      refine x_te ?_
      refine x_bh ?_
      refine x_seq ?_
      refine c_seq ?_
      refine c_region ?_
      obtain ⟨v61, hv61, H⟩ := H
      refine w_y (y_lda tok rfl rfl rfl rfl rfl hv61) rfl rfl ?_
      obtain ⟨h62, wh62, eh62, H⟩ := H
      refine w_h (h_sts tok rfl rfl rfl rfl rfl (oneC (by kernel_rfl)) wh62 eh62) rfl rfl ?_
      refine w_end ?_
      refine x_seq ?_
      refine c_ret ?_
      obtain ⟨v63, hv63, H⟩ := H
      exact x_retc tok _ rfl [.agg (arr 8 .u32 v63).toArray] ⟨⟨_, _, rfl, rfl, .inr ⟨rfl, _, rfl, rfl, hv63⟩⟩, trivial⟩ ⟨v63, rfl, H⟩

theorem slices_Grow_byte_byte_ok : CallOk Go.Proofs.Tryd.prog 37 := ⟨_, Go.Proofs.Tryd.func37, by kernel_rfl, by kernel_rfl⟩
theorem slices_Grow_byte_byte_ref (p0 : Slc) (p1 : Int) (k : (Slc) → Heap → Prop) (h : Heap) (H : slices_Grow_byte_byte p0 p1 k h) : CallsH Go.Proofs.Tryd.prog 37 #[Slc.v p0, .int .i64 p1] h (fun v h' => ∃ r : Slc, v = Slc.v r ∧ k r h') := by
  refine f_enter (N := 27) Go.Proofs.Tryd.func37 rfl rfl rfl (fun w0 => ?_)
  unfold slices_Grow_byte_byte at H
  refine c_weak [(0, Slc.v p0), (1, .int .i64 p1)] ⟨rfl, rfl, trivial⟩ ?_
  refine c_seq ?_
  refine c_region ?_
  refine w_p tok rfl rfl rfl ?_
  refine w_end ?_
  refine x_seq ?_
  refine c_seqJ (α := Unit) (fun (s : Unit) => [(0, Slc.v p0), (1, .int .i64 p1)]) (fun (s : Unit) h => slices_Grow_byte_byte_j1 p0 p1 k h) ?_ ?_
  ·
    rintro _ h_1 H
    replace H : slices_Grow_byte_byte_j1 p0 p1 k h_1 := H
    unfold slices_Grow_byte_byte_j1 at H
    refine c_weak [(0, Slc.v p0), (1, .int .i64 p1)] ⟨rfl, rfl, trivial⟩ ?_
    refine c_seqJ (α := Slc) (fun (s : Slc) => [(0, Slc.v s)]) (fun (s : Slc) h => slices_Grow_byte_byte_j2 s k h) ?_ ?_
    ·
      rintro t0_2 h_2 H
      replace H : slices_Grow_byte_byte_j2 t0_2 k h_2 := H
      unfold slices_Grow_byte_byte_j2 at H
      refine c_weak [(0, Slc.v t0_2)] ⟨rfl, trivial⟩ ?_
      refine c_seq ?_
      refine c_region ?_
      refine w_p tok rfl rfl rfl ?_
      refine w_p tok rfl rfl rfl ?_
      refine w_end ?_
      refine x_seq ?_
      refine c_ret ?_
      exact x_ret _ rfl _ rfl ⟨t0_2, rfl, H⟩
    ·
      refine c_seq ?_
      refine c_region ?_
      refine w_p tok rfl rfl rfl ?_
      refine w_p tok rfl rfl rfl ?_
      refine w_y (y_cap (s := p0) tok rfl rfl rfl) rfl rfl ?_
      refine w_p tok rfl rfl rfl ?_
      refine w_p tok rfl rfl rfl ?_
      refine w_p tok rfl rfl rfl ?_
      refine w_p tok rfl rfl rfl ?_
      obtain ⟨x1, ex1, H⟩ := H
      refine w_pe tok rfl (congrArg (fun z => (.int .i64 z : Value)) ex1) rfl rfl ?_
      refine w_end ?_
      refine x_seq ?_
      refine c_weak [(0, Slc.v p0), (1, .int .i64 x1)] ⟨rfl, rfl, trivial⟩ ?_
      refine c_seq ?_
      refine c_region ?_
      refine w_p tok rfl rfl rfl ?_
      refine w_p tok rfl rfl rfl ?_
      refine w_end ?_
      refine x_seq ?_
      refine c_if H rfl (fun H => ?_) (fun H => ?_)
      ·
        refine c_region ?_
        refine w_p tok rfl rfl rfl ?_
        refine w_p tok rfl rfl rfl ?_
        refine w_y (y_cap (s := p0) tok rfl rfl rfl) rfl rfl ?_
        obtain ⟨s2, ps2, qs2, rs2, ts2, es2, H⟩ := H
        refine w_ye (y_sl (s := p0) (L := 0) (H := (p0.cap : Int)) (M := (p0.cap : Int)) tok rfl rfl rfl rfl rfl rfl rfl (by simp) ps2 qs2 rs2 ts2) (congrArg Slc.v es2) rfl rfl ?_
        refine w_p tok rfl rfl rfl ?_
        obtain ⟨ns3, gs3, zs3, H⟩ := H
        refine w_a (a_appm (s := s2) (n := x1) tok rfl rfl rfl rfl rfl rfl ns3 gs3 zs3 H) rfl rfl ?_
        rintro _ h4 ⟨s3, rfl, H⟩
        refine w_p tok rfl rfl rfl ?_
        refine w_p tok rfl rfl rfl ?_
        obtain ⟨s5, ps5, qs5, rs5, ts5, es5, H⟩ := H
        refine w_ye (y_sl (s := s3) (L := 0) (H := (p0.len : Int)) (M := (s3.cap : Int)) tok rfl rfl rfl rfl rfl rfl rfl (by simp) ps5 qs5 rs5 ts5) (congrArg Slc.v es5) rfl rfl ?_
        refine w_p tok rfl rfl rfl ?_
        refine w_end ?_
        exact x_join s5 H ⟨rfl, trivial⟩
      ·
        refine c_skip ?_
        exact x_join p0 H ⟨rfl, trivial⟩
  ·
    refine c_seq ?_
    refine c_region ?_
    refine w_p tok rfl rfl rfl ?_
    refine w_p tok rfl rfl rfl ?_
    refine w_end ?_
    refine x_seq ?_
    refine c_if H rfl (fun H => ?_) (fun H => ?_)
    ·
      refine c_region ?_
      exact H.elim
    ·
      refine c_skip ?_
      exact x_join () H ⟨rfl, rfl, trivial⟩

theorem slices_Concat_byte_byte_ok : CallOk Go.Proofs.Tryd.prog 24 := ⟨_, Go.Proofs.Tryd.func24, by kernel_rfl, by kernel_rfl⟩
theorem slices_Concat_byte_byte_ref (p0 : Slc) (k : (Slc) → Heap → Prop) (h : Heap) (H : slices_Concat_byte_byte p0 k h) : CallsH Go.Proofs.Tryd.prog 24 #[Slc.v p0] h (fun v h' => ∃ r : Slc, v = Slc.v r ∧ k r h') := by
  refine f_enter (N := 36) Go.Proofs.Tryd.func24 rfl rfl rfl (fun w0 => ?_)
  unfold slices_Concat_byte_byte at H
  refine c_weak [(0, Slc.v p0)] ⟨rfl, trivial⟩ ?_
  refine c_seq ?_
  refine c_region ?_
  refine w_p tok rfl rfl rfl ?_
  refine w_end ?_
  refine x_seq ?_
  refine c_seq ?_
  refine c_region ?_
  refine w_p tok rfl rfl rfl ?_
  refine w_end ?_
  refine x_seq ?_
  refine c_seq ?_
  refine c_seq ?_
  refine c_region ?_
  refine w_p tok rfl rfl rfl ?_
  refine w_p tok rfl rfl rfl ?_
  refine w_p tok rfl rfl rfl ?_
  refine w_end ?_
  refine x_seq ?_
  refine c_block ?_
  obtain ⟨I1, μ1, H0, HI⟩ := H
  refine c_loop (σ := Int × Int) (fun (s : Int × Int) => [(3, .int .i64 s.1), (11, .int .i64 s.2), (0, Slc.v p0), (9, Slc.v p0), (10, .int .i64 (p0.len : Int))]) I1 μ1 (0, 0) H0 ⟨rfl, rfl, rfl, rfl, rfl, trivial⟩ ?_
  rintro ⟨t3_1, t11_1⟩ h_1 H
  replace H := HI t3_1 t11_1 h_1 H
  unfold slices_Concat_byte_byte_l1b at H
  refine c_weak [(3, .int .i64 t3_1), (11, .int .i64 t11_1), (0, Slc.v p0), (9, Slc.v p0), (10, .int .i64 (p0.len : Int))] ⟨rfl, rfl, rfl, rfl, rfl, trivial⟩ ?_
  refine c_seq ?_
  refine c_region ?_
  refine w_p tok rfl rfl rfl ?_
  refine w_end ?_
  refine x_seq ?_
  refine c_seq ?_
  refine c_if H rfl (fun H => ?_) (fun H => ?_)
  ·
    refine c_skip ?_
    refine x_seq ?_
    refine c_seqJ (α := Int) (fun (s : Int) => [(3, .int .i64 s), (0, Slc.v p0), (9, Slc.v p0), (10, .int .i64 (p0.len : Int)), (11, .int .i64 t11_1)]) (fun (s : Int) h => slices_Concat_byte_byte_j2 p0 p0 (p0.len : Int) t11_1 s k (fun s h' => I1 s h' ∧ μ1 s h' < μ1 (t3_1, t11_1) h_1) h) ?_ ?_
    ·
      rintro t3_2 h_2 H
      replace H : slices_Concat_byte_byte_j2 p0 p0 (p0.len : Int) t11_1 t3_2 k (fun s h' => I1 s h' ∧ μ1 s h' < μ1 (t3_1, t11_1) h_1) h_2 := H
      unfold slices_Concat_byte_byte_j2 at H
      refine c_weak [(3, .int .i64 t3_2), (0, Slc.v p0), (9, Slc.v p0), (10, .int .i64 (p0.len : Int)), (11, .int .i64 t11_1)] ⟨rfl, rfl, rfl, rfl, rfl, trivial⟩ ?_
      refine c_region ?_
      refine w_p tok rfl rfl rfl ?_
      refine w_p tok rfl rfl rfl ?_
      refine w_end ?_
      exact x_join (t3_2, (IntKind.i64.wrap (t11_1 + 1))) H ⟨rfl, rfl, rfl, rfl, rfl, trivial⟩
    ·
      refine c_block ?_
      refine c_seq ?_
      refine c_region ?_
      obtain ⟨a1, ha1, la1, ua1, H⟩ := H
      refine w_y (y_ixa' tok rfl rfl ha1 rfl rfl rfl la1 ua1) rfl rfl ?_
      obtain ⟨v2, hv2, H⟩ := H
      refine w_y (y_ld tok rfl rfl rfl rfl hv2) rfl rfl ?_
      refine w_p tok rfl rfl rfl ?_
      refine w_end ?_
      refine x_seq ?_
      refine c_seq ?_
      refine c_region ?_
      refine w_p tok rfl rfl rfl ?_
      refine w_p tok rfl rfl rfl ?_
      refine w_p tok rfl rfl rfl ?_
      refine w_p tok rfl rfl rfl ?_
      obtain ⟨x3, ex3, H⟩ := H
      refine w_pe tok rfl (congrArg (fun z => (.int .i64 z : Value)) ex3) rfl rfl ?_
      refine w_end ?_
      refine x_seq ?_
      refine c_weak [(3, .int .i64 x3), (11, .int .i64 t11_1), (0, Slc.v p0), (9, Slc.v p0), (10, .int .i64 (p0.len : Int))] ⟨rfl, rfl, rfl, rfl, rfl, trivial⟩ ?_
      refine c_seq ?_
      refine c_region ?_
      refine w_p tok rfl rfl rfl ?_
      refine w_p tok rfl rfl rfl ?_
      refine w_end ?_
      refine x_seq ?_
      refine c_if H rfl (fun H => ?_) (fun H => ?_)
      ·
        refine c_region ?_
        exact H.elim
      ·
        refine c_skip ?_
        refine x_blk ?_
        exact x_join x3 H ⟨rfl, rfl, rfl, rfl, rfl, trivial⟩
  ·
    refine c_exit ?_
    refine x_te ?_
    refine x_te ?_
    refine x_bh ?_
    refine x_seq ?_
    refine c_seq ?_
    refine c_region ?_
    refine w_p tok rfl rfl rfl ?_
    refine w_call slices_Grow_byte_byte_ok (slices_Grow_byte_byte_ref _ _ _ _ H) rfl rfl rfl rfl ?_
    rintro _ h5 ⟨r4, rfl, H⟩
    refine w_p tok rfl rfl rfl ?_
    refine w_end ?_
    refine x_seq ?_
    refine c_weak [(0, Slc.v p0), (6, Slc.v r4)] ⟨rfl, rfl, trivial⟩ ?_
    refine c_seq ?_
    refine c_seq ?_
    refine c_region ?_
    refine w_p tok rfl rfl rfl ?_
    refine w_p tok rfl rfl rfl ?_
    refine w_p tok rfl rfl rfl ?_
    refine w_end ?_
    refine x_seq ?_
    refine c_block ?_
    obtain ⟨I3, μ3, H0, HI⟩ := H
    refine c_loop (σ := Slc × Int) (fun (s : Slc × Int) => [(6, Slc.v s.1), (27, .int .i64 s.2), (25, Slc.v p0), (26, .int .i64 (p0.len : Int))]) I3 μ3 (r4, 0) H0 ⟨rfl, rfl, rfl, rfl, trivial⟩ ?_
    rintro ⟨t6_3, t27_3⟩ h_3 H
    replace H := HI t6_3 t27_3 h_3 H
    unfold slices_Concat_byte_byte_l3b at H
    refine c_weak [(6, Slc.v t6_3), (27, .int .i64 t27_3), (25, Slc.v p0), (26, .int .i64 (p0.len : Int))] ⟨rfl, rfl, rfl, rfl, trivial⟩ ?_
    refine c_seq ?_
    refine c_region ?_
    refine w_p tok rfl rfl rfl ?_
    refine w_end ?_
    refine x_seq ?_
    refine c_seq ?_
    refine c_if H rfl (fun H => ?_) (fun H => ?_)
    ·
      refine c_skip ?_
      refine x_seq ?_
      refine c_seq ?_
      refine c_block ?_
      refine c_seq ?_
      refine c_region ?_
      obtain ⟨a6, ha6, la6, ua6, H⟩ := H
      refine w_y (y_ixa' tok rfl rfl ha6 rfl rfl rfl la6 ua6) rfl rfl ?_
      obtain ⟨v7, hv7, H⟩ := H
      refine w_y (y_ld tok rfl rfl rfl rfl hv7) rfl rfl ?_
      refine w_p tok rfl rfl rfl ?_
      refine w_end ?_
      refine x_seq ?_
      refine c_region ?_
      refine w_p tok rfl rfl rfl ?_
      refine w_p tok rfl rfl rfl ?_
      obtain ⟨l10, hl10, H⟩ := H
      refine w_a (a_app (s := t6_3) (r := v7) tok rfl rfl rfl rfl rfl hl10 H) rfl rfl ?_
      rintro _ h9 ⟨s8, rfl, H⟩
      refine w_p tok rfl rfl rfl ?_
      refine w_end ?_
      refine x_blk ?_
      refine x_seq ?_
      refine c_weak [(6, Slc.v s8), (27, .int .i64 t27_3), (25, Slc.v p0), (26, .int .i64 (p0.len : Int))] ⟨rfl, rfl, rfl, rfl, trivial⟩ ?_
      refine c_region ?_
      refine w_p tok rfl rfl rfl ?_
      refine w_p tok rfl rfl rfl ?_
      refine w_end ?_
      exact x_join (s8, (IntKind.i64.wrap (t27_3 + 1))) H ⟨rfl, rfl, rfl, rfl, trivial⟩
    ·
      refine c_exit ?_
      refine x_te ?_
      refine x_te ?_
      refine x_bh ?_
      refine x_seq ?_
      refine c_seq ?_
      refine c_region ?_
      refine w_p tok rfl rfl rfl ?_
      refine w_p tok rfl rfl rfl ?_
      refine w_end ?_
      refine x_seq ?_
      refine c_ret ?_
      exact x_ret _ rfl _ rfl ⟨t6_3, rfl, H⟩

theorem sha_Of_ok : CallOk Go.Proofs.Tryd.prog 49 := ⟨_, Go.Proofs.Tryd.func49, by kernel_rfl, by kernel_rfl⟩
theorem sha_Of_ref (p0 : Slc) (k : (List Int) → Heap → Prop) (h : Heap) (H : sha_Of p0 k h) : CallsH Go.Proofs.Tryd.prog 49 #[Slc.v p0] h (fun v h' => ∃ r : List Int, v = .agg (arr 32 .u8 r).toArray ∧ k r h') := by
  refine f_enter (N := 65) Go.Proofs.Tryd.func49 rfl rfl rfl (fun w0 => ?_)
  unfold sha_Of at H
  refine c_weak [(0, Slc.v p0)] ⟨rfl, trivial⟩ ?_
  refine c_seq ?_
  refine c_region ?_
  obtain ⟨b1, h2, eb1, eh2, H⟩ := H
  refine w_h (h_alloc tok rfl rfl eb1 eh2) rfl rfl ?_
  refine w_end ?_
  refine x_seq ?_
  refine c_scope ?_
  refine c_seq ?_
  refine c_region ?_
  refine w_p tok rfl rfl rfl ?_
  refine w_call slices_Concat_byte_byte_ok (slices_Concat_byte_byte_ref _ _ _ H) rfl rfl rfl rfl ?_
  rintro _ h4 ⟨r3, rfl, H⟩
  refine w_p tok rfl rfl rfl ?_
  refine w_end ?_
  refine x_seq ?_
  refine c_seq ?_
  refine c_region ?_
  refine w_p tok rfl rfl rfl ?_
  refine w_p tok rfl rfl rfl ?_
  refine w_p tok rfl rfl rfl ?_
  refine w_p tok rfl rfl rfl ?_
  obtain ⟨x5, ex5, H⟩ := H
  refine w_pe tok rfl (congrArg (fun z => (.int .u64 z : Value)) ex5) rfl rfl ?_
  refine w_end ?_
  refine x_seq ?_
  refine c_weak [(2, .pointer (some (⟨b1, 0, none⟩ : Addr))), (3, Slc.v r3), (4, .int .u64 x5)] ⟨rfl, rfl, rfl, trivial⟩ ?_
  refine c_seq ?_
  refine c_region ?_
  refine w_p tok rfl rfl rfl ?_
  obtain ⟨b6, h7, eb6, eh7, H⟩ := H
  refine w_h (h_bs tok rfl rfl rfl rfl rfl rfl rfl eb6 eh7) rfl rfl ?_
  refine w_a (a_app (s := r3) (r := (⟨some ⟨b6, 0, none⟩, 1, 1⟩ : Slc)) tok rfl rfl rfl rfl rfl (slcAt_push eb6 eh7) H) rfl rfl ?_
  rintro _ h9 ⟨s8, rfl, H⟩
  refine w_p tok rfl rfl rfl ?_
  refine w_end ?_
  refine x_seq ?_
  refine c_seq ?_
  refine c_block ?_
  obtain ⟨I1, μ1, H0, HI⟩ := H
  refine c_loop (σ := Slc) (fun (s : Slc) => [(3, Slc.v s), (2, .pointer (some (⟨b1, 0, none⟩ : Addr))), (4, .int .u64 x5)]) I1 μ1 s8 H0 ⟨rfl, rfl, rfl, trivial⟩ ?_
  rintro t3_1 h_1 H
  replace H := HI t3_1 h_1 H
  unfold sha_Of_l1b at H
  refine c_weak [(3, Slc.v t3_1), (2, .pointer (some (⟨b1, 0, none⟩ : Addr))), (4, .int .u64 x5)] ⟨rfl, rfl, rfl, trivial⟩ ?_
  refine c_seq ?_
  refine c_seq ?_
  refine c_region ?_
  refine w_p tok rfl rfl rfl ?_
  refine w_p tok rfl rfl rfl ?_
  refine w_p tok rfl rfl rfl ?_
  refine w_p tok rfl rfl rfl ?_
  refine w_end ?_
  refine x_seq ?_
  refine c_if H rfl (fun H => ?_) (fun H => ?_)
  ·
    refine c_skip ?_
    refine x_seq ?_
    refine c_block ?_
    refine c_region ?_
    refine w_p tok rfl rfl rfl ?_
    obtain ⟨b10, h11, eb10, eh11, H⟩ := H
    refine w_h (h_bs tok rfl rfl rfl rfl rfl rfl rfl eb10 eh11) rfl rfl ?_
    refine w_a (a_app (s := t3_1) (r := (⟨some ⟨b10, 0, none⟩, 1, 1⟩ : Slc)) tok rfl rfl rfl rfl rfl (slcAt_push eb10 eh11) H) rfl rfl ?_
    rintro _ h13 ⟨s12, rfl, H⟩
    refine w_p tok rfl rfl rfl ?_
    refine w_end ?_
    refine x_blk ?_
    exact x_join s12 H ⟨rfl, rfl, rfl, trivial⟩
  ·
    refine c_exit ?_
    refine x_te ?_
    refine x_te ?_
    refine x_bh ?_
    refine x_seq ?_
    refine c_seq ?_
    refine c_seq ?_
    refine c_region ?_
    refine w_p tok rfl rfl rfl ?_
    refine w_end ?_
    refine x_seq ?_
    refine c_block ?_
    obtain ⟨I2, μ2, H0, HI⟩ := H
    refine c_loop (σ := Slc × Int) (fun (s : Slc × Int) => [(3, Slc.v s.1), (5, .int .i64 s.2), (2, .pointer (some (⟨b1, 0, none⟩ : Addr))), (4, .int .u64 x5)]) I2 μ2 (t3_1, 56) H0 ⟨rfl, rfl, rfl, rfl, trivial⟩ ?_
    rintro ⟨t3_2, t5_2⟩ h_2 H
    replace H := HI t3_2 t5_2 h_2 H
    unfold sha_Of_l2b at H
    refine c_weak [(3, Slc.v t3_2), (5, .int .i64 t5_2), (2, .pointer (some (⟨b1, 0, none⟩ : Addr))), (4, .int .u64 x5)] ⟨rfl, rfl, rfl, rfl, trivial⟩ ?_
    refine c_seq ?_
    refine c_seq ?_
    refine c_region ?_
    refine w_p tok rfl rfl rfl ?_
    refine w_p tok rfl rfl rfl ?_
    refine w_end ?_
    refine x_seq ?_
    refine c_if H rfl (fun H => ?_) (fun H => ?_)
    ·
      refine c_skip ?_
      refine x_seq ?_
      refine c_seq ?_
      refine c_block ?_
      refine c_region ?_
      refine w_p tok rfl rfl rfl ?_
      refine w_p tok rfl rfl rfl ?_
      refine w_p tok rfl rfl rfl ?_
      refine w_p tok rfl rfl rfl ?_
      obtain ⟨z14, H⟩ := H
      refine w_y (y_shr rfl rfl rfl z14) rfl rfl ?_
      refine w_p tok rfl rfl rfl ?_
      obtain ⟨b15, h16, eb15, eh16, H⟩ := H
      refine w_h (h_bs tok rfl rfl rfl rfl rfl rfl rfl eb15 eh16) rfl rfl ?_
      refine w_a (a_app (s := t3_2) (r := (⟨some ⟨b15, 0, none⟩, 1, 1⟩ : Slc)) tok rfl rfl rfl rfl rfl (slcAt_push eb15 eh16) H) rfl rfl ?_
      rintro _ h18 ⟨s17, rfl, H⟩
      refine w_p tok rfl rfl rfl ?_
      refine w_end ?_
      refine x_blk ?_
      refine x_seq ?_
      refine c_weak [(3, Slc.v s17), (5, .int .i64 t5_2), (2, .pointer (some (⟨b1, 0, none⟩ : Addr))), (4, .int .u64 x5)] ⟨rfl, rfl, rfl, rfl, trivial⟩ ?_
      refine c_region ?_
      refine w_p tok rfl rfl rfl ?_
      refine w_p tok rfl rfl rfl ?_
      obtain ⟨x19, ex19, H⟩ := H
      refine w_pe tok rfl (congrArg (fun z => (.int .i64 z : Value)) ex19) rfl rfl ?_
      refine w_end ?_
      exact x_join (s17, x19) H ⟨rfl, rfl, rfl, rfl, trivial⟩
    ·
      refine c_exit ?_
      refine x_te ?_
      refine x_te ?_
      refine x_bh ?_
      refine x_seq ?_
      refine c_seq ?_
      refine c_region ?_
      refine w_call sha_start_ok (sha_start_ref  _ _ H) rfl rfl rfl rfl ?_
      rintro _ h21 ⟨r20, rfl, H⟩
      obtain ⟨b22, h23, eb22, eh23, H⟩ := H
      refine w_h (h_alloc tok rfl rfl eb22 eh23) rfl rfl ?_
      obtain ⟨h24, wh24, eh24, H⟩ := H
      refine w_h (h_sts tok rfl rfl rfl rfl rfl (oneC (by kernel_rfl)) wh24 eh24) rfl rfl ?_
      refine w_end ?_
      refine x_seq ?_
      refine c_seq ?_
      refine c_label ?_
      refine x_seq ?_
      refine c_seq ?_
      refine c_block ?_
      obtain ⟨I3, μ3, H0, HI⟩ := H
      refine c_loop (σ := Slc) (fun (s : Slc) => [(3, Slc.v s), (2, .pointer (some (⟨b1, 0, none⟩ : Addr))), (6, .pointer (some (⟨b22, 0, none⟩ : Addr)))]) I3 μ3 t3_2 H0 ⟨rfl, rfl, rfl, trivial⟩ ?_
      rintro t3_3 h_3 H
      replace H := HI t3_3 h_3 H
      unfold sha_Of_l3b at H
      refine c_weak [(3, Slc.v t3_3), (2, .pointer (some (⟨b1, 0, none⟩ : Addr))), (6, .pointer (some (⟨b22, 0, none⟩ : Addr)))] ⟨rfl, rfl, rfl, trivial⟩ ?_
      refine c_block ?_
      refine c_seq ?_
      refine c_sim [(2, .pointer (some (⟨b1, 0, none⟩ : Addr))), (3, Slc.v t3_3), (6, .pointer (some (⟨b22, 0, none⟩ : Addr)))] (by kernel_rfl) (by kernel_rfl) ⟨rfl, rfl, rfl, trivial⟩ (fun wf => ?_)
      obtain ⟨v25, hv25, H⟩ := H
      refine sim_l 0 (ei := [(6, .pointer (some (⟨b22, 0, none⟩ : Addr)))]) (d := (some 38)) wf (by kernel_rfl) ⟨rfl, trivial⟩ (by kernel_rfl) (by kernel_rfl) (pf_y rfl rfl rfl (y_lda tok rfl rfl rfl rfl rfl hv25)) (fun P_0 => ?_)
      refine sim_p 1 (ei := [(3, Slc.v t3_3)]) (d := (some 39)) wf (by kernel_rfl) ⟨rfl, trivial⟩ (by kernel_rfl) (by kernel_rfl) (fun _ => pf_p tok rfl rfl rfl rfl) (fun P_1 => ?_)
      obtain ⟨s26, ps26, qs26, rs26, ts26, es26, H⟩ := H
      refine sim_p 2 (ei := [(39, Slc.v t3_3)]) (d := (some 40)) wf (by kernel_rfl) ⟨rfl, trivial⟩ (by kernel_rfl) (by kernel_rfl) (fun _ => pf_ye rfl rfl rfl (y_sl (s := t3_3) (L := 0) (H := 64) (M := (t3_3.cap : Int)) tok rfl rfl rfl rfl rfl rfl rfl (by simp) ps26 qs26 rs26 ts26) (congrArg Slc.v es26)) (fun P_2 => ?_)
      refine sim_c 3 [0, 1, 2] [0, 1, 2] (ei := [(38, .agg (arr 8 .u32 v25).toArray), (40, Slc.v s26)]) sha_words_step_ok (sha_words_step_ref _ _ _ _ H) wf ⟨P_2 _, P_1 _, P_0, trivial⟩ (by kernel_rfl) ⟨rfl, rfl, trivial⟩ (by kernel_rfl) rfl rfl rfl rfl rfl ?_
      rintro _ h28 ⟨r27, rfl, H⟩
      obtain ⟨h29, wh29, eh29, H⟩ := H
      refine sim_h 4 [0, 1, 2, 3] [0, 1, 2] (ei := [(6, .pointer (some (⟨b22, 0, none⟩ : Addr))), (41, .agg (arr 8 .u32 r27).toArray)]) wf ⟨trivial, trivial, trivial, trivial⟩ (by kernel_rfl) ⟨rfl, rfl, trivial⟩ (by kernel_rfl) rfl rfl rfl (h_sts tok rfl rfl rfl rfl rfl (oneC (by kernel_rfl)) wh29 eh29) ?_
      refine sim_end wf ⟨trivial, trivial, trivial, trivial⟩ (by kernel_rfl) ?_
      clear wf P_0 P_1 P_2
      refine x_seq ?_
      refine c_seq ?_
      refine c_region ?_
      refine w_p tok rfl rfl rfl ?_
      obtain ⟨s30, ps30, qs30, rs30, ts30, es30, H⟩ := H
      refine w_ye (y_sl (s := t3_3) (L := 64) (H := (t3_3.len : Int)) (M := (t3_3.cap : Int)) tok rfl rfl rfl rfl rfl rfl rfl (by simp) ps30 qs30 rs30 ts30) (congrArg Slc.v es30) rfl rfl ?_
      refine w_p tok rfl rfl rfl ?_
      refine w_end ?_
      refine x_seq ?_
      refine c_seq ?_
      refine c_region ?_
      refine w_p tok rfl rfl rfl ?_
      refine w_p tok rfl rfl rfl ?_
      refine w_p tok rfl rfl rfl ?_
      refine w_end ?_
      refine x_seq ?_
      refine c_weak [(2, .pointer (some (⟨b1, 0, none⟩ : Addr))), (3, Slc.v s30), (6, .pointer (some (⟨b22, 0, none⟩ : Addr))), (46, .bool ((s30.len : Int) == 0))] ⟨rfl, rfl, rfl, rfl, trivial⟩ ?_
      refine c_if H rfl (fun H => ?_) (fun H => ?_)
      ·
        refine c_exit ?_
        refine x_bm rfl ?_
        refine x_te ?_
        refine x_bh ?_
        refine x_seq ?_
        refine c_seq ?_
        refine c_region ?_
        obtain ⟨b31, h32, eb31, eh32, H⟩ := H
        refine w_h (h_alloc tok rfl rfl eb31 eh32) rfl rfl ?_
        refine w_end ?_
        refine x_seq ?_
        refine c_seq ?_
        refine c_seq ?_
        refine c_region ?_
        refine w_p tok rfl rfl rfl ?_
        refine w_end ?_
        refine x_seq ?_
        refine c_block ?_
        obtain ⟨I4, μ4, H0, HI⟩ := H
        refine c_loop (σ := Int) (fun (s : Int) => [(47, .int .i64 s), (2, .pointer (some (⟨b1, 0, none⟩ : Addr))), (6, .pointer (some (⟨b22, 0, none⟩ : Addr))), (7, .pointer (some (⟨b31, 0, none⟩ : Addr)))]) I4 μ4 0 H0 ⟨rfl, rfl, rfl, rfl, trivial⟩ ?_
        rintro t47_4 h_4 H
        replace H := HI t47_4 h_4 H
        unfold sha_Of_l4b at H
        refine c_weak [(47, .int .i64 t47_4), (2, .pointer (some (⟨b1, 0, none⟩ : Addr))), (6, .pointer (some (⟨b22, 0, none⟩ : Addr))), (7, .pointer (some (⟨b31, 0, none⟩ : Addr)))] ⟨rfl, rfl, rfl, rfl, trivial⟩ ?_
        refine c_seq ?_
        refine c_region ?_
        refine w_p tok rfl rfl rfl ?_
        refine w_end ?_
        refine x_seq ?_
        refine c_seq ?_
        refine c_if H rfl (fun H => ?_) (fun H => ?_)
        ·
          refine c_skip ?_
          refine x_seq ?_
          refine c_seq ?_
          refine c_block ?_
          refine c_seq ?_
          refine c_region ?_
          refine w_p tok rfl rfl rfl ?_
          refine w_p tok rfl rfl rfl ?_
          refine w_end ?_
          refine x_seq ?_
          refine c_region ?_
          refine w_p tok rfl rfl rfl ?_
          refine w_p tok rfl rfl rfl ?_
          refine w_p tok rfl rfl rfl ?_
          obtain ⟨lb33, ub33, H⟩ := H
          refine w_y (y_ixp tok rfl rfl rfl rfl rfl lb33 ub33) rfl rfl ?_
          obtain ⟨v34, hv34, H⟩ := H
          refine w_y (y_ld tok rfl rfl rfl rfl hv34) rfl rfl ?_
          refine w_p tok rfl rfl rfl ?_
          refine w_p tok rfl rfl rfl ?_
          refine w_p tok rfl rfl rfl ?_
          refine w_p tok rfl rfl rfl ?_
          refine w_p tok rfl rfl rfl ?_
          obtain ⟨z35, H⟩ := H
          refine w_y (y_shr rfl rfl rfl z35) rfl rfl ?_
          refine w_p tok rfl rfl rfl ?_
          obtain ⟨lb36, ub36, H⟩ := H
          refine w_y (y_ixp tok rfl rfl rfl rfl rfl lb36 ub36) rfl rfl ?_
          obtain ⟨h37, wh37, eh37, H⟩ := H
          refine w_h (h_st tok rfl rfl rfl rfl rfl rfl wh37 eh37) rfl rfl ?_
          refine w_end ?_
          refine x_blk ?_
          refine x_seq ?_
          refine c_weak [(47, .int .i64 t47_4), (2, .pointer (some (⟨b1, 0, none⟩ : Addr))), (6, .pointer (some (⟨b22, 0, none⟩ : Addr))), (7, .pointer (some (⟨b31, 0, none⟩ : Addr)))] ⟨rfl, rfl, rfl, rfl, trivial⟩ ?_
          refine c_region ?_
          refine w_p tok rfl rfl rfl ?_
          refine w_p tok rfl rfl rfl ?_
          refine w_end ?_
          exact x_join (IntKind.i64.wrap (t47_4 + 1)) H ⟨rfl, rfl, rfl, rfl, trivial⟩
        ·
          refine c_exit ?_
          refine x_te ?_
          refine x_te ?_
          refine x_bh ?_
          refine x_seq ?_
          refine c_seq ?_
          refine c_region ?_
          obtain ⟨v38, hv38, H⟩ := H
          refine w_y (y_lda tok rfl rfl rfl rfl rfl hv38) rfl rfl ?_
          obtain ⟨h39, wh39, eh39, H⟩ := H
          refine w_h (h_sts tok rfl rfl rfl rfl rfl (oneC (by kernel_rfl)) wh39 eh39) rfl rfl ?_
          refine w_end ?_
          refine x_seq ?_
          refine c_ret ?_
          refine x_sr ?_
          obtain ⟨v40, hv40, H⟩ := H
          exact x_retc tok _ rfl [.agg (arr 32 .u8 v40).toArray] ⟨⟨_, _, rfl, rfl, .inr ⟨rfl, _, rfl, rfl, hv40⟩⟩, trivial⟩ ⟨v40, rfl, H⟩
      ·
        refine c_skip ?_
        refine x_blk ?_
        exact x_join s30 H ⟨rfl, rfl, rfl, trivial⟩

theorem num_Get_ok : CallOk Go.Proofs.Tryd.prog 61 := ⟨_, Go.Proofs.Tryd.func61, by kernel_rfl, by kernel_rfl⟩
theorem num_Get_ref (p0 : Slc) (p1 : Int) (k : (Int × Int) → Heap → Prop) (h : Heap) (H : num_Get p0 p1 k h) : CallsH Go.Proofs.Tryd.prog 61 #[Slc.v p0, .int .i64 p1] h (fun v h' => ∃ r : Int × Int, v = .tuple #[.int .u64 r.1, .int .i64 r.2] ∧ k r h') := by
  refine f_enter (N := 35) Go.Proofs.Tryd.func61 rfl rfl rfl (fun w0 => ?_)
  unfold num_Get at H
  refine c_weak [(0, Slc.v p0), (1, .int .i64 p1)] ⟨rfl, rfl, trivial⟩ ?_
  refine c_seq ?_
  refine c_region ?_
  refine w_p tok rfl rfl rfl ?_
  refine w_p tok rfl rfl rfl ?_
  refine w_end ?_
  refine x_seq ?_
  refine c_seq ?_
  refine c_block ?_
  refine c_seq ?_
  refine c_region ?_
  refine w_p tok rfl rfl rfl ?_
  refine w_p tok rfl rfl rfl ?_
  refine w_p tok rfl rfl rfl ?_
  refine w_cutU 3 [(14, .bool ((decide (p1 < 1)) || (decide (p1 > 8)))), (0, Slc.v p0), (1, .int .i64 p1)] ?_ ?_
  ·
    refine w_p tok rfl rfl rfl ?_
    refine w_end ?_
    refine x_seq ?_
    refine c_if H rfl (fun H => ?_) (fun H => ?_)
    ·
      refine c_seq ?_
      refine c_region ?_
      refine w_p tok rfl rfl rfl ?_
      refine w_p tok rfl rfl rfl ?_
      refine w_end ?_
      refine x_seq ?_
      refine c_ret ?_
      refine x_br ?_
      refine x_tr ?_
      exact x_ret _ rfl _ rfl ⟨(0, 1), rfl, H⟩
    ·
      refine c_seq ?_
      refine c_region ?_
      refine w_p tok rfl rfl rfl ?_
      refine w_p tok rfl rfl rfl ?_
      refine w_p tok rfl rfl rfl ?_
      refine w_p tok rfl rfl rfl ?_
      refine w_p tok rfl rfl rfl ?_
      refine w_end ?_
      refine x_seq ?_
      refine c_if H rfl (fun H => ?_) (fun H => ?_)
      ·
        refine c_seq ?_
        refine c_region ?_
        refine w_p tok rfl rfl rfl ?_
        refine w_p tok rfl rfl rfl ?_
        refine w_end ?_
        refine x_seq ?_
        refine c_weak [(4, .int .u64 0), (5, .int .i64 2)] ⟨rfl, rfl, trivial⟩ ?_
        refine c_ret ?_
        refine x_br ?_
        refine x_tr ?_
        exact x_ret _ rfl _ rfl ⟨(0, 2), rfl, H⟩
      ·
        refine c_skip ?_
        refine x_blk ?_
        refine x_seq ?_
        refine c_weak [(0, Slc.v p0), (1, .int .i64 p1)] ⟨rfl, rfl, trivial⟩ ?_
        refine c_seq ?_
        refine c_region ?_
        refine w_p tok rfl rfl rfl ?_
        refine w_end ?_
        refine x_seq ?_
        refine c_seq ?_
        refine c_seq ?_
        refine c_region ?_
        refine w_p tok rfl rfl rfl ?_
        refine w_p tok rfl rfl rfl ?_
        obtain ⟨x1, ex1, H⟩ := H
        refine w_pe tok rfl (congrArg (fun z => (.int .i64 z : Value)) ex1) rfl rfl ?_
        refine w_end ?_
        refine x_seq ?_
        refine c_block ?_
        obtain ⟨I1, μ1, H0, HI⟩ := H
        refine c_loop (σ := Int × Int) (fun (s : Int × Int) => [(6, .int .u64 s.1), (7, .int .i64 s.2), (0, Slc.v p0)]) I1 μ1 (0, x1) H0 ⟨rfl, rfl, rfl, trivial⟩ ?_
        rintro ⟨t6_1, t7_1⟩ h_1 H
        replace H := HI t6_1 t7_1 h_1 H
        unfold num_Get_l1b at H
        refine c_weak [(6, .int .u64 t6_1), (7, .int .i64 t7_1), (0, Slc.v p0)] ⟨rfl, rfl, rfl, trivial⟩ ?_
        refine c_seq ?_
        refine c_seq ?_
        refine c_region ?_
        refine w_p tok rfl rfl rfl ?_
        refine w_p tok rfl rfl rfl ?_
        refine w_end ?_
        refine x_seq ?_
        refine c_if H rfl (fun H => ?_) (fun H => ?_)
        ·
          refine c_skip ?_
          refine x_seq ?_
          refine c_seq ?_
          refine c_block ?_
          refine c_region ?_
          refine w_p tok rfl rfl rfl ?_
          refine w_p tok rfl rfl rfl ?_
          refine w_p tok rfl rfl rfl ?_
          refine w_p tok rfl rfl rfl ?_
          obtain ⟨a2, ha2, la2, ua2, H⟩ := H
          refine w_y (y_ixa' tok rfl rfl ha2 rfl rfl rfl la2 ua2) rfl rfl ?_
          obtain ⟨v3, hv3, H⟩ := H
          refine w_y (y_ld tok rfl rfl rfl rfl hv3) rfl rfl ?_
          refine w_p tok rfl rfl rfl ?_
          refine w_p tok rfl rfl rfl ?_
          obtain ⟨x4, ex4, H⟩ := H
          refine w_pe tok rfl (congrArg (fun z => (.int .u64 z : Value)) ex4) rfl rfl ?_
          refine w_end ?_
          refine x_blk ?_
          refine x_seq ?_
          refine c_weak [(6, .int .u64 x4), (7, .int .i64 t7_1), (0, Slc.v p0)] ⟨rfl, rfl, rfl, trivial⟩ ?_
          refine c_region ?_
          refine w_p tok rfl rfl rfl ?_
          refine w_p tok rfl rfl rfl ?_
          obtain ⟨x5, ex5, H⟩ := H
          refine w_pe tok rfl (congrArg (fun z => (.int .i64 z : Value)) ex5) rfl rfl ?_
          refine w_end ?_
          exact x_join (x4, x5) H ⟨rfl, rfl, rfl, trivial⟩
        ·
          refine c_exit ?_
          refine x_te ?_
          refine x_te ?_
          refine x_bh ?_
          refine x_seq ?_
          refine c_seq ?_
          refine c_region ?_
          refine w_p tok rfl rfl rfl ?_
          refine w_p tok rfl rfl rfl ?_
          refine w_p tok rfl rfl rfl ?_
          refine w_end ?_
          refine x_seq ?_
          refine c_ret ?_
          exact x_ret _ rfl _ rfl ⟨(t6_1, 0), rfl, H⟩
  ·
    refine w_gs (d := 11) rfl (fun hb => ?_) (fun hb => ?_)
    ·
      refine w_skip rfl rfl ?_
      refine w_skip rfl rfl ?_
      refine w_p tok rfl rfl rfl ?_
      refine w_jn () rfl ⟨?_, rfl, rfl, trivial⟩
      exact congrArg (fun b => some (Value.bool b)) (or_t hb)
    ·
      refine w_p tok rfl rfl rfl ?_
      refine w_p tok rfl rfl rfl ?_
      refine w_p tok rfl rfl rfl ?_
      refine w_jn () rfl ⟨?_, rfl, rfl, trivial⟩
      exact congrArg (fun b => some (Value.bool b)) (or_f hb)

theorem sha_Short_ok : CallOk Go.Proofs.Tryd.prog 48 := ⟨_, Go.Proofs.Tryd.func48, by kernel_rfl, by kernel_rfl⟩
theorem sha_Short_ref (p0 : List Int) (k : (Int) → Heap → Prop) (h : Heap) (H : sha_Short p0 k h) : CallsH Go.Proofs.Tryd.prog 48 #[.agg (arr 32 .u8 p0).toArray] h (fun v h' => ∃ r : Int, v = .int .u64 r ∧ k r h') := by
  refine f_enter (N := 11) Go.Proofs.Tryd.func48 rfl rfl rfl (fun w0 => ?_)
  unfold sha_Short at H
  refine c_weak [(0, .agg (arr 32 .u8 p0).toArray)] ⟨rfl, trivial⟩ ?_
  refine c_seq ?_
  refine c_region ?_
  obtain ⟨b1, h2, eb1, eh2, H⟩ := H
  refine w_h (h_box rfl rfl eb1 eh2) rfl rfl ?_
  refine w_p tok rfl rfl rfl ?_
  refine w_end ?_
  refine x_seq ?_
  refine c_seq ?_
  refine c_region ?_
  obtain ⟨s3, ps3, qs3, rs3, es3, H⟩ := H
  refine w_ye (y_sla (L := 0) (H := 32) tok rfl rfl rfl rfl rfl rfl ps3 qs3 rs3) (congrArg Slc.v es3) rfl rfl ?_
  refine w_call num_Get_ok (num_Get_ref _ _ _ _ H) rfl rfl rfl rfl ?_
  rintro _ h5 ⟨r4, rfl, H⟩
  refine w_p tok rfl rfl rfl ?_
  refine w_p tok rfl rfl rfl ?_
  refine w_p tok rfl rfl rfl ?_
  refine w_p tok rfl rfl rfl ?_
  refine w_p tok rfl rfl rfl ?_
  refine w_end ?_
  refine x_seq ?_
  refine c_weak [(3, .int .u64 r4.1)] ⟨rfl, trivial⟩ ?_
  refine c_seq ?_
  refine c_region ?_
  refine w_p tok rfl rfl rfl ?_
  refine w_p tok rfl rfl rfl ?_
  refine w_end ?_
  refine x_seq ?_
  refine c_ret ?_
  exact x_ret _ rfl _ rfl ⟨r4.1, rfl, H⟩
end Go.Q.Yf

/- A part of the proof of statements of this seat: lemmas, no statement of their own. -/
import Derived.Test.YtgldbcbnficihaaDoorYdTab
import Derived.Test.YtgldbcbnficihaaDoorQConv
set_option linter.unusedVariables false
set_option maxRecDepth 100000
set_option maxHeartbeats 1000000
namespace Go.Q.Yd
/-- quaestor chacha.word -/
def chacha_word (p0 : Slc) (k : (Int) → Heap → Prop) (h : Heap) : Prop :=
  ∃ a1 : Addr, p0.a = some a1 ∧ (0 : Int) ≤ 0 ∧ 0 < (p0.len : Int) ∧ (∃ v2 : Int, cellH h (a1.add ((0 : Int).toNat * 1)) = some (.int .u8 v2) ∧ (∃ a3 : Addr, p0.a = some a3 ∧ (0 : Int) ≤ 1 ∧ 1 < (p0.len : Int) ∧ (∃ v4 : Int, cellH h (a3.add ((1 : Int).toNat * 1)) = some (.int .u8 v4) ∧ (∃ a5 : Addr, p0.a = some a5 ∧ (0 : Int) ≤ 2 ∧ 2 < (p0.len : Int) ∧ (∃ v6 : Int, cellH h (a5.add ((2 : Int).toNat * 1)) = some (.int .u8 v6) ∧ (∃ a7 : Addr, p0.a = some a7 ∧ (0 : Int) ≤ 3 ∧ 3 < (p0.len : Int) ∧ (∃ v8 : Int, cellH h (a7.add ((3 : Int).toNat * 1)) = some (.int .u8 v8) ∧ (k (bwOr .u32 (bwOr .u32 (bwOr .u32 (IntKind.u32.wrap v2) (shl .u32 (IntKind.u32.wrap v4) (8 : Int).toNat)) (shl .u32 (IntKind.u32.wrap v6) (16 : Int).toNat)) (shl .u32 (IntKind.u32.wrap v8) (24 : Int).toNat)) h))))))))

/-- quaestor chacha.start -/
def chacha_start_l2b (t5_2 : Addr) (t6_2 : Addr) (t7_2 : Addr) (t24_2 : Int) (k : (List Int) → Heap → Prop) (nx1 : (Int) → Heap → Prop) (nx2 : (Int) → Heap → Prop) (h_2 : Heap) : Prop :=
  if (decide (t24_2 < 3)) then (∃ s17 : Slc, (0 : Int) ≤ (IntKind.i64.wrap (4 * t24_2)) ∧ (IntKind.i64.wrap (4 * t24_2)) ≤ (12 : Int) ∧ 12 ≤ (12 : Int) ∧ s17 = subS ⟨some t5_2, 12, 12⟩ 1 (IntKind.i64.wrap (4 * t24_2)).toNat (12 : Int).toNat 12 ∧ (chacha_word s17 (fun (r18 : Int) h19 => (0 : Int) ≤ (IntKind.i64.wrap (13 + t24_2)) ∧ (IntKind.i64.wrap (13 + t24_2)) < (16 : Int) ∧ (∃ h21 : Heap, WrH h19 (t7_2.add ((IntKind.i64.wrap (13 + t24_2)).toNat * 1)) ∧ h21 = setH h19 (t7_2.add ((IntKind.i64.wrap (13 + t24_2)).toNat * 1)) (.int .u32 r18) ∧ (nx2 (IntKind.i64.wrap (t24_2 + 1)) h21))) h_2)) else (∃ v22 : List Int, v22.length = 16 ∧ CellsAt h_2 t7_2 ((v22).map (Value.int .u32)) ∧ (∃ h23 : Heap, v22.length = 16 ∧ WrsAt h_2 t6_2 16 ∧ h23 = setsH h_2 t6_2 0 ((v22).map (Value.int .u32)) ∧ (∃ v24 : List Int, v24.length = 16 ∧ CellsAt h23 t6_2 ((v24).map (Value.int .u32)) ∧ k v24 h23)))
def chacha_start_l2 (t5_2 : Addr) (t6_2 : Addr) (t7_2 : Addr) (i24 : Int) (k : (List Int) → Heap → Prop) (nx1 : (Int) → Heap → Prop) (h : Heap) : Prop :=
  ∃ (I : Int → Heap → Prop) (μ : Int → Heap → Nat), I i24 h ∧ ∀ (t24_2 : Int) (h : Heap), I t24_2 h → chacha_start_l2b t5_2 t6_2 t7_2 t24_2 k nx1 (fun s h' => I s h' ∧ μ s h' < μ t24_2 h) h
def chacha_start_l1b (t1_1 : Int) (t3_1 : Addr) (t5_1 : Addr) (t6_1 : Addr) (t7_1 : Addr) (t11_1 : Int) (k : (List Int) → Heap → Prop) (nx1 : (Int) → Heap → Prop) (h_1 : Heap) : Prop :=
  if (decide (t11_1 < 8)) then (∃ s10 : Slc, (0 : Int) ≤ (IntKind.i64.wrap (4 * t11_1)) ∧ (IntKind.i64.wrap (4 * t11_1)) ≤ (32 : Int) ∧ 32 ≤ (32 : Int) ∧ s10 = subS ⟨some t3_1, 32, 32⟩ 1 (IntKind.i64.wrap (4 * t11_1)).toNat (32 : Int).toNat 32 ∧ (chacha_word s10 (fun (r11 : Int) h12 => (0 : Int) ≤ (IntKind.i64.wrap (4 + t11_1)) ∧ (IntKind.i64.wrap (4 + t11_1)) < (16 : Int) ∧ (∃ h14 : Heap, WrH h12 (t7_1.add ((IntKind.i64.wrap (4 + t11_1)).toNat * 1)) ∧ h14 = setH h12 (t7_1.add ((IntKind.i64.wrap (4 + t11_1)).toNat * 1)) (.int .u32 r11) ∧ (nx1 (IntKind.i64.wrap (t11_1 + 1)) h14))) h_1)) else ((0 : Int) ≤ 12 ∧ 12 < (16 : Int) ∧ (∃ h16 : Heap, WrH h_1 (t7_1.add ((12 : Int).toNat * 1)) ∧ h16 = setH h_1 (t7_1.add ((12 : Int).toNat * 1)) (.int .u32 t1_1) ∧ (chacha_start_l2 t5_1 t6_1 t7_1 0 k nx1 h16)))
def chacha_start_l1 (t1_1 : Int) (t3_1 : Addr) (t5_1 : Addr) (t6_1 : Addr) (t7_1 : Addr) (i11 : Int) (k : (List Int) → Heap → Prop) (h : Heap) : Prop :=
  ∃ (I : Int → Heap → Prop) (μ : Int → Heap → Nat), I i11 h ∧ ∀ (t11_1 : Int) (h : Heap), I t11_1 h → chacha_start_l1b t1_1 t3_1 t5_1 t6_1 t7_1 t11_1 k (fun s h' => I s h' ∧ μ s h' < μ t11_1 h) h
def chacha_start (p0 : List Int) (p1 : Int) (p2 : List Int) (k : (List Int) → Heap → Prop) (h : Heap) : Prop :=
  ∃ (b1 : Nat) (h2 : Heap), b1 = h.size ∧ h2 = h.push (.cells ((p0).map (Value.int .u8)).toArray 23) ∧ (∃ (b3 : Nat) (h4 : Heap), b3 = h2.size ∧ h4 = h2.push (.cells ((p2).map (Value.int .u8)).toArray 26) ∧ (∃ (b5 : Nat) (h6 : Heap), b5 = h4.size ∧ h6 = h4.push (.cells (((List.replicate 16 (0 : Int))).map (Value.int .u32)).toArray 40) ∧ (∃ (b7 : Nat) (h8 : Heap), b7 = h6.size ∧ h8 = h6.push (.cells (((List.replicate 16 (0 : Int))).map (Value.int .u32)).toArray 40) ∧ (∃ h9 : Heap, ([1634760805, 857760878, 2036477234, 1797285236, 0, 0, 0, 0, 0, 0, 0, 0, 0, 0, 0, 0] : List Int).length = 16 ∧ WrsAt h8 (⟨b7, 0, none⟩ : Addr) 16 ∧ h9 = setsH h8 (⟨b7, 0, none⟩ : Addr) 0 ((([1634760805, 857760878, 2036477234, 1797285236, 0, 0, 0, 0, 0, 0, 0, 0, 0, 0, 0, 0] : List Int)).map (Value.int .u32)) ∧ (chacha_start_l1 p1 (⟨b1, 0, none⟩ : Addr) (⟨b3, 0, none⟩ : Addr) (⟨b5, 0, none⟩ : Addr) (⟨b7, 0, none⟩ : Addr) 0 k h9)))))

/-- math bits.RotateLeft32 -/
def math_bits_RotateLeft32 (p0 : Int) (p1 : Int) (k : (Int) → Heap → Prop) (h : Heap) : Prop :=
  ∃ x1 : Int, x1 = (bwAnd .u64 (IntKind.u64.wrap p1) 31) ∧ ((0 : Int) ≤ x1 ∧ ((0 : Int) ≤ (IntKind.u64.wrap (32 - x1)) ∧ (∃ x4 : Int, x4 = (bwOr .u32 (shl .u32 p0 x1.toNat) (shr .u32 p0 (IntKind.u64.wrap (32 - x1)).toNat)) ∧ (k x4 h))))

/-- (*quaestor chacha.words).mix -/
def chacha_words_mix (p0 : Option Addr) (p1 : Int) (p2 : Int) (p3 : Int) (p4 : Int) (k : (Unit) → Heap → Prop) (h : Heap) : Prop :=
  ∃ a1 : Addr, p0 = some a1 ∧ ((0 : Int) ≤ p1 ∧ p1 < (16 : Int) ∧ (∃ v3 : Int, cellH h (a1.add (p1.toNat * 1)) = some (.int .u32 v3) ∧ ((0 : Int) ≤ p2 ∧ p2 < (16 : Int) ∧ (∃ v5 : Int, cellH h (a1.add (p2.toNat * 1)) = some (.int .u32 v5) ∧ ((0 : Int) ≤ p1 ∧ p1 < (16 : Int) ∧ (∃ h7 : Heap, WrH h (a1.add (p1.toNat * 1)) ∧ h7 = setH h (a1.add (p1.toNat * 1)) (.int .u32 (IntKind.u32.wrap (v3 + v5))) ∧ ((0 : Int) ≤ p3 ∧ p3 < (16 : Int) ∧ (∃ v9 : Int, cellH h7 (a1.add (p3.toNat * 1)) = some (.int .u32 v9) ∧ ((0 : Int) ≤ p1 ∧ p1 < (16 : Int) ∧ (∃ v11 : Int, cellH h7 (a1.add (p1.toNat * 1)) = some (.int .u32 v11) ∧ (math_bits_RotateLeft32 (bwXor .u32 v9 v11) p4 (fun (r12 : Int) h13 => (0 : Int) ≤ p3 ∧ p3 < (16 : Int) ∧ (∃ h15 : Heap, WrH h13 (a1.add (p3.toNat * 1)) ∧ h15 = setH h13 (a1.add (p3.toNat * 1)) (.int .u32 r12) ∧ (k () h15))) h7)))))))))))

/-- (*quaestor chacha.words).quarter -/
def chacha_words_quarter (p0 : Option Addr) (p1 : List Int) (k : (Unit) → Heap → Prop) (h : Heap) : Prop :=
  ∃ (b1 : Nat) (h2 : Heap), b1 = h.size ∧ h2 = h.push (.cells ((p1).map (Value.int .i64)).toArray 42) ∧ ((0 : Int) ≤ 0 ∧ 0 < (4 : Int) ∧ (∃ v4 : Int, cellH h2 ((⟨b1, 0, none⟩ : Addr).add ((0 : Int).toNat * 1)) = some (.int .i64 v4) ∧ ((0 : Int) ≤ 1 ∧ 1 < (4 : Int) ∧ (∃ v6 : Int, cellH h2 ((⟨b1, 0, none⟩ : Addr).add ((1 : Int).toNat * 1)) = some (.int .i64 v6) ∧ ((0 : Int) ≤ 3 ∧ 3 < (4 : Int) ∧ (∃ v8 : Int, cellH h2 ((⟨b1, 0, none⟩ : Addr).add ((3 : Int).toNat * 1)) = some (.int .i64 v8) ∧ (chacha_words_mix p0 v4 v6 v8 16 (fun (r9 : Unit) h10 => (0 : Int) ≤ 2 ∧ 2 < (4 : Int) ∧ (∃ v12 : Int, cellH h10 ((⟨b1, 0, none⟩ : Addr).add ((2 : Int).toNat * 1)) = some (.int .i64 v12) ∧ ((0 : Int) ≤ 3 ∧ 3 < (4 : Int) ∧ (∃ v14 : Int, cellH h10 ((⟨b1, 0, none⟩ : Addr).add ((3 : Int).toNat * 1)) = some (.int .i64 v14) ∧ ((0 : Int) ≤ 1 ∧ 1 < (4 : Int) ∧ (∃ v16 : Int, cellH h10 ((⟨b1, 0, none⟩ : Addr).add ((1 : Int).toNat * 1)) = some (.int .i64 v16) ∧ (chacha_words_mix p0 v12 v14 v16 12 (fun (r17 : Unit) h18 => (0 : Int) ≤ 0 ∧ 0 < (4 : Int) ∧ (∃ v20 : Int, cellH h18 ((⟨b1, 0, none⟩ : Addr).add ((0 : Int).toNat * 1)) = some (.int .i64 v20) ∧ ((0 : Int) ≤ 1 ∧ 1 < (4 : Int) ∧ (∃ v22 : Int, cellH h18 ((⟨b1, 0, none⟩ : Addr).add ((1 : Int).toNat * 1)) = some (.int .i64 v22) ∧ ((0 : Int) ≤ 3 ∧ 3 < (4 : Int) ∧ (∃ v24 : Int, cellH h18 ((⟨b1, 0, none⟩ : Addr).add ((3 : Int).toNat * 1)) = some (.int .i64 v24) ∧ (chacha_words_mix p0 v20 v22 v24 8 (fun (r25 : Unit) h26 => (0 : Int) ≤ 2 ∧ 2 < (4 : Int) ∧ (∃ v28 : Int, cellH h26 ((⟨b1, 0, none⟩ : Addr).add ((2 : Int).toNat * 1)) = some (.int .i64 v28) ∧ ((0 : Int) ≤ 3 ∧ 3 < (4 : Int) ∧ (∃ v30 : Int, cellH h26 ((⟨b1, 0, none⟩ : Addr).add ((3 : Int).toNat * 1)) = some (.int .i64 v30) ∧ ((0 : Int) ≤ 1 ∧ 1 < (4 : Int) ∧ (∃ v32 : Int, cellH h26 ((⟨b1, 0, none⟩ : Addr).add ((1 : Int).toNat * 1)) = some (.int .i64 v32) ∧ (chacha_words_mix p0 v28 v30 v32 7 (fun (r33 : Unit) h34 => k () h34) h26))))))) h18))))))) h10))))))) h2)))))))

/-- quaestor chacha.Block -/
def chacha_Block_l2b (t6_2 : Addr) (t7_2 : Addr) (t8_2 : Addr) (t18_2 : Int) (t20_2 : List Int) (t21_2 : Int) (k : (List Int) → Heap → Prop) (nx1 : (Int) → Heap → Prop) (nx2 : (Int) → Heap → Prop) (h_2 : Heap) : Prop :=
  if (decide (t21_2 < 8)) then ((0 : Int) ≤ t21_2 ∧ t21_2 < (8 : Int) ∧ (∃ (b20 : Nat) (h21 : Heap), b20 = h_2.size ∧ h21 = h_2.push (.cells (((List.replicate 4 (0 : Int))).map (Value.int .i64)).toArray 42) ∧ (∃ h22 : Heap, ((t20_2.drop (t21_2.toNat * 4)).take 4).length = 4 ∧ WrsAt h21 (⟨b20, 0, none⟩ : Addr) 4 ∧ h22 = setsH h21 (⟨b20, 0, none⟩ : Addr) 0 ((((t20_2.drop (t21_2.toNat * 4)).take 4)).map (Value.int .i64)) ∧ (∃ v23 : List Int, v23.length = 4 ∧ CellsAt h22 (⟨b20, 0, none⟩ : Addr) ((v23).map (Value.int .i64)) ∧ (chacha_words_quarter (some t8_2) v23 (fun (r24 : Unit) h25 => nx2 (IntKind.i64.wrap (t21_2 + 1)) h25) h22))))) else (nx1 (IntKind.i64.wrap (t18_2 + 1)) h_2)
def chacha_Block_l2 (t6_2 : Addr) (t7_2 : Addr) (t8_2 : Addr) (t18_2 : Int) (t20_2 : List Int) (i21 : Int) (k : (List Int) → Heap → Prop) (nx1 : (Int) → Heap → Prop) (h : Heap) : Prop :=
  ∃ (I : Int → Heap → Prop) (μ : Int → Heap → Nat), I i21 h ∧ ∀ (t21_2 : Int) (h : Heap), I t21_2 h → chacha_Block_l2b t6_2 t7_2 t8_2 t18_2 t20_2 t21_2 k nx1 (fun s h' => I s h' ∧ μ s h' < μ t21_2 h) h
def chacha_Block_l3b (t6_3 : Addr) (t7_3 : Addr) (t8_3 : Addr) (t11_3 : Addr) (t28_3 : Int) (k : (List Int) → Heap → Prop) (nx1 : (Int) → Heap → Prop) (nx3 : (Int) → Heap → Prop) (h_3 : Heap) : Prop :=
  if (decide (t28_3 < 64)) then ((0 : Int) ≤ (shr .i64 t28_3 (2 : Int).toNat) ∧ (shr .i64 t28_3 (2 : Int).toNat) < (16 : Int) ∧ (∃ v29 : Int, cellH h_3 (t8_3.add ((shr .i64 t28_3 (2 : Int).toNat).toNat * 1)) = some (.int .u32 v29) ∧ ((0 : Int) ≤ (shr .i64 t28_3 (2 : Int).toNat) ∧ (shr .i64 t28_3 (2 : Int).toNat) < (16 : Int) ∧ (∃ v31 : Int, cellH h_3 (t7_3.add ((shr .i64 t28_3 (2 : Int).toNat).toNat * 1)) = some (.int .u32 v31) ∧ ((0 : Int) ≤ (IntKind.u64.wrap (8 * (bwAnd .u64 (IntKind.u64.wrap t28_3) 3))) ∧ ((0 : Int) ≤ t28_3 ∧ t28_3 < (64 : Int) ∧ (∃ h34 : Heap, WrH h_3 (t11_3.add (t28_3.toNat * 1)) ∧ h34 = setH h_3 (t11_3.add (t28_3.toNat * 1)) (.int .u8 (IntKind.u8.wrap (shr .u32 (IntKind.u32.wrap (v29 + v31)) (IntKind.u64.wrap (8 * (bwAnd .u64 (IntKind.u64.wrap t28_3) 3))).toNat))) ∧ (nx3 (IntKind.i64.wrap (t28_3 + 1)) h34)))))))) else (∃ v35 : List Int, v35.length = 64 ∧ CellsAt h_3 t11_3 ((v35).map (Value.int .u8)) ∧ (∃ h36 : Heap, v35.length = 64 ∧ WrsAt h_3 t6_3 64 ∧ h36 = setsH h_3 t6_3 0 ((v35).map (Value.int .u8)) ∧ (∃ v37 : List Int, v37.length = 64 ∧ CellsAt h36 t6_3 ((v37).map (Value.int .u8)) ∧ k v37 h36)))
def chacha_Block_l3 (t6_3 : Addr) (t7_3 : Addr) (t8_3 : Addr) (t11_3 : Addr) (i28 : Int) (k : (List Int) → Heap → Prop) (nx1 : (Int) → Heap → Prop) (h : Heap) : Prop :=
  ∃ (I : Int → Heap → Prop) (μ : Int → Heap → Nat), I i28 h ∧ ∀ (t28_3 : Int) (h : Heap), I t28_3 h → chacha_Block_l3b t6_3 t7_3 t8_3 t11_3 t28_3 k nx1 (fun s h' => I s h' ∧ μ s h' < μ t28_3 h) h
def chacha_Block_l1b (t6_1 : Addr) (t7_1 : Addr) (t8_1 : Addr) (t18_1 : Int) (k : (List Int) → Heap → Prop) (nx1 : (Int) → Heap → Prop) (h_1 : Heap) : Prop :=
  if (decide (t18_1 < 10)) then (∃ v18 : List Int, v18.length = 32 ∧ CellsAt h_1 (⟨0, 0, none⟩ : Addr) ((v18).map (Value.int .i64)) ∧ (chacha_Block_l2 t6_1 t7_1 t8_1 t18_1 v18 0 k nx1 h_1)) else (∃ (b26 : Nat) (h27 : Heap), b26 = h_1.size ∧ h27 = h_1.push (.cells (((List.replicate 64 (0 : Int))).map (Value.int .u8)).toArray 27) ∧ (chacha_Block_l3 t6_1 t7_1 t8_1 (⟨b26, 0, none⟩ : Addr) 0 k nx1 h27))
def chacha_Block_l1 (t6_1 : Addr) (t7_1 : Addr) (t8_1 : Addr) (i18 : Int) (k : (List Int) → Heap → Prop) (h : Heap) : Prop :=
  ∃ (I : Int → Heap → Prop) (μ : Int → Heap → Nat), I i18 h ∧ ∀ (t18_1 : Int) (h : Heap), I t18_1 h → chacha_Block_l1b t6_1 t7_1 t8_1 t18_1 k (fun s h' => I s h' ∧ μ s h' < μ t18_1 h) h
def chacha_Block (p0 : List Int) (p1 : Int) (p2 : List Int) (k : (List Int) → Heap → Prop) (h : Heap) : Prop :=
  ∃ (b1 : Nat) (h2 : Heap), b1 = h.size ∧ h2 = h.push (.cells ((p0).map (Value.int .u8)).toArray 23) ∧ (∃ (b3 : Nat) (h4 : Heap), b3 = h2.size ∧ h4 = h2.push (.cells ((p2).map (Value.int .u8)).toArray 26) ∧ (∃ (b5 : Nat) (h6 : Heap), b5 = h4.size ∧ h6 = h4.push (.cells (((List.replicate 64 (0 : Int))).map (Value.int .u8)).toArray 27) ∧ (∃ v7 : List Int, v7.length = 32 ∧ CellsAt h6 (⟨b1, 0, none⟩ : Addr) ((v7).map (Value.int .u8)) ∧ (∃ v8 : List Int, v8.length = 12 ∧ CellsAt h6 (⟨b3, 0, none⟩ : Addr) ((v8).map (Value.int .u8)) ∧ (chacha_start v7 p1 v8 (fun (r9 : List Int) h10 => ∃ (b11 : Nat) (h12 : Heap), b11 = h10.size ∧ h12 = h10.push (.cells (((List.replicate 16 (0 : Int))).map (Value.int .u32)).toArray 40) ∧ (∃ h13 : Heap, r9.length = 16 ∧ WrsAt h12 (⟨b11, 0, none⟩ : Addr) 16 ∧ h13 = setsH h12 (⟨b11, 0, none⟩ : Addr) 0 ((r9).map (Value.int .u32)) ∧ (∃ v14 : List Int, v14.length = 16 ∧ CellsAt h13 (⟨b11, 0, none⟩ : Addr) ((v14).map (Value.int .u32)) ∧ (∃ (b15 : Nat) (h16 : Heap), b15 = h13.size ∧ h16 = h13.push (.cells (((List.replicate 16 (0 : Int))).map (Value.int .u32)).toArray 40) ∧ (∃ h17 : Heap, v14.length = 16 ∧ WrsAt h16 (⟨b15, 0, none⟩ : Addr) 16 ∧ h17 = setsH h16 (⟨b15, 0, none⟩ : Addr) 0 ((v14).map (Value.int .u32)) ∧ (chacha_Block_l1 (⟨b5, 0, none⟩ : Addr) (⟨b11, 0, none⟩ : Addr) (⟨b15, 0, none⟩ : Addr) 0 k h17)))))) h6)))))

/-- quaestor quaestorref01.Same -/
def ref01_Same_l1b (t0_1 : Slc) (t1_1 : Slc) (t5_1 : Int) (k : (Bool) → Heap → Prop) (nx1 : (Int) → Heap → Prop) (h_1 : Heap) : Prop :=
  if (decide (t5_1 < (t0_1.len : Int))) then (∃ a1 : Addr, t0_1.a = some a1 ∧ (0 : Int) ≤ t5_1 ∧ t5_1 < (t0_1.len : Int) ∧ (∃ v2 : Int, cellH h_1 (a1.add (t5_1.toNat * 1)) = some (.int .u8 v2) ∧ (∃ a3 : Addr, t1_1.a = some a3 ∧ (0 : Int) ≤ t5_1 ∧ t5_1 < (t1_1.len : Int) ∧ (∃ v4 : Int, cellH h_1 (a3.add (t5_1.toNat * 1)) = some (.int .u8 v4) ∧ (if (v2 != v4) then (k false h_1) else (∃ x5 : Int, x5 = (IntKind.i64.wrap (t5_1 + 1)) ∧ (nx1 x5 h_1))))))) else (k true h_1)
def ref01_Same_l1 (t0_1 : Slc) (t1_1 : Slc) (i5 : Int) (k : (Bool) → Heap → Prop) (h : Heap) : Prop :=
  ∃ (I : Int → Heap → Prop) (μ : Int → Heap → Nat), I i5 h ∧ ∀ (t5_1 : Int) (h : Heap), I t5_1 h → ref01_Same_l1b t0_1 t1_1 t5_1 k (fun s h' => I s h' ∧ μ s h' < μ t5_1 h) h
def ref01_Same (p0 : Slc) (p1 : Slc) (k : (Bool) → Heap → Prop) (h : Heap) : Prop :=
  if ((p0.len : Int) != (p1.len : Int)) then (k false h) else (ref01_Same_l1 p0 p1 0 k h)

/-- quaestor quaestorref01.Form -/
def ref01_Form_l1b (t1_1 : Int) (t0_1 : Int) (t5_1 : Slc) (t6_1 : Int) (k : (Slc) → Heap → Prop) (nx1 : (Int × Slc × Int) → Heap → Prop) (h_1 : Heap) : Prop :=
  if (decide (t6_1 < t1_1)) then (∃ (b1 : Nat) (h2 : Heap), b1 = h_1.size ∧ h2 = h_1.push (.cells ([.int .u8 (IntKind.u8.wrap (Int.tmod t0_1 256))]).toArray 5) ∧ (App 5 1 1 [.int .u8 0] h2 t5_1 1 ([.int .u8 (IntKind.u8.wrap (Int.tmod t0_1 256))]) (fun s3 h4 => ∃ x5 : Int, x5 = (IntKind.u64.wrap (Int.tdiv t0_1 256)) ∧ (∃ x6 : Int, x6 = (IntKind.i64.wrap (t6_1 + 1)) ∧ (nx1 (x5, s3, x6) h4))))) else (k t5_1 h_1)
def ref01_Form_l1 (t1_1 : Int) (i0 : Int) (i5 : Slc) (i6 : Int) (k : (Slc) → Heap → Prop) (h : Heap) : Prop :=
  ∃ (I : (Int × Slc × Int) → Heap → Prop) (μ : (Int × Slc × Int) → Heap → Nat), I (i0, i5, i6) h ∧ ∀ (t0_1 : Int) (t5_1 : Slc) (t6_1 : Int) (h : Heap), I (t0_1, t5_1, t6_1) h → ref01_Form_l1b t1_1 t0_1 t5_1 t6_1 k (fun s h' => I s h' ∧ μ s h' < μ (t0_1, t5_1, t6_1) h) h
def ref01_Form (p0 : Int) (p1 : Int) (k : (Slc) → Heap → Prop) (h : Heap) : Prop :=
  ref01_Form_l1 p1 p0 (⟨none, 0, 0⟩ : Slc) 0 k h

/-- quaestor quaestorref01.Number -/
def ref01_Number_l1b (t0_1 : Slc) (t3_1 : Int) (t4_1 : Int) (k : (Int) → Heap → Prop) (nx1 : (Int × Int) → Heap → Prop) (h_1 : Heap) : Prop :=
  if (decide (t4_1 ≥ 0)) then (∃ a2 : Addr, t0_1.a = some a2 ∧ (0 : Int) ≤ t4_1 ∧ t4_1 < (t0_1.len : Int) ∧ (∃ v3 : Int, cellH h_1 (a2.add (t4_1.toNat * 1)) = some (.int .u8 v3) ∧ (∃ x4 : Int, x4 = (IntKind.u64.wrap ((IntKind.u64.wrap (t3_1 * 256)) + (IntKind.u64.wrap v3))) ∧ (∃ x5 : Int, x5 = (IntKind.i64.wrap (t4_1 - 1)) ∧ (nx1 (x4, x5) h_1))))) else (k t3_1 h_1)
def ref01_Number_l1 (t0_1 : Slc) (i3 : Int) (i4 : Int) (k : (Int) → Heap → Prop) (h : Heap) : Prop :=
  ∃ (I : (Int × Int) → Heap → Prop) (μ : (Int × Int) → Heap → Nat), I (i3, i4) h ∧ ∀ (t3_1 : Int) (t4_1 : Int) (h : Heap), I (t3_1, t4_1) h → ref01_Number_l1b t0_1 t3_1 t4_1 k (fun s h' => I s h' ∧ μ s h' < μ (t3_1, t4_1) h) h
def ref01_Number (p0 : Slc) (k : (Int) → Heap → Prop) (h : Heap) : Prop :=
  ∃ x1 : Int, x1 = (IntKind.i64.wrap ((p0.len : Int) - 1)) ∧ (ref01_Number_l1 p0 0 x1 k h)

/-- quaestor quaestorref04.word -/
def ref04_word (p0 : Slc) (k : (Int) → Heap → Prop) (h : Heap) : Prop :=
  ∃ s1 : Slc, (0 : Int) ≤ 0 ∧ (0 : Int) ≤ 4 ∧ (4 : Int) ≤ (p0.cap : Int) ∧ (p0.cap : Int) ≤ (p0.cap : Int) ∧ s1 = subS p0 1 (0 : Int).toNat (4 : Int).toNat (p0.cap : Int).toNat ∧ (ref01_Number s1 (fun (r2 : Int) h3 => ∃ x4 : Int, x4 = (IntKind.u32.wrap r2) ∧ (k x4 h3)) h)

/-- quaestor quaestorref04.turn -/
def ref04_turn_l1b (t1_1 : Int) (t0_1 : Int) (t5_1 : Int) (k : (Int) → Heap → Prop) (nx1 : (Int × Int) → Heap → Prop) (h_1 : Heap) : Prop :=
  if (decide (t5_1 < t1_1)) then (∃ x1 : Int, x1 = (IntKind.u32.wrap (Int.tdiv t0_1 2147483648)) ∧ (∃ x2 : Int, x2 = (IntKind.u32.wrap ((IntKind.u32.wrap (t0_1 * 2)) + x1)) ∧ (∃ x3 : Int, x3 = (IntKind.i64.wrap (t5_1 + 1)) ∧ (nx1 (x2, x3) h_1)))) else (k t0_1 h_1)
def ref04_turn_l1 (t1_1 : Int) (i0 : Int) (i5 : Int) (k : (Int) → Heap → Prop) (h : Heap) : Prop :=
  ∃ (I : (Int × Int) → Heap → Prop) (μ : (Int × Int) → Heap → Nat), I (i0, i5) h ∧ ∀ (t0_1 : Int) (t5_1 : Int) (h : Heap), I (t0_1, t5_1) h → ref04_turn_l1b t1_1 t0_1 t5_1 k (fun s h' => I s h' ∧ μ s h' < μ (t0_1, t5_1) h) h
def ref04_turn (p0 : Int) (p1 : Int) (k : (Int) → Heap → Prop) (h : Heap) : Prop :=
  ref04_turn_l1 p1 p0 0 k h

/-- quaestor quaestorref04.quarter -/
def ref04_quarter (p0 : Slc) (p1 : Int) (p2 : Int) (p3 : Int) (p4 : Int) (k : (Unit) → Heap → Prop) (h : Heap) : Prop :=
  ∃ a1 : Addr, p0.a = some a1 ∧ (0 : Int) ≤ p1 ∧ p1 < (p0.len : Int) ∧ (∃ v2 : Int, cellH h (a1.add (p1.toNat * 1)) = some (.int .u32 v2) ∧ (∃ a3 : Addr, p0.a = some a3 ∧ (0 : Int) ≤ p2 ∧ p2 < (p0.len : Int) ∧ (∃ v4 : Int, cellH h (a3.add (p2.toNat * 1)) = some (.int .u32 v4) ∧ (∃ a5 : Addr, p0.a = some a5 ∧ (0 : Int) ≤ p1 ∧ p1 < (p0.len : Int) ∧ (∃ h6 : Heap, WrH h (a5.add (p1.toNat * 1)) ∧ h6 = setH h (a5.add (p1.toNat * 1)) (.int .u32 (IntKind.u32.wrap (v2 + v4))) ∧ (∃ a7 : Addr, p0.a = some a7 ∧ (0 : Int) ≤ p4 ∧ p4 < (p0.len : Int) ∧ (∃ v8 : Int, cellH h6 (a7.add (p4.toNat * 1)) = some (.int .u32 v8) ∧ (∃ a9 : Addr, p0.a = some a9 ∧ (0 : Int) ≤ p1 ∧ p1 < (p0.len : Int) ∧ (∃ v10 : Int, cellH h6 (a9.add (p1.toNat * 1)) = some (.int .u32 v10) ∧ (ref04_turn (bwXor .u32 v8 v10) 16 (fun (r11 : Int) h12 => ∃ a13 : Addr, p0.a = some a13 ∧ (0 : Int) ≤ p4 ∧ p4 < (p0.len : Int) ∧ (∃ h14 : Heap, WrH h12 (a13.add (p4.toNat * 1)) ∧ h14 = setH h12 (a13.add (p4.toNat * 1)) (.int .u32 r11) ∧ (∃ a15 : Addr, p0.a = some a15 ∧ (0 : Int) ≤ p3 ∧ p3 < (p0.len : Int) ∧ (∃ v16 : Int, cellH h14 (a15.add (p3.toNat * 1)) = some (.int .u32 v16) ∧ (∃ a17 : Addr, p0.a = some a17 ∧ (0 : Int) ≤ p4 ∧ p4 < (p0.len : Int) ∧ (∃ v18 : Int, cellH h14 (a17.add (p4.toNat * 1)) = some (.int .u32 v18) ∧ (∃ a19 : Addr, p0.a = some a19 ∧ (0 : Int) ≤ p3 ∧ p3 < (p0.len : Int) ∧ (∃ h20 : Heap, WrH h14 (a19.add (p3.toNat * 1)) ∧ h20 = setH h14 (a19.add (p3.toNat * 1)) (.int .u32 (IntKind.u32.wrap (v16 + v18))) ∧ (∃ a21 : Addr, p0.a = some a21 ∧ (0 : Int) ≤ p2 ∧ p2 < (p0.len : Int) ∧ (∃ v22 : Int, cellH h20 (a21.add (p2.toNat * 1)) = some (.int .u32 v22) ∧ (∃ a23 : Addr, p0.a = some a23 ∧ (0 : Int) ≤ p3 ∧ p3 < (p0.len : Int) ∧ (∃ v24 : Int, cellH h20 (a23.add (p3.toNat * 1)) = some (.int .u32 v24) ∧ (ref04_turn (bwXor .u32 v22 v24) 12 (fun (r25 : Int) h26 => ∃ a27 : Addr, p0.a = some a27 ∧ (0 : Int) ≤ p2 ∧ p2 < (p0.len : Int) ∧ (∃ h28 : Heap, WrH h26 (a27.add (p2.toNat * 1)) ∧ h28 = setH h26 (a27.add (p2.toNat * 1)) (.int .u32 r25) ∧ (∃ a29 : Addr, p0.a = some a29 ∧ (0 : Int) ≤ p1 ∧ p1 < (p0.len : Int) ∧ (∃ v30 : Int, cellH h28 (a29.add (p1.toNat * 1)) = some (.int .u32 v30) ∧ (∃ a31 : Addr, p0.a = some a31 ∧ (0 : Int) ≤ p2 ∧ p2 < (p0.len : Int) ∧ (∃ v32 : Int, cellH h28 (a31.add (p2.toNat * 1)) = some (.int .u32 v32) ∧ (∃ a33 : Addr, p0.a = some a33 ∧ (0 : Int) ≤ p1 ∧ p1 < (p0.len : Int) ∧ (∃ h34 : Heap, WrH h28 (a33.add (p1.toNat * 1)) ∧ h34 = setH h28 (a33.add (p1.toNat * 1)) (.int .u32 (IntKind.u32.wrap (v30 + v32))) ∧ (∃ a35 : Addr, p0.a = some a35 ∧ (0 : Int) ≤ p4 ∧ p4 < (p0.len : Int) ∧ (∃ v36 : Int, cellH h34 (a35.add (p4.toNat * 1)) = some (.int .u32 v36) ∧ (∃ a37 : Addr, p0.a = some a37 ∧ (0 : Int) ≤ p1 ∧ p1 < (p0.len : Int) ∧ (∃ v38 : Int, cellH h34 (a37.add (p1.toNat * 1)) = some (.int .u32 v38) ∧ (ref04_turn (bwXor .u32 v36 v38) 8 (fun (r39 : Int) h40 => ∃ a41 : Addr, p0.a = some a41 ∧ (0 : Int) ≤ p4 ∧ p4 < (p0.len : Int) ∧ (∃ h42 : Heap, WrH h40 (a41.add (p4.toNat * 1)) ∧ h42 = setH h40 (a41.add (p4.toNat * 1)) (.int .u32 r39) ∧ (∃ a43 : Addr, p0.a = some a43 ∧ (0 : Int) ≤ p3 ∧ p3 < (p0.len : Int) ∧ (∃ v44 : Int, cellH h42 (a43.add (p3.toNat * 1)) = some (.int .u32 v44) ∧ (∃ a45 : Addr, p0.a = some a45 ∧ (0 : Int) ≤ p4 ∧ p4 < (p0.len : Int) ∧ (∃ v46 : Int, cellH h42 (a45.add (p4.toNat * 1)) = some (.int .u32 v46) ∧ (∃ a47 : Addr, p0.a = some a47 ∧ (0 : Int) ≤ p3 ∧ p3 < (p0.len : Int) ∧ (∃ h48 : Heap, WrH h42 (a47.add (p3.toNat * 1)) ∧ h48 = setH h42 (a47.add (p3.toNat * 1)) (.int .u32 (IntKind.u32.wrap (v44 + v46))) ∧ (∃ a49 : Addr, p0.a = some a49 ∧ (0 : Int) ≤ p2 ∧ p2 < (p0.len : Int) ∧ (∃ v50 : Int, cellH h48 (a49.add (p2.toNat * 1)) = some (.int .u32 v50) ∧ (∃ a51 : Addr, p0.a = some a51 ∧ (0 : Int) ≤ p3 ∧ p3 < (p0.len : Int) ∧ (∃ v52 : Int, cellH h48 (a51.add (p3.toNat * 1)) = some (.int .u32 v52) ∧ (ref04_turn (bwXor .u32 v50 v52) 7 (fun (r53 : Int) h54 => ∃ a55 : Addr, p0.a = some a55 ∧ (0 : Int) ≤ p2 ∧ p2 < (p0.len : Int) ∧ (∃ h56 : Heap, WrH h54 (a55.add (p2.toNat * 1)) ∧ h56 = setH h54 (a55.add (p2.toNat * 1)) (.int .u32 r53) ∧ (k () h56))) h48))))))))))))) h34))))))))))))) h20))))))))))))) h6))))))))))

/-- quaestor quaestorref04.Block -/
def ref04_Block_l4b (t8_4 : Slc) (t9_4 : Slc) (t11_4 : Int) (t13_4 : Int) (k : (Slc) → Heap → Prop) (nx1 : (Slc × Slc × Int) → Heap → Prop) (nx2 : (Int) → Heap → Prop) (nx3 : (Int) → Heap → Prop) (nx4 : (Int) → Heap → Prop) (h_4 : Heap) : Prop :=
  if (decide (t13_4 < 4)) then (ref04_quarter t9_4 t13_4 (IntKind.i64.wrap (4 + (Int.tmod (IntKind.i64.wrap (t13_4 + 1)) 4))) (IntKind.i64.wrap (8 + (Int.tmod (IntKind.i64.wrap (t13_4 + 2)) 4))) (IntKind.i64.wrap (12 + (Int.tmod (IntKind.i64.wrap (t13_4 + 3)) 4))) (fun (r39 : Unit) h40 => ∃ x41 : Int, x41 = (IntKind.i64.wrap (t13_4 + 1)) ∧ (nx4 x41 h40)) h_4) else (∃ x42 : Int, x42 = (IntKind.i64.wrap (t11_4 + 1)) ∧ (nx2 x42 h_4))
def ref04_Block_l4 (t8_4 : Slc) (t9_4 : Slc) (t11_4 : Int) (i13 : Int) (k : (Slc) → Heap → Prop) (nx1 : (Slc × Slc × Int) → Heap → Prop) (nx2 : (Int) → Heap → Prop) (nx3 : (Int) → Heap → Prop) (h : Heap) : Prop :=
  ∃ (I : Int → Heap → Prop) (μ : Int → Heap → Nat), I i13 h ∧ ∀ (t13_4 : Int) (h : Heap), I t13_4 h → ref04_Block_l4b t8_4 t9_4 t11_4 t13_4 k nx1 nx2 nx3 (fun s h' => I s h' ∧ μ s h' < μ t13_4 h) h
def ref04_Block_l3b (t8_3 : Slc) (t9_3 : Slc) (t11_3 : Int) (t12_3 : Int) (k : (Slc) → Heap → Prop) (nx1 : (Slc × Slc × Int) → Heap → Prop) (nx2 : (Int) → Heap → Prop) (nx3 : (Int) → Heap → Prop) (h_3 : Heap) : Prop :=
  if (decide (t12_3 < 4)) then (ref04_quarter t9_3 t12_3 (IntKind.i64.wrap (4 + t12_3)) (IntKind.i64.wrap (8 + t12_3)) (IntKind.i64.wrap (12 + t12_3)) (fun (r36 : Unit) h37 => ∃ x38 : Int, x38 = (IntKind.i64.wrap (t12_3 + 1)) ∧ (nx3 x38 h37)) h_3) else (ref04_Block_l4 t8_3 t9_3 t11_3 0 k nx1 nx2 nx3 h_3)
def ref04_Block_l3 (t8_3 : Slc) (t9_3 : Slc) (t11_3 : Int) (i12 : Int) (k : (Slc) → Heap → Prop) (nx1 : (Slc × Slc × Int) → Heap → Prop) (nx2 : (Int) → Heap → Prop) (h : Heap) : Prop :=
  ∃ (I : Int → Heap → Prop) (μ : Int → Heap → Nat), I i12 h ∧ ∀ (t12_3 : Int) (h : Heap), I t12_3 h → ref04_Block_l3b t8_3 t9_3 t11_3 t12_3 k nx1 nx2 (fun s h' => I s h' ∧ μ s h' < μ t12_3 h) h
def ref04_Block_l5b (t8_5 : Slc) (t9_5 : Slc) (t14_5 : Slc) (t15_5 : Int) (k : (Slc) → Heap → Prop) (nx1 : (Slc × Slc × Int) → Heap → Prop) (nx2 : (Int) → Heap → Prop) (nx5 : (Slc × Int) → Heap → Prop) (h_5 : Heap) : Prop :=
  if (decide (t15_5 < 16)) then (∃ a43 : Addr, t9_5.a = some a43 ∧ (0 : Int) ≤ t15_5 ∧ t15_5 < (t9_5.len : Int) ∧ (∃ v44 : Int, cellH h_5 (a43.add (t15_5.toNat * 1)) = some (.int .u32 v44) ∧ (∃ a45 : Addr, t8_5.a = some a45 ∧ (0 : Int) ≤ t15_5 ∧ t15_5 < (t8_5.len : Int) ∧ (∃ v46 : Int, cellH h_5 (a45.add (t15_5.toNat * 1)) = some (.int .u32 v46) ∧ (ref01_Form (IntKind.u64.wrap (IntKind.u32.wrap (v44 + v46))) 4 (fun (r47 : Slc) h48 => ∃ l51 : List Value, SlcAt h48 r47 l51 ∧ App 5 1 1 [.int .u8 0] h48 t14_5 r47.len l51 (fun s49 h50 => ∃ x52 : Int, x52 = (IntKind.i64.wrap (t15_5 + 1)) ∧ (nx5 (s49, x52) h50))) h_5))))) else (k t14_5 h_5)
def ref04_Block_l5 (t8_5 : Slc) (t9_5 : Slc) (i14 : Slc) (i15 : Int) (k : (Slc) → Heap → Prop) (nx1 : (Slc × Slc × Int) → Heap → Prop) (nx2 : (Int) → Heap → Prop) (h : Heap) : Prop :=
  ∃ (I : (Slc × Int) → Heap → Prop) (μ : (Slc × Int) → Heap → Nat), I (i14, i15) h ∧ ∀ (t14_5 : Slc) (t15_5 : Int) (h : Heap), I (t14_5, t15_5) h → ref04_Block_l5b t8_5 t9_5 t14_5 t15_5 k nx1 nx2 (fun s h' => I s h' ∧ μ s h' < μ (t14_5, t15_5) h) h
def ref04_Block_l2b (t8_2 : Slc) (t9_2 : Slc) (t11_2 : Int) (k : (Slc) → Heap → Prop) (nx1 : (Slc × Slc × Int) → Heap → Prop) (nx2 : (Int) → Heap → Prop) (h_2 : Heap) : Prop :=
  if (decide (t11_2 < 10)) then (ref04_Block_l3 t8_2 t9_2 t11_2 0 k nx1 nx2 h_2) else (ref04_Block_l5 t8_2 t9_2 (⟨none, 0, 0⟩ : Slc) 0 k nx1 nx2 h_2)
def ref04_Block_l2 (t8_2 : Slc) (t9_2 : Slc) (i11 : Int) (k : (Slc) → Heap → Prop) (nx1 : (Slc × Slc × Int) → Heap → Prop) (h : Heap) : Prop :=
  ∃ (I : Int → Heap → Prop) (μ : Int → Heap → Nat), I i11 h ∧ ∀ (t11_2 : Int) (h : Heap), I t11_2 h → ref04_Block_l2b t8_2 t9_2 t11_2 k nx1 (fun s h' => I s h' ∧ μ s h' < μ t11_2 h) h
def ref04_Block_l1b (t7_1 : Slc) (t8_1 : Slc) (t9_1 : Slc) (t10_1 : Int) (k : (Slc) → Heap → Prop) (nx1 : (Slc × Slc × Int) → Heap → Prop) (h_1 : Heap) : Prop :=
  if (decide (t10_1 < 16)) then (∃ s21 : Slc, (0 : Int) ≤ (IntKind.i64.wrap (4 * t10_1)) ∧ ((IntKind.i64.wrap (4 * t10_1)) : Int) ≤ (t7_1.len : Int) ∧ ((t7_1.len : Int) : Int) ≤ (t7_1.cap : Int) ∧ (t7_1.cap : Int) ≤ (t7_1.cap : Int) ∧ s21 = subS t7_1 1 (IntKind.i64.wrap (4 * t10_1)).toNat (t7_1.len : Int).toNat (t7_1.cap : Int).toNat ∧ (ref04_word s21 (fun (r22 : Int) h23 => ∃ (b24 : Nat) (h25 : Heap), b24 = h23.size ∧ h25 = h23.push (.cells ([.int .u32 r22]).toArray 24) ∧ (App 24 1 4 [.int .u32 0] h25 t8_1 1 ([.int .u32 r22]) (fun s26 h27 => ∃ s28 : Slc, (0 : Int) ≤ (IntKind.i64.wrap (4 * t10_1)) ∧ ((IntKind.i64.wrap (4 * t10_1)) : Int) ≤ (t7_1.len : Int) ∧ ((t7_1.len : Int) : Int) ≤ (t7_1.cap : Int) ∧ (t7_1.cap : Int) ≤ (t7_1.cap : Int) ∧ s28 = subS t7_1 1 (IntKind.i64.wrap (4 * t10_1)).toNat (t7_1.len : Int).toNat (t7_1.cap : Int).toNat ∧ (ref04_word s28 (fun (r29 : Int) h30 => ∃ (b31 : Nat) (h32 : Heap), b31 = h30.size ∧ h32 = h30.push (.cells ([.int .u32 r29]).toArray 24) ∧ (App 24 1 4 [.int .u32 0] h32 t9_1 1 ([.int .u32 r29]) (fun s33 h34 => ∃ x35 : Int, x35 = (IntKind.i64.wrap (t10_1 + 1)) ∧ (nx1 (s26, s33, x35) h34)))) h27)))) h_1)) else (ref04_Block_l2 t8_1 t9_1 0 k nx1 h_1)
def ref04_Block_l1 (t7_1 : Slc) (i8 : Slc) (i9 : Slc) (i10 : Int) (k : (Slc) → Heap → Prop) (h : Heap) : Prop :=
  ∃ (I : (Slc × Slc × Int) → Heap → Prop) (μ : (Slc × Slc × Int) → Heap → Nat), I (i8, i9, i10) h ∧ ∀ (t8_1 : Slc) (t9_1 : Slc) (t10_1 : Int) (h : Heap), I (t8_1, t9_1, t10_1) h → ref04_Block_l1b t7_1 t8_1 t9_1 t10_1 k (fun s h' => I s h' ∧ μ s h' < μ (t8_1, t9_1, t10_1) h) h
def ref04_Block (p0 : List Int) (p1 : Int) (p2 : List Int) (k : (Slc) → Heap → Prop) (h : Heap) : Prop :=
  ∃ (b1 : Nat) (h2 : Heap), b1 = h.size ∧ h2 = h.push (.cells ((p0).map (Value.int .u8)).toArray 22) ∧ (∃ (b3 : Nat) (h4 : Heap), b3 = h2.size ∧ h4 = h2.push (.cells ((p2).map (Value.int .u8)).toArray 25) ∧ (∃ (b5 : Nat) (h6 : Heap), b5 = h4.size ∧ h6 = h4.push (.cells ([.int .u8 101, .int .u8 120, .int .u8 112, .int .u8 97, .int .u8 110, .int .u8 100, .int .u8 32, .int .u8 51, .int .u8 50, .int .u8 45, .int .u8 98, .int .u8 121, .int .u8 116, .int .u8 101, .int .u8 32, .int .u8 107]).toArray 5) ∧ (∃ h7 : Heap, h7 = h4.push (.cells ([.int .u8 101, .int .u8 120, .int .u8 112, .int .u8 97, .int .u8 110, .int .u8 100, .int .u8 32, .int .u8 51, .int .u8 50, .int .u8 45, .int .u8 98, .int .u8 121, .int .u8 116, .int .u8 101, .int .u8 32, .int .u8 107]).toArray 5 (16, 17)) ∧ (∃ s8 : Slc, (0 : Int) ≤ 0 ∧ 0 ≤ (32 : Int) ∧ 32 ≤ (32 : Int) ∧ s8 = subS ⟨some (⟨b1, 0, none⟩ : Addr), 32, 32⟩ 1 (0 : Int).toNat (32 : Int).toNat 32 ∧ (∃ l11 : List Value, SlcAt h7 s8 l11 ∧ App 5 1 1 [.int .u8 0] h7 (⟨some ⟨b5, 0, none⟩, 16, 16⟩ : Slc) s8.len l11 (fun s9 h10 => ref01_Form (IntKind.u64.wrap p1) 4 (fun (r12 : Slc) h13 => ∃ l16 : List Value, SlcAt h13 r12 l16 ∧ App 5 1 1 [.int .u8 0] h13 s9 r12.len l16 (fun s14 h15 => ∃ s17 : Slc, (0 : Int) ≤ 0 ∧ 0 ≤ (12 : Int) ∧ 12 ≤ (12 : Int) ∧ s17 = subS ⟨some (⟨b3, 0, none⟩ : Addr), 12, 12⟩ 1 (0 : Int).toNat (12 : Int).toNat 12 ∧ (∃ l20 : List Value, SlcAt h15 s17 l20 ∧ App 5 1 1 [.int .u8 0] h15 s14 s17.len l20 (fun s18 h19 => ref04_Block_l1 s18 (⟨none, 0, 0⟩ : Slc) (⟨none, 0, 0⟩ : Slc) 0 k h19)))) h10))))))

/-- quaestor quaestorlaw04.awake -/
def law04_awake_g5 (t37_5 : Bool) (k : (Bool) → Heap → Prop) (nx1 : (Int) → Heap → Prop) (h_5 : Heap) : Prop :=
  k t37_5 h_5
def law04_awake_g4 (t3_4 : Addr) (t32_4 : Bool) (k : (Bool) → Heap → Prop) (nx1 : (Int) → Heap → Prop) (h_4 : Heap) : Prop :=
  if t32_4 then ((0 : Int) ≤ 63 ∧ 63 < (64 : Int) ∧ (∃ v15 : Int, cellH h_4 (t3_4.add ((63 : Int).toNat * 1)) = some (.int .u8 v15) ∧ (law04_awake_g5 (v15 == 78) k nx1 h_4))) else (law04_awake_g5 false k nx1 h_4)
def law04_awake_g3 (t3_3 : Addr) (t27_3 : Bool) (k : (Bool) → Heap → Prop) (nx1 : (Int) → Heap → Prop) (h_3 : Heap) : Prop :=
  if t27_3 then ((0 : Int) ≤ 3 ∧ 3 < (64 : Int) ∧ (∃ v17 : Int, cellH h_3 (t3_3.add ((3 : Int).toNat * 1)) = some (.int .u8 v17) ∧ (law04_awake_g4 t3_3 (v17 == 228) k nx1 h_3))) else (law04_awake_g4 t3_3 false k nx1 h_3)
def law04_awake_g2 (t3_2 : Addr) (t22_2 : Bool) (k : (Bool) → Heap → Prop) (nx1 : (Int) → Heap → Prop) (h_2 : Heap) : Prop :=
  if t22_2 then ((0 : Int) ≤ 2 ∧ 2 < (64 : Int) ∧ (∃ v19 : Int, cellH h_2 (t3_2.add ((2 : Int).toNat * 1)) = some (.int .u8 v19) ∧ (law04_awake_g3 t3_2 (v19 == 231) k nx1 h_2))) else (law04_awake_g3 t3_2 false k nx1 h_2)
def law04_awake_l1b (t1_1 : Addr) (t2_1 : Int) (k : (Bool) → Heap → Prop) (nx1 : (Int) → Heap → Prop) (h_1 : Heap) : Prop :=
  if (decide (t2_1 < 32)) then ((0 : Int) ≤ t2_1 ∧ t2_1 < (32 : Int) ∧ (∃ h4 : Heap, WrH h_1 (t1_1.add (t2_1.toNat * 1)) ∧ h4 = setH h_1 (t1_1.add (t2_1.toNat * 1)) (.int .u8 (IntKind.u8.wrap t2_1)) ∧ (∃ x5 : Int, x5 = (IntKind.i64.wrap (t2_1 + 1)) ∧ (nx1 x5 h4)))) else (∃ v6 : List Int, v6.length = 32 ∧ CellsAt h_1 t1_1 ((v6).map (Value.int .u8)) ∧ (chacha_Block v6 1 ([0, 0, 0, 9, 0, 0, 0, 74, 0, 0, 0, 0] : List Int) (fun (r7 : List Int) h8 => ∃ (b9 : Nat) (h10 : Heap), b9 = h8.size ∧ h10 = h8.push (.cells (((List.replicate 64 (0 : Int))).map (Value.int .u8)).toArray 27) ∧ (∃ h11 : Heap, r7.length = 64 ∧ WrsAt h10 (⟨b9, 0, none⟩ : Addr) 64 ∧ h11 = setsH h10 (⟨b9, 0, none⟩ : Addr) 0 ((r7).map (Value.int .u8)) ∧ ((0 : Int) ≤ 0 ∧ 0 < (64 : Int) ∧ (∃ v13 : Int, cellH h11 ((⟨b9, 0, none⟩ : Addr).add ((0 : Int).toNat * 1)) = some (.int .u8 v13) ∧ (if (v13 == 16) then ((0 : Int) ≤ 1 ∧ 1 < (64 : Int) ∧ (∃ v21 : Int, cellH h11 ((⟨b9, 0, none⟩ : Addr).add ((1 : Int).toNat * 1)) = some (.int .u8 v21) ∧ (law04_awake_g2 (⟨b9, 0, none⟩ : Addr) (v21 == 241) k nx1 h11))) else (law04_awake_g2 (⟨b9, 0, none⟩ : Addr) false k nx1 h11)))))) h_1))
def law04_awake_l1 (t1_1 : Addr) (i2 : Int) (k : (Bool) → Heap → Prop) (h : Heap) : Prop :=
  ∃ (I : Int → Heap → Prop) (μ : Int → Heap → Nat), I i2 h ∧ ∀ (t2_1 : Int) (h : Heap), I t2_1 h → law04_awake_l1b t1_1 t2_1 k (fun s h' => I s h' ∧ μ s h' < μ t2_1 h) h
def law04_awake (k : (Bool) → Heap → Prop) (h : Heap) : Prop :=
  ∃ (b1 : Nat) (h2 : Heap), b1 = h.size ∧ h2 = h.push (.cells (((List.replicate 32 (0 : Int))).map (Value.int .u8)).toArray 23) ∧ (law04_awake_l1 (⟨b1, 0, none⟩ : Addr) 0 k h2)

/-- quaestor quaestorlaw04.ChachaBlocks -/
def law04_ChachaBlocks_j1 (t6_1 : Bool) (k : (Bool) → Heap → Prop) (h_1 : Heap) : Prop :=
  k t6_1 h_1
def law04_ChachaBlocks (p0 : List Int) (p1 : Int) (p2 : List Int) (k : (Bool) → Heap → Prop) (h : Heap) : Prop :=
  ∃ (b1 : Nat) (h2 : Heap), b1 = h.size ∧ h2 = h.push (.cells ((p0).map (Value.int .u8)).toArray 23) ∧ (∃ (b3 : Nat) (h4 : Heap), b3 = h2.size ∧ h4 = h2.push (.cells ((p2).map (Value.int .u8)).toArray 26) ∧ (∃ v5 : List Int, v5.length = 32 ∧ CellsAt h4 (⟨b1, 0, none⟩ : Addr) ((v5).map (Value.int .u8)) ∧ (∃ v6 : List Int, v6.length = 12 ∧ CellsAt h4 (⟨b3, 0, none⟩ : Addr) ((v6).map (Value.int .u8)) ∧ (chacha_Block v5 p1 v6 (fun (r7 : List Int) h8 => ∃ (b9 : Nat) (h10 : Heap), b9 = h8.size ∧ h10 = h8.push (.cells (((List.replicate 64 (0 : Int))).map (Value.int .u8)).toArray 27) ∧ (∃ h11 : Heap, r7.length = 64 ∧ WrsAt h10 (⟨b9, 0, none⟩ : Addr) 64 ∧ h11 = setsH h10 (⟨b9, 0, none⟩ : Addr) 0 ((r7).map (Value.int .u8)) ∧ (∃ s12 : Slc, (0 : Int) ≤ 0 ∧ 0 ≤ (64 : Int) ∧ 64 ≤ (64 : Int) ∧ s12 = subS ⟨some (⟨b9, 0, none⟩ : Addr), 64, 64⟩ 1 (0 : Int).toNat (64 : Int).toNat 64 ∧ (∃ v13 : List Int, v13.length = 32 ∧ CellsAt h11 (⟨b1, 0, none⟩ : Addr) ((v13).map (Value.int .u8)) ∧ (∃ v14 : List Int, v14.length = 12 ∧ CellsAt h11 (⟨b3, 0, none⟩ : Addr) ((v14).map (Value.int .u8)) ∧ (ref04_Block v13 p1 v14 (fun (r15 : Slc) h16 => ref01_Same s12 r15 (fun (r17 : Bool) h18 => if r17 then (law04_awake  (fun (r19 : Bool) h20 => law04_ChachaBlocks_j1 r19 k h20) h18) else (law04_ChachaBlocks_j1 false k h18)) h16) h11)))))) h4))))

/-- quaestor quaestorref01.Lent -/
def ref01_Lent_j2 (t0_2 : Slc) (t3_2 : Slc) (t4_2 : Int) (k : (Slc) → Heap → Prop) (nx1 : (Int) → Heap → Prop) (h_2 : Heap) : Prop :=
  ∃ x3 : Int, x3 = (IntKind.i64.wrap (t4_2 + 1)) ∧ (nx1 x3 h_2)
def ref01_Lent_l1b (t0_1 : Slc) (t3_1 : Slc) (t4_1 : Int) (k : (Slc) → Heap → Prop) (nx1 : (Int) → Heap → Prop) (h_1 : Heap) : Prop :=
  if (decide (t4_1 < (t3_1.len : Int))) then (if (decide (t4_1 < (t0_1.len : Int))) then (∃ a4 : Addr, t0_1.a = some a4 ∧ (0 : Int) ≤ t4_1 ∧ t4_1 < (t0_1.len : Int) ∧ (∃ v5 : Int, cellH h_1 (a4.add (t4_1.toNat * 1)) = some (.int .u8 v5) ∧ (∃ a6 : Addr, t3_1.a = some a6 ∧ (0 : Int) ≤ t4_1 ∧ t4_1 < (t3_1.len : Int) ∧ (∃ h7 : Heap, WrH h_1 (a6.add (t4_1.toNat * 1)) ∧ h7 = setH h_1 (a6.add (t4_1.toNat * 1)) (.int .u8 v5) ∧ (ref01_Lent_j2 t0_1 t3_1 t4_1 k nx1 h7))))) else (∃ a8 : Addr, t3_1.a = some a8 ∧ (0 : Int) ≤ t4_1 ∧ t4_1 < (t3_1.len : Int) ∧ (∃ h9 : Heap, WrH h_1 (a8.add (t4_1.toNat * 1)) ∧ h9 = setH h_1 (a8.add (t4_1.toNat * 1)) (.int .u8 165) ∧ (ref01_Lent_j2 t0_1 t3_1 t4_1 k nx1 h9)))) else (∃ s10 : Slc, (0 : Int) ≤ 0 ∧ (0 : Int) ≤ (t0_1.len : Int) ∧ ((t0_1.len : Int) : Int) ≤ (t3_1.cap : Int) ∧ (t3_1.cap : Int) ≤ (t3_1.cap : Int) ∧ s10 = subS t3_1 1 (0 : Int).toNat (t0_1.len : Int).toNat (t3_1.cap : Int).toNat ∧ (k s10 h_1))
def ref01_Lent_l1 (t0_1 : Slc) (t3_1 : Slc) (i4 : Int) (k : (Slc) → Heap → Prop) (h : Heap) : Prop :=
  ∃ (I : Int → Heap → Prop) (μ : Int → Heap → Nat), I i4 h ∧ ∀ (t4_1 : Int) (h : Heap), I t4_1 h → ref01_Lent_l1b t0_1 t3_1 t4_1 k (fun s h' => I s h' ∧ μ s h' < μ t4_1 h) h
def ref01_Lent (p0 : Slc) (k : (Slc) → Heap → Prop) (h : Heap) : Prop :=
  ∃ (b1 : Nat) (h2 : Heap), (0 : Int) ≤ (IntKind.i64.wrap ((p0.len : Int) + 8)) ∧ ((IntKind.i64.wrap ((p0.len : Int) + 8)) : Int) ≤ (IntKind.i64.wrap ((p0.len : Int) + 8)) ∧ ((IntKind.i64.wrap ((p0.len : Int) + 8)) : Int) * 1 ≤ 281474976710656 ∧ ((IntKind.i64.wrap ((p0.len : Int) + 8)) : Int) ≤ 9223372036854775807 ∧ b1 = h.size ∧ h2 = h.push (.cells (zrow [.int .u8 0] (IntKind.i64.wrap ((p0.len : Int) + 8)).toNat).toArray 5) ∧ (ref01_Lent_l1 p0 (⟨some ⟨b1, 0, none⟩, (IntKind.i64.wrap ((p0.len : Int) + 8)).toNat, (IntKind.i64.wrap ((p0.len : Int) + 8)).toNat⟩ : Slc) 0 k h2)

/-- quaestor chacha.Xor -/
def chacha_Xor_j2 (t4_2 : Addr) (t5_2 : Addr) (t9_2 : Slc) (t10_2 : Addr) (t11_2 : Int) (t12_2 : Int) (t13_2 : Slc) (t14_2 : Int) (t15_2 : Int) (t2_2 : Int) (k : (Slc) → Heap → Prop) (nx1 : (Int × Slc × Int) → Heap → Prop) (h_2 : Heap) : Prop :=
  (0 : Int) ≤ (bwAnd .i64 t11_2 63) ∧ (bwAnd .i64 t11_2 63) < (64 : Int) ∧ (∃ v10 : Int, cellH h_2 (t10_2.add ((bwAnd .i64 t11_2 63).toNat * 1)) = some (.int .u8 v10) ∧ (∃ (b11 : Nat) (h12 : Heap), b11 = h_2.size ∧ h12 = h_2.push (.cells ([.int .u8 (bwXor .u8 t12_2 v10)]).toArray 5) ∧ (App 5 1 1 [.int .u8 0] h12 t9_2 1 ([.int .u8 (bwXor .u8 t12_2 v10)]) (fun s13 h14 => nx1 (t2_2, s13, (IntKind.i64.wrap (t15_2 + 1))) h14))))
def chacha_Xor_l1b (t4_1 : Addr) (t5_1 : Addr) (t10_1 : Addr) (t13_1 : Slc) (t14_1 : Int) (t2_1 : Int) (t9_1 : Slc) (t15_1 : Int) (k : (Slc) → Heap → Prop) (nx1 : (Int × Slc × Int) → Heap → Prop) (h_1 : Heap) : Prop :=
  if (decide (t15_1 < t14_1)) then (∃ a7 : Addr, t13_1.a = some a7 ∧ (0 : Int) ≤ t15_1 ∧ t15_1 < (t13_1.len : Int) ∧ (∃ v8 : Int, cellH h_1 (a7.add (t15_1.toNat * 1)) = some (.int .u8 v8) ∧ (if ((bwAnd .i64 t15_1 63) == 0) then (∃ v15 : List Int, v15.length = 32 ∧ CellsAt h_1 t4_1 ((v15).map (Value.int .u8)) ∧ (∃ v16 : List Int, v16.length = 12 ∧ CellsAt h_1 t5_1 ((v16).map (Value.int .u8)) ∧ (chacha_Block v15 t2_1 v16 (fun (r17 : List Int) h18 => ∃ h19 : Heap, r17.length = 64 ∧ WrsAt h18 t10_1 64 ∧ h19 = setsH h18 t10_1 0 ((r17).map (Value.int .u8)) ∧ (∃ x20 : Int, x20 = (IntKind.u32.wrap (t2_1 + 1)) ∧ (chacha_Xor_j2 t4_1 t5_1 t9_1 t10_1 t15_1 v8 t13_1 t14_1 t15_1 x20 k nx1 h19))) h_1))) else (chacha_Xor_j2 t4_1 t5_1 t9_1 t10_1 t15_1 v8 t13_1 t14_1 t15_1 t2_1 k nx1 h_1)))) else (k t9_1 h_1)
def chacha_Xor_l1 (t4_1 : Addr) (t5_1 : Addr) (t10_1 : Addr) (t13_1 : Slc) (t14_1 : Int) (i2 : Int) (i9 : Slc) (i15 : Int) (k : (Slc) → Heap → Prop) (h : Heap) : Prop :=
  ∃ (I : (Int × Slc × Int) → Heap → Prop) (μ : (Int × Slc × Int) → Heap → Nat), I (i2, i9, i15) h ∧ ∀ (t2_1 : Int) (t9_1 : Slc) (t15_1 : Int) (h : Heap), I (t2_1, t9_1, t15_1) h → chacha_Xor_l1b t4_1 t5_1 t10_1 t13_1 t14_1 t2_1 t9_1 t15_1 k (fun s h' => I s h' ∧ μ s h' < μ (t2_1, t9_1, t15_1) h) h
def chacha_Xor (p0 : List Int) (p1 : List Int) (p2 : Int) (p3 : Slc) (k : (Slc) → Heap → Prop) (h : Heap) : Prop :=
  ∃ (b1 : Nat) (h2 : Heap), b1 = h.size ∧ h2 = h.push (.cells ((p0).map (Value.int .u8)).toArray 23) ∧ (∃ (b3 : Nat) (h4 : Heap), b3 = h2.size ∧ h4 = h2.push (.cells ((p1).map (Value.int .u8)).toArray 26) ∧ (∃ (b5 : Nat) (h6 : Heap), b5 = h4.size ∧ h6 = h4.push (.cells (((List.replicate 64 (0 : Int))).map (Value.int .u8)).toArray 27) ∧ (chacha_Xor_l1 (⟨b1, 0, none⟩ : Addr) (⟨b3, 0, none⟩ : Addr) (⟨b5, 0, none⟩ : Addr) p3 (p3.len : Int) p2 (⟨none, 0, 0⟩ : Slc) 0 k h6)))

/-- quaestor quaestorref04.Xor -/
def ref04_Xor_j2 (t3_2 : Slc) (t4_2 : Addr) (t5_2 : Addr) (t9_2 : Slc) (t11_2 : Int) (t2_2 : Int) (t10_2 : Slc) (k : (Slc) → Heap → Prop) (nx1 : (Int × Slc × Slc × Int) → Heap → Prop) (h_2 : Heap) : Prop :=
  ∃ a5 : Addr, t3_2.a = some a5 ∧ (0 : Int) ≤ t11_2 ∧ t11_2 < (t3_2.len : Int) ∧ (∃ v6 : Int, cellH h_2 (a5.add (t11_2.toNat * 1)) = some (.int .u8 v6) ∧ (∃ a7 : Addr, t10_2.a = some a7 ∧ (0 : Int) ≤ (Int.tmod t11_2 64) ∧ (Int.tmod t11_2 64) < (t10_2.len : Int) ∧ (∃ v8 : Int, cellH h_2 (a7.add ((Int.tmod t11_2 64).toNat * 1)) = some (.int .u8 v8) ∧ (∃ (b9 : Nat) (h10 : Heap), b9 = h_2.size ∧ h10 = h_2.push (.cells ([.int .u8 (bwXor .u8 v6 v8)]).toArray 5) ∧ (App 5 1 1 [.int .u8 0] h10 t9_2 1 ([.int .u8 (bwXor .u8 v6 v8)]) (fun s11 h12 => ∃ x13 : Int, x13 = (IntKind.i64.wrap (t11_2 + 1)) ∧ (nx1 (t2_2, s11, t10_2, x13) h12)))))))
def ref04_Xor_l1b (t3_1 : Slc) (t4_1 : Addr) (t5_1 : Addr) (t2_1 : Int) (t9_1 : Slc) (t10_1 : Slc) (t11_1 : Int) (k : (Slc) → Heap → Prop) (nx1 : (Int × Slc × Slc × Int) → Heap → Prop) (h_1 : Heap) : Prop :=
  if (decide (t11_1 < (t3_1.len : Int))) then (if ((Int.tmod t11_1 64) == 0) then (∃ v14 : List Int, v14.length = 32 ∧ CellsAt h_1 t4_1 ((v14).map (Value.int .u8)) ∧ (∃ v15 : List Int, v15.length = 12 ∧ CellsAt h_1 t5_1 ((v15).map (Value.int .u8)) ∧ (ref04_Block v14 t2_1 v15 (fun (r16 : Slc) h17 => ∃ x18 : Int, x18 = (IntKind.u32.wrap (t2_1 + 1)) ∧ (ref04_Xor_j2 t3_1 t4_1 t5_1 t9_1 t11_1 x18 r16 k nx1 h17)) h_1))) else (ref04_Xor_j2 t3_1 t4_1 t5_1 t9_1 t11_1 t2_1 t10_1 k nx1 h_1)) else (k t9_1 h_1)
def ref04_Xor_l1 (t3_1 : Slc) (t4_1 : Addr) (t5_1 : Addr) (i2 : Int) (i9 : Slc) (i10 : Slc) (i11 : Int) (k : (Slc) → Heap → Prop) (h : Heap) : Prop :=
  ∃ (I : (Int × Slc × Slc × Int) → Heap → Prop) (μ : (Int × Slc × Slc × Int) → Heap → Nat), I (i2, i9, i10, i11) h ∧ ∀ (t2_1 : Int) (t9_1 : Slc) (t10_1 : Slc) (t11_1 : Int) (h : Heap), I (t2_1, t9_1, t10_1, t11_1) h → ref04_Xor_l1b t3_1 t4_1 t5_1 t2_1 t9_1 t10_1 t11_1 k (fun s h' => I s h' ∧ μ s h' < μ (t2_1, t9_1, t10_1, t11_1) h) h
def ref04_Xor (p0 : List Int) (p1 : List Int) (p2 : Int) (p3 : Slc) (k : (Slc) → Heap → Prop) (h : Heap) : Prop :=
  ∃ (b1 : Nat) (h2 : Heap), b1 = h.size ∧ h2 = h.push (.cells ((p0).map (Value.int .u8)).toArray 22) ∧ (∃ (b3 : Nat) (h4 : Heap), b3 = h2.size ∧ h4 = h2.push (.cells ((p1).map (Value.int .u8)).toArray 25) ∧ (ref04_Xor_l1 p3 (⟨b1, 0, none⟩ : Addr) (⟨b3, 0, none⟩ : Addr) p2 (⟨none, 0, 0⟩ : Slc) (⟨none, 0, 0⟩ : Slc) 0 k h4))

/-- quaestor quaestorref01.Kept -/
def ref01_Kept_l1b (t5_1 : Slc) (t6_1 : Int) (k : (Bool) → Heap → Prop) (nx1 : (Int) → Heap → Prop) (h_1 : Heap) : Prop :=
  if (decide (t6_1 < (t5_1.len : Int))) then (∃ a5 : Addr, t5_1.a = some a5 ∧ (0 : Int) ≤ t6_1 ∧ t6_1 < (t5_1.len : Int) ∧ (∃ v6 : Int, cellH h_1 (a5.add (t6_1.toNat * 1)) = some (.int .u8 v6) ∧ (if (v6 != 165) then (k false h_1) else (∃ x7 : Int, x7 = (IntKind.i64.wrap (t6_1 + 1)) ∧ (nx1 x7 h_1))))) else (k true h_1)
def ref01_Kept_l1 (t5_1 : Slc) (i6 : Int) (k : (Bool) → Heap → Prop) (h : Heap) : Prop :=
  ∃ (I : Int → Heap → Prop) (μ : Int → Heap → Nat), I i6 h ∧ ∀ (t6_1 : Int) (h : Heap), I t6_1 h → ref01_Kept_l1b t5_1 t6_1 k (fun s h' => I s h' ∧ μ s h' < μ t6_1 h) h
def ref01_Kept (p0 : Slc) (p1 : Slc) (k : (Bool) → Heap → Prop) (h : Heap) : Prop :=
  ref01_Same p0 p1 (fun (r1 : Bool) h2 => if (!r1) then (k false h2) else (∃ s3 : Slc, (0 : Int) ≤ 0 ∧ (0 : Int) ≤ (IntKind.i64.wrap ((p0.len : Int) + 8)) ∧ ((IntKind.i64.wrap ((p0.len : Int) + 8)) : Int) ≤ (p0.cap : Int) ∧ (p0.cap : Int) ≤ (p0.cap : Int) ∧ s3 = subS p0 1 (0 : Int).toNat (IntKind.i64.wrap ((p0.len : Int) + 8)).toNat (p0.cap : Int).toNat ∧ (∃ x4 : Int, x4 = (p0.len : Int) ∧ (ref01_Kept_l1 s3 x4 k h2)))) h

/-- quaestor quaestorlaw04.ChachaStreams -/
def law04_ChachaStreams_g3 (t45_3 : Bool) (k : (Bool) → Heap → Prop) (h_3 : Heap) : Prop :=
  k t45_3 h_3
def law04_ChachaStreams_g2 (t42_2 : Bool) (k : (Bool) → Heap → Prop) (h_2 : Heap) : Prop :=
  if t42_2 then (law04_awake  (fun (r19 : Bool) h20 => law04_ChachaStreams_g3 r19 k h20) h_2) else (law04_ChachaStreams_g3 false k h_2)
def law04_ChachaStreams_g1 (t3_1 : Slc) (t9_1 : Slc) (t37_1 : Bool) (k : (Bool) → Heap → Prop) (h_1 : Heap) : Prop :=
  if t37_1 then (ref01_Kept t9_1 t3_1 (fun (r21 : Bool) h22 => law04_ChachaStreams_g2 r21 k h22) h_1) else (law04_ChachaStreams_g2 false k h_1)
def law04_ChachaStreams (p0 : List Int) (p1 : List Int) (p2 : Int) (p3 : Slc) (k : (Bool) → Heap → Prop) (h : Heap) : Prop :=
  ∃ (b1 : Nat) (h2 : Heap), b1 = h.size ∧ h2 = h.push (.cells ((p0).map (Value.int .u8)).toArray 23) ∧ (∃ (b3 : Nat) (h4 : Heap), b3 = h2.size ∧ h4 = h2.push (.cells ((p1).map (Value.int .u8)).toArray 26) ∧ (if (decide ((p3.len : Int) > 300)) then (law04_awake  (fun (r5 : Bool) h6 => k r5 h6) h4) else (ref01_Lent p3 (fun (r7 : Slc) h8 => ∃ v9 : List Int, v9.length = 32 ∧ CellsAt h8 (⟨b1, 0, none⟩ : Addr) ((v9).map (Value.int .u8)) ∧ (∃ v10 : List Int, v10.length = 12 ∧ CellsAt h8 (⟨b3, 0, none⟩ : Addr) ((v10).map (Value.int .u8)) ∧ (chacha_Xor v9 v10 p2 r7 (fun (r11 : Slc) h12 => ∃ v13 : List Int, v13.length = 32 ∧ CellsAt h12 (⟨b1, 0, none⟩ : Addr) ((v13).map (Value.int .u8)) ∧ (∃ v14 : List Int, v14.length = 12 ∧ CellsAt h12 (⟨b3, 0, none⟩ : Addr) ((v14).map (Value.int .u8)) ∧ (ref04_Xor v13 v14 p2 p3 (fun (r15 : Slc) h16 => ref01_Same r11 r15 (fun (r17 : Bool) h18 => if r17 then (∃ v23 : List Int, v23.length = 32 ∧ CellsAt h18 (⟨b1, 0, none⟩ : Addr) ((v23).map (Value.int .u8)) ∧ (∃ v24 : List Int, v24.length = 12 ∧ CellsAt h18 (⟨b3, 0, none⟩ : Addr) ((v24).map (Value.int .u8)) ∧ (chacha_Xor v23 v24 p2 r11 (fun (r25 : Slc) h26 => ref01_Same r25 p3 (fun (r27 : Bool) h28 => law04_ChachaStreams_g1 p3 r7 r27 k h28) h26) h18))) else (law04_ChachaStreams_g1 p3 r7 false k h18)) h16) h12))) h8))) h4)))

/-- quaestor quaestorlaw04.ChachaParts -/
def law04_ChachaParts_g1 (t44_1 : Bool) (k : (Bool) → Heap → Prop) (h_1 : Heap) : Prop :=
  k t44_1 h_1
def law04_ChachaParts (p0 : List Int) (p1 : List Int) (p2 : Int) (p3 : Slc) (k : (Bool) → Heap → Prop) (h : Heap) : Prop :=
  ∃ (b1 : Nat) (h2 : Heap), b1 = h.size ∧ h2 = h.push (.cells ((p0).map (Value.int .u8)).toArray 23) ∧ (∃ (b3 : Nat) (h4 : Heap), b3 = h2.size ∧ h4 = h2.push (.cells ((p1).map (Value.int .u8)).toArray 26) ∧ (if ((decide ((p3.len : Int) < 64)) || (decide ((p3.len : Int) > 300))) then (law04_awake  (fun (r5 : Bool) h6 => k r5 h6) h4) else (∃ v7 : List Int, v7.length = 32 ∧ CellsAt h4 (⟨b1, 0, none⟩ : Addr) ((v7).map (Value.int .u8)) ∧ (∃ v8 : List Int, v8.length = 12 ∧ CellsAt h4 (⟨b3, 0, none⟩ : Addr) ((v8).map (Value.int .u8)) ∧ (∃ s9 : Slc, (0 : Int) ≤ 0 ∧ (0 : Int) ≤ 64 ∧ (64 : Int) ≤ (p3.cap : Int) ∧ (p3.cap : Int) ≤ (p3.cap : Int) ∧ s9 = subS p3 1 (0 : Int).toNat (64 : Int).toNat (p3.cap : Int).toNat ∧ (chacha_Xor v7 v8 p2 s9 (fun (r10 : Slc) h11 => ∃ v12 : List Int, v12.length = 32 ∧ CellsAt h11 (⟨b1, 0, none⟩ : Addr) ((v12).map (Value.int .u8)) ∧ (∃ v13 : List Int, v13.length = 12 ∧ CellsAt h11 (⟨b3, 0, none⟩ : Addr) ((v13).map (Value.int .u8)) ∧ (∃ s14 : Slc, (0 : Int) ≤ 64 ∧ (64 : Int) ≤ (p3.len : Int) ∧ ((p3.len : Int) : Int) ≤ (p3.cap : Int) ∧ (p3.cap : Int) ≤ (p3.cap : Int) ∧ s14 = subS p3 1 (64 : Int).toNat (p3.len : Int).toNat (p3.cap : Int).toNat ∧ (chacha_Xor v12 v13 (IntKind.u32.wrap (p2 + 1)) s14 (fun (r15 : Slc) h16 => ∃ v17 : List Int, v17.length = 32 ∧ CellsAt h16 (⟨b1, 0, none⟩ : Addr) ((v17).map (Value.int .u8)) ∧ (∃ v18 : List Int, v18.length = 12 ∧ CellsAt h16 (⟨b3, 0, none⟩ : Addr) ((v18).map (Value.int .u8)) ∧ (chacha_Xor v17 v18 p2 p3 (fun (r19 : Slc) h20 => ∃ l23 : List Value, SlcAt h20 r15 l23 ∧ App 5 1 1 [.int .u8 0] h20 r10 r15.len l23 (fun s21 h22 => ref01_Same r19 s21 (fun (r24 : Bool) h25 => if r24 then (law04_awake  (fun (r26 : Bool) h27 => law04_ChachaParts_g1 r26 k h27) h25) else (law04_ChachaParts_g1 false k h25)) h22)) h16))) h11)))) h4))))))

/-- quaestor quaestorlaw04.ChachaWraps -/
def law04_ChachaWraps_j1 (t6_1 : Bool) (k : (Bool) → Heap → Prop) (h_1 : Heap) : Prop :=
  k t6_1 h_1
def law04_ChachaWraps (p0 : List Int) (p1 : List Int) (p2 : Slc) (k : (Bool) → Heap → Prop) (h : Heap) : Prop :=
  ∃ (b1 : Nat) (h2 : Heap), b1 = h.size ∧ h2 = h.push (.cells ((p0).map (Value.int .u8)).toArray 23) ∧ (∃ (b3 : Nat) (h4 : Heap), b3 = h2.size ∧ h4 = h2.push (.cells ((p1).map (Value.int .u8)).toArray 26) ∧ (if (decide ((p2.len : Int) > 200)) then (law04_awake  (fun (r5 : Bool) h6 => k r5 h6) h4) else (∃ v7 : List Int, v7.length = 32 ∧ CellsAt h4 (⟨b1, 0, none⟩ : Addr) ((v7).map (Value.int .u8)) ∧ (∃ v8 : List Int, v8.length = 12 ∧ CellsAt h4 (⟨b3, 0, none⟩ : Addr) ((v8).map (Value.int .u8)) ∧ (∃ (b9 : Nat) (h10 : Heap), (0 : Int) ≤ 64 ∧ (64 : Int) ≤ 64 ∧ (64 : Int) * 1 ≤ 281474976710656 ∧ (64 : Int) ≤ 9223372036854775807 ∧ b9 = h4.size ∧ h10 = h4.push (.cells (zrow [.int .u8 0] (64 : Int).toNat).toArray 5) ∧ (CellsAt h10 (⟨b3, 0, none⟩ : Addr) ((v8).map (Value.int .u8)) ∧ CellsAt h10 (⟨b1, 0, none⟩ : Addr) ((v7).map (Value.int .u8)) ∧ (∃ l15 : List Value, SlcAt h10 p2 l15 ∧ App 5 1 1 [.int .u8 0] h10 (⟨some ⟨b9, 0, none⟩, (64 : Int).toNat, (64 : Int).toNat⟩ : Slc) p2.len l15 (fun s13 h14 => CellsAt h14 (⟨b3, 0, none⟩ : Addr) ((v8).map (Value.int .u8)) ∧ CellsAt h14 (⟨b1, 0, none⟩ : Addr) ((v7).map (Value.int .u8)) ∧ (chacha_Xor v7 v8 4294967295 s13 (fun (r18 : Slc) h19 => if ((r18.len : Int) == (IntKind.i64.wrap (64 + (p2.len : Int)))) then (∃ s20 : Slc, (0 : Int) ≤ 64 ∧ (64 : Int) ≤ (r18.len : Int) ∧ ((r18.len : Int) : Int) ≤ (r18.cap : Int) ∧ (r18.cap : Int) ≤ (r18.cap : Int) ∧ s20 = subS r18 1 (64 : Int).toNat (r18.len : Int).toNat (r18.cap : Int).toNat ∧ (∃ v21 : List Int, v21.length = 32 ∧ CellsAt h19 (⟨b1, 0, none⟩ : Addr) ((v21).map (Value.int .u8)) ∧ (∃ v22 : List Int, v22.length = 12 ∧ CellsAt h19 (⟨b3, 0, none⟩ : Addr) ((v22).map (Value.int .u8)) ∧ (chacha_Xor v21 v22 0 p2 (fun (r23 : Slc) h24 => ref01_Same s20 r23 (fun (r25 : Bool) h26 => if r25 then (law04_awake  (fun (r27 : Bool) h28 => law04_ChachaWraps_j1 r27 k h28) h26) else (law04_ChachaWraps_j1 false k h26)) h24) h19)))) else (if false then (law04_awake  (fun (r29 : Bool) h30 => law04_ChachaWraps_j1 r29 k h30) h19) else (law04_ChachaWraps_j1 false k h19))) h14)))))))))

theorem chacha_word_ok : CallOk Go.Proofs.Tryd.prog 20 := ⟨_, Go.Proofs.Tryd.func20, by kernel_rfl, by kernel_rfl⟩
theorem chacha_word_ref (p0 : Slc) (k : (Int) → Heap → Prop) (h : Heap) (H : chacha_word p0 k h) : CallsH Go.Proofs.Tryd.prog 20 #[Slc.v p0] h (fun v h' => ∃ r : Int, v = .int .u32 r ∧ k r h') := by
  refine f_enter (N := 25) Go.Proofs.Tryd.func20 rfl rfl rfl (fun w0 => ?_)
  unfold chacha_word at H
  refine c_weak [(0, Slc.v p0)] ⟨rfl, trivial⟩ ?_
  refine c_seq ?_
  refine c_region ?_
  refine w_p tok rfl rfl rfl ?_
  refine w_end ?_
  refine x_seq ?_
  refine c_seq ?_
  refine c_draw (by kernel_rfl) (by kernel_rfl) ?_
  refine q_p tok rfl rfl rfl ?_
  obtain ⟨a1, ha1, la1, ua1, H⟩ := H
  refine q_y (y_ixa' tok rfl rfl ha1 rfl rfl rfl la1 ua1) rfl rfl ?_
  obtain ⟨v2, hv2, H⟩ := H
  refine q_y (y_ld tok rfl rfl rfl rfl hv2) rfl rfl ?_
  refine q_p tok rfl rfl rfl ?_
  refine q_p tok rfl rfl rfl ?_
  obtain ⟨a3, ha3, la3, ua3, H⟩ := H
  refine q_y (y_ixa' tok rfl rfl ha3 rfl rfl rfl la3 ua3) rfl rfl ?_
  obtain ⟨v4, hv4, H⟩ := H
  refine q_y (y_ld tok rfl rfl rfl rfl hv4) rfl rfl ?_
  refine q_p tok rfl rfl rfl ?_
  refine q_p tok rfl rfl rfl ?_
  refine q_p tok rfl rfl rfl ?_
  refine q_p tok rfl rfl rfl ?_
  obtain ⟨a5, ha5, la5, ua5, H⟩ := H
  refine q_y (y_ixa' tok rfl rfl ha5 rfl rfl rfl la5 ua5) rfl rfl ?_
  obtain ⟨v6, hv6, H⟩ := H
  refine q_y (y_ld tok rfl rfl rfl rfl hv6) rfl rfl ?_
  refine q_p tok rfl rfl rfl ?_
  refine q_p tok rfl rfl rfl ?_
  refine q_p tok rfl rfl rfl ?_
  refine q_p tok rfl rfl rfl ?_
  obtain ⟨a7, ha7, la7, ua7, H⟩ := H
  refine q_y (y_ixa' tok rfl rfl ha7 rfl rfl rfl la7 ua7) rfl rfl ?_
  obtain ⟨v8, hv8, H⟩ := H
  refine q_y (y_ld tok rfl rfl rfl rfl hv8) rfl rfl ?_
  refine q_p tok rfl rfl rfl ?_
  refine q_p tok rfl rfl rfl ?_
  refine q_p tok rfl rfl rfl ?_
  refine q_p tok rfl rfl rfl ?_
  refine q_end ?_
  refine x_seq ?_
  refine c_weak [(2, .int .u32 (bwOr .u32 (bwOr .u32 (bwOr .u32 (IntKind.u32.wrap v2) (shl .u32 (IntKind.u32.wrap v4) (8 : Int).toNat)) (shl .u32 (IntKind.u32.wrap v6) (16 : Int).toNat)) (shl .u32 (IntKind.u32.wrap v8) (24 : Int).toNat)))] ⟨rfl, trivial⟩ ?_
  refine c_ret ?_
  exact x_ret _ rfl _ rfl ⟨(bwOr .u32 (bwOr .u32 (bwOr .u32 (IntKind.u32.wrap v2) (shl .u32 (IntKind.u32.wrap v4) (8 : Int).toNat)) (shl .u32 (IntKind.u32.wrap v6) (16 : Int).toNat)) (shl .u32 (IntKind.u32.wrap v8) (24 : Int).toNat)), rfl, H⟩

theorem chacha_start_ok : CallOk Go.Proofs.Tryd.prog 15 := ⟨_, Go.Proofs.Tryd.func15, by kernel_rfl, by kernel_rfl⟩
theorem chacha_start_ref (p0 : List Int) (p1 : Int) (p2 : List Int) (k : (List Int) → Heap → Prop) (h : Heap) (H : chacha_start p0 p1 p2 k h) : CallsH Go.Proofs.Tryd.prog 15 #[.agg ((p0).map (Value.int .u8)).toArray, .int .u32 p1, .agg ((p2).map (Value.int .u8)).toArray] h (fun v h' => ∃ r : List Int, v = .agg ((r).map (Value.int .u32)).toArray ∧ k r h') := by
  refine f_enter (N := 36) Go.Proofs.Tryd.func15 rfl rfl rfl (fun w0 => ?_)
  unfold chacha_start at H
  refine c_weak [(0, .agg ((p0).map (Value.int .u8)).toArray), (1, .int .u32 p1), (2, .agg ((p2).map (Value.int .u8)).toArray)] ⟨rfl, rfl, rfl, trivial⟩ ?_
  refine c_seq ?_
  refine c_region ?_
  obtain ⟨b1, h2, eb1, eh2, H⟩ := H
  refine w_h (h_box rfl rfl eb1 eh2) rfl rfl ?_
  obtain ⟨b3, h4, eb3, eh4, H⟩ := H
  refine w_h (h_box rfl rfl eb3 eh4) rfl rfl ?_
  obtain ⟨b5, h6, eb5, eh6, H⟩ := H
  refine w_h (h_alloc tok rfl rfl eb5 eh6) rfl rfl ?_
  refine w_end ?_
  refine x_seq ?_
  refine c_seq ?_
  refine c_region ?_
  refine w_y (y_builda tok rfl rfl rfl rfl rfl) rfl rfl ?_
  obtain ⟨b7, h8, eb7, eh8, H⟩ := H
  refine w_h (h_alloc tok rfl rfl eb7 eh8) rfl rfl ?_
  obtain ⟨h9, lh9, wh9, eh9, H⟩ := H
  refine w_h (h_sts tok rfl rfl rfl rfl (by rw [List.length_map]; exact lh9.symm) (one_ints _ _) wh9 eh9) rfl rfl ?_
  refine w_end ?_
  refine x_seq ?_
  refine c_seq ?_
  refine c_seq ?_
  refine c_region ?_
  refine w_p tok rfl rfl rfl ?_
  refine w_end ?_
  refine x_seq ?_
  refine c_block ?_
  obtain ⟨I1, μ1, H0, HI⟩ := H
  refine c_loop (σ := Int) (fun (s : Int) => [(11, .int .i64 s), (1, .int .u32 p1), (3, .pointer (some (⟨b1, 0, none⟩ : Addr))), (5, .pointer (some (⟨b3, 0, none⟩ : Addr))), (6, .pointer (some (⟨b5, 0, none⟩ : Addr))), (7, .pointer (some (⟨b7, 0, none⟩ : Addr)))]) I1 μ1 0 H0 ⟨rfl, rfl, rfl, rfl, rfl, rfl, trivial⟩ ?_
  rintro t11_1 h_1 H
  replace H := HI t11_1 h_1 H
  unfold chacha_start_l1b at H
  refine c_weak [(11, .int .i64 t11_1), (1, .int .u32 p1), (3, .pointer (some (⟨b1, 0, none⟩ : Addr))), (5, .pointer (some (⟨b3, 0, none⟩ : Addr))), (6, .pointer (some (⟨b5, 0, none⟩ : Addr))), (7, .pointer (some (⟨b7, 0, none⟩ : Addr)))] ⟨rfl, rfl, rfl, rfl, rfl, rfl, trivial⟩ ?_
  refine c_seq ?_
  refine c_region ?_
  refine w_p tok rfl rfl rfl ?_
  refine w_end ?_
  refine x_seq ?_
  refine c_seq ?_
  refine c_if H rfl (fun H => ?_) (fun H => ?_)
  ·
    refine c_skip ?_
    refine x_seq ?_
    refine c_seq ?_
    refine c_block ?_
    refine c_seq ?_
    refine c_region ?_
    refine w_p tok rfl rfl rfl ?_
    refine w_p tok rfl rfl rfl ?_
    refine w_end ?_
    refine x_seq ?_
    refine c_region ?_
    refine w_p tok rfl rfl rfl ?_
    refine w_p tok rfl rfl rfl ?_
    refine w_p tok rfl rfl rfl ?_
    refine w_p tok rfl rfl rfl ?_
    obtain ⟨s10, ps10, qs10, rs10, es10, H⟩ := H
    refine w_ye (y_sla (L := (IntKind.i64.wrap (4 * t11_1))) (H := 32) tok rfl rfl rfl rfl rfl rfl ps10 qs10 rs10) (congrArg Slc.v es10) rfl rfl ?_
    refine w_call chacha_word_ok (chacha_word_ref _ _ _ H) rfl rfl rfl rfl ?_
    rintro _ h12 ⟨r11, rfl, H⟩
    obtain ⟨lb13, ub13, H⟩ := H
    refine w_y (y_ixp tok rfl rfl rfl rfl rfl lb13 ub13) rfl rfl ?_
    obtain ⟨h14, wh14, eh14, H⟩ := H
    refine w_h (h_st tok rfl rfl rfl rfl rfl rfl wh14 eh14) rfl rfl ?_
    refine w_end ?_
    refine x_blk ?_
    refine x_seq ?_
    refine c_weak [(11, .int .i64 t11_1), (1, .int .u32 p1), (3, .pointer (some (⟨b1, 0, none⟩ : Addr))), (5, .pointer (some (⟨b3, 0, none⟩ : Addr))), (6, .pointer (some (⟨b5, 0, none⟩ : Addr))), (7, .pointer (some (⟨b7, 0, none⟩ : Addr)))] ⟨rfl, rfl, rfl, rfl, rfl, rfl, trivial⟩ ?_
    refine c_region ?_
    refine w_p tok rfl rfl rfl ?_
    refine w_p tok rfl rfl rfl ?_
    refine w_end ?_
    exact x_join (IntKind.i64.wrap (t11_1 + 1)) H ⟨rfl, rfl, rfl, rfl, rfl, rfl, trivial⟩
  ·
    refine c_exit ?_
    refine x_te ?_
    refine x_te ?_
    refine x_bh ?_
    refine x_seq ?_
    refine c_seq ?_
    refine c_region ?_
    refine w_p tok rfl rfl rfl ?_
    obtain ⟨lb15, ub15, H⟩ := H
    refine w_y (y_ixp tok rfl rfl rfl rfl rfl lb15 ub15) rfl rfl ?_
    obtain ⟨h16, wh16, eh16, H⟩ := H
    refine w_h (h_st tok rfl rfl rfl rfl rfl rfl wh16 eh16) rfl rfl ?_
    refine w_end ?_
    refine x_seq ?_
    refine c_seq ?_
    refine c_seq ?_
    refine c_region ?_
    refine w_p tok rfl rfl rfl ?_
    refine w_end ?_
    refine x_seq ?_
    refine c_block ?_
    obtain ⟨I2, μ2, H0, HI⟩ := H
    refine c_loop (σ := Int) (fun (s : Int) => [(24, .int .i64 s), (5, .pointer (some (⟨b3, 0, none⟩ : Addr))), (6, .pointer (some (⟨b5, 0, none⟩ : Addr))), (7, .pointer (some (⟨b7, 0, none⟩ : Addr)))]) I2 μ2 0 H0 ⟨rfl, rfl, rfl, rfl, trivial⟩ ?_
    rintro t24_2 h_2 H
    replace H := HI t24_2 h_2 H
    unfold chacha_start_l2b at H
    refine c_weak [(24, .int .i64 t24_2), (5, .pointer (some (⟨b3, 0, none⟩ : Addr))), (6, .pointer (some (⟨b5, 0, none⟩ : Addr))), (7, .pointer (some (⟨b7, 0, none⟩ : Addr)))] ⟨rfl, rfl, rfl, rfl, trivial⟩ ?_
    refine c_seq ?_
    refine c_region ?_
    refine w_p tok rfl rfl rfl ?_
    refine w_end ?_
    refine x_seq ?_
    refine c_seq ?_
    refine c_if H rfl (fun H => ?_) (fun H => ?_)
    ·
      refine c_skip ?_
      refine x_seq ?_
      refine c_seq ?_
      refine c_block ?_
      refine c_seq ?_
      refine c_region ?_
      refine w_p tok rfl rfl rfl ?_
      refine w_p tok rfl rfl rfl ?_
      refine w_end ?_
      refine x_seq ?_
      refine c_region ?_
      refine w_p tok rfl rfl rfl ?_
      refine w_p tok rfl rfl rfl ?_
      refine w_p tok rfl rfl rfl ?_
      refine w_p tok rfl rfl rfl ?_
      obtain ⟨s17, ps17, qs17, rs17, es17, H⟩ := H
      refine w_ye (y_sla (L := (IntKind.i64.wrap (4 * t24_2))) (H := 12) tok rfl rfl rfl rfl rfl rfl ps17 qs17 rs17) (congrArg Slc.v es17) rfl rfl ?_
      refine w_call chacha_word_ok (chacha_word_ref _ _ _ H) rfl rfl rfl rfl ?_
      rintro _ h19 ⟨r18, rfl, H⟩
      obtain ⟨lb20, ub20, H⟩ := H
      refine w_y (y_ixp tok rfl rfl rfl rfl rfl lb20 ub20) rfl rfl ?_
      obtain ⟨h21, wh21, eh21, H⟩ := H
      refine w_h (h_st tok rfl rfl rfl rfl rfl rfl wh21 eh21) rfl rfl ?_
      refine w_end ?_
      refine x_blk ?_
      refine x_seq ?_
      refine c_weak [(24, .int .i64 t24_2), (5, .pointer (some (⟨b3, 0, none⟩ : Addr))), (6, .pointer (some (⟨b5, 0, none⟩ : Addr))), (7, .pointer (some (⟨b7, 0, none⟩ : Addr)))] ⟨rfl, rfl, rfl, rfl, trivial⟩ ?_
      refine c_region ?_
      refine w_p tok rfl rfl rfl ?_
      refine w_p tok rfl rfl rfl ?_
      refine w_end ?_
      exact x_join (IntKind.i64.wrap (t24_2 + 1)) H ⟨rfl, rfl, rfl, rfl, trivial⟩
    ·
      refine c_exit ?_
      refine x_te ?_
      refine x_te ?_
      refine x_bh ?_
      refine x_seq ?_
      refine c_seq ?_
      refine c_region ?_
      obtain ⟨v22, lv22, hv22, H⟩ := H
      refine w_y (y_lda tok rfl rfl rfl rfl (by rw [List.length_map]; exact lv22) hv22) rfl rfl ?_
      obtain ⟨h23, lh23, wh23, eh23, H⟩ := H
      refine w_h (h_sts tok rfl rfl rfl rfl (by rw [List.length_map]; exact lh23.symm) (one_ints _ _) wh23 eh23) rfl rfl ?_
      refine w_end ?_
      refine x_seq ?_
      refine c_ret ?_
      obtain ⟨v24, lv24, hv24, H⟩ := H
      exact x_retc tok _ rfl [.agg ((v24).map (Value.int .u32)).toArray] ⟨⟨_, _, rfl, rfl, .inr ⟨rfl, _, rfl, (by rw [List.length_map]; exact lv24), hv24⟩⟩, trivial⟩ ⟨v24, rfl, H⟩

theorem math_bits_RotateLeft32_ok : CallOk Go.Proofs.Tryd.prog 24 := ⟨_, Go.Proofs.Tryd.func24, by kernel_rfl, by kernel_rfl⟩
theorem math_bits_RotateLeft32_ref (p0 : Int) (p1 : Int) (k : (Int) → Heap → Prop) (h : Heap) (H : math_bits_RotateLeft32 p0 p1 k h) : CallsH Go.Proofs.Tryd.prog 24 #[.int .u32 p0, .int .i64 p1] h (fun v h' => ∃ r : Int, v = .int .u32 r ∧ k r h') := by
  refine f_enter (N := 17) Go.Proofs.Tryd.func24 rfl rfl rfl (fun w0 => ?_)
  unfold math_bits_RotateLeft32 at H
  refine c_weak [(0, .int .u32 p0), (1, .int .i64 p1)] ⟨rfl, rfl, trivial⟩ ?_
  refine c_seq ?_
  refine c_region ?_
  refine w_p tok rfl rfl rfl ?_
  refine w_end ?_
  refine x_seq ?_
  refine c_seq ?_
  refine c_region ?_
  refine w_p tok rfl rfl rfl ?_
  refine w_p tok rfl rfl rfl ?_
  refine w_p tok rfl rfl rfl ?_
  obtain ⟨x1, ex1, H⟩ := H
  refine w_pe tok rfl (congrArg (fun z => (.int .u64 z : Value)) ex1) rfl rfl ?_
  refine w_end ?_
  refine x_seq ?_
  refine c_seq ?_
  refine c_region ?_
  refine w_p tok rfl rfl rfl ?_
  refine w_p tok rfl rfl rfl ?_
  obtain ⟨z2, H⟩ := H
  refine w_y (y_shl rfl rfl rfl z2) rfl rfl ?_
  refine w_p tok rfl rfl rfl ?_
  refine w_p tok rfl rfl rfl ?_
  refine w_p tok rfl rfl rfl ?_
  obtain ⟨z3, H⟩ := H
  refine w_y (y_shr rfl rfl rfl z3) rfl rfl ?_
  refine w_p tok rfl rfl rfl ?_
  obtain ⟨x4, ex4, H⟩ := H
  refine w_pe tok rfl (congrArg (fun z => (.int .u32 z : Value)) ex4) rfl rfl ?_
  refine w_end ?_
  refine x_seq ?_
  refine c_weak [(4, .int .u32 x4)] ⟨rfl, trivial⟩ ?_
  refine c_ret ?_
  exact x_ret _ rfl _ rfl ⟨x4, rfl, H⟩

theorem chacha_words_mix_ok : CallOk Go.Proofs.Tryd.prog 21 := ⟨_, Go.Proofs.Tryd.func21, by kernel_rfl, by kernel_rfl⟩
theorem chacha_words_mix_ref (p0 : Option Addr) (p1 : Int) (p2 : Int) (p3 : Int) (p4 : Int) (k : (Unit) → Heap → Prop) (h : Heap) (H : chacha_words_mix p0 p1 p2 p3 p4 k h) : CallsH Go.Proofs.Tryd.prog 21 #[.pointer p0, .int .i64 p1, .int .i64 p2, .int .i64 p3, .int .i64 p4] h (fun v h' => ∃ r : Unit, v = .tuple #[] ∧ k r h') := by
  refine f_enter (N := 40) Go.Proofs.Tryd.func21 rfl rfl rfl (fun w0 => ?_)
  unfold chacha_words_mix at H
  refine c_weak [(0, .pointer p0), (1, .int .i64 p1), (2, .int .i64 p2), (3, .int .i64 p3), (4, .int .i64 p4)] ⟨rfl, rfl, rfl, rfl, rfl, trivial⟩ ?_
  refine c_seq ?_
  refine c_sim [(0, .pointer p0), (1, .int .i64 p1), (2, .int .i64 p2), (3, .int .i64 p3), (4, .int .i64 p4)] (by kernel_rfl) (by kernel_rfl) ⟨rfl, rfl, rfl, rfl, rfl, trivial⟩ (fun wf => ?_)
  refine sim_p 0 (ei := [(0, .pointer p0)]) (d := (some 10)) wf (by kernel_rfl) ⟨rfl, trivial⟩ (by kernel_rfl) (by kernel_rfl) (fun _ => pf_p tok rfl rfl rfl rfl) (fun P_0 => ?_)
  refine sim_p 1 (ei := [(1, .int .i64 p1)]) (d := (some 11)) wf (by kernel_rfl) ⟨rfl, trivial⟩ (by kernel_rfl) (by kernel_rfl) (fun _ => pf_p tok rfl rfl rfl rfl) (fun P_1 => ?_)
  obtain ⟨a1, ha1, H⟩ := H
  refine sim_p 2 (ei := [(10, .pointer p0)]) (d := (some 12)) wf (by kernel_rfl) ⟨rfl, trivial⟩ (by kernel_rfl) (by kernel_rfl) (fun _ => pf_y rfl rfl rfl (y_nil' rfl rfl ha1)) (fun P_2 => ?_)
  obtain ⟨lb2, ub2, H⟩ := H
  refine sim_p 3 (ei := [(11, .int .i64 p1), (12, .pointer (some a1))]) (d := (some 13)) wf (by kernel_rfl) ⟨rfl, rfl, trivial⟩ (by kernel_rfl) (by kernel_rfl) (fun _ => pf_y rfl rfl rfl (y_ixp tok rfl rfl rfl rfl rfl lb2 ub2)) (fun P_3 => ?_)
  obtain ⟨v3, hv3, H⟩ := H
  refine sim_l 4 (ei := [(13, .pointer (some (a1.add (p1.toNat * 1))))]) (d := (some 14)) wf (by kernel_rfl) ⟨rfl, trivial⟩ (by kernel_rfl) (by kernel_rfl) (pf_y rfl rfl rfl (y_ld tok rfl rfl rfl rfl hv3)) (fun P_4 => ?_)
  refine sim_p 5 (ei := [(0, .pointer p0)]) (d := (some 15)) wf (by kernel_rfl) ⟨rfl, trivial⟩ (by kernel_rfl) (by kernel_rfl) (fun _ => pf_p tok rfl rfl rfl rfl) (fun P_5 => ?_)
  refine sim_p 6 (ei := [(2, .int .i64 p2)]) (d := (some 16)) wf (by kernel_rfl) ⟨rfl, trivial⟩ (by kernel_rfl) (by kernel_rfl) (fun _ => pf_p tok rfl rfl rfl rfl) (fun P_6 => ?_)
  refine sim_p 7 (ei := [(15, .pointer p0)]) (d := (some 17)) wf (by kernel_rfl) ⟨rfl, trivial⟩ (by kernel_rfl) (by kernel_rfl) (fun _ => pf_y rfl rfl rfl (y_nil' rfl rfl ha1)) (fun P_7 => ?_)
  obtain ⟨lb4, ub4, H⟩ := H
  refine sim_p 8 (ei := [(16, .int .i64 p2), (17, .pointer (some a1))]) (d := (some 18)) wf (by kernel_rfl) ⟨rfl, rfl, trivial⟩ (by kernel_rfl) (by kernel_rfl) (fun _ => pf_y rfl rfl rfl (y_ixp tok rfl rfl rfl rfl rfl lb4 ub4)) (fun P_8 => ?_)
  obtain ⟨v5, hv5, H⟩ := H
  refine sim_l 9 (ei := [(18, .pointer (some (a1.add (p2.toNat * 1))))]) (d := (some 19)) wf (by kernel_rfl) ⟨rfl, trivial⟩ (by kernel_rfl) (by kernel_rfl) (pf_y rfl rfl rfl (y_ld tok rfl rfl rfl rfl hv5)) (fun P_9 => ?_)
  refine sim_p 10 (ei := [(14, .int .u32 v3), (19, .int .u32 v5)]) (d := (some 20)) wf (by kernel_rfl) ⟨rfl, rfl, trivial⟩ (by kernel_rfl) (by kernel_rfl) (fun _ => pf_p tok rfl rfl rfl rfl) (fun P_10 => ?_)
  refine sim_p 11 (ei := [(10, .pointer p0)]) (d := (some 21)) wf (by kernel_rfl) ⟨rfl, trivial⟩ (by kernel_rfl) (by kernel_rfl) (fun _ => pf_y rfl rfl rfl (y_nil' rfl rfl ha1)) (fun P_11 => ?_)
  obtain ⟨lb6, ub6, H⟩ := H
  refine sim_p 12 (ei := [(11, .int .i64 p1), (21, .pointer (some a1))]) (d := (some 22)) wf (by kernel_rfl) ⟨rfl, rfl, trivial⟩ (by kernel_rfl) (by kernel_rfl) (fun _ => pf_y rfl rfl rfl (y_ixp tok rfl rfl rfl rfl rfl lb6 ub6)) (fun P_12 => ?_)
  obtain ⟨h7, wh7, eh7, H⟩ := H
  refine sim_h 13 [0, 1, 2, 3, 4, 5, 6, 7, 8, 9, 10, 11, 12] [0, 1, 2, 3, 4, 5, 6, 7, 8, 9, 10, 11, 12] (ei := [(20, .int .u32 (IntKind.u32.wrap (v3 + v5))), (22, .pointer (some (a1.add (p1.toNat * 1))))]) wf ⟨P_12 _, P_11 _, P_10 _, P_9, P_8 _, P_7 _, P_6 _, P_5 _, P_4, P_3 _, P_2 _, P_1 _, P_0 _, trivial⟩ (by kernel_rfl) ⟨rfl, rfl, trivial⟩ (by kernel_rfl) rfl rfl rfl (h_st tok rfl rfl rfl rfl rfl rfl wh7 eh7) ?_
  refine sim_end wf ⟨trivial, trivial, trivial, trivial, trivial, trivial, trivial, trivial, trivial, trivial, trivial, trivial, trivial, trivial⟩ (by kernel_rfl) ?_
  clear wf P_0 P_1 P_10 P_11 P_12 P_2 P_3 P_4 P_5 P_6 P_7 P_8 P_9
  refine x_seq ?_
  refine c_weak [(0, .pointer p0), (1, .int .i64 p1), (3, .int .i64 p3), (4, .int .i64 p4)] ⟨rfl, rfl, rfl, rfl, trivial⟩ ?_
  refine c_sim [(0, .pointer p0), (1, .int .i64 p1), (3, .int .i64 p3), (4, .int .i64 p4)] (by kernel_rfl) (by kernel_rfl) ⟨rfl, rfl, rfl, rfl, trivial⟩ (fun wf => ?_)
  refine sim_p 0 (ei := [(0, .pointer p0)]) (d := (some 23)) wf (by kernel_rfl) ⟨rfl, trivial⟩ (by kernel_rfl) (by kernel_rfl) (fun _ => pf_p tok rfl rfl rfl rfl) (fun P_0 => ?_)
  refine sim_p 1 (ei := [(3, .int .i64 p3)]) (d := (some 24)) wf (by kernel_rfl) ⟨rfl, trivial⟩ (by kernel_rfl) (by kernel_rfl) (fun _ => pf_p tok rfl rfl rfl rfl) (fun P_1 => ?_)
  refine sim_p 2 (ei := [(0, .pointer p0)]) (d := (some 25)) wf (by kernel_rfl) ⟨rfl, trivial⟩ (by kernel_rfl) (by kernel_rfl) (fun _ => pf_p tok rfl rfl rfl rfl) (fun P_2 => ?_)
  refine sim_p 3 (ei := [(3, .int .i64 p3)]) (d := (some 26)) wf (by kernel_rfl) ⟨rfl, trivial⟩ (by kernel_rfl) (by kernel_rfl) (fun _ => pf_p tok rfl rfl rfl rfl) (fun P_3 => ?_)
  refine sim_p 4 (ei := [(25, .pointer p0)]) (d := (some 27)) wf (by kernel_rfl) ⟨rfl, trivial⟩ (by kernel_rfl) (by kernel_rfl) (fun _ => pf_y rfl rfl rfl (y_nil' rfl rfl ha1)) (fun P_4 => ?_)
  obtain ⟨lb8, ub8, H⟩ := H
  refine sim_p 5 (ei := [(26, .int .i64 p3), (27, .pointer (some a1))]) (d := (some 28)) wf (by kernel_rfl) ⟨rfl, rfl, trivial⟩ (by kernel_rfl) (by kernel_rfl) (fun _ => pf_y rfl rfl rfl (y_ixp tok rfl rfl rfl rfl rfl lb8 ub8)) (fun P_5 => ?_)
  obtain ⟨v9, hv9, H⟩ := H
  refine sim_l 6 (ei := [(28, .pointer (some (a1.add (p3.toNat * 1))))]) (d := (some 29)) wf (by kernel_rfl) ⟨rfl, trivial⟩ (by kernel_rfl) (by kernel_rfl) (pf_y rfl rfl rfl (y_ld tok rfl rfl rfl rfl hv9)) (fun P_6 => ?_)
  refine sim_p 7 (ei := [(0, .pointer p0)]) (d := (some 30)) wf (by kernel_rfl) ⟨rfl, trivial⟩ (by kernel_rfl) (by kernel_rfl) (fun _ => pf_p tok rfl rfl rfl rfl) (fun P_7 => ?_)
  refine sim_p 8 (ei := [(1, .int .i64 p1)]) (d := (some 31)) wf (by kernel_rfl) ⟨rfl, trivial⟩ (by kernel_rfl) (by kernel_rfl) (fun _ => pf_p tok rfl rfl rfl rfl) (fun P_8 => ?_)
  refine sim_p 9 (ei := [(30, .pointer p0)]) (d := (some 32)) wf (by kernel_rfl) ⟨rfl, trivial⟩ (by kernel_rfl) (by kernel_rfl) (fun _ => pf_y rfl rfl rfl (y_nil' rfl rfl ha1)) (fun P_9 => ?_)
  obtain ⟨lb10, ub10, H⟩ := H
  refine sim_p 10 (ei := [(31, .int .i64 p1), (32, .pointer (some a1))]) (d := (some 33)) wf (by kernel_rfl) ⟨rfl, rfl, trivial⟩ (by kernel_rfl) (by kernel_rfl) (fun _ => pf_y rfl rfl rfl (y_ixp tok rfl rfl rfl rfl rfl lb10 ub10)) (fun P_10 => ?_)
  obtain ⟨v11, hv11, H⟩ := H
  refine sim_l 11 (ei := [(33, .pointer (some (a1.add (p1.toNat * 1))))]) (d := (some 34)) wf (by kernel_rfl) ⟨rfl, trivial⟩ (by kernel_rfl) (by kernel_rfl) (pf_y rfl rfl rfl (y_ld tok rfl rfl rfl rfl hv11)) (fun P_11 => ?_)
  refine sim_p 12 (ei := [(29, .int .u32 v9), (34, .int .u32 v11)]) (d := (some 35)) wf (by kernel_rfl) ⟨rfl, rfl, trivial⟩ (by kernel_rfl) (by kernel_rfl) (fun _ => pf_p tok rfl rfl rfl rfl) (fun P_12 => ?_)
  refine sim_p 13 (ei := [(4, .int .i64 p4)]) (d := (some 36)) wf (by kernel_rfl) ⟨rfl, trivial⟩ (by kernel_rfl) (by kernel_rfl) (fun _ => pf_p tok rfl rfl rfl rfl) (fun P_13 => ?_)
  refine sim_p 15 (ei := [(23, .pointer p0)]) (d := (some 38)) wf (by kernel_rfl) ⟨rfl, trivial⟩ (by kernel_rfl) (by kernel_rfl) (fun _ => pf_y rfl rfl rfl (y_nil' rfl rfl ha1)) (fun P_15 => ?_)
  refine sim_c 14 [2, 3, 4, 5, 6, 7, 8, 9, 10, 11, 12, 13] [2, 3, 4, 5, 6, 7, 8, 9, 10, 11, 12, 13] (ei := [(35, .int .u32 (bwXor .u32 v9 v11)), (36, .int .i64 p4)]) math_bits_RotateLeft32_ok (math_bits_RotateLeft32_ref _ _ _ _ H) wf ⟨P_15 _, P_13 _, P_12 _, P_11, P_10 _, P_9 _, P_8 _, P_7 _, P_6, P_5 _, P_4 _, P_3 _, P_2 _, P_1 _, P_0 _, trivial⟩ (by kernel_rfl) ⟨rfl, rfl, trivial⟩ (by kernel_rfl) rfl rfl rfl rfl rfl ?_
  rintro _ h13 ⟨r12, rfl, H⟩
  obtain ⟨lb14, ub14, H⟩ := H
  refine sim_p 16 (ei := [(24, .int .i64 p3), (38, .pointer (some a1))]) (d := (some 39)) wf (by kernel_rfl) ⟨rfl, rfl, trivial⟩ (by kernel_rfl) (by kernel_rfl) (fun _ => pf_y rfl rfl rfl (y_ixp tok rfl rfl rfl rfl rfl lb14 ub14)) (fun P_16 => ?_)
  obtain ⟨h15, wh15, eh15, H⟩ := H
  refine sim_h 17 [0, 1, 2, 3, 4, 5, 6, 7, 8, 9, 10, 11, 12, 13, 14, 15, 16] [0, 1, 2, 3, 4, 5, 6, 7, 8, 9, 10, 11, 12, 13, 15, 16] (ei := [(37, .int .u32 r12), (39, .pointer (some (a1.add (p3.toNat * 1))))]) wf ⟨P_16 _, P_15 _, trivial, trivial, trivial, trivial, trivial, trivial, trivial, trivial, trivial, trivial, trivial, trivial, P_1 _, P_0 _, trivial⟩ (by kernel_rfl) ⟨rfl, rfl, trivial⟩ (by kernel_rfl) rfl rfl rfl (h_st tok rfl rfl rfl rfl rfl rfl wh15 eh15) ?_
  refine sim_end wf ⟨trivial, trivial, trivial, trivial, trivial, trivial, trivial, trivial, trivial, trivial, trivial, trivial, trivial, trivial, trivial, trivial, trivial⟩ (by kernel_rfl) ?_
  clear wf P_0 P_1 P_10 P_11 P_12 P_13 P_15 P_16 P_2 P_3 P_4 P_5 P_6 P_7 P_8 P_9
  exact x_end _ rfl _ rfl ⟨(), rfl, H⟩

theorem chacha_words_quarter_ok : CallOk Go.Proofs.Tryd.prog 16 := ⟨_, Go.Proofs.Tryd.func16, by kernel_rfl, by kernel_rfl⟩
theorem chacha_words_quarter_ref (p0 : Option Addr) (p1 : List Int) (k : (Unit) → Heap → Prop) (h : Heap) (H : chacha_words_quarter p0 p1 k h) : CallsH Go.Proofs.Tryd.prog 16 #[.pointer p0, .agg ((p1).map (Value.int .i64)).toArray] h (fun v h' => ∃ r : Unit, v = .tuple #[] ∧ k r h') := by
  refine f_enter (N := 36) Go.Proofs.Tryd.func16 rfl rfl rfl (fun w0 => ?_)
  unfold chacha_words_quarter at H
  refine c_weak [(0, .pointer p0), (1, .agg ((p1).map (Value.int .i64)).toArray)] ⟨rfl, rfl, trivial⟩ ?_
  refine c_seq ?_
  refine c_region ?_
  obtain ⟨b1, h2, eb1, eh2, H⟩ := H
  refine w_h (h_box rfl rfl eb1 eh2) rfl rfl ?_
  refine w_end ?_
  refine x_seq ?_
  refine c_seq ?_
  refine c_region ?_
  refine w_p tok rfl rfl rfl ?_
  obtain ⟨lb3, ub3, H⟩ := H
  refine w_y (y_ixp tok rfl rfl rfl rfl rfl lb3 ub3) rfl rfl ?_
  obtain ⟨v4, hv4, H⟩ := H
  refine w_y (y_ld tok rfl rfl rfl rfl hv4) rfl rfl ?_
  obtain ⟨lb5, ub5, H⟩ := H
  refine w_y (y_ixp tok rfl rfl rfl rfl rfl lb5 ub5) rfl rfl ?_
  obtain ⟨v6, hv6, H⟩ := H
  refine w_y (y_ld tok rfl rfl rfl rfl hv6) rfl rfl ?_
  obtain ⟨lb7, ub7, H⟩ := H
  refine w_y (y_ixp tok rfl rfl rfl rfl rfl lb7 ub7) rfl rfl ?_
  obtain ⟨v8, hv8, H⟩ := H
  refine w_y (y_ld tok rfl rfl rfl rfl hv8) rfl rfl ?_
  refine w_call chacha_words_mix_ok (chacha_words_mix_ref _ _ _ _ _ _ _ H) rfl rfl rfl rfl ?_
  rintro _ h10 ⟨r9, rfl, H⟩
  refine w_end ?_
  refine x_seq ?_
  refine c_weak [(0, .pointer p0), (3, .pointer (some (⟨b1, 0, none⟩ : Addr)))] ⟨rfl, rfl, trivial⟩ ?_
  refine c_seq ?_
  refine c_region ?_
  refine w_p tok rfl rfl rfl ?_
  obtain ⟨lb11, ub11, H⟩ := H
  refine w_y (y_ixp tok rfl rfl rfl rfl rfl lb11 ub11) rfl rfl ?_
  obtain ⟨v12, hv12, H⟩ := H
  refine w_y (y_ld tok rfl rfl rfl rfl hv12) rfl rfl ?_
  obtain ⟨lb13, ub13, H⟩ := H
  refine w_y (y_ixp tok rfl rfl rfl rfl rfl lb13 ub13) rfl rfl ?_
  obtain ⟨v14, hv14, H⟩ := H
  refine w_y (y_ld tok rfl rfl rfl rfl hv14) rfl rfl ?_
  obtain ⟨lb15, ub15, H⟩ := H
  refine w_y (y_ixp tok rfl rfl rfl rfl rfl lb15 ub15) rfl rfl ?_
  obtain ⟨v16, hv16, H⟩ := H
  refine w_y (y_ld tok rfl rfl rfl rfl hv16) rfl rfl ?_
  refine w_call chacha_words_mix_ok (chacha_words_mix_ref _ _ _ _ _ _ _ H) rfl rfl rfl rfl ?_
  rintro _ h18 ⟨r17, rfl, H⟩
  refine w_end ?_
  refine x_seq ?_
  refine c_weak [(0, .pointer p0), (3, .pointer (some (⟨b1, 0, none⟩ : Addr)))] ⟨rfl, rfl, trivial⟩ ?_
  refine c_seq ?_
  refine c_region ?_
  refine w_p tok rfl rfl rfl ?_
  obtain ⟨lb19, ub19, H⟩ := H
  refine w_y (y_ixp tok rfl rfl rfl rfl rfl lb19 ub19) rfl rfl ?_
  obtain ⟨v20, hv20, H⟩ := H
  refine w_y (y_ld tok rfl rfl rfl rfl hv20) rfl rfl ?_
  obtain ⟨lb21, ub21, H⟩ := H
  refine w_y (y_ixp tok rfl rfl rfl rfl rfl lb21 ub21) rfl rfl ?_
  obtain ⟨v22, hv22, H⟩ := H
  refine w_y (y_ld tok rfl rfl rfl rfl hv22) rfl rfl ?_
  obtain ⟨lb23, ub23, H⟩ := H
  refine w_y (y_ixp tok rfl rfl rfl rfl rfl lb23 ub23) rfl rfl ?_
  obtain ⟨v24, hv24, H⟩ := H
  refine w_y (y_ld tok rfl rfl rfl rfl hv24) rfl rfl ?_
  refine w_call chacha_words_mix_ok (chacha_words_mix_ref _ _ _ _ _ _ _ H) rfl rfl rfl rfl ?_
  rintro _ h26 ⟨r25, rfl, H⟩
  refine w_end ?_
  refine x_seq ?_
  refine c_weak [(0, .pointer p0), (3, .pointer (some (⟨b1, 0, none⟩ : Addr)))] ⟨rfl, rfl, trivial⟩ ?_
  refine c_region ?_
  refine w_p tok rfl rfl rfl ?_
  obtain ⟨lb27, ub27, H⟩ := H
  refine w_y (y_ixp tok rfl rfl rfl rfl rfl lb27 ub27) rfl rfl ?_
  obtain ⟨v28, hv28, H⟩ := H
  refine w_y (y_ld tok rfl rfl rfl rfl hv28) rfl rfl ?_
  obtain ⟨lb29, ub29, H⟩ := H
  refine w_y (y_ixp tok rfl rfl rfl rfl rfl lb29 ub29) rfl rfl ?_
  obtain ⟨v30, hv30, H⟩ := H
  refine w_y (y_ld tok rfl rfl rfl rfl hv30) rfl rfl ?_
  obtain ⟨lb31, ub31, H⟩ := H
  refine w_y (y_ixp tok rfl rfl rfl rfl rfl lb31 ub31) rfl rfl ?_
  obtain ⟨v32, hv32, H⟩ := H
  refine w_y (y_ld tok rfl rfl rfl rfl hv32) rfl rfl ?_
  refine w_call chacha_words_mix_ok (chacha_words_mix_ref _ _ _ _ _ _ _ H) rfl rfl rfl rfl ?_
  rintro _ h34 ⟨r33, rfl, H⟩
  refine w_end ?_
  exact x_end _ rfl _ rfl ⟨(), rfl, H⟩

theorem chacha_Block_ok : CallOk Go.Proofs.Tryd.prog 7 := ⟨_, Go.Proofs.Tryd.func7, by kernel_rfl, by kernel_rfl⟩
theorem chacha_Block_ref (p0 : List Int) (p1 : Int) (p2 : List Int) (k : (List Int) → Heap → Prop) (h : Heap) (H : chacha_Block p0 p1 p2 k h) : CallsH Go.Proofs.Tryd.prog 7 #[.agg ((p0).map (Value.int .u8)).toArray, .int .u32 p1, .agg ((p2).map (Value.int .u8)).toArray] h (fun v h' => ∃ r : List Int, v = .agg ((r).map (Value.int .u8)).toArray ∧ k r h') := by
  refine f_enter (N := 50) Go.Proofs.Tryd.func7 rfl rfl rfl (fun w0 => ?_)
  unfold chacha_Block at H
  refine c_weak [(0, .agg ((p0).map (Value.int .u8)).toArray), (1, .int .u32 p1), (2, .agg ((p2).map (Value.int .u8)).toArray)] ⟨rfl, rfl, rfl, trivial⟩ ?_
  refine c_seq ?_
  refine c_region ?_
  obtain ⟨b1, h2, eb1, eh2, H⟩ := H
  refine w_h (h_box rfl rfl eb1 eh2) rfl rfl ?_
  obtain ⟨b3, h4, eb3, eh4, H⟩ := H
  refine w_h (h_box rfl rfl eb3 eh4) rfl rfl ?_
  obtain ⟨b5, h6, eb5, eh6, H⟩ := H
  refine w_h (h_alloc tok rfl rfl eb5 eh6) rfl rfl ?_
  refine w_end ?_
  refine x_seq ?_
  refine c_seq ?_
  refine c_region ?_
  obtain ⟨v7, lv7, hv7, H⟩ := H
  refine w_y (y_lda tok rfl rfl rfl rfl (by rw [List.length_map]; exact lv7) hv7) rfl rfl ?_
  refine w_p tok rfl rfl rfl ?_
  obtain ⟨v8, lv8, hv8, H⟩ := H
  refine w_y (y_lda tok rfl rfl rfl rfl (by rw [List.length_map]; exact lv8) hv8) rfl rfl ?_
  refine w_call chacha_start_ok (chacha_start_ref _ _ _ _ _ H) rfl rfl rfl rfl ?_
  rintro _ h10 ⟨r9, rfl, H⟩
  obtain ⟨b11, h12, eb11, eh12, H⟩ := H
  refine w_h (h_alloc tok rfl rfl eb11 eh12) rfl rfl ?_
  obtain ⟨h13, lh13, wh13, eh13, H⟩ := H
  refine w_h (h_sts tok rfl rfl rfl rfl (by rw [List.length_map]; exact lh13.symm) (one_ints _ _) wh13 eh13) rfl rfl ?_
  refine w_end ?_
  refine x_seq ?_
  refine c_weak [(6, .pointer (some (⟨b5, 0, none⟩ : Addr))), (7, .pointer (some (⟨b11, 0, none⟩ : Addr)))] ⟨rfl, rfl, trivial⟩ ?_
  refine c_seq ?_
  refine c_region ?_
  obtain ⟨v14, lv14, hv14, H⟩ := H
  refine w_y (y_lda tok rfl rfl rfl rfl (by rw [List.length_map]; exact lv14) hv14) rfl rfl ?_
  obtain ⟨b15, h16, eb15, eh16, H⟩ := H
  refine w_h (h_alloc tok rfl rfl eb15 eh16) rfl rfl ?_
  obtain ⟨h17, lh17, wh17, eh17, H⟩ := H
  refine w_h (h_sts tok rfl rfl rfl rfl (by rw [List.length_map]; exact lh17.symm) (one_ints _ _) wh17 eh17) rfl rfl ?_
  refine w_end ?_
  refine x_seq ?_
  refine c_seq ?_
  refine c_seq ?_
  refine c_region ?_
  refine w_p tok rfl rfl rfl ?_
  refine w_end ?_
  refine x_seq ?_
  refine c_block ?_
  obtain ⟨I1, μ1, H0, HI⟩ := H
  refine c_loop (σ := Int) (fun (s : Int) => [(18, .int .i64 s), (6, .pointer (some (⟨b5, 0, none⟩ : Addr))), (7, .pointer (some (⟨b11, 0, none⟩ : Addr))), (8, .pointer (some (⟨b15, 0, none⟩ : Addr)))]) I1 μ1 0 H0 ⟨rfl, rfl, rfl, rfl, trivial⟩ ?_
  rintro t18_1 h_1 H
  replace H := HI t18_1 h_1 H
  unfold chacha_Block_l1b at H
  refine c_weak [(18, .int .i64 t18_1), (6, .pointer (some (⟨b5, 0, none⟩ : Addr))), (7, .pointer (some (⟨b11, 0, none⟩ : Addr))), (8, .pointer (some (⟨b15, 0, none⟩ : Addr)))] ⟨rfl, rfl, rfl, rfl, trivial⟩ ?_
  refine c_seq ?_
  refine c_region ?_
  refine w_p tok rfl rfl rfl ?_
  refine w_end ?_
  refine x_seq ?_
  refine c_seq ?_
  refine c_if H rfl (fun H => ?_) (fun H => ?_)
  ·
    refine c_skip ?_
    refine x_seq ?_
    refine c_seq ?_
    refine c_block ?_
    refine c_seq ?_
    refine c_region ?_
    obtain ⟨v18, lv18, hv18, H⟩ := H
    refine w_y (y_lda tok rfl rfl rfl rfl (by rw [List.length_map]; exact lv18) hv18) rfl rfl ?_
    refine w_p tok rfl rfl rfl ?_
    refine w_end ?_
    refine x_seq ?_
    refine c_block ?_
    obtain ⟨I2, μ2, H0, HI⟩ := H
    refine c_loop (σ := Int) (fun (s : Int) => [(21, .int .i64 s), (6, .pointer (some (⟨b5, 0, none⟩ : Addr))), (7, .pointer (some (⟨b11, 0, none⟩ : Addr))), (8, .pointer (some (⟨b15, 0, none⟩ : Addr))), (18, .int .i64 t18_1), (20, .agg ((v18).map (Value.int .i64)).toArray)]) I2 μ2 0 H0 ⟨rfl, rfl, rfl, rfl, rfl, rfl, trivial⟩ ?_
    rintro t21_2 h_2 H
    replace H := HI t21_2 h_2 H
    unfold chacha_Block_l2b at H
    refine c_weak [(21, .int .i64 t21_2), (6, .pointer (some (⟨b5, 0, none⟩ : Addr))), (7, .pointer (some (⟨b11, 0, none⟩ : Addr))), (8, .pointer (some (⟨b15, 0, none⟩ : Addr))), (18, .int .i64 t18_1), (20, .agg ((v18).map (Value.int .i64)).toArray)] ⟨rfl, rfl, rfl, rfl, rfl, rfl, trivial⟩ ?_
    refine c_seq ?_
    refine c_region ?_
    refine w_p tok rfl rfl rfl ?_
    refine w_end ?_
    refine x_seq ?_
    refine c_seq ?_
    refine c_if H rfl (fun H => ?_) (fun H => ?_)
    ·
      refine c_skip ?_
      refine x_seq ?_
      refine c_seq ?_
      refine c_block ?_
      refine c_seq ?_
      refine c_region ?_
      obtain ⟨lv19, uv19, H⟩ := H
      refine w_y (y_ixvi tok rfl rfl rfl rfl rfl rfl lv19 uv19) rfl rfl ?_
      obtain ⟨b20, h21, eb20, eh21, H⟩ := H
      refine w_h (h_alloc tok rfl rfl eb20 eh21) rfl rfl ?_
      obtain ⟨h22, lh22, wh22, eh22, H⟩ := H
      refine w_h (h_sts tok rfl rfl rfl rfl (by rw [List.length_map]; exact lh22.symm) (one_ints _ _) wh22 eh22) rfl rfl ?_
      refine w_end ?_
      refine x_seq ?_
      refine c_region ?_
      obtain ⟨v23, lv23, hv23, H⟩ := H
      refine w_y (y_lda tok rfl rfl rfl rfl (by rw [List.length_map]; exact lv23) hv23) rfl rfl ?_
      refine w_call chacha_words_quarter_ok (chacha_words_quarter_ref _ _ _ _ H) rfl rfl rfl rfl ?_
      rintro _ h25 ⟨r24, rfl, H⟩
      refine w_end ?_
      refine x_blk ?_
      refine x_seq ?_
      refine c_region ?_
      refine w_p tok rfl rfl rfl ?_
      refine w_p tok rfl rfl rfl ?_
      refine w_end ?_
      exact x_join (IntKind.i64.wrap (t21_2 + 1)) H ⟨rfl, rfl, rfl, rfl, rfl, rfl, trivial⟩
    ·
      refine c_exit ?_
      refine x_te ?_
      refine x_te ?_
      refine x_bh ?_
      refine x_blk ?_
      refine x_seq ?_
      refine c_region ?_
      refine w_p tok rfl rfl rfl ?_
      refine w_p tok rfl rfl rfl ?_
      refine w_end ?_
      exact x_join (IntKind.i64.wrap (t18_1 + 1)) H ⟨rfl, rfl, rfl, rfl, trivial⟩
  ·
    refine c_exit ?_
    refine x_te ?_
    refine x_te ?_
    refine x_bh ?_
    refine x_seq ?_
    refine c_seq ?_
    refine c_region ?_
    obtain ⟨b26, h27, eb26, eh27, H⟩ := H
    refine w_h (h_alloc tok rfl rfl eb26 eh27) rfl rfl ?_
    refine w_end ?_
    refine x_seq ?_
    refine c_seq ?_
    refine c_seq ?_
    refine c_region ?_
    refine w_p tok rfl rfl rfl ?_
    refine w_end ?_
    refine x_seq ?_
    refine c_block ?_
    obtain ⟨I3, μ3, H0, HI⟩ := H
    refine c_loop (σ := Int) (fun (s : Int) => [(28, .int .i64 s), (6, .pointer (some (⟨b5, 0, none⟩ : Addr))), (7, .pointer (some (⟨b11, 0, none⟩ : Addr))), (8, .pointer (some (⟨b15, 0, none⟩ : Addr))), (11, .pointer (some (⟨b26, 0, none⟩ : Addr)))]) I3 μ3 0 H0 ⟨rfl, rfl, rfl, rfl, rfl, trivial⟩ ?_
    rintro t28_3 h_3 H
    replace H := HI t28_3 h_3 H
    unfold chacha_Block_l3b at H
    refine c_weak [(28, .int .i64 t28_3), (6, .pointer (some (⟨b5, 0, none⟩ : Addr))), (7, .pointer (some (⟨b11, 0, none⟩ : Addr))), (8, .pointer (some (⟨b15, 0, none⟩ : Addr))), (11, .pointer (some (⟨b26, 0, none⟩ : Addr)))] ⟨rfl, rfl, rfl, rfl, rfl, trivial⟩ ?_
    refine c_seq ?_
    refine c_region ?_
    refine w_p tok rfl rfl rfl ?_
    refine w_end ?_
    refine x_seq ?_
    refine c_seq ?_
    refine c_if H rfl (fun H => ?_) (fun H => ?_)
    ·
      refine c_skip ?_
      refine x_seq ?_
      refine c_seq ?_
      refine c_block ?_
      refine c_seq ?_
      refine c_region ?_
      refine w_p tok rfl rfl rfl ?_
      refine w_p tok rfl rfl rfl ?_
      refine w_end ?_
      refine x_seq ?_
      refine c_sim [(6, .pointer (some (⟨b5, 0, none⟩ : Addr))), (7, .pointer (some (⟨b11, 0, none⟩ : Addr))), (8, .pointer (some (⟨b15, 0, none⟩ : Addr))), (11, .pointer (some (⟨b26, 0, none⟩ : Addr))), (12, .int .i64 t28_3), (28, .int .i64 t28_3)] (by kernel_rfl) (by kernel_rfl) ⟨rfl, rfl, rfl, rfl, rfl, rfl, trivial⟩ (fun wf => ?_)
      refine sim_p 0 (ei := [(12, .int .i64 t28_3)]) (d := (some 31)) wf (by kernel_rfl) ⟨rfl, trivial⟩ (by kernel_rfl) (by kernel_rfl) (fun _ => pf_p tok rfl rfl rfl rfl) (fun P_0 => ?_)
      refine sim_p 1 (ei := [(12, .int .i64 t28_3)]) (d := (some 32)) wf (by kernel_rfl) ⟨rfl, trivial⟩ (by kernel_rfl) (by kernel_rfl) (fun _ => pf_p tok rfl rfl rfl rfl) (fun P_1 => ?_)
      refine sim_p 2 (ei := [(32, .int .i64 t28_3)]) (d := (some 33)) wf (by kernel_rfl) ⟨rfl, trivial⟩ (by kernel_rfl) (by kernel_rfl) (fun _ => pf_p tok rfl rfl rfl rfl) (fun P_2 => ?_)
      obtain ⟨lb28, ub28, H⟩ := H
      refine sim_p 3 (ei := [(8, .pointer (some (⟨b15, 0, none⟩ : Addr))), (33, .int .i64 (shr .i64 t28_3 (2 : Int).toNat))]) (d := (some 34)) wf (by kernel_rfl) ⟨rfl, rfl, trivial⟩ (by kernel_rfl) (by kernel_rfl) (fun _ => pf_y rfl rfl rfl (y_ixp tok rfl rfl rfl rfl rfl lb28 ub28)) (fun P_3 => ?_)
      obtain ⟨v29, hv29, H⟩ := H
      refine sim_l 4 (ei := [(34, .pointer (some ((⟨b15, 0, none⟩ : Addr).add ((shr .i64 t28_3 (2 : Int).toNat).toNat * 1))))]) (d := (some 35)) wf (by kernel_rfl) ⟨rfl, trivial⟩ (by kernel_rfl) (by kernel_rfl) (pf_y rfl rfl rfl (y_ld tok rfl rfl rfl rfl hv29)) (fun P_4 => ?_)
      refine sim_p 5 (ei := [(12, .int .i64 t28_3)]) (d := (some 36)) wf (by kernel_rfl) ⟨rfl, trivial⟩ (by kernel_rfl) (by kernel_rfl) (fun _ => pf_p tok rfl rfl rfl rfl) (fun P_5 => ?_)
      refine sim_p 6 (ei := [(36, .int .i64 t28_3)]) (d := (some 37)) wf (by kernel_rfl) ⟨rfl, trivial⟩ (by kernel_rfl) (by kernel_rfl) (fun _ => pf_p tok rfl rfl rfl rfl) (fun P_6 => ?_)
      obtain ⟨lb30, ub30, H⟩ := H
      refine sim_p 7 (ei := [(7, .pointer (some (⟨b11, 0, none⟩ : Addr))), (37, .int .i64 (shr .i64 t28_3 (2 : Int).toNat))]) (d := (some 38)) wf (by kernel_rfl) ⟨rfl, rfl, trivial⟩ (by kernel_rfl) (by kernel_rfl) (fun _ => pf_y rfl rfl rfl (y_ixp tok rfl rfl rfl rfl rfl lb30 ub30)) (fun P_7 => ?_)
      obtain ⟨v31, hv31, H⟩ := H
      refine sim_l 8 (ei := [(38, .pointer (some ((⟨b11, 0, none⟩ : Addr).add ((shr .i64 t28_3 (2 : Int).toNat).toNat * 1))))]) (d := (some 39)) wf (by kernel_rfl) ⟨rfl, trivial⟩ (by kernel_rfl) (by kernel_rfl) (pf_y rfl rfl rfl (y_ld tok rfl rfl rfl rfl hv31)) (fun P_8 => ?_)
      refine sim_p 9 (ei := [(35, .int .u32 v29), (39, .int .u32 v31)]) (d := (some 40)) wf (by kernel_rfl) ⟨rfl, rfl, trivial⟩ (by kernel_rfl) (by kernel_rfl) (fun _ => pf_p tok rfl rfl rfl rfl) (fun P_9 => ?_)
      refine sim_p 10 (ei := [(12, .int .i64 t28_3)]) (d := (some 41)) wf (by kernel_rfl) ⟨rfl, trivial⟩ (by kernel_rfl) (by kernel_rfl) (fun _ => pf_p tok rfl rfl rfl rfl) (fun P_10 => ?_)
      refine sim_p 11 (ei := [(41, .int .i64 t28_3)]) (d := (some 42)) wf (by kernel_rfl) ⟨rfl, trivial⟩ (by kernel_rfl) (by kernel_rfl) (fun _ => pf_p tok rfl rfl rfl rfl) (fun P_11 => ?_)
      refine sim_p 12 (ei := [(42, .int .u64 (IntKind.u64.wrap t28_3))]) (d := (some 43)) wf (by kernel_rfl) ⟨rfl, trivial⟩ (by kernel_rfl) (by kernel_rfl) (fun _ => pf_p tok rfl rfl rfl rfl) (fun P_12 => ?_)
      refine sim_p 13 (ei := [(43, .int .u64 (bwAnd .u64 (IntKind.u64.wrap t28_3) 3))]) (d := (some 44)) wf (by kernel_rfl) ⟨rfl, trivial⟩ (by kernel_rfl) (by kernel_rfl) (fun _ => pf_p tok rfl rfl rfl rfl) (fun P_13 => ?_)
      obtain ⟨z32, H⟩ := H
      refine sim_p 14 (ei := [(40, .int .u32 (IntKind.u32.wrap (v29 + v31))), (44, .int .u64 (IntKind.u64.wrap (8 * (bwAnd .u64 (IntKind.u64.wrap t28_3) 3))))]) (d := (some 45)) wf (by kernel_rfl) ⟨rfl, rfl, trivial⟩ (by kernel_rfl) (by kernel_rfl) (fun _ => pf_y rfl rfl rfl (y_shr rfl rfl rfl z32)) (fun P_14 => ?_)
      refine sim_p 15 (ei := [(45, .int .u32 (shr .u32 (IntKind.u32.wrap (v29 + v31)) (IntKind.u64.wrap (8 * (bwAnd .u64 (IntKind.u64.wrap t28_3) 3))).toNat))]) (d := (some 46)) wf (by kernel_rfl) ⟨rfl, trivial⟩ (by kernel_rfl) (by kernel_rfl) (fun _ => pf_p tok rfl rfl rfl rfl) (fun P_15 => ?_)
      obtain ⟨lb33, ub33, H⟩ := H
      refine sim_p 16 (ei := [(11, .pointer (some (⟨b26, 0, none⟩ : Addr))), (31, .int .i64 t28_3)]) (d := (some 47)) wf (by kernel_rfl) ⟨rfl, rfl, trivial⟩ (by kernel_rfl) (by kernel_rfl) (fun _ => pf_y rfl rfl rfl (y_ixp tok rfl rfl rfl rfl rfl lb33 ub33)) (fun P_16 => ?_)
      obtain ⟨h34, wh34, eh34, H⟩ := H
      refine sim_h 17 [0, 1, 2, 3, 4, 5, 6, 7, 8, 9, 10, 11, 12, 13, 14, 15, 16] [0, 1, 2, 3, 4, 5, 6, 7, 8, 9, 10, 11, 12, 13, 14, 15, 16] (ei := [(46, .int .u8 (IntKind.u8.wrap (shr .u32 (IntKind.u32.wrap (v29 + v31)) (IntKind.u64.wrap (8 * (bwAnd .u64 (IntKind.u64.wrap t28_3) 3))).toNat))), (47, .pointer (some ((⟨b26, 0, none⟩ : Addr).add (t28_3.toNat * 1))))]) wf ⟨P_16 _, P_15 _, P_14 _, P_13 _, P_12 _, P_11 _, P_10 _, P_9 _, P_8, P_7 _, P_6 _, P_5 _, P_4, P_3 _, P_2 _, P_1 _, P_0 _, trivial⟩ (by kernel_rfl) ⟨rfl, rfl, trivial⟩ (by kernel_rfl) rfl rfl rfl (h_st tok rfl rfl rfl rfl rfl rfl wh34 eh34) ?_
      refine sim_end wf ⟨trivial, trivial, trivial, trivial, trivial, trivial, trivial, trivial, trivial, trivial, trivial, trivial, trivial, trivial, trivial, trivial, trivial, trivial⟩ (by kernel_rfl) ?_
      clear wf P_0 P_1 P_10 P_11 P_12 P_13 P_14 P_15 P_16 P_2 P_3 P_4 P_5 P_6 P_7 P_8 P_9
      refine x_blk ?_
      refine x_seq ?_
      refine c_weak [(6, .pointer (some (⟨b5, 0, none⟩ : Addr))), (7, .pointer (some (⟨b11, 0, none⟩ : Addr))), (8, .pointer (some (⟨b15, 0, none⟩ : Addr))), (11, .pointer (some (⟨b26, 0, none⟩ : Addr))), (28, .int .i64 t28_3)] ⟨rfl, rfl, rfl, rfl, rfl, trivial⟩ ?_
      refine c_region ?_
      refine w_p tok rfl rfl rfl ?_
      refine w_p tok rfl rfl rfl ?_
      refine w_end ?_
      exact x_join (IntKind.i64.wrap (t28_3 + 1)) H ⟨rfl, rfl, rfl, rfl, rfl, trivial⟩
    ·
      refine c_exit ?_
      refine x_te ?_
      refine x_te ?_
      refine x_bh ?_
      refine x_seq ?_
      refine c_seq ?_
      refine c_region ?_
      obtain ⟨v35, lv35, hv35, H⟩ := H
      refine w_y (y_lda tok rfl rfl rfl rfl (by rw [List.length_map]; exact lv35) hv35) rfl rfl ?_
      obtain ⟨h36, lh36, wh36, eh36, H⟩ := H
      refine w_h (h_sts tok rfl rfl rfl rfl (by rw [List.length_map]; exact lh36.symm) (one_ints _ _) wh36 eh36) rfl rfl ?_
      refine w_end ?_
      refine x_seq ?_
      refine c_ret ?_
      obtain ⟨v37, lv37, hv37, H⟩ := H
      exact x_retc tok _ rfl [.agg ((v37).map (Value.int .u8)).toArray] ⟨⟨_, _, rfl, rfl, .inr ⟨rfl, _, rfl, (by rw [List.length_map]; exact lv37), hv37⟩⟩, trivial⟩ ⟨v37, rfl, H⟩

theorem ref01_Same_ok : CallOk Go.Proofs.Tryd.prog 8 := ⟨_, Go.Proofs.Tryd.func8, by kernel_rfl, by kernel_rfl⟩
theorem ref01_Same_ref (p0 : Slc) (p1 : Slc) (k : (Bool) → Heap → Prop) (h : Heap) (H : ref01_Same p0 p1 k h) : CallsH Go.Proofs.Tryd.prog 8 #[Slc.v p0, Slc.v p1] h (fun v h' => ∃ r : Bool, v = .bool r ∧ k r h') := by
  refine f_enter (N := 26) Go.Proofs.Tryd.func8 rfl rfl rfl (fun w0 => ?_)
  unfold ref01_Same at H
  refine c_weak [(0, Slc.v p0), (1, Slc.v p1)] ⟨rfl, rfl, trivial⟩ ?_
  refine c_seq ?_
  refine c_region ?_
  refine w_p tok rfl rfl rfl ?_
  refine w_end ?_
  refine x_seq ?_
  refine c_seq ?_
  refine c_seq ?_
  refine c_region ?_
  refine w_p tok rfl rfl rfl ?_
  refine w_p tok rfl rfl rfl ?_
  refine w_p tok rfl rfl rfl ?_
  refine w_p tok rfl rfl rfl ?_
  refine w_p tok rfl rfl rfl ?_
  refine w_end ?_
  refine x_seq ?_
  refine c_if H rfl (fun H => ?_) (fun H => ?_)
  ·
    refine c_seq ?_
    refine c_region ?_
    refine w_p tok rfl rfl rfl ?_
    refine w_end ?_
    refine x_seq ?_
    refine c_weak [(4, .bool false)] ⟨rfl, trivial⟩ ?_
    refine c_ret ?_
    refine x_tr ?_
    exact x_ret _ rfl _ rfl ⟨false, rfl, H⟩
  ·
    refine c_skip ?_
    refine x_seq ?_
    refine c_seq ?_
    refine c_seq ?_
    refine c_region ?_
    refine w_p tok rfl rfl rfl ?_
    refine w_end ?_
    refine x_seq ?_
    refine c_block ?_
    obtain ⟨I1, μ1, H0, HI⟩ := H
    refine c_loop (σ := Int) (fun (s : Int) => [(5, .int .i64 s), (0, Slc.v p0), (1, Slc.v p1)]) I1 μ1 0 H0 ⟨rfl, rfl, rfl, trivial⟩ ?_
    rintro t5_1 h_1 H
    replace H := HI t5_1 h_1 H
    unfold ref01_Same_l1b at H
    refine c_weak [(5, .int .i64 t5_1), (0, Slc.v p0), (1, Slc.v p1)] ⟨rfl, rfl, rfl, trivial⟩ ?_
    refine c_seq ?_
    refine c_seq ?_
    refine c_region ?_
    refine w_p tok rfl rfl rfl ?_
    refine w_p tok rfl rfl rfl ?_
    refine w_p tok rfl rfl rfl ?_
    refine w_p tok rfl rfl rfl ?_
    refine w_end ?_
    refine x_seq ?_
    refine c_if H rfl (fun H => ?_) (fun H => ?_)
    ·
      refine c_skip ?_
      refine x_seq ?_
      refine c_seq ?_
      refine c_block ?_
      refine c_seq ?_
      refine c_draw (by kernel_rfl) (by kernel_rfl) ?_
      refine q_p tok rfl rfl rfl ?_
      refine q_p tok rfl rfl rfl ?_
      obtain ⟨a1, ha1, la1, ua1, H⟩ := H
      refine q_y (y_ixa' tok rfl rfl ha1 rfl rfl rfl la1 ua1) rfl rfl ?_
      obtain ⟨v2, hv2, H⟩ := H
      refine q_y (y_ld tok rfl rfl rfl rfl hv2) rfl rfl ?_
      refine q_p tok rfl rfl rfl ?_
      refine q_p tok rfl rfl rfl ?_
      obtain ⟨a3, ha3, la3, ua3, H⟩ := H
      refine q_y (y_ixa' tok rfl rfl ha3 rfl rfl rfl la3 ua3) rfl rfl ?_
      obtain ⟨v4, hv4, H⟩ := H
      refine q_y (y_ld tok rfl rfl rfl rfl hv4) rfl rfl ?_
      refine q_p tok rfl rfl rfl ?_
      refine q_end ?_
      refine x_seq ?_
      refine c_weak [(5, .int .i64 t5_1), (0, Slc.v p0), (1, Slc.v p1), (25, .bool (v2 != v4))] ⟨rfl, rfl, rfl, rfl, trivial⟩ ?_
      refine c_if H rfl (fun H => ?_) (fun H => ?_)
      ·
        refine c_seq ?_
        refine c_region ?_
        refine w_p tok rfl rfl rfl ?_
        refine w_end ?_
        refine x_seq ?_
        refine c_ret ?_
        refine x_br ?_
        refine x_tr ?_
        refine x_tr ?_
        refine x_br ?_
        refine x_tr ?_
        exact x_ret _ rfl _ rfl ⟨false, rfl, H⟩
      ·
        refine c_skip ?_
        refine x_blk ?_
        refine x_seq ?_
        refine c_region ?_
        refine w_p tok rfl rfl rfl ?_
        refine w_p tok rfl rfl rfl ?_
        obtain ⟨x5, ex5, H⟩ := H
        refine w_pe tok rfl (congrArg (fun z => (.int .i64 z : Value)) ex5) rfl rfl ?_
        refine w_end ?_
        exact x_join x5 H ⟨rfl, rfl, rfl, trivial⟩
    ·
      refine c_exit ?_
      refine x_te ?_
      refine x_te ?_
      refine x_bh ?_
      refine x_seq ?_
      refine c_weak [] trivial ?_
      refine c_seq ?_
      refine c_region ?_
      refine w_p tok rfl rfl rfl ?_
      refine w_end ?_
      refine x_seq ?_
      refine c_ret ?_
      exact x_ret _ rfl _ rfl ⟨true, rfl, H⟩

theorem ref01_Form_ok : CallOk Go.Proofs.Tryd.prog 17 := ⟨_, Go.Proofs.Tryd.func17, by kernel_rfl, by kernel_rfl⟩
theorem ref01_Form_ref (p0 : Int) (p1 : Int) (k : (Slc) → Heap → Prop) (h : Heap) (H : ref01_Form p0 p1 k h) : CallsH Go.Proofs.Tryd.prog 17 #[.int .u64 p0, .int .i64 p1] h (fun v h' => ∃ r : Slc, v = Slc.v r ∧ k r h') := by
  refine f_enter (N := 21) Go.Proofs.Tryd.func17 rfl rfl rfl (fun w0 => ?_)
  unfold ref01_Form at H
  refine c_weak [(0, .int .u64 p0), (1, .int .i64 p1)] ⟨rfl, rfl, trivial⟩ ?_
  refine c_seq ?_
  refine c_region ?_
  refine w_p tok rfl rfl rfl ?_
  refine w_end ?_
  refine x_seq ?_
  refine c_seq ?_
  refine c_region ?_
  refine w_p tok rfl rfl rfl ?_
  refine w_end ?_
  refine x_seq ?_
  refine c_seq ?_
  refine c_seq ?_
  refine c_region ?_
  refine w_p tok rfl rfl rfl ?_
  refine w_end ?_
  refine x_seq ?_
  refine c_block ?_
  obtain ⟨I1, μ1, H0, HI⟩ := H
  refine c_loop (σ := Int × Slc × Int) (fun (s : Int × Slc × Int) => [(0, .int .u64 s.1), (5, Slc.v s.2.1), (6, .int .i64 s.2.2), (1, .int .i64 p1)]) I1 μ1 (p0, (⟨none, 0, 0⟩ : Slc), 0) H0 ⟨rfl, rfl, rfl, rfl, trivial⟩ ?_
  rintro ⟨t0_1, t5_1, t6_1⟩ h_1 H
  replace H := HI t0_1 t5_1 t6_1 h_1 H
  unfold ref01_Form_l1b at H
  refine c_weak [(0, .int .u64 t0_1), (5, Slc.v t5_1), (6, .int .i64 t6_1), (1, .int .i64 p1)] ⟨rfl, rfl, rfl, rfl, trivial⟩ ?_
  refine c_seq ?_
  refine c_seq ?_
  refine c_region ?_
  refine w_p tok rfl rfl rfl ?_
  refine w_p tok rfl rfl rfl ?_
  refine w_p tok rfl rfl rfl ?_
  refine w_end ?_
  refine x_seq ?_
  refine c_if H rfl (fun H => ?_) (fun H => ?_)
  ·
    refine c_skip ?_
    refine x_seq ?_
    refine c_seq ?_
    refine c_block ?_
    refine c_seq ?_
    refine c_region ?_
    refine w_p tok rfl rfl rfl ?_
    refine w_p tok rfl rfl rfl ?_
    refine w_p tok rfl rfl rfl ?_
    refine w_p tok rfl rfl rfl ?_
    obtain ⟨b1, h2, eb1, eh2, H⟩ := H
    refine w_h (h_bs tok rfl rfl rfl rfl rfl rfl rfl eb1 eh2) rfl rfl ?_
    refine w_a (a_app (s := t5_1) (r := (⟨some ⟨b1, 0, none⟩, 1, 1⟩ : Slc)) tok rfl rfl rfl rfl rfl (slcAt_push eb1 eh2) H) rfl rfl ?_
    rintro _ h4 ⟨s3, rfl, H⟩
    refine w_p tok rfl rfl rfl ?_
    refine w_end ?_
    refine x_seq ?_
    refine c_weak [(0, .int .u64 t0_1), (5, Slc.v s3), (6, .int .i64 t6_1), (1, .int .i64 p1)] ⟨rfl, rfl, rfl, rfl, trivial⟩ ?_
    refine c_region ?_
    refine w_p tok rfl rfl rfl ?_
    refine w_p tok rfl rfl rfl ?_
    obtain ⟨x5, ex5, H⟩ := H
    refine w_pe tok rfl (congrArg (fun z => (.int .u64 z : Value)) ex5) rfl rfl ?_
    refine w_end ?_
    refine x_blk ?_
    refine x_seq ?_
    refine c_region ?_
    refine w_p tok rfl rfl rfl ?_
    refine w_p tok rfl rfl rfl ?_
    obtain ⟨x6, ex6, H⟩ := H
    refine w_pe tok rfl (congrArg (fun z => (.int .i64 z : Value)) ex6) rfl rfl ?_
    refine w_end ?_
    exact x_join (x5, s3, x6) H ⟨rfl, rfl, rfl, rfl, trivial⟩
  ·
    refine c_exit ?_
    refine x_te ?_
    refine x_te ?_
    refine x_bh ?_
    refine x_seq ?_
    refine c_seq ?_
    refine c_region ?_
    refine w_p tok rfl rfl rfl ?_
    refine w_p tok rfl rfl rfl ?_
    refine w_end ?_
    refine x_seq ?_
    refine c_weak [(4, Slc.v t5_1)] ⟨rfl, trivial⟩ ?_
    refine c_ret ?_
    exact x_ret _ rfl _ rfl ⟨t5_1, rfl, H⟩

theorem ref01_Number_ok : CallOk Go.Proofs.Tryd.prog 22 := ⟨_, Go.Proofs.Tryd.func22, by kernel_rfl, by kernel_rfl⟩
theorem ref01_Number_ref (p0 : Slc) (k : (Int) → Heap → Prop) (h : Heap) (H : ref01_Number p0 k h) : CallsH Go.Proofs.Tryd.prog 22 #[Slc.v p0] h (fun v h' => ∃ r : Int, v = .int .u64 r ∧ k r h') := by
  refine f_enter (N := 21) Go.Proofs.Tryd.func22 rfl rfl rfl (fun w0 => ?_)
  unfold ref01_Number at H
  refine c_weak [(0, Slc.v p0)] ⟨rfl, trivial⟩ ?_
  refine c_seq ?_
  refine c_region ?_
  refine w_p tok rfl rfl rfl ?_
  refine w_end ?_
  refine x_seq ?_
  refine c_seq ?_
  refine c_region ?_
  refine w_p tok rfl rfl rfl ?_
  refine w_end ?_
  refine x_seq ?_
  refine c_seq ?_
  refine c_seq ?_
  refine c_region ?_
  refine w_p tok rfl rfl rfl ?_
  refine w_p tok rfl rfl rfl ?_
  refine w_p tok rfl rfl rfl ?_
  obtain ⟨x1, ex1, H⟩ := H
  refine w_pe tok rfl (congrArg (fun z => (.int .i64 z : Value)) ex1) rfl rfl ?_
  refine w_end ?_
  refine x_seq ?_
  refine c_block ?_
  obtain ⟨I1, μ1, H0, HI⟩ := H
  refine c_loop (σ := Int × Int) (fun (s : Int × Int) => [(3, .int .u64 s.1), (4, .int .i64 s.2), (0, Slc.v p0)]) I1 μ1 (0, x1) H0 ⟨rfl, rfl, rfl, trivial⟩ ?_
  rintro ⟨t3_1, t4_1⟩ h_1 H
  replace H := HI t3_1 t4_1 h_1 H
  unfold ref01_Number_l1b at H
  refine c_weak [(3, .int .u64 t3_1), (4, .int .i64 t4_1), (0, Slc.v p0)] ⟨rfl, rfl, rfl, trivial⟩ ?_
  refine c_seq ?_
  refine c_seq ?_
  refine c_region ?_
  refine w_p tok rfl rfl rfl ?_
  refine w_p tok rfl rfl rfl ?_
  refine w_end ?_
  refine x_seq ?_
  refine c_if H rfl (fun H => ?_) (fun H => ?_)
  ·
    refine c_skip ?_
    refine x_seq ?_
    refine c_seq ?_
    refine c_block ?_
    refine c_region ?_
    refine w_p tok rfl rfl rfl ?_
    refine w_p tok rfl rfl rfl ?_
    refine w_p tok rfl rfl rfl ?_
    refine w_p tok rfl rfl rfl ?_
    obtain ⟨a2, ha2, la2, ua2, H⟩ := H
    refine w_y (y_ixa' tok rfl rfl ha2 rfl rfl rfl la2 ua2) rfl rfl ?_
    obtain ⟨v3, hv3, H⟩ := H
    refine w_y (y_ld tok rfl rfl rfl rfl hv3) rfl rfl ?_
    refine w_p tok rfl rfl rfl ?_
    refine w_p tok rfl rfl rfl ?_
    obtain ⟨x4, ex4, H⟩ := H
    refine w_pe tok rfl (congrArg (fun z => (.int .u64 z : Value)) ex4) rfl rfl ?_
    refine w_end ?_
    refine x_blk ?_
    refine x_seq ?_
    refine c_weak [(3, .int .u64 x4), (4, .int .i64 t4_1), (0, Slc.v p0)] ⟨rfl, rfl, rfl, trivial⟩ ?_
    refine c_region ?_
    refine w_p tok rfl rfl rfl ?_
    refine w_p tok rfl rfl rfl ?_
    obtain ⟨x5, ex5, H⟩ := H
    refine w_pe tok rfl (congrArg (fun z => (.int .i64 z : Value)) ex5) rfl rfl ?_
    refine w_end ?_
    exact x_join (x4, x5) H ⟨rfl, rfl, rfl, trivial⟩
  ·
    refine c_exit ?_
    refine x_te ?_
    refine x_te ?_
    refine x_bh ?_
    refine x_seq ?_
    refine c_seq ?_
    refine c_region ?_
    refine w_p tok rfl rfl rfl ?_
    refine w_p tok rfl rfl rfl ?_
    refine w_end ?_
    refine x_seq ?_
    refine c_ret ?_
    exact x_ret _ rfl _ rfl ⟨t3_1, rfl, H⟩

theorem ref04_word_ok : CallOk Go.Proofs.Tryd.prog 18 := ⟨_, Go.Proofs.Tryd.func18, by kernel_rfl, by kernel_rfl⟩
theorem ref04_word_ref (p0 : Slc) (k : (Int) → Heap → Prop) (h : Heap) (H : ref04_word p0 k h) : CallsH Go.Proofs.Tryd.prog 18 #[Slc.v p0] h (fun v h' => ∃ r : Int, v = .int .u32 r ∧ k r h') := by
  refine f_enter (N := 7) Go.Proofs.Tryd.func18 rfl rfl rfl (fun w0 => ?_)
  unfold ref04_word at H
  refine c_weak [(0, Slc.v p0)] ⟨rfl, trivial⟩ ?_
  refine c_seq ?_
  refine c_region ?_
  refine w_p tok rfl rfl rfl ?_
  refine w_end ?_
  refine x_seq ?_
  refine c_seq ?_
  refine c_region ?_
  refine w_p tok rfl rfl rfl ?_
  obtain ⟨s1, ps1, qs1, rs1, ts1, es1, H⟩ := H
  refine w_ye (y_sl (s := p0) (L := 0) (H := 4) (M := (p0.cap : Int)) tok rfl rfl rfl rfl rfl rfl rfl (by simp) ps1 qs1 rs1 ts1) (congrArg Slc.v es1) rfl rfl ?_
  refine w_call ref01_Number_ok (ref01_Number_ref _ _ _ H) rfl rfl rfl rfl ?_
  rintro _ h3 ⟨r2, rfl, H⟩
  refine w_p tok rfl rfl rfl ?_
  obtain ⟨x4, ex4, H⟩ := H
  refine w_pe tok rfl (congrArg (fun z => (.int .u32 z : Value)) ex4) rfl rfl ?_
  refine w_end ?_
  refine x_seq ?_
  refine c_ret ?_
  exact x_ret _ rfl _ rfl ⟨x4, rfl, H⟩

theorem ref04_turn_ok : CallOk Go.Proofs.Tryd.prog 23 := ⟨_, Go.Proofs.Tryd.func23, by kernel_rfl, by kernel_rfl⟩
theorem ref04_turn_ref (p0 : Int) (p1 : Int) (k : (Int) → Heap → Prop) (h : Heap) (H : ref04_turn p0 p1 k h) : CallsH Go.Proofs.Tryd.prog 23 #[.int .u32 p0, .int .i64 p1] h (fun v h' => ∃ r : Int, v = .int .u32 r ∧ k r h') := by
  refine f_enter (N := 19) Go.Proofs.Tryd.func23 rfl rfl rfl (fun w0 => ?_)
  unfold ref04_turn at H
  refine c_weak [(0, .int .u32 p0), (1, .int .i64 p1)] ⟨rfl, rfl, trivial⟩ ?_
  refine c_seq ?_
  refine c_region ?_
  refine w_p tok rfl rfl rfl ?_
  refine w_end ?_
  refine x_seq ?_
  refine c_seq ?_
  refine c_seq ?_
  refine c_region ?_
  refine w_p tok rfl rfl rfl ?_
  refine w_end ?_
  refine x_seq ?_
  refine c_block ?_
  obtain ⟨I1, μ1, H0, HI⟩ := H
  refine c_loop (σ := Int × Int) (fun (s : Int × Int) => [(0, .int .u32 s.1), (5, .int .i64 s.2), (1, .int .i64 p1)]) I1 μ1 (p0, 0) H0 ⟨rfl, rfl, rfl, trivial⟩ ?_
  rintro ⟨t0_1, t5_1⟩ h_1 H
  replace H := HI t0_1 t5_1 h_1 H
  unfold ref04_turn_l1b at H
  refine c_weak [(0, .int .u32 t0_1), (5, .int .i64 t5_1), (1, .int .i64 p1)] ⟨rfl, rfl, rfl, trivial⟩ ?_
  refine c_seq ?_
  refine c_seq ?_
  refine c_region ?_
  refine w_p tok rfl rfl rfl ?_
  refine w_p tok rfl rfl rfl ?_
  refine w_p tok rfl rfl rfl ?_
  refine w_end ?_
  refine x_seq ?_
  refine c_if H rfl (fun H => ?_) (fun H => ?_)
  ·
    refine c_skip ?_
    refine x_seq ?_
    refine c_seq ?_
    refine c_block ?_
    refine c_seq ?_
    refine c_region ?_
    refine w_p tok rfl rfl rfl ?_
    refine w_p tok rfl rfl rfl ?_
    obtain ⟨x1, ex1, H⟩ := H
    refine w_pe tok rfl (congrArg (fun z => (.int .u32 z : Value)) ex1) rfl rfl ?_
    refine w_end ?_
    refine x_seq ?_
    refine c_region ?_
    refine w_p tok rfl rfl rfl ?_
    refine w_p tok rfl rfl rfl ?_
    refine w_p tok rfl rfl rfl ?_
    refine w_p tok rfl rfl rfl ?_
    obtain ⟨x2, ex2, H⟩ := H
    refine w_pe tok rfl (congrArg (fun z => (.int .u32 z : Value)) ex2) rfl rfl ?_
    refine w_end ?_
    refine x_blk ?_
    refine x_seq ?_
    refine c_weak [(0, .int .u32 x2), (5, .int .i64 t5_1), (1, .int .i64 p1)] ⟨rfl, rfl, rfl, trivial⟩ ?_
    refine c_region ?_
    refine w_p tok rfl rfl rfl ?_
    refine w_p tok rfl rfl rfl ?_
    obtain ⟨x3, ex3, H⟩ := H
    refine w_pe tok rfl (congrArg (fun z => (.int .i64 z : Value)) ex3) rfl rfl ?_
    refine w_end ?_
    exact x_join (x2, x3) H ⟨rfl, rfl, rfl, trivial⟩
  ·
    refine c_exit ?_
    refine x_te ?_
    refine x_te ?_
    refine x_bh ?_
    refine x_seq ?_
    refine c_seq ?_
    refine c_region ?_
    refine w_p tok rfl rfl rfl ?_
    refine w_p tok rfl rfl rfl ?_
    refine w_end ?_
    refine x_seq ?_
    refine c_weak [(4, .int .u32 t0_1)] ⟨rfl, trivial⟩ ?_
    refine c_ret ?_
    exact x_ret _ rfl _ rfl ⟨t0_1, rfl, H⟩

theorem ref04_quarter_ok : CallOk Go.Proofs.Tryd.prog 19 := ⟨_, Go.Proofs.Tryd.func19, by kernel_rfl, by kernel_rfl⟩
theorem ref04_quarter_ref (p0 : Slc) (p1 : Int) (p2 : Int) (p3 : Int) (p4 : Int) (k : (Unit) → Heap → Prop) (h : Heap) (H : ref04_quarter p0 p1 p2 p3 p4 k h) : CallsH Go.Proofs.Tryd.prog 19 #[Slc.v p0, .int .i64 p1, .int .i64 p2, .int .i64 p3, .int .i64 p4] h (fun v h' => ∃ r : Unit, v = .tuple #[] ∧ k r h') := by
  refine f_enter (N := 110) Go.Proofs.Tryd.func19 rfl rfl rfl (fun w0 => ?_)
  unfold ref04_quarter at H
  refine c_weak [(0, Slc.v p0), (1, .int .i64 p1), (2, .int .i64 p2), (3, .int .i64 p3), (4, .int .i64 p4)] ⟨rfl, rfl, rfl, rfl, rfl, trivial⟩ ?_
  refine c_seq ?_
  refine c_sim [(0, Slc.v p0), (1, .int .i64 p1), (2, .int .i64 p2), (3, .int .i64 p3), (4, .int .i64 p4)] (by kernel_rfl) (by kernel_rfl) ⟨rfl, rfl, rfl, rfl, rfl, trivial⟩ (fun wf => ?_)
  refine sim_p 0 (ei := [(0, Slc.v p0)]) (d := (some 10)) wf (by kernel_rfl) ⟨rfl, trivial⟩ (by kernel_rfl) (by kernel_rfl) (fun _ => pf_p tok rfl rfl rfl rfl) (fun P_0 => ?_)
  refine sim_p 1 (ei := [(1, .int .i64 p1)]) (d := (some 11)) wf (by kernel_rfl) ⟨rfl, trivial⟩ (by kernel_rfl) (by kernel_rfl) (fun _ => pf_p tok rfl rfl rfl rfl) (fun P_1 => ?_)
  refine sim_p 2 (ei := [(0, Slc.v p0)]) (d := (some 12)) wf (by kernel_rfl) ⟨rfl, trivial⟩ (by kernel_rfl) (by kernel_rfl) (fun _ => pf_p tok rfl rfl rfl rfl) (fun P_2 => ?_)
  refine sim_p 3 (ei := [(1, .int .i64 p1)]) (d := (some 13)) wf (by kernel_rfl) ⟨rfl, trivial⟩ (by kernel_rfl) (by kernel_rfl) (fun _ => pf_p tok rfl rfl rfl rfl) (fun P_3 => ?_)
  obtain ⟨a1, ha1, la1, ua1, H⟩ := H
  refine sim_p 4 (ei := [(12, Slc.v p0), (13, .int .i64 p1)]) (d := (some 14)) wf (by kernel_rfl) ⟨rfl, rfl, trivial⟩ (by kernel_rfl) (by kernel_rfl) (fun _ => pf_y rfl rfl rfl (y_ixa' tok rfl rfl ha1 rfl rfl rfl la1 ua1)) (fun P_4 => ?_)
  obtain ⟨v2, hv2, H⟩ := H
  refine sim_l 5 (ei := [(14, .pointer (some (a1.add (p1.toNat * 1))))]) (d := (some 15)) wf (by kernel_rfl) ⟨rfl, trivial⟩ (by kernel_rfl) (by kernel_rfl) (pf_y rfl rfl rfl (y_ld tok rfl rfl rfl rfl hv2)) (fun P_5 => ?_)
  refine sim_p 6 (ei := [(0, Slc.v p0)]) (d := (some 16)) wf (by kernel_rfl) ⟨rfl, trivial⟩ (by kernel_rfl) (by kernel_rfl) (fun _ => pf_p tok rfl rfl rfl rfl) (fun P_6 => ?_)
  refine sim_p 7 (ei := [(2, .int .i64 p2)]) (d := (some 17)) wf (by kernel_rfl) ⟨rfl, trivial⟩ (by kernel_rfl) (by kernel_rfl) (fun _ => pf_p tok rfl rfl rfl rfl) (fun P_7 => ?_)
  obtain ⟨a3, ha3, la3, ua3, H⟩ := H
  refine sim_p 8 (ei := [(16, Slc.v p0), (17, .int .i64 p2)]) (d := (some 18)) wf (by kernel_rfl) ⟨rfl, rfl, trivial⟩ (by kernel_rfl) (by kernel_rfl) (fun _ => pf_y rfl rfl rfl (y_ixa' tok rfl rfl ha3 rfl rfl rfl la3 ua3)) (fun P_8 => ?_)
  obtain ⟨v4, hv4, H⟩ := H
  refine sim_l 9 (ei := [(18, .pointer (some (a3.add (p2.toNat * 1))))]) (d := (some 19)) wf (by kernel_rfl) ⟨rfl, trivial⟩ (by kernel_rfl) (by kernel_rfl) (pf_y rfl rfl rfl (y_ld tok rfl rfl rfl rfl hv4)) (fun P_9 => ?_)
  refine sim_p 10 (ei := [(15, .int .u32 v2), (19, .int .u32 v4)]) (d := (some 20)) wf (by kernel_rfl) ⟨rfl, rfl, trivial⟩ (by kernel_rfl) (by kernel_rfl) (fun _ => pf_p tok rfl rfl rfl rfl) (fun P_10 => ?_)
  obtain ⟨a5, ha5, la5, ua5, H⟩ := H
  refine sim_p 11 (ei := [(10, Slc.v p0), (11, .int .i64 p1)]) (d := (some 21)) wf (by kernel_rfl) ⟨rfl, rfl, trivial⟩ (by kernel_rfl) (by kernel_rfl) (fun _ => pf_y rfl rfl rfl (y_ixa' tok rfl rfl ha5 rfl rfl rfl la5 ua5)) (fun P_11 => ?_)
  obtain ⟨h6, wh6, eh6, H⟩ := H
  refine sim_h 12 [0, 1, 2, 3, 4, 5, 6, 7, 8, 9, 10, 11] [0, 1, 2, 3, 4, 5, 6, 7, 8, 9, 10, 11] (ei := [(20, .int .u32 (IntKind.u32.wrap (v2 + v4))), (21, .pointer (some (a5.add (p1.toNat * 1))))]) wf ⟨P_11 _, P_10 _, P_9, P_8 _, P_7 _, P_6 _, P_5, P_4 _, P_3 _, P_2 _, P_1 _, P_0 _, trivial⟩ (by kernel_rfl) ⟨rfl, rfl, trivial⟩ (by kernel_rfl) rfl rfl rfl (h_st tok rfl rfl rfl rfl rfl rfl wh6 eh6) ?_
  refine sim_end wf ⟨trivial, trivial, trivial, trivial, trivial, trivial, trivial, trivial, trivial, trivial, trivial, trivial, trivial⟩ (by kernel_rfl) ?_
  clear wf P_0 P_1 P_10 P_11 P_2 P_3 P_4 P_5 P_6 P_7 P_8 P_9
  refine x_seq ?_
  refine c_weak [(0, Slc.v p0), (1, .int .i64 p1), (2, .int .i64 p2), (3, .int .i64 p3), (4, .int .i64 p4)] ⟨rfl, rfl, rfl, rfl, rfl, trivial⟩ ?_
  refine c_seq ?_
  refine c_sim [(0, Slc.v p0), (1, .int .i64 p1), (2, .int .i64 p2), (3, .int .i64 p3), (4, .int .i64 p4)] (by kernel_rfl) (by kernel_rfl) ⟨rfl, rfl, rfl, rfl, rfl, trivial⟩ (fun wf => ?_)
  refine sim_p 0 (ei := [(0, Slc.v p0)]) (d := (some 22)) wf (by kernel_rfl) ⟨rfl, trivial⟩ (by kernel_rfl) (by kernel_rfl) (fun _ => pf_p tok rfl rfl rfl rfl) (fun P_0 => ?_)
  refine sim_p 1 (ei := [(4, .int .i64 p4)]) (d := (some 23)) wf (by kernel_rfl) ⟨rfl, trivial⟩ (by kernel_rfl) (by kernel_rfl) (fun _ => pf_p tok rfl rfl rfl rfl) (fun P_1 => ?_)
  refine sim_p 2 (ei := [(0, Slc.v p0)]) (d := (some 24)) wf (by kernel_rfl) ⟨rfl, trivial⟩ (by kernel_rfl) (by kernel_rfl) (fun _ => pf_p tok rfl rfl rfl rfl) (fun P_2 => ?_)
  refine sim_p 3 (ei := [(4, .int .i64 p4)]) (d := (some 25)) wf (by kernel_rfl) ⟨rfl, trivial⟩ (by kernel_rfl) (by kernel_rfl) (fun _ => pf_p tok rfl rfl rfl rfl) (fun P_3 => ?_)
  obtain ⟨a7, ha7, la7, ua7, H⟩ := H
  refine sim_p 4 (ei := [(24, Slc.v p0), (25, .int .i64 p4)]) (d := (some 26)) wf (by kernel_rfl) ⟨rfl, rfl, trivial⟩ (by kernel_rfl) (by kernel_rfl) (fun _ => pf_y rfl rfl rfl (y_ixa' tok rfl rfl ha7 rfl rfl rfl la7 ua7)) (fun P_4 => ?_)
  obtain ⟨v8, hv8, H⟩ := H
  refine sim_l 5 (ei := [(26, .pointer (some (a7.add (p4.toNat * 1))))]) (d := (some 27)) wf (by kernel_rfl) ⟨rfl, trivial⟩ (by kernel_rfl) (by kernel_rfl) (pf_y rfl rfl rfl (y_ld tok rfl rfl rfl rfl hv8)) (fun P_5 => ?_)
  refine sim_p 6 (ei := [(0, Slc.v p0)]) (d := (some 28)) wf (by kernel_rfl) ⟨rfl, trivial⟩ (by kernel_rfl) (by kernel_rfl) (fun _ => pf_p tok rfl rfl rfl rfl) (fun P_6 => ?_)
  refine sim_p 7 (ei := [(1, .int .i64 p1)]) (d := (some 29)) wf (by kernel_rfl) ⟨rfl, trivial⟩ (by kernel_rfl) (by kernel_rfl) (fun _ => pf_p tok rfl rfl rfl rfl) (fun P_7 => ?_)
  obtain ⟨a9, ha9, la9, ua9, H⟩ := H
  refine sim_p 8 (ei := [(28, Slc.v p0), (29, .int .i64 p1)]) (d := (some 30)) wf (by kernel_rfl) ⟨rfl, rfl, trivial⟩ (by kernel_rfl) (by kernel_rfl) (fun _ => pf_y rfl rfl rfl (y_ixa' tok rfl rfl ha9 rfl rfl rfl la9 ua9)) (fun P_8 => ?_)
  obtain ⟨v10, hv10, H⟩ := H
  refine sim_l 9 (ei := [(30, .pointer (some (a9.add (p1.toNat * 1))))]) (d := (some 31)) wf (by kernel_rfl) ⟨rfl, trivial⟩ (by kernel_rfl) (by kernel_rfl) (pf_y rfl rfl rfl (y_ld tok rfl rfl rfl rfl hv10)) (fun P_9 => ?_)
  refine sim_p 10 (ei := [(27, .int .u32 v8), (31, .int .u32 v10)]) (d := (some 32)) wf (by kernel_rfl) ⟨rfl, rfl, trivial⟩ (by kernel_rfl) (by kernel_rfl) (fun _ => pf_p tok rfl rfl rfl rfl) (fun P_10 => ?_)
  refine sim_c 11 [2, 3, 4, 5, 6, 7, 8, 9, 10] [2, 3, 4, 5, 6, 7, 8, 9, 10] (ei := [(32, .int .u32 (bwXor .u32 v8 v10))]) ref04_turn_ok (ref04_turn_ref _ _ _ _ H) wf ⟨P_10 _, P_9, P_8 _, P_7 _, P_6 _, P_5, P_4 _, P_3 _, P_2 _, P_1 _, P_0 _, trivial⟩ (by kernel_rfl) ⟨rfl, trivial⟩ (by kernel_rfl) rfl rfl rfl rfl rfl ?_
  rintro _ h12 ⟨r11, rfl, H⟩
  obtain ⟨a13, ha13, la13, ua13, H⟩ := H
  refine sim_p 12 (ei := [(22, Slc.v p0), (23, .int .i64 p4)]) (d := (some 34)) wf (by kernel_rfl) ⟨rfl, rfl, trivial⟩ (by kernel_rfl) (by kernel_rfl) (fun _ => pf_y rfl rfl rfl (y_ixa' tok rfl rfl ha13 rfl rfl rfl la13 ua13)) (fun P_12 => ?_)
  obtain ⟨h14, wh14, eh14, H⟩ := H
  refine sim_h 13 [0, 1, 2, 3, 4, 5, 6, 7, 8, 9, 10, 11, 12] [0, 1, 2, 3, 4, 5, 6, 7, 8, 9, 10, 12] (ei := [(33, .int .u32 r11), (34, .pointer (some (a13.add (p4.toNat * 1))))]) wf ⟨P_12 _, trivial, trivial, trivial, trivial, trivial, trivial, trivial, trivial, trivial, P_1 _, P_0 _, trivial⟩ (by kernel_rfl) ⟨rfl, rfl, trivial⟩ (by kernel_rfl) rfl rfl rfl (h_st tok rfl rfl rfl rfl rfl rfl wh14 eh14) ?_
  refine sim_end wf ⟨trivial, trivial, trivial, trivial, trivial, trivial, trivial, trivial, trivial, trivial, trivial, trivial, trivial⟩ (by kernel_rfl) ?_
  clear wf P_0 P_1 P_10 P_12 P_2 P_3 P_4 P_5 P_6 P_7 P_8 P_9
  refine x_seq ?_
  refine c_weak [(0, Slc.v p0), (1, .int .i64 p1), (2, .int .i64 p2), (3, .int .i64 p3), (4, .int .i64 p4)] ⟨rfl, rfl, rfl, rfl, rfl, trivial⟩ ?_
  refine c_seq ?_
  refine c_sim [(0, Slc.v p0), (1, .int .i64 p1), (2, .int .i64 p2), (3, .int .i64 p3), (4, .int .i64 p4)] (by kernel_rfl) (by kernel_rfl) ⟨rfl, rfl, rfl, rfl, rfl, trivial⟩ (fun wf => ?_)
  refine sim_p 0 (ei := [(0, Slc.v p0)]) (d := (some 35)) wf (by kernel_rfl) ⟨rfl, trivial⟩ (by kernel_rfl) (by kernel_rfl) (fun _ => pf_p tok rfl rfl rfl rfl) (fun P_0 => ?_)
  refine sim_p 1 (ei := [(3, .int .i64 p3)]) (d := (some 36)) wf (by kernel_rfl) ⟨rfl, trivial⟩ (by kernel_rfl) (by kernel_rfl) (fun _ => pf_p tok rfl rfl rfl rfl) (fun P_1 => ?_)
  refine sim_p 2 (ei := [(0, Slc.v p0)]) (d := (some 37)) wf (by kernel_rfl) ⟨rfl, trivial⟩ (by kernel_rfl) (by kernel_rfl) (fun _ => pf_p tok rfl rfl rfl rfl) (fun P_2 => ?_)
  refine sim_p 3 (ei := [(3, .int .i64 p3)]) (d := (some 38)) wf (by kernel_rfl) ⟨rfl, trivial⟩ (by kernel_rfl) (by kernel_rfl) (fun _ => pf_p tok rfl rfl rfl rfl) (fun P_3 => ?_)
  obtain ⟨a15, ha15, la15, ua15, H⟩ := H
  refine sim_p 4 (ei := [(37, Slc.v p0), (38, .int .i64 p3)]) (d := (some 39)) wf (by kernel_rfl) ⟨rfl, rfl, trivial⟩ (by kernel_rfl) (by kernel_rfl) (fun _ => pf_y rfl rfl rfl (y_ixa' tok rfl rfl ha15 rfl rfl rfl la15 ua15)) (fun P_4 => ?_)
  obtain ⟨v16, hv16, H⟩ := H
  refine sim_l 5 (ei := [(39, .pointer (some (a15.add (p3.toNat * 1))))]) (d := (some 40)) wf (by kernel_rfl) ⟨rfl, trivial⟩ (by kernel_rfl) (by kernel_rfl) (pf_y rfl rfl rfl (y_ld tok rfl rfl rfl rfl hv16)) (fun P_5 => ?_)
  refine sim_p 6 (ei := [(0, Slc.v p0)]) (d := (some 41)) wf (by kernel_rfl) ⟨rfl, trivial⟩ (by kernel_rfl) (by kernel_rfl) (fun _ => pf_p tok rfl rfl rfl rfl) (fun P_6 => ?_)
  refine sim_p 7 (ei := [(4, .int .i64 p4)]) (d := (some 42)) wf (by kernel_rfl) ⟨rfl, trivial⟩ (by kernel_rfl) (by kernel_rfl) (fun _ => pf_p tok rfl rfl rfl rfl) (fun P_7 => ?_)
  obtain ⟨a17, ha17, la17, ua17, H⟩ := H
  refine sim_p 8 (ei := [(41, Slc.v p0), (42, .int .i64 p4)]) (d := (some 43)) wf (by kernel_rfl) ⟨rfl, rfl, trivial⟩ (by kernel_rfl) (by kernel_rfl) (fun _ => pf_y rfl rfl rfl (y_ixa' tok rfl rfl ha17 rfl rfl rfl la17 ua17)) (fun P_8 => ?_)
  obtain ⟨v18, hv18, H⟩ := H
  refine sim_l 9 (ei := [(43, .pointer (some (a17.add (p4.toNat * 1))))]) (d := (some 44)) wf (by kernel_rfl) ⟨rfl, trivial⟩ (by kernel_rfl) (by kernel_rfl) (pf_y rfl rfl rfl (y_ld tok rfl rfl rfl rfl hv18)) (fun P_9 => ?_)
  refine sim_p 10 (ei := [(40, .int .u32 v16), (44, .int .u32 v18)]) (d := (some 45)) wf (by kernel_rfl) ⟨rfl, rfl, trivial⟩ (by kernel_rfl) (by kernel_rfl) (fun _ => pf_p tok rfl rfl rfl rfl) (fun P_10 => ?_)
  obtain ⟨a19, ha19, la19, ua19, H⟩ := H
  refine sim_p 11 (ei := [(35, Slc.v p0), (36, .int .i64 p3)]) (d := (some 46)) wf (by kernel_rfl) ⟨rfl, rfl, trivial⟩ (by kernel_rfl) (by kernel_rfl) (fun _ => pf_y rfl rfl rfl (y_ixa' tok rfl rfl ha19 rfl rfl rfl la19 ua19)) (fun P_11 => ?_)
  obtain ⟨h20, wh20, eh20, H⟩ := H
  refine sim_h 12 [0, 1, 2, 3, 4, 5, 6, 7, 8, 9, 10, 11] [0, 1, 2, 3, 4, 5, 6, 7, 8, 9, 10, 11] (ei := [(45, .int .u32 (IntKind.u32.wrap (v16 + v18))), (46, .pointer (some (a19.add (p3.toNat * 1))))]) wf ⟨P_11 _, P_10 _, P_9, P_8 _, P_7 _, P_6 _, P_5, P_4 _, P_3 _, P_2 _, P_1 _, P_0 _, trivial⟩ (by kernel_rfl) ⟨rfl, rfl, trivial⟩ (by kernel_rfl) rfl rfl rfl (h_st tok rfl rfl rfl rfl rfl rfl wh20 eh20) ?_
  refine sim_end wf ⟨trivial, trivial, trivial, trivial, trivial, trivial, trivial, trivial, trivial, trivial, trivial, trivial, trivial⟩ (by kernel_rfl) ?_
  clear wf P_0 P_1 P_10 P_11 P_2 P_3 P_4 P_5 P_6 P_7 P_8 P_9
  refine x_seq ?_
  refine c_weak [(0, Slc.v p0), (1, .int .i64 p1), (2, .int .i64 p2), (3, .int .i64 p3), (4, .int .i64 p4)] ⟨rfl, rfl, rfl, rfl, rfl, trivial⟩ ?_
  refine c_seq ?_
  refine c_sim [(0, Slc.v p0), (1, .int .i64 p1), (2, .int .i64 p2), (3, .int .i64 p3), (4, .int .i64 p4)] (by kernel_rfl) (by kernel_rfl) ⟨rfl, rfl, rfl, rfl, rfl, trivial⟩ (fun wf => ?_)
  refine sim_p 0 (ei := [(0, Slc.v p0)]) (d := (some 47)) wf (by kernel_rfl) ⟨rfl, trivial⟩ (by kernel_rfl) (by kernel_rfl) (fun _ => pf_p tok rfl rfl rfl rfl) (fun P_0 => ?_)
  refine sim_p 1 (ei := [(2, .int .i64 p2)]) (d := (some 48)) wf (by kernel_rfl) ⟨rfl, trivial⟩ (by kernel_rfl) (by kernel_rfl) (fun _ => pf_p tok rfl rfl rfl rfl) (fun P_1 => ?_)
  refine sim_p 2 (ei := [(0, Slc.v p0)]) (d := (some 49)) wf (by kernel_rfl) ⟨rfl, trivial⟩ (by kernel_rfl) (by kernel_rfl) (fun _ => pf_p tok rfl rfl rfl rfl) (fun P_2 => ?_)
  refine sim_p 3 (ei := [(2, .int .i64 p2)]) (d := (some 50)) wf (by kernel_rfl) ⟨rfl, trivial⟩ (by kernel_rfl) (by kernel_rfl) (fun _ => pf_p tok rfl rfl rfl rfl) (fun P_3 => ?_)
  obtain ⟨a21, ha21, la21, ua21, H⟩ := H
  refine sim_p 4 (ei := [(49, Slc.v p0), (50, .int .i64 p2)]) (d := (some 51)) wf (by kernel_rfl) ⟨rfl, rfl, trivial⟩ (by kernel_rfl) (by kernel_rfl) (fun _ => pf_y rfl rfl rfl (y_ixa' tok rfl rfl ha21 rfl rfl rfl la21 ua21)) (fun P_4 => ?_)
  obtain ⟨v22, hv22, H⟩ := H
  refine sim_l 5 (ei := [(51, .pointer (some (a21.add (p2.toNat * 1))))]) (d := (some 52)) wf (by kernel_rfl) ⟨rfl, trivial⟩ (by kernel_rfl) (by kernel_rfl) (pf_y rfl rfl rfl (y_ld tok rfl rfl rfl rfl hv22)) (fun P_5 => ?_)
  refine sim_p 6 (ei := [(0, Slc.v p0)]) (d := (some 53)) wf (by kernel_rfl) ⟨rfl, trivial⟩ (by kernel_rfl) (by kernel_rfl) (fun _ => pf_p tok rfl rfl rfl rfl) (fun P_6 => ?_)
  refine sim_p 7 (ei := [(3, .int .i64 p3)]) (d := (some 54)) wf (by kernel_rfl) ⟨rfl, trivial⟩ (by kernel_rfl) (by kernel_rfl) (fun _ => pf_p tok rfl rfl rfl rfl) (fun P_7 => ?_)
  obtain ⟨a23, ha23, la23, ua23, H⟩ := H
  refine sim_p 8 (ei := [(53, Slc.v p0), (54, .int .i64 p3)]) (d := (some 55)) wf (by kernel_rfl) ⟨rfl, rfl, trivial⟩ (by kernel_rfl) (by kernel_rfl) (fun _ => pf_y rfl rfl rfl (y_ixa' tok rfl rfl ha23 rfl rfl rfl la23 ua23)) (fun P_8 => ?_)
  obtain ⟨v24, hv24, H⟩ := H
  refine sim_l 9 (ei := [(55, .pointer (some (a23.add (p3.toNat * 1))))]) (d := (some 56)) wf (by kernel_rfl) ⟨rfl, trivial⟩ (by kernel_rfl) (by kernel_rfl) (pf_y rfl rfl rfl (y_ld tok rfl rfl rfl rfl hv24)) (fun P_9 => ?_)
  refine sim_p 10 (ei := [(52, .int .u32 v22), (56, .int .u32 v24)]) (d := (some 57)) wf (by kernel_rfl) ⟨rfl, rfl, trivial⟩ (by kernel_rfl) (by kernel_rfl) (fun _ => pf_p tok rfl rfl rfl rfl) (fun P_10 => ?_)
  refine sim_c 11 [2, 3, 4, 5, 6, 7, 8, 9, 10] [2, 3, 4, 5, 6, 7, 8, 9, 10] (ei := [(57, .int .u32 (bwXor .u32 v22 v24))]) ref04_turn_ok (ref04_turn_ref _ _ _ _ H) wf ⟨P_10 _, P_9, P_8 _, P_7 _, P_6 _, P_5, P_4 _, P_3 _, P_2 _, P_1 _, P_0 _, trivial⟩ (by kernel_rfl) ⟨rfl, trivial⟩ (by kernel_rfl) rfl rfl rfl rfl rfl ?_
  rintro _ h26 ⟨r25, rfl, H⟩
  obtain ⟨a27, ha27, la27, ua27, H⟩ := H
  refine sim_p 12 (ei := [(47, Slc.v p0), (48, .int .i64 p2)]) (d := (some 59)) wf (by kernel_rfl) ⟨rfl, rfl, trivial⟩ (by kernel_rfl) (by kernel_rfl) (fun _ => pf_y rfl rfl rfl (y_ixa' tok rfl rfl ha27 rfl rfl rfl la27 ua27)) (fun P_12 => ?_)
  obtain ⟨h28, wh28, eh28, H⟩ := H
  refine sim_h 13 [0, 1, 2, 3, 4, 5, 6, 7, 8, 9, 10, 11, 12] [0, 1, 2, 3, 4, 5, 6, 7, 8, 9, 10, 12] (ei := [(58, .int .u32 r25), (59, .pointer (some (a27.add (p2.toNat * 1))))]) wf ⟨P_12 _, trivial, trivial, trivial, trivial, trivial, trivial, trivial, trivial, trivial, P_1 _, P_0 _, trivial⟩ (by kernel_rfl) ⟨rfl, rfl, trivial⟩ (by kernel_rfl) rfl rfl rfl (h_st tok rfl rfl rfl rfl rfl rfl wh28 eh28) ?_
  refine sim_end wf ⟨trivial, trivial, trivial, trivial, trivial, trivial, trivial, trivial, trivial, trivial, trivial, trivial, trivial⟩ (by kernel_rfl) ?_
  clear wf P_0 P_1 P_10 P_12 P_2 P_3 P_4 P_5 P_6 P_7 P_8 P_9
  refine x_seq ?_
  refine c_weak [(0, Slc.v p0), (1, .int .i64 p1), (2, .int .i64 p2), (3, .int .i64 p3), (4, .int .i64 p4)] ⟨rfl, rfl, rfl, rfl, rfl, trivial⟩ ?_
  refine c_seq ?_
  refine c_sim [(0, Slc.v p0), (1, .int .i64 p1), (2, .int .i64 p2), (3, .int .i64 p3), (4, .int .i64 p4)] (by kernel_rfl) (by kernel_rfl) ⟨rfl, rfl, rfl, rfl, rfl, trivial⟩ (fun wf => ?_)
  refine sim_p 0 (ei := [(0, Slc.v p0)]) (d := (some 60)) wf (by kernel_rfl) ⟨rfl, trivial⟩ (by kernel_rfl) (by kernel_rfl) (fun _ => pf_p tok rfl rfl rfl rfl) (fun P_0 => ?_)
  refine sim_p 1 (ei := [(1, .int .i64 p1)]) (d := (some 61)) wf (by kernel_rfl) ⟨rfl, trivial⟩ (by kernel_rfl) (by kernel_rfl) (fun _ => pf_p tok rfl rfl rfl rfl) (fun P_1 => ?_)
  refine sim_p 2 (ei := [(0, Slc.v p0)]) (d := (some 62)) wf (by kernel_rfl) ⟨rfl, trivial⟩ (by kernel_rfl) (by kernel_rfl) (fun _ => pf_p tok rfl rfl rfl rfl) (fun P_2 => ?_)
  refine sim_p 3 (ei := [(1, .int .i64 p1)]) (d := (some 63)) wf (by kernel_rfl) ⟨rfl, trivial⟩ (by kernel_rfl) (by kernel_rfl) (fun _ => pf_p tok rfl rfl rfl rfl) (fun P_3 => ?_)
  obtain ⟨a29, ha29, la29, ua29, H⟩ := H
  refine sim_p 4 (ei := [(62, Slc.v p0), (63, .int .i64 p1)]) (d := (some 64)) wf (by kernel_rfl) ⟨rfl, rfl, trivial⟩ (by kernel_rfl) (by kernel_rfl) (fun _ => pf_y rfl rfl rfl (y_ixa' tok rfl rfl ha29 rfl rfl rfl la29 ua29)) (fun P_4 => ?_)
  obtain ⟨v30, hv30, H⟩ := H
  refine sim_l 5 (ei := [(64, .pointer (some (a29.add (p1.toNat * 1))))]) (d := (some 65)) wf (by kernel_rfl) ⟨rfl, trivial⟩ (by kernel_rfl) (by kernel_rfl) (pf_y rfl rfl rfl (y_ld tok rfl rfl rfl rfl hv30)) (fun P_5 => ?_)
  refine sim_p 6 (ei := [(0, Slc.v p0)]) (d := (some 66)) wf (by kernel_rfl) ⟨rfl, trivial⟩ (by kernel_rfl) (by kernel_rfl) (fun _ => pf_p tok rfl rfl rfl rfl) (fun P_6 => ?_)
  refine sim_p 7 (ei := [(2, .int .i64 p2)]) (d := (some 67)) wf (by kernel_rfl) ⟨rfl, trivial⟩ (by kernel_rfl) (by kernel_rfl) (fun _ => pf_p tok rfl rfl rfl rfl) (fun P_7 => ?_)
  obtain ⟨a31, ha31, la31, ua31, H⟩ := H
  refine sim_p 8 (ei := [(66, Slc.v p0), (67, .int .i64 p2)]) (d := (some 68)) wf (by kernel_rfl) ⟨rfl, rfl, trivial⟩ (by kernel_rfl) (by kernel_rfl) (fun _ => pf_y rfl rfl rfl (y_ixa' tok rfl rfl ha31 rfl rfl rfl la31 ua31)) (fun P_8 => ?_)
  obtain ⟨v32, hv32, H⟩ := H
  refine sim_l 9 (ei := [(68, .pointer (some (a31.add (p2.toNat * 1))))]) (d := (some 69)) wf (by kernel_rfl) ⟨rfl, trivial⟩ (by kernel_rfl) (by kernel_rfl) (pf_y rfl rfl rfl (y_ld tok rfl rfl rfl rfl hv32)) (fun P_9 => ?_)
  refine sim_p 10 (ei := [(65, .int .u32 v30), (69, .int .u32 v32)]) (d := (some 70)) wf (by kernel_rfl) ⟨rfl, rfl, trivial⟩ (by kernel_rfl) (by kernel_rfl) (fun _ => pf_p tok rfl rfl rfl rfl) (fun P_10 => ?_)
  obtain ⟨a33, ha33, la33, ua33, H⟩ := H
  refine sim_p 11 (ei := [(60, Slc.v p0), (61, .int .i64 p1)]) (d := (some 71)) wf (by kernel_rfl) ⟨rfl, rfl, trivial⟩ (by kernel_rfl) (by kernel_rfl) (fun _ => pf_y rfl rfl rfl (y_ixa' tok rfl rfl ha33 rfl rfl rfl la33 ua33)) (fun P_11 => ?_)
  obtain ⟨h34, wh34, eh34, H⟩ := H
  refine sim_h 12 [0, 1, 2, 3, 4, 5, 6, 7, 8, 9, 10, 11] [0, 1, 2, 3, 4, 5, 6, 7, 8, 9, 10, 11] (ei := [(70, .int .u32 (IntKind.u32.wrap (v30 + v32))), (71, .pointer (some (a33.add (p1.toNat * 1))))]) wf ⟨P_11 _, P_10 _, P_9, P_8 _, P_7 _, P_6 _, P_5, P_4 _, P_3 _, P_2 _, P_1 _, P_0 _, trivial⟩ (by kernel_rfl) ⟨rfl, rfl, trivial⟩ (by kernel_rfl) rfl rfl rfl (h_st tok rfl rfl rfl rfl rfl rfl wh34 eh34) ?_
  refine sim_end wf ⟨trivial, trivial, trivial, trivial, trivial, trivial, trivial, trivial, trivial, trivial, trivial, trivial, trivial⟩ (by kernel_rfl) ?_
  clear wf P_0 P_1 P_10 P_11 P_2 P_3 P_4 P_5 P_6 P_7 P_8 P_9
  refine x_seq ?_
  refine c_weak [(0, Slc.v p0), (1, .int .i64 p1), (2, .int .i64 p2), (3, .int .i64 p3), (4, .int .i64 p4)] ⟨rfl, rfl, rfl, rfl, rfl, trivial⟩ ?_
  refine c_seq ?_
  refine c_sim [(0, Slc.v p0), (1, .int .i64 p1), (2, .int .i64 p2), (3, .int .i64 p3), (4, .int .i64 p4)] (by kernel_rfl) (by kernel_rfl) ⟨rfl, rfl, rfl, rfl, rfl, trivial⟩ (fun wf => ?_)
  refine sim_p 0 (ei := [(0, Slc.v p0)]) (d := (some 72)) wf (by kernel_rfl) ⟨rfl, trivial⟩ (by kernel_rfl) (by kernel_rfl) (fun _ => pf_p tok rfl rfl rfl rfl) (fun P_0 => ?_)
  refine sim_p 1 (ei := [(4, .int .i64 p4)]) (d := (some 73)) wf (by kernel_rfl) ⟨rfl, trivial⟩ (by kernel_rfl) (by kernel_rfl) (fun _ => pf_p tok rfl rfl rfl rfl) (fun P_1 => ?_)
  refine sim_p 2 (ei := [(0, Slc.v p0)]) (d := (some 74)) wf (by kernel_rfl) ⟨rfl, trivial⟩ (by kernel_rfl) (by kernel_rfl) (fun _ => pf_p tok rfl rfl rfl rfl) (fun P_2 => ?_)
  refine sim_p 3 (ei := [(4, .int .i64 p4)]) (d := (some 75)) wf (by kernel_rfl) ⟨rfl, trivial⟩ (by kernel_rfl) (by kernel_rfl) (fun _ => pf_p tok rfl rfl rfl rfl) (fun P_3 => ?_)
  obtain ⟨a35, ha35, la35, ua35, H⟩ := H
  refine sim_p 4 (ei := [(74, Slc.v p0), (75, .int .i64 p4)]) (d := (some 76)) wf (by kernel_rfl) ⟨rfl, rfl, trivial⟩ (by kernel_rfl) (by kernel_rfl) (fun _ => pf_y rfl rfl rfl (y_ixa' tok rfl rfl ha35 rfl rfl rfl la35 ua35)) (fun P_4 => ?_)
  obtain ⟨v36, hv36, H⟩ := H
  refine sim_l 5 (ei := [(76, .pointer (some (a35.add (p4.toNat * 1))))]) (d := (some 77)) wf (by kernel_rfl) ⟨rfl, trivial⟩ (by kernel_rfl) (by kernel_rfl) (pf_y rfl rfl rfl (y_ld tok rfl rfl rfl rfl hv36)) (fun P_5 => ?_)
  refine sim_p 6 (ei := [(0, Slc.v p0)]) (d := (some 78)) wf (by kernel_rfl) ⟨rfl, trivial⟩ (by kernel_rfl) (by kernel_rfl) (fun _ => pf_p tok rfl rfl rfl rfl) (fun P_6 => ?_)
  refine sim_p 7 (ei := [(1, .int .i64 p1)]) (d := (some 79)) wf (by kernel_rfl) ⟨rfl, trivial⟩ (by kernel_rfl) (by kernel_rfl) (fun _ => pf_p tok rfl rfl rfl rfl) (fun P_7 => ?_)
  obtain ⟨a37, ha37, la37, ua37, H⟩ := H
  refine sim_p 8 (ei := [(78, Slc.v p0), (79, .int .i64 p1)]) (d := (some 80)) wf (by kernel_rfl) ⟨rfl, rfl, trivial⟩ (by kernel_rfl) (by kernel_rfl) (fun _ => pf_y rfl rfl rfl (y_ixa' tok rfl rfl ha37 rfl rfl rfl la37 ua37)) (fun P_8 => ?_)
  obtain ⟨v38, hv38, H⟩ := H
  refine sim_l 9 (ei := [(80, .pointer (some (a37.add (p1.toNat * 1))))]) (d := (some 81)) wf (by kernel_rfl) ⟨rfl, trivial⟩ (by kernel_rfl) (by kernel_rfl) (pf_y rfl rfl rfl (y_ld tok rfl rfl rfl rfl hv38)) (fun P_9 => ?_)
  refine sim_p 10 (ei := [(77, .int .u32 v36), (81, .int .u32 v38)]) (d := (some 82)) wf (by kernel_rfl) ⟨rfl, rfl, trivial⟩ (by kernel_rfl) (by kernel_rfl) (fun _ => pf_p tok rfl rfl rfl rfl) (fun P_10 => ?_)
  refine sim_c 11 [2, 3, 4, 5, 6, 7, 8, 9, 10] [2, 3, 4, 5, 6, 7, 8, 9, 10] (ei := [(82, .int .u32 (bwXor .u32 v36 v38))]) ref04_turn_ok (ref04_turn_ref _ _ _ _ H) wf ⟨P_10 _, P_9, P_8 _, P_7 _, P_6 _, P_5, P_4 _, P_3 _, P_2 _, P_1 _, P_0 _, trivial⟩ (by kernel_rfl) ⟨rfl, trivial⟩ (by kernel_rfl) rfl rfl rfl rfl rfl ?_
  rintro _ h40 ⟨r39, rfl, H⟩
  obtain ⟨a41, ha41, la41, ua41, H⟩ := H
  refine sim_p 12 (ei := [(72, Slc.v p0), (73, .int .i64 p4)]) (d := (some 84)) wf (by kernel_rfl) ⟨rfl, rfl, trivial⟩ (by kernel_rfl) (by kernel_rfl) (fun _ => pf_y rfl rfl rfl (y_ixa' tok rfl rfl ha41 rfl rfl rfl la41 ua41)) (fun P_12 => ?_)
  obtain ⟨h42, wh42, eh42, H⟩ := H
  refine sim_h 13 [0, 1, 2, 3, 4, 5, 6, 7, 8, 9, 10, 11, 12] [0, 1, 2, 3, 4, 5, 6, 7, 8, 9, 10, 12] (ei := [(83, .int .u32 r39), (84, .pointer (some (a41.add (p4.toNat * 1))))]) wf ⟨P_12 _, trivial, trivial, trivial, trivial, trivial, trivial, trivial, trivial, trivial, P_1 _, P_0 _, trivial⟩ (by kernel_rfl) ⟨rfl, rfl, trivial⟩ (by kernel_rfl) rfl rfl rfl (h_st tok rfl rfl rfl rfl rfl rfl wh42 eh42) ?_
  refine sim_end wf ⟨trivial, trivial, trivial, trivial, trivial, trivial, trivial, trivial, trivial, trivial, trivial, trivial, trivial⟩ (by kernel_rfl) ?_
  clear wf P_0 P_1 P_10 P_12 P_2 P_3 P_4 P_5 P_6 P_7 P_8 P_9
  refine x_seq ?_
  refine c_weak [(0, Slc.v p0), (2, .int .i64 p2), (3, .int .i64 p3), (4, .int .i64 p4)] ⟨rfl, rfl, rfl, rfl, trivial⟩ ?_
  refine c_seq ?_
  refine c_sim [(0, Slc.v p0), (2, .int .i64 p2), (3, .int .i64 p3), (4, .int .i64 p4)] (by kernel_rfl) (by kernel_rfl) ⟨rfl, rfl, rfl, rfl, trivial⟩ (fun wf => ?_)
  refine sim_p 0 (ei := [(0, Slc.v p0)]) (d := (some 85)) wf (by kernel_rfl) ⟨rfl, trivial⟩ (by kernel_rfl) (by kernel_rfl) (fun _ => pf_p tok rfl rfl rfl rfl) (fun P_0 => ?_)
  refine sim_p 1 (ei := [(3, .int .i64 p3)]) (d := (some 86)) wf (by kernel_rfl) ⟨rfl, trivial⟩ (by kernel_rfl) (by kernel_rfl) (fun _ => pf_p tok rfl rfl rfl rfl) (fun P_1 => ?_)
  refine sim_p 2 (ei := [(0, Slc.v p0)]) (d := (some 87)) wf (by kernel_rfl) ⟨rfl, trivial⟩ (by kernel_rfl) (by kernel_rfl) (fun _ => pf_p tok rfl rfl rfl rfl) (fun P_2 => ?_)
  refine sim_p 3 (ei := [(3, .int .i64 p3)]) (d := (some 88)) wf (by kernel_rfl) ⟨rfl, trivial⟩ (by kernel_rfl) (by kernel_rfl) (fun _ => pf_p tok rfl rfl rfl rfl) (fun P_3 => ?_)
  obtain ⟨a43, ha43, la43, ua43, H⟩ := H
  refine sim_p 4 (ei := [(87, Slc.v p0), (88, .int .i64 p3)]) (d := (some 89)) wf (by kernel_rfl) ⟨rfl, rfl, trivial⟩ (by kernel_rfl) (by kernel_rfl) (fun _ => pf_y rfl rfl rfl (y_ixa' tok rfl rfl ha43 rfl rfl rfl la43 ua43)) (fun P_4 => ?_)
  obtain ⟨v44, hv44, H⟩ := H
  refine sim_l 5 (ei := [(89, .pointer (some (a43.add (p3.toNat * 1))))]) (d := (some 90)) wf (by kernel_rfl) ⟨rfl, trivial⟩ (by kernel_rfl) (by kernel_rfl) (pf_y rfl rfl rfl (y_ld tok rfl rfl rfl rfl hv44)) (fun P_5 => ?_)
  refine sim_p 6 (ei := [(0, Slc.v p0)]) (d := (some 91)) wf (by kernel_rfl) ⟨rfl, trivial⟩ (by kernel_rfl) (by kernel_rfl) (fun _ => pf_p tok rfl rfl rfl rfl) (fun P_6 => ?_)
  refine sim_p 7 (ei := [(4, .int .i64 p4)]) (d := (some 92)) wf (by kernel_rfl) ⟨rfl, trivial⟩ (by kernel_rfl) (by kernel_rfl) (fun _ => pf_p tok rfl rfl rfl rfl) (fun P_7 => ?_)
  obtain ⟨a45, ha45, la45, ua45, H⟩ := H
  refine sim_p 8 (ei := [(91, Slc.v p0), (92, .int .i64 p4)]) (d := (some 93)) wf (by kernel_rfl) ⟨rfl, rfl, trivial⟩ (by kernel_rfl) (by kernel_rfl) (fun _ => pf_y rfl rfl rfl (y_ixa' tok rfl rfl ha45 rfl rfl rfl la45 ua45)) (fun P_8 => ?_)
  obtain ⟨v46, hv46, H⟩ := H
  refine sim_l 9 (ei := [(93, .pointer (some (a45.add (p4.toNat * 1))))]) (d := (some 94)) wf (by kernel_rfl) ⟨rfl, trivial⟩ (by kernel_rfl) (by kernel_rfl) (pf_y rfl rfl rfl (y_ld tok rfl rfl rfl rfl hv46)) (fun P_9 => ?_)
  refine sim_p 10 (ei := [(90, .int .u32 v44), (94, .int .u32 v46)]) (d := (some 95)) wf (by kernel_rfl) ⟨rfl, rfl, trivial⟩ (by kernel_rfl) (by kernel_rfl) (fun _ => pf_p tok rfl rfl rfl rfl) (fun P_10 => ?_)
  obtain ⟨a47, ha47, la47, ua47, H⟩ := H
  refine sim_p 11 (ei := [(85, Slc.v p0), (86, .int .i64 p3)]) (d := (some 96)) wf (by kernel_rfl) ⟨rfl, rfl, trivial⟩ (by kernel_rfl) (by kernel_rfl) (fun _ => pf_y rfl rfl rfl (y_ixa' tok rfl rfl ha47 rfl rfl rfl la47 ua47)) (fun P_11 => ?_)
  obtain ⟨h48, wh48, eh48, H⟩ := H
  refine sim_h 12 [0, 1, 2, 3, 4, 5, 6, 7, 8, 9, 10, 11] [0, 1, 2, 3, 4, 5, 6, 7, 8, 9, 10, 11] (ei := [(95, .int .u32 (IntKind.u32.wrap (v44 + v46))), (96, .pointer (some (a47.add (p3.toNat * 1))))]) wf ⟨P_11 _, P_10 _, P_9, P_8 _, P_7 _, P_6 _, P_5, P_4 _, P_3 _, P_2 _, P_1 _, P_0 _, trivial⟩ (by kernel_rfl) ⟨rfl, rfl, trivial⟩ (by kernel_rfl) rfl rfl rfl (h_st tok rfl rfl rfl rfl rfl rfl wh48 eh48) ?_
  refine sim_end wf ⟨trivial, trivial, trivial, trivial, trivial, trivial, trivial, trivial, trivial, trivial, trivial, trivial, trivial⟩ (by kernel_rfl) ?_
  clear wf P_0 P_1 P_10 P_11 P_2 P_3 P_4 P_5 P_6 P_7 P_8 P_9
  refine x_seq ?_
  refine c_weak [(0, Slc.v p0), (2, .int .i64 p2), (3, .int .i64 p3)] ⟨rfl, rfl, rfl, trivial⟩ ?_
  refine c_sim [(0, Slc.v p0), (2, .int .i64 p2), (3, .int .i64 p3)] (by kernel_rfl) (by kernel_rfl) ⟨rfl, rfl, rfl, trivial⟩ (fun wf => ?_)
  refine sim_p 0 (ei := [(0, Slc.v p0)]) (d := (some 97)) wf (by kernel_rfl) ⟨rfl, trivial⟩ (by kernel_rfl) (by kernel_rfl) (fun _ => pf_p tok rfl rfl rfl rfl) (fun P_0 => ?_)
  refine sim_p 1 (ei := [(2, .int .i64 p2)]) (d := (some 98)) wf (by kernel_rfl) ⟨rfl, trivial⟩ (by kernel_rfl) (by kernel_rfl) (fun _ => pf_p tok rfl rfl rfl rfl) (fun P_1 => ?_)
  refine sim_p 2 (ei := [(0, Slc.v p0)]) (d := (some 99)) wf (by kernel_rfl) ⟨rfl, trivial⟩ (by kernel_rfl) (by kernel_rfl) (fun _ => pf_p tok rfl rfl rfl rfl) (fun P_2 => ?_)
  refine sim_p 3 (ei := [(2, .int .i64 p2)]) (d := (some 100)) wf (by kernel_rfl) ⟨rfl, trivial⟩ (by kernel_rfl) (by kernel_rfl) (fun _ => pf_p tok rfl rfl rfl rfl) (fun P_3 => ?_)
  obtain ⟨a49, ha49, la49, ua49, H⟩ := H
  refine sim_p 4 (ei := [(99, Slc.v p0), (100, .int .i64 p2)]) (d := (some 101)) wf (by kernel_rfl) ⟨rfl, rfl, trivial⟩ (by kernel_rfl) (by kernel_rfl) (fun _ => pf_y rfl rfl rfl (y_ixa' tok rfl rfl ha49 rfl rfl rfl la49 ua49)) (fun P_4 => ?_)
  obtain ⟨v50, hv50, H⟩ := H
  refine sim_l 5 (ei := [(101, .pointer (some (a49.add (p2.toNat * 1))))]) (d := (some 102)) wf (by kernel_rfl) ⟨rfl, trivial⟩ (by kernel_rfl) (by kernel_rfl) (pf_y rfl rfl rfl (y_ld tok rfl rfl rfl rfl hv50)) (fun P_5 => ?_)
  refine sim_p 6 (ei := [(0, Slc.v p0)]) (d := (some 103)) wf (by kernel_rfl) ⟨rfl, trivial⟩ (by kernel_rfl) (by kernel_rfl) (fun _ => pf_p tok rfl rfl rfl rfl) (fun P_6 => ?_)
  refine sim_p 7 (ei := [(3, .int .i64 p3)]) (d := (some 104)) wf (by kernel_rfl) ⟨rfl, trivial⟩ (by kernel_rfl) (by kernel_rfl) (fun _ => pf_p tok rfl rfl rfl rfl) (fun P_7 => ?_)
  obtain ⟨a51, ha51, la51, ua51, H⟩ := H
  refine sim_p 8 (ei := [(103, Slc.v p0), (104, .int .i64 p3)]) (d := (some 105)) wf (by kernel_rfl) ⟨rfl, rfl, trivial⟩ (by kernel_rfl) (by kernel_rfl) (fun _ => pf_y rfl rfl rfl (y_ixa' tok rfl rfl ha51 rfl rfl rfl la51 ua51)) (fun P_8 => ?_)
  obtain ⟨v52, hv52, H⟩ := H
  refine sim_l 9 (ei := [(105, .pointer (some (a51.add (p3.toNat * 1))))]) (d := (some 106)) wf (by kernel_rfl) ⟨rfl, trivial⟩ (by kernel_rfl) (by kernel_rfl) (pf_y rfl rfl rfl (y_ld tok rfl rfl rfl rfl hv52)) (fun P_9 => ?_)
  refine sim_p 10 (ei := [(102, .int .u32 v50), (106, .int .u32 v52)]) (d := (some 107)) wf (by kernel_rfl) ⟨rfl, rfl, trivial⟩ (by kernel_rfl) (by kernel_rfl) (fun _ => pf_p tok rfl rfl rfl rfl) (fun P_10 => ?_)
  refine sim_c 11 [2, 3, 4, 5, 6, 7, 8, 9, 10] [2, 3, 4, 5, 6, 7, 8, 9, 10] (ei := [(107, .int .u32 (bwXor .u32 v50 v52))]) ref04_turn_ok (ref04_turn_ref _ _ _ _ H) wf ⟨P_10 _, P_9, P_8 _, P_7 _, P_6 _, P_5, P_4 _, P_3 _, P_2 _, P_1 _, P_0 _, trivial⟩ (by kernel_rfl) ⟨rfl, trivial⟩ (by kernel_rfl) rfl rfl rfl rfl rfl ?_
  rintro _ h54 ⟨r53, rfl, H⟩
  obtain ⟨a55, ha55, la55, ua55, H⟩ := H
  refine sim_p 12 (ei := [(97, Slc.v p0), (98, .int .i64 p2)]) (d := (some 109)) wf (by kernel_rfl) ⟨rfl, rfl, trivial⟩ (by kernel_rfl) (by kernel_rfl) (fun _ => pf_y rfl rfl rfl (y_ixa' tok rfl rfl ha55 rfl rfl rfl la55 ua55)) (fun P_12 => ?_)
  obtain ⟨h56, wh56, eh56, H⟩ := H
  refine sim_h 13 [0, 1, 2, 3, 4, 5, 6, 7, 8, 9, 10, 11, 12] [0, 1, 2, 3, 4, 5, 6, 7, 8, 9, 10, 12] (ei := [(108, .int .u32 r53), (109, .pointer (some (a55.add (p2.toNat * 1))))]) wf ⟨P_12 _, trivial, trivial, trivial, trivial, trivial, trivial, trivial, trivial, trivial, P_1 _, P_0 _, trivial⟩ (by kernel_rfl) ⟨rfl, rfl, trivial⟩ (by kernel_rfl) rfl rfl rfl (h_st tok rfl rfl rfl rfl rfl rfl wh56 eh56) ?_
  refine sim_end wf ⟨trivial, trivial, trivial, trivial, trivial, trivial, trivial, trivial, trivial, trivial, trivial, trivial, trivial⟩ (by kernel_rfl) ?_
  clear wf P_0 P_1 P_10 P_12 P_2 P_3 P_4 P_5 P_6 P_7 P_8 P_9
  exact x_end _ rfl _ rfl ⟨(), rfl, H⟩

theorem ref04_Block_ok : CallOk Go.Proofs.Tryd.prog 9 := ⟨_, Go.Proofs.Tryd.func9, by kernel_rfl, by kernel_rfl⟩
theorem ref04_Block_ref (p0 : List Int) (p1 : Int) (p2 : List Int) (k : (Slc) → Heap → Prop) (h : Heap) (H : ref04_Block p0 p1 p2 k h) : CallsH Go.Proofs.Tryd.prog 9 #[.agg ((p0).map (Value.int .u8)).toArray, .int .u32 p1, .agg ((p2).map (Value.int .u8)).toArray] h (fun v h' => ∃ r : Slc, v = Slc.v r ∧ k r h') := by
  refine f_enter (N := 103) Go.Proofs.Tryd.func9 rfl rfl rfl (fun w0 => ?_)
  unfold ref04_Block at H
  refine c_weak [(0, .agg ((p0).map (Value.int .u8)).toArray), (1, .int .u32 p1), (2, .agg ((p2).map (Value.int .u8)).toArray)] ⟨rfl, rfl, rfl, trivial⟩ ?_
  refine c_seq ?_
  refine c_region ?_
  obtain ⟨b1, h2, eb1, eh2, H⟩ := H
  refine w_h (h_box rfl rfl eb1 eh2) rfl rfl ?_
  obtain ⟨b3, h4, eb3, eh4, H⟩ := H
  refine w_h (h_box rfl rfl eb3 eh4) rfl rfl ?_
  refine w_p tok rfl rfl rfl ?_
  refine w_end ?_
  refine x_seq ?_
  refine c_seq ?_
  refine c_region ?_
  obtain ⟨b5, h6, eb5, eh6, H⟩ := H
  refine w_h (h_bs tok rfl rfl rfl rfl rfl rfl rfl eb5 eh6) rfl rfl ?_
  obtain ⟨h7, eh7, H⟩ := H
  refine w_h (h_mark tok rfl rfl rfl rfl eb5 eh6 rfl eh7) rfl rfl ?_
  refine w_p tok rfl rfl rfl ?_
  refine w_end ?_
  refine x_seq ?_
  refine c_seq ?_
  refine c_region ?_
  refine w_p tok rfl rfl rfl ?_
  obtain ⟨s8, ps8, qs8, rs8, es8, H⟩ := H
  refine w_ye (y_sla (L := 0) (H := 32) tok rfl rfl rfl rfl rfl rfl ps8 qs8 rs8) (congrArg Slc.v es8) rfl rfl ?_
  obtain ⟨l11, hl11, H⟩ := H
  refine w_a (a_app (s := (⟨some ⟨b5, 0, none⟩, 16, 16⟩ : Slc)) (r := s8) tok rfl rfl rfl rfl rfl hl11 H) rfl rfl ?_
  rintro _ h10 ⟨s9, rfl, H⟩
  refine w_p tok rfl rfl rfl ?_
  refine w_end ?_
  refine x_seq ?_
  refine c_weak [(1, .int .u32 p1), (5, .pointer (some (⟨b3, 0, none⟩ : Addr))), (7, Slc.v s9)] ⟨rfl, rfl, rfl, trivial⟩ ?_
  refine c_seq ?_
  refine c_region ?_
  refine w_p tok rfl rfl rfl ?_
  refine w_p tok rfl rfl rfl ?_
  refine w_p tok rfl rfl rfl ?_
  refine w_call ref01_Form_ok (ref01_Form_ref _ _ _ _ H) rfl rfl rfl rfl ?_
  rintro _ h13 ⟨r12, rfl, H⟩
  obtain ⟨l16, hl16, H⟩ := H
  refine w_a (a_app (s := s9) (r := r12) tok rfl rfl rfl rfl rfl hl16 H) rfl rfl ?_
  rintro _ h15 ⟨s14, rfl, H⟩
  refine w_p tok rfl rfl rfl ?_
  refine w_end ?_
  refine x_seq ?_
  refine c_seq ?_
  refine c_region ?_
  refine w_p tok rfl rfl rfl ?_
  obtain ⟨s17, ps17, qs17, rs17, es17, H⟩ := H
  refine w_ye (y_sla (L := 0) (H := 12) tok rfl rfl rfl rfl rfl rfl ps17 qs17 rs17) (congrArg Slc.v es17) rfl rfl ?_
  obtain ⟨l20, hl20, H⟩ := H
  refine w_a (a_app (s := s14) (r := s17) tok rfl rfl rfl rfl rfl hl20 H) rfl rfl ?_
  rintro _ h19 ⟨s18, rfl, H⟩
  refine w_p tok rfl rfl rfl ?_
  refine w_end ?_
  refine x_seq ?_
  refine c_weak [(7, Slc.v s18)] ⟨rfl, trivial⟩ ?_
  refine c_seq ?_
  refine c_region ?_
  refine w_p tok rfl rfl rfl ?_
  refine w_p tok rfl rfl rfl ?_
  refine w_end ?_
  refine x_seq ?_
  refine c_seq ?_
  refine c_seq ?_
  refine c_region ?_
  refine w_p tok rfl rfl rfl ?_
  refine w_end ?_
  refine x_seq ?_
  refine c_block ?_
  obtain ⟨I1, μ1, H0, HI⟩ := H
  refine c_loop (σ := Slc × Slc × Int) (fun (s : Slc × Slc × Int) => [(8, Slc.v s.1), (9, Slc.v s.2.1), (10, .int .i64 s.2.2), (7, Slc.v s18)]) I1 μ1 ((⟨none, 0, 0⟩ : Slc), (⟨none, 0, 0⟩ : Slc), 0) H0 ⟨rfl, rfl, rfl, rfl, trivial⟩ ?_
  rintro ⟨t8_1, t9_1, t10_1⟩ h_1 H
  replace H := HI t8_1 t9_1 t10_1 h_1 H
  unfold ref04_Block_l1b at H
  refine c_weak [(8, Slc.v t8_1), (9, Slc.v t9_1), (10, .int .i64 t10_1), (7, Slc.v s18)] ⟨rfl, rfl, rfl, rfl, trivial⟩ ?_
  refine c_seq ?_
  refine c_seq ?_
  refine c_region ?_
  refine w_p tok rfl rfl rfl ?_
  refine w_p tok rfl rfl rfl ?_
  refine w_end ?_
  refine x_seq ?_
  refine c_if H rfl (fun H => ?_) (fun H => ?_)
  ·
    refine c_skip ?_
    refine x_seq ?_
    refine c_seq ?_
    refine c_block ?_
    refine c_seq ?_
    refine c_region ?_
    refine w_p tok rfl rfl rfl ?_
    refine w_p tok rfl rfl rfl ?_
    refine w_p tok rfl rfl rfl ?_
    refine w_p tok rfl rfl rfl ?_
    obtain ⟨s21, ps21, qs21, rs21, ts21, es21, H⟩ := H
    refine w_ye (y_sl (s := s18) (L := (IntKind.i64.wrap (4 * t10_1))) (H := (s18.len : Int)) (M := (s18.cap : Int)) tok rfl rfl rfl rfl rfl rfl rfl (by simp) ps21 qs21 rs21 ts21) (congrArg Slc.v es21) rfl rfl ?_
    refine w_call ref04_word_ok (ref04_word_ref _ _ _ H) rfl rfl rfl rfl ?_
    rintro _ h23 ⟨r22, rfl, H⟩
    obtain ⟨b24, h25, eb24, eh25, H⟩ := H
    refine w_h (h_bs tok rfl rfl rfl rfl rfl rfl rfl eb24 eh25) rfl rfl ?_
    refine w_a (a_app (s := t8_1) (r := (⟨some ⟨b24, 0, none⟩, 1, 1⟩ : Slc)) tok rfl rfl rfl rfl rfl (slcAt_push eb24 eh25) H) rfl rfl ?_
    rintro _ h27 ⟨s26, rfl, H⟩
    refine w_p tok rfl rfl rfl ?_
    refine w_end ?_
    refine x_seq ?_
    refine c_weak [(8, Slc.v s26), (9, Slc.v t9_1), (10, .int .i64 t10_1), (7, Slc.v s18)] ⟨rfl, rfl, rfl, rfl, trivial⟩ ?_
    refine c_region ?_
    refine w_p tok rfl rfl rfl ?_
    refine w_p tok rfl rfl rfl ?_
    refine w_p tok rfl rfl rfl ?_
    refine w_p tok rfl rfl rfl ?_
    obtain ⟨s28, ps28, qs28, rs28, ts28, es28, H⟩ := H
    refine w_ye (y_sl (s := s18) (L := (IntKind.i64.wrap (4 * t10_1))) (H := (s18.len : Int)) (M := (s18.cap : Int)) tok rfl rfl rfl rfl rfl rfl rfl (by simp) ps28 qs28 rs28 ts28) (congrArg Slc.v es28) rfl rfl ?_
    refine w_call ref04_word_ok (ref04_word_ref _ _ _ H) rfl rfl rfl rfl ?_
    rintro _ h30 ⟨r29, rfl, H⟩
    obtain ⟨b31, h32, eb31, eh32, H⟩ := H
    refine w_h (h_bs tok rfl rfl rfl rfl rfl rfl rfl eb31 eh32) rfl rfl ?_
    refine w_a (a_app (s := t9_1) (r := (⟨some ⟨b31, 0, none⟩, 1, 1⟩ : Slc)) tok rfl rfl rfl rfl rfl (slcAt_push eb31 eh32) H) rfl rfl ?_
    rintro _ h34 ⟨s33, rfl, H⟩
    refine w_p tok rfl rfl rfl ?_
    refine w_end ?_
    refine x_blk ?_
    refine x_seq ?_
    refine c_weak [(8, Slc.v s26), (9, Slc.v s33), (10, .int .i64 t10_1), (7, Slc.v s18)] ⟨rfl, rfl, rfl, rfl, trivial⟩ ?_
    refine c_region ?_
    refine w_p tok rfl rfl rfl ?_
    refine w_p tok rfl rfl rfl ?_
    obtain ⟨x35, ex35, H⟩ := H
    refine w_pe tok rfl (congrArg (fun z => (.int .i64 z : Value)) ex35) rfl rfl ?_
    refine w_end ?_
    exact x_join (s26, s33, x35) H ⟨rfl, rfl, rfl, rfl, trivial⟩
  ·
    refine c_exit ?_
    refine x_te ?_
    refine x_te ?_
    refine x_bh ?_
    refine x_seq ?_
    refine c_seq ?_
    refine c_seq ?_
    refine c_region ?_
    refine w_p tok rfl rfl rfl ?_
    refine w_end ?_
    refine x_seq ?_
    refine c_block ?_
    obtain ⟨I2, μ2, H0, HI⟩ := H
    refine c_loop (σ := Int) (fun (s : Int) => [(11, .int .i64 s), (8, Slc.v t8_1), (9, Slc.v t9_1)]) I2 μ2 0 H0 ⟨rfl, rfl, rfl, trivial⟩ ?_
    rintro t11_2 h_2 H
    replace H := HI t11_2 h_2 H
    unfold ref04_Block_l2b at H
    refine c_weak [(11, .int .i64 t11_2), (8, Slc.v t8_1), (9, Slc.v t9_1)] ⟨rfl, rfl, rfl, trivial⟩ ?_
    refine c_seq ?_
    refine c_seq ?_
    refine c_region ?_
    refine w_p tok rfl rfl rfl ?_
    refine w_p tok rfl rfl rfl ?_
    refine w_end ?_
    refine x_seq ?_
    refine c_if H rfl (fun H => ?_) (fun H => ?_)
    ·
      refine c_skip ?_
      refine x_seq ?_
      refine c_seq ?_
      refine c_block ?_
      refine c_seq ?_
      refine c_seq ?_
      refine c_region ?_
      refine w_p tok rfl rfl rfl ?_
      refine w_end ?_
      refine x_seq ?_
      refine c_block ?_
      obtain ⟨I3, μ3, H0, HI⟩ := H
      refine c_loop (σ := Int) (fun (s : Int) => [(12, .int .i64 s), (8, Slc.v t8_1), (9, Slc.v t9_1), (11, .int .i64 t11_2)]) I3 μ3 0 H0 ⟨rfl, rfl, rfl, rfl, trivial⟩ ?_
      rintro t12_3 h_3 H
      replace H := HI t12_3 h_3 H
      unfold ref04_Block_l3b at H
      refine c_weak [(12, .int .i64 t12_3), (8, Slc.v t8_1), (9, Slc.v t9_1), (11, .int .i64 t11_2)] ⟨rfl, rfl, rfl, rfl, trivial⟩ ?_
      refine c_seq ?_
      refine c_seq ?_
      refine c_region ?_
      refine w_p tok rfl rfl rfl ?_
      refine w_p tok rfl rfl rfl ?_
      refine w_end ?_
      refine x_seq ?_
      refine c_if H rfl (fun H => ?_) (fun H => ?_)
      ·
        refine c_skip ?_
        refine x_seq ?_
        refine c_seq ?_
        refine c_block ?_
        refine c_region ?_
        refine w_p tok rfl rfl rfl ?_
        refine w_p tok rfl rfl rfl ?_
        refine w_p tok rfl rfl rfl ?_
        refine w_p tok rfl rfl rfl ?_
        refine w_p tok rfl rfl rfl ?_
        refine w_p tok rfl rfl rfl ?_
        refine w_p tok rfl rfl rfl ?_
        refine w_p tok rfl rfl rfl ?_
        refine w_call ref04_quarter_ok (ref04_quarter_ref _ _ _ _ _ _ _ H) rfl rfl rfl rfl ?_
        rintro _ h37 ⟨r36, rfl, H⟩
        refine w_end ?_
        refine x_blk ?_
        refine x_seq ?_
        refine c_weak [(12, .int .i64 t12_3), (8, Slc.v t8_1), (9, Slc.v t9_1), (11, .int .i64 t11_2)] ⟨rfl, rfl, rfl, rfl, trivial⟩ ?_
        refine c_region ?_
        refine w_p tok rfl rfl rfl ?_
        refine w_p tok rfl rfl rfl ?_
        obtain ⟨x38, ex38, H⟩ := H
        refine w_pe tok rfl (congrArg (fun z => (.int .i64 z : Value)) ex38) rfl rfl ?_
        refine w_end ?_
        exact x_join x38 H ⟨rfl, rfl, rfl, rfl, trivial⟩
      ·
        refine c_exit ?_
        refine x_te ?_
        refine x_te ?_
        refine x_bh ?_
        refine x_seq ?_
        refine c_seq ?_
        refine c_region ?_
        refine w_p tok rfl rfl rfl ?_
        refine w_end ?_
        refine x_seq ?_
        refine c_block ?_
        obtain ⟨I4, μ4, H0, HI⟩ := H
        refine c_loop (σ := Int) (fun (s : Int) => [(13, .int .i64 s), (8, Slc.v t8_1), (9, Slc.v t9_1), (11, .int .i64 t11_2)]) I4 μ4 0 H0 ⟨rfl, rfl, rfl, rfl, trivial⟩ ?_
        rintro t13_4 h_4 H
        replace H := HI t13_4 h_4 H
        unfold ref04_Block_l4b at H
        refine c_weak [(13, .int .i64 t13_4), (8, Slc.v t8_1), (9, Slc.v t9_1), (11, .int .i64 t11_2)] ⟨rfl, rfl, rfl, rfl, trivial⟩ ?_
        refine c_seq ?_
        refine c_seq ?_
        refine c_region ?_
        refine w_p tok rfl rfl rfl ?_
        refine w_p tok rfl rfl rfl ?_
        refine w_end ?_
        refine x_seq ?_
        refine c_if H rfl (fun H => ?_) (fun H => ?_)
        ·
          refine c_skip ?_
          refine x_seq ?_
          refine c_seq ?_
          refine c_block ?_
          refine c_region ?_
          refine w_p tok rfl rfl rfl ?_
          refine w_p tok rfl rfl rfl ?_
          refine w_p tok rfl rfl rfl ?_
          refine w_p tok rfl rfl rfl ?_
          refine w_p tok rfl rfl rfl ?_
          refine w_p tok rfl rfl rfl ?_
          refine w_p tok rfl rfl rfl ?_
          refine w_p tok rfl rfl rfl ?_
          refine w_p tok rfl rfl rfl ?_
          refine w_p tok rfl rfl rfl ?_
          refine w_p tok rfl rfl rfl ?_
          refine w_p tok rfl rfl rfl ?_
          refine w_p tok rfl rfl rfl ?_
          refine w_p tok rfl rfl rfl ?_
          refine w_call ref04_quarter_ok (ref04_quarter_ref _ _ _ _ _ _ _ H) rfl rfl rfl rfl ?_
          rintro _ h40 ⟨r39, rfl, H⟩
          refine w_end ?_
          refine x_blk ?_
          refine x_seq ?_
          refine c_weak [(13, .int .i64 t13_4), (8, Slc.v t8_1), (9, Slc.v t9_1), (11, .int .i64 t11_2)] ⟨rfl, rfl, rfl, rfl, trivial⟩ ?_
          refine c_region ?_
          refine w_p tok rfl rfl rfl ?_
          refine w_p tok rfl rfl rfl ?_
          obtain ⟨x41, ex41, H⟩ := H
          refine w_pe tok rfl (congrArg (fun z => (.int .i64 z : Value)) ex41) rfl rfl ?_
          refine w_end ?_
          exact x_join x41 H ⟨rfl, rfl, rfl, rfl, trivial⟩
        ·
          refine c_exit ?_
          refine x_te ?_
          refine x_te ?_
          refine x_bh ?_
          refine x_blk ?_
          refine x_seq ?_
          refine c_region ?_
          refine w_p tok rfl rfl rfl ?_
          refine w_p tok rfl rfl rfl ?_
          obtain ⟨x42, ex42, H⟩ := H
          refine w_pe tok rfl (congrArg (fun z => (.int .i64 z : Value)) ex42) rfl rfl ?_
          refine w_end ?_
          exact x_join x42 H ⟨rfl, rfl, rfl, trivial⟩
    ·
      refine c_exit ?_
      refine x_te ?_
      refine x_te ?_
      refine x_bh ?_
      refine x_seq ?_
      refine c_seq ?_
      refine c_region ?_
      refine w_p tok rfl rfl rfl ?_
      refine w_end ?_
      refine x_seq ?_
      refine c_seq ?_
      refine c_seq ?_
      refine c_region ?_
      refine w_p tok rfl rfl rfl ?_
      refine w_end ?_
      refine x_seq ?_
      refine c_block ?_
      obtain ⟨I5, μ5, H0, HI⟩ := H
      refine c_loop (σ := Slc × Int) (fun (s : Slc × Int) => [(14, Slc.v s.1), (15, .int .i64 s.2), (8, Slc.v t8_1), (9, Slc.v t9_1)]) I5 μ5 ((⟨none, 0, 0⟩ : Slc), 0) H0 ⟨rfl, rfl, rfl, rfl, trivial⟩ ?_
      rintro ⟨t14_5, t15_5⟩ h_5 H
      replace H := HI t14_5 t15_5 h_5 H
      unfold ref04_Block_l5b at H
      refine c_weak [(14, Slc.v t14_5), (15, .int .i64 t15_5), (8, Slc.v t8_1), (9, Slc.v t9_1)] ⟨rfl, rfl, rfl, rfl, trivial⟩ ?_
      refine c_seq ?_
      refine c_seq ?_
      refine c_region ?_
      refine w_p tok rfl rfl rfl ?_
      refine w_p tok rfl rfl rfl ?_
      refine w_end ?_
      refine x_seq ?_
      refine c_if H rfl (fun H => ?_) (fun H => ?_)
      ·
        refine c_skip ?_
        refine x_seq ?_
        refine c_seq ?_
        refine c_block ?_
        refine c_sim [(8, Slc.v t8_1), (9, Slc.v t9_1), (14, Slc.v t14_5), (15, .int .i64 t15_5)] (by kernel_rfl) (by kernel_rfl) ⟨rfl, rfl, rfl, rfl, trivial⟩ (fun wf => ?_)
        refine sim_p 0 (ei := [(14, Slc.v t14_5)]) (d := (some 89)) wf (by kernel_rfl) ⟨rfl, trivial⟩ (by kernel_rfl) (by kernel_rfl) (fun _ => pf_p tok rfl rfl rfl rfl) (fun P_0 => ?_)
        refine sim_p 1 (ei := [(9, Slc.v t9_1)]) (d := (some 90)) wf (by kernel_rfl) ⟨rfl, trivial⟩ (by kernel_rfl) (by kernel_rfl) (fun _ => pf_p tok rfl rfl rfl rfl) (fun P_1 => ?_)
        refine sim_p 2 (ei := [(15, .int .i64 t15_5)]) (d := (some 91)) wf (by kernel_rfl) ⟨rfl, trivial⟩ (by kernel_rfl) (by kernel_rfl) (fun _ => pf_p tok rfl rfl rfl rfl) (fun P_2 => ?_)
        obtain ⟨a43, ha43, la43, ua43, H⟩ := H
        refine sim_p 3 (ei := [(90, Slc.v t9_1), (91, .int .i64 t15_5)]) (d := (some 92)) wf (by kernel_rfl) ⟨rfl, rfl, trivial⟩ (by kernel_rfl) (by kernel_rfl) (fun _ => pf_y rfl rfl rfl (y_ixa' tok rfl rfl ha43 rfl rfl rfl la43 ua43)) (fun P_3 => ?_)
        obtain ⟨v44, hv44, H⟩ := H
        refine sim_l 4 (ei := [(92, .pointer (some (a43.add (t15_5.toNat * 1))))]) (d := (some 93)) wf (by kernel_rfl) ⟨rfl, trivial⟩ (by kernel_rfl) (by kernel_rfl) (pf_y rfl rfl rfl (y_ld tok rfl rfl rfl rfl hv44)) (fun P_4 => ?_)
        refine sim_p 5 (ei := [(8, Slc.v t8_1)]) (d := (some 94)) wf (by kernel_rfl) ⟨rfl, trivial⟩ (by kernel_rfl) (by kernel_rfl) (fun _ => pf_p tok rfl rfl rfl rfl) (fun P_5 => ?_)
        refine sim_p 6 (ei := [(15, .int .i64 t15_5)]) (d := (some 95)) wf (by kernel_rfl) ⟨rfl, trivial⟩ (by kernel_rfl) (by kernel_rfl) (fun _ => pf_p tok rfl rfl rfl rfl) (fun P_6 => ?_)
        obtain ⟨a45, ha45, la45, ua45, H⟩ := H
        refine sim_p 7 (ei := [(94, Slc.v t8_1), (95, .int .i64 t15_5)]) (d := (some 96)) wf (by kernel_rfl) ⟨rfl, rfl, trivial⟩ (by kernel_rfl) (by kernel_rfl) (fun _ => pf_y rfl rfl rfl (y_ixa' tok rfl rfl ha45 rfl rfl rfl la45 ua45)) (fun P_7 => ?_)
        obtain ⟨v46, hv46, H⟩ := H
        refine sim_l 8 (ei := [(96, .pointer (some (a45.add (t15_5.toNat * 1))))]) (d := (some 97)) wf (by kernel_rfl) ⟨rfl, trivial⟩ (by kernel_rfl) (by kernel_rfl) (pf_y rfl rfl rfl (y_ld tok rfl rfl rfl rfl hv46)) (fun P_8 => ?_)
        refine sim_p 9 (ei := [(93, .int .u32 v44), (97, .int .u32 v46)]) (d := (some 98)) wf (by kernel_rfl) ⟨rfl, rfl, trivial⟩ (by kernel_rfl) (by kernel_rfl) (fun _ => pf_p tok rfl rfl rfl rfl) (fun P_9 => ?_)
        refine sim_p 10 (ei := [(98, .int .u32 (IntKind.u32.wrap (v44 + v46)))]) (d := (some 99)) wf (by kernel_rfl) ⟨rfl, trivial⟩ (by kernel_rfl) (by kernel_rfl) (fun _ => pf_p tok rfl rfl rfl rfl) (fun P_10 => ?_)
        refine sim_c 11 [1, 2, 3, 4, 5, 6, 7, 8, 9, 10] [1, 2, 3, 4, 5, 6, 7, 8, 9, 10] (ei := [(99, .int .u64 (IntKind.u64.wrap (IntKind.u32.wrap (v44 + v46))))]) ref01_Form_ok (ref01_Form_ref _ _ _ _ H) wf ⟨P_10 _, P_9 _, P_8, P_7 _, P_6 _, P_5 _, P_4, P_3 _, P_2 _, P_1 _, P_0 _, trivial⟩ (by kernel_rfl) ⟨rfl, trivial⟩ (by kernel_rfl) rfl rfl rfl rfl rfl ?_
        rintro _ h48 ⟨r47, rfl, H⟩
        obtain ⟨l51, hl51, H⟩ := H
        refine sim_a 12 [0, 1, 2, 3, 4, 5, 6, 7, 8, 9, 10, 11] [0, 1, 2, 3, 4, 5, 6, 7, 8, 9, 10] (ei := [(89, Slc.v t14_5), (100, Slc.v r47)]) wf ⟨trivial, trivial, trivial, trivial, trivial, trivial, trivial, trivial, trivial, trivial, P_0 _, trivial⟩ (by kernel_rfl) ⟨rfl, rfl, trivial⟩ (by kernel_rfl) rfl rfl rfl (a_app (s := t14_5) (r := r47) tok rfl rfl rfl rfl rfl hl51 H) ?_
        rintro _ h50 ⟨s49, rfl, H⟩
        refine sim_p 13 (ei := [(101, Slc.v s49)]) (d := (some 14)) wf (by kernel_rfl) ⟨rfl, trivial⟩ (by kernel_rfl) (by kernel_rfl) (fun _ => pf_p tok rfl rfl rfl rfl) (fun P_13 => ?_)
        refine sim_end wf ⟨P_13 _, trivial, trivial, trivial, trivial, trivial, trivial, trivial, trivial, trivial, trivial, trivial, trivial⟩ (by kernel_rfl) ?_
        clear wf P_0 P_1 P_10 P_13 P_2 P_3 P_4 P_5 P_6 P_7 P_8 P_9
        refine x_blk ?_
        refine x_seq ?_
        refine c_weak [(8, Slc.v t8_1), (9, Slc.v t9_1), (14, Slc.v s49), (15, .int .i64 t15_5)] ⟨rfl, rfl, rfl, rfl, trivial⟩ ?_
        refine c_region ?_
        refine w_p tok rfl rfl rfl ?_
        refine w_p tok rfl rfl rfl ?_
        obtain ⟨x52, ex52, H⟩ := H
        refine w_pe tok rfl (congrArg (fun z => (.int .i64 z : Value)) ex52) rfl rfl ?_
        refine w_end ?_
        exact x_join (s49, x52) H ⟨rfl, rfl, rfl, rfl, trivial⟩
      ·
        refine c_exit ?_
        refine x_te ?_
        refine x_te ?_
        refine x_bh ?_
        refine x_seq ?_
        refine c_seq ?_
        refine c_region ?_
        refine w_p tok rfl rfl rfl ?_
        refine w_p tok rfl rfl rfl ?_
        refine w_end ?_
        refine x_seq ?_
        refine c_weak [(6, Slc.v t14_5)] ⟨rfl, trivial⟩ ?_
        refine c_ret ?_
        exact x_ret _ rfl _ rfl ⟨t14_5, rfl, H⟩

theorem law04_awake_ok : CallOk Go.Proofs.Tryd.prog 10 := ⟨_, Go.Proofs.Tryd.func10, by kernel_rfl, by kernel_rfl⟩
theorem law04_awake_ref (k : (Bool) → Heap → Prop) (h : Heap) (H : law04_awake k h) : CallsH Go.Proofs.Tryd.prog 10 #[] h (fun v h' => ∃ r : Bool, v = .bool r ∧ k r h') := by
  refine f_enter (N := 38) Go.Proofs.Tryd.func10 rfl rfl rfl (fun w0 => ?_)
  unfold law04_awake at H
  refine c_seq ?_
  refine c_region ?_
  refine w_p tok rfl rfl rfl ?_
  refine w_end ?_
  refine x_seq ?_
  refine c_seq ?_
  refine c_region ?_
  obtain ⟨b1, h2, eb1, eh2, H⟩ := H
  refine w_h (h_alloc tok rfl rfl eb1 eh2) rfl rfl ?_
  refine w_end ?_
  refine x_seq ?_
  refine c_seq ?_
  refine c_seq ?_
  refine c_region ?_
  refine w_p tok rfl rfl rfl ?_
  refine w_end ?_
  refine x_seq ?_
  refine c_block ?_
  obtain ⟨I1, μ1, H0, HI⟩ := H
  refine c_loop (σ := Int) (fun (s : Int) => [(2, .int .i64 s), (1, .pointer (some (⟨b1, 0, none⟩ : Addr)))]) I1 μ1 0 H0 ⟨rfl, rfl, trivial⟩ ?_
  rintro t2_1 h_1 H
  replace H := HI t2_1 h_1 H
  unfold law04_awake_l1b at H
  refine c_weak [(2, .int .i64 t2_1), (1, .pointer (some (⟨b1, 0, none⟩ : Addr)))] ⟨rfl, rfl, trivial⟩ ?_
  refine c_seq ?_
  refine c_seq ?_
  refine c_region ?_
  refine w_p tok rfl rfl rfl ?_
  refine w_p tok rfl rfl rfl ?_
  refine w_end ?_
  refine x_seq ?_
  refine c_if H rfl (fun H => ?_) (fun H => ?_)
  ·
    refine c_skip ?_
    refine x_seq ?_
    refine c_seq ?_
    refine c_block ?_
    refine c_region ?_
    refine w_p tok rfl rfl rfl ?_
    refine w_p tok rfl rfl rfl ?_
    refine w_p tok rfl rfl rfl ?_
    obtain ⟨lb3, ub3, H⟩ := H
    refine w_y (y_ixp tok rfl rfl rfl rfl rfl lb3 ub3) rfl rfl ?_
    obtain ⟨h4, wh4, eh4, H⟩ := H
    refine w_h (h_st tok rfl rfl rfl rfl rfl rfl wh4 eh4) rfl rfl ?_
    refine w_end ?_
    refine x_blk ?_
    refine x_seq ?_
    refine c_region ?_
    refine w_p tok rfl rfl rfl ?_
    refine w_p tok rfl rfl rfl ?_
    obtain ⟨x5, ex5, H⟩ := H
    refine w_pe tok rfl (congrArg (fun z => (.int .i64 z : Value)) ex5) rfl rfl ?_
    refine w_end ?_
    exact x_join x5 H ⟨rfl, rfl, trivial⟩
  ·
    refine c_exit ?_
    refine x_te ?_
    refine x_te ?_
    refine x_bh ?_
    refine x_seq ?_
    refine c_seq ?_
    refine c_region ?_
    obtain ⟨v6, lv6, hv6, H⟩ := H
    refine w_y (y_lda tok rfl rfl rfl rfl (by rw [List.length_map]; exact lv6) hv6) rfl rfl ?_
    refine w_y (y_builda tok rfl rfl rfl rfl rfl) rfl rfl ?_
    refine w_call chacha_Block_ok (chacha_Block_ref _ _ _ _ _ H) rfl rfl rfl rfl ?_
    rintro _ h8 ⟨r7, rfl, H⟩
    obtain ⟨b9, h10, eb9, eh10, H⟩ := H
    refine w_h (h_alloc tok rfl rfl eb9 eh10) rfl rfl ?_
    obtain ⟨h11, lh11, wh11, eh11, H⟩ := H
    refine w_h (h_sts tok rfl rfl rfl rfl (by rw [List.length_map]; exact lh11.symm) (one_ints _ _) wh11 eh11) rfl rfl ?_
    refine w_end ?_
    refine x_seq ?_
    refine c_weak [(3, .pointer (some (⟨b9, 0, none⟩ : Addr)))] ⟨rfl, trivial⟩ ?_
    refine c_seq ?_
    refine c_region ?_
    obtain ⟨lb12, ub12, H⟩ := H
    refine w_y (y_ixp tok rfl rfl rfl rfl rfl lb12 ub12) rfl rfl ?_
    obtain ⟨v13, hv13, H⟩ := H
    refine w_y (y_ld tok rfl rfl rfl rfl hv13) rfl rfl ?_
    refine w_p tok rfl rfl rfl ?_
    refine w_p tok rfl rfl rfl ?_
    refine w_cut 4 (α := Bool) (fun (s : Bool) => [(22, .bool s), (3, .pointer (some (⟨b9, 0, none⟩ : Addr)))]) (fun (s : Bool) h => law04_awake_g2 (⟨b9, 0, none⟩ : Addr) s k (fun s h' => I1 s h' ∧ μ1 s h' < μ1 t2_1 h_1) h) ?_ ?_
    ·
      rintro t22_2 h_2 H
      replace H : law04_awake_g2 (⟨b9, 0, none⟩ : Addr) t22_2 k (fun s h' => I1 s h' ∧ μ1 s h' < μ1 t2_1 h_1) h_2 := H
      unfold law04_awake_g2 at H
      refine w_weak [(22, .bool t22_2), (3, .pointer (some (⟨b9, 0, none⟩ : Addr)))] ⟨rfl, rfl, trivial⟩ ?_
      refine w_p tok rfl rfl rfl ?_
      refine w_cut 4 (α := Bool) (fun (s : Bool) => [(27, .bool s), (3, .pointer (some (⟨b9, 0, none⟩ : Addr)))]) (fun (s : Bool) h => law04_awake_g3 (⟨b9, 0, none⟩ : Addr) s k (fun s h' => I1 s h' ∧ μ1 s h' < μ1 t2_1 h_1) h) ?_ ?_
      ·
        rintro t27_3 h_3 H
        replace H : law04_awake_g3 (⟨b9, 0, none⟩ : Addr) t27_3 k (fun s h' => I1 s h' ∧ μ1 s h' < μ1 t2_1 h_1) h_3 := H
        unfold law04_awake_g3 at H
        refine w_weak [(27, .bool t27_3), (3, .pointer (some (⟨b9, 0, none⟩ : Addr)))] ⟨rfl, rfl, trivial⟩ ?_
        refine w_p tok rfl rfl rfl ?_
        refine w_cut 4 (α := Bool) (fun (s : Bool) => [(32, .bool s), (3, .pointer (some (⟨b9, 0, none⟩ : Addr)))]) (fun (s : Bool) h => law04_awake_g4 (⟨b9, 0, none⟩ : Addr) s k (fun s h' => I1 s h' ∧ μ1 s h' < μ1 t2_1 h_1) h) ?_ ?_
        ·
          rintro t32_4 h_4 H
          replace H : law04_awake_g4 (⟨b9, 0, none⟩ : Addr) t32_4 k (fun s h' => I1 s h' ∧ μ1 s h' < μ1 t2_1 h_1) h_4 := H
          unfold law04_awake_g4 at H
          refine w_weak [(32, .bool t32_4), (3, .pointer (some (⟨b9, 0, none⟩ : Addr)))] ⟨rfl, rfl, trivial⟩ ?_
          refine w_p tok rfl rfl rfl ?_
          refine w_cut 4 (α := Bool) (fun (s : Bool) => [(37, .bool s)]) (fun (s : Bool) h => law04_awake_g5 s k (fun s h' => I1 s h' ∧ μ1 s h' < μ1 t2_1 h_1) h) ?_ ?_
          ·
            rintro t37_5 h_5 H
            replace H : law04_awake_g5 t37_5 k (fun s h' => I1 s h' ∧ μ1 s h' < μ1 t2_1 h_1) h_5 := H
            unfold law04_awake_g5 at H
            refine w_weak [(37, .bool t37_5)] ⟨rfl, trivial⟩ ?_
            refine w_p tok rfl rfl rfl ?_
            refine w_end ?_
            refine x_seq ?_
            refine c_ret ?_
            exact x_ret _ rfl _ rfl ⟨t37_5, rfl, H⟩
          ·
            refine w_gif (d := 33) H rfl (fun H => ?_) (fun H => ?_)
            ·
              obtain ⟨lb14, ub14, H⟩ := H
              refine w_y (y_ixp tok rfl rfl rfl rfl rfl lb14 ub14) rfl rfl ?_
              obtain ⟨v15, hv15, H⟩ := H
              refine w_y (y_ld tok rfl rfl rfl rfl hv15) rfl rfl ?_
              refine w_p tok rfl rfl rfl ?_
              refine w_p tok rfl rfl rfl ?_
              exact w_jn (v15 == 78) H ⟨rfl, trivial⟩
            ·
              refine w_skip rfl rfl ?_
              refine w_skip rfl rfl ?_
              refine w_skip rfl rfl ?_
              refine w_p tok rfl rfl rfl ?_
              exact w_jn false H ⟨rfl, trivial⟩
        ·
          refine w_gif (d := 28) H rfl (fun H => ?_) (fun H => ?_)
          ·
            obtain ⟨lb16, ub16, H⟩ := H
            refine w_y (y_ixp tok rfl rfl rfl rfl rfl lb16 ub16) rfl rfl ?_
            obtain ⟨v17, hv17, H⟩ := H
            refine w_y (y_ld tok rfl rfl rfl rfl hv17) rfl rfl ?_
            refine w_p tok rfl rfl rfl ?_
            refine w_p tok rfl rfl rfl ?_
            exact w_jn (v17 == 228) H ⟨rfl, rfl, trivial⟩
          ·
            refine w_skip rfl rfl ?_
            refine w_skip rfl rfl ?_
            refine w_skip rfl rfl ?_
            refine w_p tok rfl rfl rfl ?_
            exact w_jn false H ⟨rfl, rfl, trivial⟩
      ·
        refine w_gif (d := 23) H rfl (fun H => ?_) (fun H => ?_)
        ·
          obtain ⟨lb18, ub18, H⟩ := H
          refine w_y (y_ixp tok rfl rfl rfl rfl rfl lb18 ub18) rfl rfl ?_
          obtain ⟨v19, hv19, H⟩ := H
          refine w_y (y_ld tok rfl rfl rfl rfl hv19) rfl rfl ?_
          refine w_p tok rfl rfl rfl ?_
          refine w_p tok rfl rfl rfl ?_
          exact w_jn (v19 == 231) H ⟨rfl, rfl, trivial⟩
        ·
          refine w_skip rfl rfl ?_
          refine w_skip rfl rfl ?_
          refine w_skip rfl rfl ?_
          refine w_p tok rfl rfl rfl ?_
          exact w_jn false H ⟨rfl, rfl, trivial⟩
    ·
      refine w_gif (d := 18) H rfl (fun H => ?_) (fun H => ?_)
      ·
        obtain ⟨lb20, ub20, H⟩ := H
        refine w_y (y_ixp tok rfl rfl rfl rfl rfl lb20 ub20) rfl rfl ?_
        obtain ⟨v21, hv21, H⟩ := H
        refine w_y (y_ld tok rfl rfl rfl rfl hv21) rfl rfl ?_
        refine w_p tok rfl rfl rfl ?_
        refine w_p tok rfl rfl rfl ?_
        exact w_jn (v21 == 241) H ⟨rfl, rfl, trivial⟩
      ·
        refine w_skip rfl rfl ?_
        refine w_skip rfl rfl ?_
        refine w_skip rfl rfl ?_
        refine w_p tok rfl rfl rfl ?_
        exact w_jn false H ⟨rfl, rfl, trivial⟩

theorem law04_ChachaBlocks_ok : CallOk Go.Proofs.Tryd.prog 3 := ⟨_, Go.Proofs.Tryd.func3, by kernel_rfl, by kernel_rfl⟩
theorem law04_ChachaBlocks_ref (p0 : List Int) (p1 : Int) (p2 : List Int) (k : (Bool) → Heap → Prop) (h : Heap) (H : law04_ChachaBlocks p0 p1 p2 k h) : CallsH Go.Proofs.Tryd.prog 3 #[.agg ((p0).map (Value.int .u8)).toArray, .int .u32 p1, .agg ((p2).map (Value.int .u8)).toArray] h (fun v h' => ∃ r : Bool, v = .bool r ∧ k r h') := by
  refine f_enter (N := 21) Go.Proofs.Tryd.func3 rfl rfl rfl (fun w0 => ?_)
  unfold law04_ChachaBlocks at H
  refine c_weak [(0, .agg ((p0).map (Value.int .u8)).toArray), (1, .int .u32 p1), (2, .agg ((p2).map (Value.int .u8)).toArray)] ⟨rfl, rfl, rfl, trivial⟩ ?_
  refine c_seq ?_
  refine c_region ?_
  obtain ⟨b1, h2, eb1, eh2, H⟩ := H
  refine w_h (h_box rfl rfl eb1 eh2) rfl rfl ?_
  obtain ⟨b3, h4, eb3, eh4, H⟩ := H
  refine w_h (h_box rfl rfl eb3 eh4) rfl rfl ?_
  refine w_p tok rfl rfl rfl ?_
  refine w_end ?_
  refine x_seq ?_
  refine c_seq ?_
  refine c_region ?_
  obtain ⟨v5, lv5, hv5, H⟩ := H
  refine w_y (y_lda tok rfl rfl rfl rfl (by rw [List.length_map]; exact lv5) hv5) rfl rfl ?_
  refine w_p tok rfl rfl rfl ?_
  obtain ⟨v6, lv6, hv6, H⟩ := H
  refine w_y (y_lda tok rfl rfl rfl rfl (by rw [List.length_map]; exact lv6) hv6) rfl rfl ?_
  refine w_call chacha_Block_ok (chacha_Block_ref _ _ _ _ _ H) rfl rfl rfl rfl ?_
  rintro _ h8 ⟨r7, rfl, H⟩
  obtain ⟨b9, h10, eb9, eh10, H⟩ := H
  refine w_h (h_alloc tok rfl rfl eb9 eh10) rfl rfl ?_
  obtain ⟨h11, lh11, wh11, eh11, H⟩ := H
  refine w_h (h_sts tok rfl rfl rfl rfl (by rw [List.length_map]; exact lh11.symm) (one_ints _ _) wh11 eh11) rfl rfl ?_
  refine w_end ?_
  refine x_seq ?_
  refine c_weak [(1, .int .u32 p1), (3, .pointer (some (⟨b1, 0, none⟩ : Addr))), (5, .pointer (some (⟨b3, 0, none⟩ : Addr))), (7, .pointer (some (⟨b9, 0, none⟩ : Addr)))] ⟨rfl, rfl, rfl, rfl, trivial⟩ ?_
  refine c_seqJ (α := Bool) (fun (s : Bool) => [(6, .bool s)]) (fun (s : Bool) h => law04_ChachaBlocks_j1 s k h) ?_ ?_
  ·
    rintro t6_1 h_1 H
    replace H : law04_ChachaBlocks_j1 t6_1 k h_1 := H
    unfold law04_ChachaBlocks_j1 at H
    refine c_weak [(6, .bool t6_1)] ⟨rfl, trivial⟩ ?_
    refine c_ret ?_
    exact x_ret _ rfl _ rfl ⟨t6_1, rfl, H⟩
  ·
    refine c_sim [(1, .int .u32 p1), (3, .pointer (some (⟨b1, 0, none⟩ : Addr))), (5, .pointer (some (⟨b3, 0, none⟩ : Addr))), (7, .pointer (some (⟨b9, 0, none⟩ : Addr)))] (by kernel_rfl) (by kernel_rfl) ⟨rfl, rfl, rfl, rfl, trivial⟩ (fun wf => ?_)
    obtain ⟨s12, ps12, qs12, rs12, es12, H⟩ := H
    refine sim_p 0 (ei := [(7, .pointer (some (⟨b9, 0, none⟩ : Addr)))]) (d := (some 12)) wf (by kernel_rfl) ⟨rfl, trivial⟩ (by kernel_rfl) (by kernel_rfl) (fun _ => pf_ye rfl rfl rfl (y_sla (L := 0) (H := 64) tok rfl rfl rfl rfl rfl rfl ps12 qs12 rs12) (congrArg Slc.v es12)) (fun P_0 => ?_)
    obtain ⟨v13, lv13, hv13, H⟩ := H
    refine sim_l 1 (ei := [(3, .pointer (some (⟨b1, 0, none⟩ : Addr)))]) (d := (some 13)) wf (by kernel_rfl) ⟨rfl, trivial⟩ (by kernel_rfl) (by kernel_rfl) (pf_y rfl rfl rfl (y_lda tok rfl rfl rfl rfl (by rw [List.length_map]; exact lv13) hv13)) (fun P_1 => ?_)
    refine sim_p 2 (ei := [(1, .int .u32 p1)]) (d := (some 14)) wf (by kernel_rfl) ⟨rfl, trivial⟩ (by kernel_rfl) (by kernel_rfl) (fun _ => pf_p tok rfl rfl rfl rfl) (fun P_2 => ?_)
    obtain ⟨v14, lv14, hv14, H⟩ := H
    refine sim_l 3 (ei := [(5, .pointer (some (⟨b3, 0, none⟩ : Addr)))]) (d := (some 15)) wf (by kernel_rfl) ⟨rfl, trivial⟩ (by kernel_rfl) (by kernel_rfl) (pf_y rfl rfl rfl (y_lda tok rfl rfl rfl rfl (by rw [List.length_map]; exact lv14) hv14)) (fun P_3 => ?_)
    refine sim_c 4 [1, 2, 3] [1, 2, 3] (ei := [(13, .agg ((v13).map (Value.int .u8)).toArray), (14, .int .u32 p1), (15, .agg ((v14).map (Value.int .u8)).toArray)]) ref04_Block_ok (ref04_Block_ref _ _ _ _ _ H) wf ⟨P_3, P_2 _, P_1, P_0 _, trivial⟩ (by kernel_rfl) ⟨rfl, rfl, rfl, trivial⟩ (by kernel_rfl) rfl rfl rfl rfl rfl ?_
    rintro _ h16 ⟨r15, rfl, H⟩
    refine sim_c 5 [0, 1, 2, 3, 4] [0, 1, 2, 3] (ei := [(12, Slc.v s12), (16, Slc.v r15)]) ref01_Same_ok (ref01_Same_ref _ _ _ _ H) wf ⟨trivial, trivial, trivial, P_0 _, trivial⟩ (by kernel_rfl) ⟨rfl, rfl, trivial⟩ (by kernel_rfl) rfl rfl rfl rfl rfl ?_
    rintro _ h18 ⟨r17, rfl, H⟩
    refine sim_p 6 (ei := [(17, .bool r17)]) (d := (some 18)) wf (by kernel_rfl) ⟨rfl, trivial⟩ (by kernel_rfl) (by kernel_rfl) (fun _ => pf_p tok rfl rfl rfl rfl) (fun P_6 => ?_)
    refine sim_gif 18 H rfl (fun hb H => ?_) (fun hb H => ?_)
    ·
      refine sim_c 7 [0, 1, 2, 3, 4, 5, 6] [0, 1, 2, 3, 6] (ei := [(18, .bool true)]) law04_awake_ok (law04_awake_ref  _ _ H) wf ⟨P_6 _, trivial, trivial, trivial, trivial, trivial⟩ (by kernel_rfl) ⟨rfl, trivial⟩ (by kernel_rfl) rfl rfl rfl rfl rfl ?_
      rintro _ h20 ⟨r19, rfl, H⟩
      refine sim_p 8 (ei := [(18, .bool true), (19, .bool r19)]) (d := (some 20)) wf (by kernel_rfl) ⟨rfl, rfl, trivial⟩ (by kernel_rfl) (by kernel_rfl) (fun _ => pf_p tok rfl rfl rfl rfl) (fun P_8 => ?_)
      refine sim_p 9 (ei := [(20, .bool r19)]) (d := (some 6)) wf (by kernel_rfl) ⟨rfl, trivial⟩ (by kernel_rfl) (by kernel_rfl) (fun _ => pf_p tok rfl rfl rfl rfl) (fun P_9 => ?_)
      refine sim_end wf ⟨P_9 _, P_8 _, trivial, trivial, trivial, trivial, trivial, trivial⟩ (by kernel_rfl) ?_
      clear wf P_0 P_1 P_2 P_3 P_6 P_8 P_9
      exact x_join r19 H ⟨rfl, trivial⟩
    ·
      refine sim_p 7 (v := undef) (ei := [(18, .bool false)]) (d := (some 19)) wf (by kernel_rfl) ⟨rfl, trivial⟩ (by kernel_rfl) (by kernel_rfl) (fun _ => pf_s rfl rfl rfl) (fun P_7 => ?_)
      refine sim_p 8 (ei := [(18, .bool false)]) (d := (some 20)) wf (by kernel_rfl) ⟨rfl, trivial⟩ (by kernel_rfl) (by kernel_rfl) (fun _ => pf_p tok rfl rfl rfl rfl) (fun P_8 => ?_)
      refine sim_p 9 (ei := [(20, .bool false)]) (d := (some 6)) wf (by kernel_rfl) ⟨rfl, trivial⟩ (by kernel_rfl) (by kernel_rfl) (fun _ => pf_p tok rfl rfl rfl rfl) (fun P_9 => ?_)
      refine sim_end wf ⟨P_9 _, P_8 _, P_7 _, P_6 _, trivial, trivial, trivial, trivial, trivial⟩ (by kernel_rfl) ?_
      clear wf P_0 P_1 P_2 P_3 P_6 P_7 P_8 P_9
      exact x_join false H ⟨rfl, trivial⟩

theorem ref01_Lent_ok : CallOk Go.Proofs.Tryd.prog 11 := ⟨_, Go.Proofs.Tryd.func11, by kernel_rfl, by kernel_rfl⟩
theorem ref01_Lent_ref (p0 : Slc) (k : (Slc) → Heap → Prop) (h : Heap) (H : ref01_Lent p0 k h) : CallsH Go.Proofs.Tryd.prog 11 #[Slc.v p0] h (fun v h' => ∃ r : Slc, v = Slc.v r ∧ k r h') := by
  refine f_enter (N := 33) Go.Proofs.Tryd.func11 rfl rfl rfl (fun w0 => ?_)
  unfold ref01_Lent at H
  refine c_weak [(0, Slc.v p0)] ⟨rfl, trivial⟩ ?_
  refine c_seq ?_
  refine c_region ?_
  refine w_p tok rfl rfl rfl ?_
  refine w_end ?_
  refine x_seq ?_
  refine c_seq ?_
  refine c_region ?_
  refine w_p tok rfl rfl rfl ?_
  refine w_p tok rfl rfl rfl ?_
  refine w_p tok rfl rfl rfl ?_
  obtain ⟨b1, h2, ph2, qh2, rh2, th2, eb1, eh2, H⟩ := H
  refine w_h (h_mk tok rfl rfl rfl rfl rfl rfl ph2 qh2 rh2 th2 eb1 eh2) rfl rfl ?_
  refine w_p tok rfl rfl rfl ?_
  refine w_end ?_
  refine x_seq ?_
  refine c_seq ?_
  refine c_seq ?_
  refine c_region ?_
  refine w_p tok rfl rfl rfl ?_
  refine w_end ?_
  refine x_seq ?_
  refine c_block ?_
  obtain ⟨I1, μ1, H0, HI⟩ := H
  refine c_loop (σ := Int) (fun (s : Int) => [(4, .int .i64 s), (0, Slc.v p0), (3, Slc.v (⟨some ⟨b1, 0, none⟩, (IntKind.i64.wrap ((p0.len : Int) + 8)).toNat, (IntKind.i64.wrap ((p0.len : Int) + 8)).toNat⟩ : Slc))]) I1 μ1 0 H0 ⟨rfl, rfl, rfl, trivial⟩ ?_
  rintro t4_1 h_1 H
  replace H := HI t4_1 h_1 H
  unfold ref01_Lent_l1b at H
  refine c_weak [(4, .int .i64 t4_1), (0, Slc.v p0), (3, Slc.v (⟨some ⟨b1, 0, none⟩, (IntKind.i64.wrap ((p0.len : Int) + 8)).toNat, (IntKind.i64.wrap ((p0.len : Int) + 8)).toNat⟩ : Slc))] ⟨rfl, rfl, rfl, trivial⟩ ?_
  refine c_seq ?_
  refine c_seq ?_
  refine c_region ?_
  refine w_p tok rfl rfl rfl ?_
  refine w_p tok rfl rfl rfl ?_
  refine w_p tok rfl rfl rfl ?_
  refine w_p tok rfl rfl rfl ?_
  refine w_end ?_
  refine x_seq ?_
  refine c_if H rfl (fun H => ?_) (fun H => ?_)
  ·
    refine c_skip ?_
    refine x_seq ?_
    refine c_seqJ (α := Unit) (fun (s : Unit) => [(0, Slc.v p0), (3, Slc.v (⟨some ⟨b1, 0, none⟩, (IntKind.i64.wrap ((p0.len : Int) + 8)).toNat, (IntKind.i64.wrap ((p0.len : Int) + 8)).toNat⟩ : Slc)), (4, .int .i64 t4_1)]) (fun (s : Unit) h => ref01_Lent_j2 p0 (⟨some ⟨b1, 0, none⟩, (IntKind.i64.wrap ((p0.len : Int) + 8)).toNat, (IntKind.i64.wrap ((p0.len : Int) + 8)).toNat⟩ : Slc) t4_1 k (fun s h' => I1 s h' ∧ μ1 s h' < μ1 t4_1 h_1) h) ?_ ?_
    ·
      rintro _ h_2 H
      replace H : ref01_Lent_j2 p0 (⟨some ⟨b1, 0, none⟩, (IntKind.i64.wrap ((p0.len : Int) + 8)).toNat, (IntKind.i64.wrap ((p0.len : Int) + 8)).toNat⟩ : Slc) t4_1 k (fun s h' => I1 s h' ∧ μ1 s h' < μ1 t4_1 h_1) h_2 := H
      unfold ref01_Lent_j2 at H
      refine c_weak [(0, Slc.v p0), (3, Slc.v (⟨some ⟨b1, 0, none⟩, (IntKind.i64.wrap ((p0.len : Int) + 8)).toNat, (IntKind.i64.wrap ((p0.len : Int) + 8)).toNat⟩ : Slc)), (4, .int .i64 t4_1)] ⟨rfl, rfl, rfl, trivial⟩ ?_
      refine c_region ?_
      refine w_p tok rfl rfl rfl ?_
      refine w_p tok rfl rfl rfl ?_
      obtain ⟨x3, ex3, H⟩ := H
      refine w_pe tok rfl (congrArg (fun z => (.int .i64 z : Value)) ex3) rfl rfl ?_
      refine w_end ?_
      exact x_join x3 H ⟨rfl, rfl, rfl, trivial⟩
    ·
      refine c_block ?_
      refine c_seq ?_
      refine c_region ?_
      refine w_p tok rfl rfl rfl ?_
      refine w_p tok rfl rfl rfl ?_
      refine w_p tok rfl rfl rfl ?_
      refine w_p tok rfl rfl rfl ?_
      refine w_end ?_
      refine x_seq ?_
      refine c_weak [(4, .int .i64 t4_1), (0, Slc.v p0), (3, Slc.v (⟨some ⟨b1, 0, none⟩, (IntKind.i64.wrap ((p0.len : Int) + 8)).toNat, (IntKind.i64.wrap ((p0.len : Int) + 8)).toNat⟩ : Slc)), (18, .bool (decide (t4_1 < (p0.len : Int))))] ⟨rfl, rfl, rfl, rfl, trivial⟩ ?_
      refine c_if H rfl (fun H => ?_) (fun H => ?_)
      ·
        refine c_region ?_
        refine w_p tok rfl rfl rfl ?_
        refine w_p tok rfl rfl rfl ?_
        refine w_p tok rfl rfl rfl ?_
        refine w_p tok rfl rfl rfl ?_
        obtain ⟨a4, ha4, la4, ua4, H⟩ := H
        refine w_y (y_ixa' tok rfl rfl ha4 rfl rfl rfl la4 ua4) rfl rfl ?_
        obtain ⟨v5, hv5, H⟩ := H
        refine w_y (y_ld tok rfl rfl rfl rfl hv5) rfl rfl ?_
        obtain ⟨a6, ha6, la6, ua6, H⟩ := H
        refine w_y (y_ixa' tok rfl rfl ha6 rfl rfl rfl la6 ua6) rfl rfl ?_
        obtain ⟨h7, wh7, eh7, H⟩ := H
        refine w_h (h_st tok rfl rfl rfl rfl rfl rfl wh7 eh7) rfl rfl ?_
        refine w_end ?_
        refine x_blk ?_
        exact x_join () H ⟨rfl, rfl, rfl, trivial⟩
      ·
        refine c_region ?_
        refine w_p tok rfl rfl rfl ?_
        refine w_p tok rfl rfl rfl ?_
        obtain ⟨a8, ha8, la8, ua8, H⟩ := H
        refine w_y (y_ixa' tok rfl rfl ha8 rfl rfl rfl la8 ua8) rfl rfl ?_
        obtain ⟨h9, wh9, eh9, H⟩ := H
        refine w_h (h_st tok rfl rfl rfl rfl rfl rfl wh9 eh9) rfl rfl ?_
        refine w_end ?_
        refine x_blk ?_
        exact x_join () H ⟨rfl, rfl, rfl, trivial⟩
  ·
    refine c_exit ?_
    refine x_te ?_
    refine x_te ?_
    refine x_bh ?_
    refine x_seq ?_
    refine c_seq ?_
    refine c_region ?_
    refine w_p tok rfl rfl rfl ?_
    refine w_p tok rfl rfl rfl ?_
    refine w_p tok rfl rfl rfl ?_
    obtain ⟨s10, ps10, qs10, rs10, ts10, es10, H⟩ := H
    refine w_ye (y_sl (s := (⟨some ⟨b1, 0, none⟩, (IntKind.i64.wrap ((p0.len : Int) + 8)).toNat, (IntKind.i64.wrap ((p0.len : Int) + 8)).toNat⟩ : Slc)) (L := 0) (H := (p0.len : Int)) (M := ((⟨some ⟨b1, 0, none⟩, (IntKind.i64.wrap ((p0.len : Int) + 8)).toNat, (IntKind.i64.wrap ((p0.len : Int) + 8)).toNat⟩ : Slc).cap : Int)) tok rfl rfl rfl rfl rfl rfl rfl (by simp) ps10 qs10 rs10 ts10) (congrArg Slc.v es10) rfl rfl ?_
    refine w_p tok rfl rfl rfl ?_
    refine w_end ?_
    refine x_seq ?_
    refine c_weak [(2, Slc.v s10)] ⟨rfl, trivial⟩ ?_
    refine c_ret ?_
    exact x_ret _ rfl _ rfl ⟨s10, rfl, H⟩

theorem chacha_Xor_ok : CallOk Go.Proofs.Tryd.prog 12 := ⟨_, Go.Proofs.Tryd.func12, by kernel_rfl, by kernel_rfl⟩
theorem chacha_Xor_ref (p0 : List Int) (p1 : List Int) (p2 : Int) (p3 : Slc) (k : (Slc) → Heap → Prop) (h : Heap) (H : chacha_Xor p0 p1 p2 p3 k h) : CallsH Go.Proofs.Tryd.prog 12 #[.agg ((p0).map (Value.int .u8)).toArray, .agg ((p1).map (Value.int .u8)).toArray, .int .u32 p2, Slc.v p3] h (fun v h' => ∃ r : Slc, v = Slc.v r ∧ k r h') := by
  refine f_enter (N := 40) Go.Proofs.Tryd.func12 rfl rfl rfl (fun w0 => ?_)
  unfold chacha_Xor at H
  refine c_weak [(0, .agg ((p0).map (Value.int .u8)).toArray), (1, .agg ((p1).map (Value.int .u8)).toArray), (2, .int .u32 p2), (3, Slc.v p3)] ⟨rfl, rfl, rfl, rfl, trivial⟩ ?_
  refine c_seq ?_
  refine c_region ?_
  obtain ⟨b1, h2, eb1, eh2, H⟩ := H
  refine w_h (h_box rfl rfl eb1 eh2) rfl rfl ?_
  obtain ⟨b3, h4, eb3, eh4, H⟩ := H
  refine w_h (h_box rfl rfl eb3 eh4) rfl rfl ?_
  refine w_p tok rfl rfl rfl ?_
  refine w_end ?_
  refine x_seq ?_
  refine c_seq ?_
  refine c_region ?_
  refine w_p tok rfl rfl rfl ?_
  refine w_end ?_
  refine x_seq ?_
  refine c_seq ?_
  refine c_region ?_
  obtain ⟨b5, h6, eb5, eh6, H⟩ := H
  refine w_h (h_alloc tok rfl rfl eb5 eh6) rfl rfl ?_
  refine w_end ?_
  refine x_seq ?_
  refine c_seq ?_
  refine c_seq ?_
  refine c_region ?_
  refine w_p tok rfl rfl rfl ?_
  refine w_p tok rfl rfl rfl ?_
  refine w_p tok rfl rfl rfl ?_
  refine w_end ?_
  refine x_seq ?_
  refine c_block ?_
  obtain ⟨I1, μ1, H0, HI⟩ := H
  refine c_loop (σ := Int × Slc × Int) (fun (s : Int × Slc × Int) => [(2, .int .u32 s.1), (9, Slc.v s.2.1), (15, .int .i64 s.2.2), (4, .pointer (some (⟨b1, 0, none⟩ : Addr))), (5, .pointer (some (⟨b3, 0, none⟩ : Addr))), (10, .pointer (some (⟨b5, 0, none⟩ : Addr))), (13, Slc.v p3), (14, .int .i64 (p3.len : Int))]) I1 μ1 (p2, (⟨none, 0, 0⟩ : Slc), 0) H0 ⟨rfl, rfl, rfl, rfl, rfl, rfl, rfl, rfl, trivial⟩ ?_
  rintro ⟨t2_1, t9_1, t15_1⟩ h_1 H
  replace H := HI t2_1 t9_1 t15_1 h_1 H
  unfold chacha_Xor_l1b at H
  refine c_weak [(2, .int .u32 t2_1), (9, Slc.v t9_1), (15, .int .i64 t15_1), (4, .pointer (some (⟨b1, 0, none⟩ : Addr))), (5, .pointer (some (⟨b3, 0, none⟩ : Addr))), (10, .pointer (some (⟨b5, 0, none⟩ : Addr))), (13, Slc.v p3), (14, .int .i64 (p3.len : Int))] ⟨rfl, rfl, rfl, rfl, rfl, rfl, rfl, rfl, trivial⟩ ?_
  refine c_seq ?_
  refine c_region ?_
  refine w_p tok rfl rfl rfl ?_
  refine w_end ?_
  refine x_seq ?_
  refine c_seq ?_
  refine c_if H rfl (fun H => ?_) (fun H => ?_)
  ·
    refine c_skip ?_
    refine x_seq ?_
    refine c_seq ?_
    refine c_block ?_
    refine c_seq ?_
    refine c_region ?_
    refine w_p tok rfl rfl rfl ?_
    obtain ⟨a7, ha7, la7, ua7, H⟩ := H
    refine w_y (y_ixa' tok rfl rfl ha7 rfl rfl rfl la7 ua7) rfl rfl ?_
    obtain ⟨v8, hv8, H⟩ := H
    refine w_y (y_ld tok rfl rfl rfl rfl hv8) rfl rfl ?_
    refine w_p tok rfl rfl rfl ?_
    refine w_p tok rfl rfl rfl ?_
    refine w_end ?_
    refine x_seq ?_
    refine c_seqJ (α := Int) (fun (s : Int) => [(2, .int .u32 s), (4, .pointer (some (⟨b1, 0, none⟩ : Addr))), (5, .pointer (some (⟨b3, 0, none⟩ : Addr))), (9, Slc.v t9_1), (10, .pointer (some (⟨b5, 0, none⟩ : Addr))), (11, .int .i64 t15_1), (12, .int .u8 v8), (13, Slc.v p3), (14, .int .i64 (p3.len : Int)), (15, .int .i64 t15_1)]) (fun (s : Int) h => chacha_Xor_j2 (⟨b1, 0, none⟩ : Addr) (⟨b3, 0, none⟩ : Addr) t9_1 (⟨b5, 0, none⟩ : Addr) t15_1 v8 p3 (p3.len : Int) t15_1 s k (fun s h' => I1 s h' ∧ μ1 s h' < μ1 (t2_1, t9_1, t15_1) h_1) h) ?_ ?_
    ·
      rintro t2_2 h_2 H
      replace H : chacha_Xor_j2 (⟨b1, 0, none⟩ : Addr) (⟨b3, 0, none⟩ : Addr) t9_1 (⟨b5, 0, none⟩ : Addr) t15_1 v8 p3 (p3.len : Int) t15_1 t2_2 k (fun s h' => I1 s h' ∧ μ1 s h' < μ1 (t2_1, t9_1, t15_1) h_1) h_2 := H
      unfold chacha_Xor_j2 at H
      refine c_weak [(2, .int .u32 t2_2), (4, .pointer (some (⟨b1, 0, none⟩ : Addr))), (5, .pointer (some (⟨b3, 0, none⟩ : Addr))), (9, Slc.v t9_1), (10, .pointer (some (⟨b5, 0, none⟩ : Addr))), (11, .int .i64 t15_1), (12, .int .u8 v8), (13, Slc.v p3), (14, .int .i64 (p3.len : Int)), (15, .int .i64 t15_1)] ⟨rfl, rfl, rfl, rfl, rfl, rfl, rfl, rfl, rfl, rfl, trivial⟩ ?_
      refine c_region ?_
      refine w_p tok rfl rfl rfl ?_
      refine w_p tok rfl rfl rfl ?_
      refine w_p tok rfl rfl rfl ?_
      refine w_p tok rfl rfl rfl ?_
      obtain ⟨lb9, ub9, H⟩ := H
      refine w_y (y_ixp tok rfl rfl rfl rfl rfl lb9 ub9) rfl rfl ?_
      obtain ⟨v10, hv10, H⟩ := H
      refine w_y (y_ld tok rfl rfl rfl rfl hv10) rfl rfl ?_
      refine w_p tok rfl rfl rfl ?_
      obtain ⟨b11, h12, eb11, eh12, H⟩ := H
      refine w_h (h_bs tok rfl rfl rfl rfl rfl rfl rfl eb11 eh12) rfl rfl ?_
      refine w_a (a_app (s := t9_1) (r := (⟨some ⟨b11, 0, none⟩, 1, 1⟩ : Slc)) tok rfl rfl rfl rfl rfl (slcAt_push eb11 eh12) H) rfl rfl ?_
      rintro _ h14 ⟨s13, rfl, H⟩
      refine w_p tok rfl rfl rfl ?_
      refine w_end ?_
      refine x_blk ?_
      refine x_seq ?_
      refine c_weak [(2, .int .u32 t2_2), (4, .pointer (some (⟨b1, 0, none⟩ : Addr))), (5, .pointer (some (⟨b3, 0, none⟩ : Addr))), (9, Slc.v s13), (10, .pointer (some (⟨b5, 0, none⟩ : Addr))), (13, Slc.v p3), (14, .int .i64 (p3.len : Int)), (15, .int .i64 t15_1)] ⟨rfl, rfl, rfl, rfl, rfl, rfl, rfl, rfl, trivial⟩ ?_
      refine c_region ?_
      refine w_p tok rfl rfl rfl ?_
      refine w_p tok rfl rfl rfl ?_
      refine w_end ?_
      exact x_join (t2_2, s13, (IntKind.i64.wrap (t15_1 + 1))) H ⟨rfl, rfl, rfl, rfl, rfl, rfl, rfl, rfl, trivial⟩
    ·
      refine c_seq ?_
      refine c_region ?_
      refine w_p tok rfl rfl rfl ?_
      refine w_p tok rfl rfl rfl ?_
      refine w_p tok rfl rfl rfl ?_
      refine w_end ?_
      refine x_seq ?_
      refine c_if H rfl (fun H => ?_) (fun H => ?_)
      ·
        refine c_seq ?_
        refine c_region ?_
        obtain ⟨v15, lv15, hv15, H⟩ := H
        refine w_y (y_lda tok rfl rfl rfl rfl (by rw [List.length_map]; exact lv15) hv15) rfl rfl ?_
        refine w_p tok rfl rfl rfl ?_
        obtain ⟨v16, lv16, hv16, H⟩ := H
        refine w_y (y_lda tok rfl rfl rfl rfl (by rw [List.length_map]; exact lv16) hv16) rfl rfl ?_
        refine w_call chacha_Block_ok (chacha_Block_ref _ _ _ _ _ H) rfl rfl rfl rfl ?_
        rintro _ h18 ⟨r17, rfl, H⟩
        obtain ⟨h19, lh19, wh19, eh19, H⟩ := H
        refine w_h (h_sts tok rfl rfl rfl rfl (by rw [List.length_map]; exact lh19.symm) (one_ints _ _) wh19 eh19) rfl rfl ?_
        refine w_end ?_
        refine x_seq ?_
        refine c_weak [(2, .int .u32 t2_1), (9, Slc.v t9_1), (15, .int .i64 t15_1), (4, .pointer (some (⟨b1, 0, none⟩ : Addr))), (5, .pointer (some (⟨b3, 0, none⟩ : Addr))), (10, .pointer (some (⟨b5, 0, none⟩ : Addr))), (13, Slc.v p3), (14, .int .i64 (p3.len : Int)), (11, .int .i64 t15_1), (12, .int .u8 v8)] ⟨rfl, rfl, rfl, rfl, rfl, rfl, rfl, rfl, rfl, rfl, trivial⟩ ?_
        refine c_region ?_
        refine w_p tok rfl rfl rfl ?_
        refine w_p tok rfl rfl rfl ?_
        obtain ⟨x20, ex20, H⟩ := H
        refine w_pe tok rfl (congrArg (fun z => (.int .u32 z : Value)) ex20) rfl rfl ?_
        refine w_end ?_
        exact x_join x20 H ⟨rfl, rfl, rfl, rfl, rfl, rfl, rfl, rfl, rfl, rfl, trivial⟩
      ·
        refine c_skip ?_
        exact x_join t2_1 H ⟨rfl, rfl, rfl, rfl, rfl, rfl, rfl, rfl, rfl, rfl, trivial⟩
  ·
    refine c_exit ?_
    refine x_te ?_
    refine x_te ?_
    refine x_bh ?_
    refine x_seq ?_
    refine c_weak [(9, Slc.v t9_1)] ⟨rfl, trivial⟩ ?_
    refine c_seq ?_
    refine c_region ?_
    refine w_p tok rfl rfl rfl ?_
    refine w_p tok rfl rfl rfl ?_
    refine w_end ?_
    refine x_seq ?_
    refine c_ret ?_
    exact x_ret _ rfl _ rfl ⟨t9_1, rfl, H⟩

theorem ref04_Xor_ok : CallOk Go.Proofs.Tryd.prog 13 := ⟨_, Go.Proofs.Tryd.func13, by kernel_rfl, by kernel_rfl⟩
theorem ref04_Xor_ref (p0 : List Int) (p1 : List Int) (p2 : Int) (p3 : Slc) (k : (Slc) → Heap → Prop) (h : Heap) (H : ref04_Xor p0 p1 p2 p3 k h) : CallsH Go.Proofs.Tryd.prog 13 #[.agg ((p0).map (Value.int .u8)).toArray, .agg ((p1).map (Value.int .u8)).toArray, .int .u32 p2, Slc.v p3] h (fun v h' => ∃ r : Slc, v = Slc.v r ∧ k r h') := by
  refine f_enter (N := 41) Go.Proofs.Tryd.func13 rfl rfl rfl (fun w0 => ?_)
  unfold ref04_Xor at H
  refine c_weak [(0, .agg ((p0).map (Value.int .u8)).toArray), (1, .agg ((p1).map (Value.int .u8)).toArray), (2, .int .u32 p2), (3, Slc.v p3)] ⟨rfl, rfl, rfl, rfl, trivial⟩ ?_
  refine c_seq ?_
  refine c_region ?_
  obtain ⟨b1, h2, eb1, eh2, H⟩ := H
  refine w_h (h_box rfl rfl eb1 eh2) rfl rfl ?_
  obtain ⟨b3, h4, eb3, eh4, H⟩ := H
  refine w_h (h_box rfl rfl eb3 eh4) rfl rfl ?_
  refine w_p tok rfl rfl rfl ?_
  refine w_end ?_
  refine x_seq ?_
  refine c_seq ?_
  refine c_region ?_
  refine w_p tok rfl rfl rfl ?_
  refine w_p tok rfl rfl rfl ?_
  refine w_end ?_
  refine x_seq ?_
  refine c_seq ?_
  refine c_seq ?_
  refine c_region ?_
  refine w_p tok rfl rfl rfl ?_
  refine w_end ?_
  refine x_seq ?_
  refine c_block ?_
  obtain ⟨I1, μ1, H0, HI⟩ := H
  refine c_loop (σ := Int × Slc × Slc × Int) (fun (s : Int × Slc × Slc × Int) => [(2, .int .u32 s.1), (9, Slc.v s.2.1), (10, Slc.v s.2.2.1), (11, .int .i64 s.2.2.2), (3, Slc.v p3), (4, .pointer (some (⟨b1, 0, none⟩ : Addr))), (5, .pointer (some (⟨b3, 0, none⟩ : Addr)))]) I1 μ1 (p2, (⟨none, 0, 0⟩ : Slc), (⟨none, 0, 0⟩ : Slc), 0) H0 ⟨rfl, rfl, rfl, rfl, rfl, rfl, rfl, trivial⟩ ?_
  rintro ⟨t2_1, t9_1, t10_1, t11_1⟩ h_1 H
  replace H := HI t2_1 t9_1 t10_1 t11_1 h_1 H
  unfold ref04_Xor_l1b at H
  refine c_weak [(2, .int .u32 t2_1), (9, Slc.v t9_1), (10, Slc.v t10_1), (11, .int .i64 t11_1), (3, Slc.v p3), (4, .pointer (some (⟨b1, 0, none⟩ : Addr))), (5, .pointer (some (⟨b3, 0, none⟩ : Addr)))] ⟨rfl, rfl, rfl, rfl, rfl, rfl, rfl, trivial⟩ ?_
  refine c_seq ?_
  refine c_seq ?_
  refine c_region ?_
  refine w_p tok rfl rfl rfl ?_
  refine w_p tok rfl rfl rfl ?_
  refine w_p tok rfl rfl rfl ?_
  refine w_p tok rfl rfl rfl ?_
  refine w_end ?_
  refine x_seq ?_
  refine c_if H rfl (fun H => ?_) (fun H => ?_)
  ·
    refine c_skip ?_
    refine x_seq ?_
    refine c_seq ?_
    refine c_block ?_
    refine c_seqJ (α := Int × Slc) (fun (s : Int × Slc) => [(2, .int .u32 s.1), (10, Slc.v s.2), (3, Slc.v p3), (4, .pointer (some (⟨b1, 0, none⟩ : Addr))), (5, .pointer (some (⟨b3, 0, none⟩ : Addr))), (9, Slc.v t9_1), (11, .int .i64 t11_1)]) (fun (s : Int × Slc) h => ref04_Xor_j2 p3 (⟨b1, 0, none⟩ : Addr) (⟨b3, 0, none⟩ : Addr) t9_1 t11_1 s.1 s.2 k (fun s h' => I1 s h' ∧ μ1 s h' < μ1 (t2_1, t9_1, t10_1, t11_1) h_1) h) ?_ ?_
    ·
      rintro ⟨t2_2, t10_2⟩ h_2 H
      replace H : ref04_Xor_j2 p3 (⟨b1, 0, none⟩ : Addr) (⟨b3, 0, none⟩ : Addr) t9_1 t11_1 t2_2 t10_2 k (fun s h' => I1 s h' ∧ μ1 s h' < μ1 (t2_1, t9_1, t10_1, t11_1) h_1) h_2 := H
      unfold ref04_Xor_j2 at H
      refine c_weak [(2, .int .u32 t2_2), (10, Slc.v t10_2), (3, Slc.v p3), (4, .pointer (some (⟨b1, 0, none⟩ : Addr))), (5, .pointer (some (⟨b3, 0, none⟩ : Addr))), (9, Slc.v t9_1), (11, .int .i64 t11_1)] ⟨rfl, rfl, rfl, rfl, rfl, rfl, rfl, trivial⟩ ?_
      refine c_sim [(2, .int .u32 t2_2), (3, Slc.v p3), (4, .pointer (some (⟨b1, 0, none⟩ : Addr))), (5, .pointer (some (⟨b3, 0, none⟩ : Addr))), (9, Slc.v t9_1), (10, Slc.v t10_2), (11, .int .i64 t11_1)] (by kernel_rfl) (by kernel_rfl) ⟨rfl, rfl, rfl, rfl, rfl, rfl, rfl, trivial⟩ (fun wf => ?_)
      refine sim_p 0 (ei := [(9, Slc.v t9_1)]) (d := (some 27)) wf (by kernel_rfl) ⟨rfl, trivial⟩ (by kernel_rfl) (by kernel_rfl) (fun _ => pf_p tok rfl rfl rfl rfl) (fun P_0 => ?_)
      refine sim_p 1 (ei := [(3, Slc.v p3)]) (d := (some 28)) wf (by kernel_rfl) ⟨rfl, trivial⟩ (by kernel_rfl) (by kernel_rfl) (fun _ => pf_p tok rfl rfl rfl rfl) (fun P_1 => ?_)
      refine sim_p 2 (ei := [(11, .int .i64 t11_1)]) (d := (some 29)) wf (by kernel_rfl) ⟨rfl, trivial⟩ (by kernel_rfl) (by kernel_rfl) (fun _ => pf_p tok rfl rfl rfl rfl) (fun P_2 => ?_)
      obtain ⟨a5, ha5, la5, ua5, H⟩ := H
      refine sim_p 3 (ei := [(28, Slc.v p3), (29, .int .i64 t11_1)]) (d := (some 30)) wf (by kernel_rfl) ⟨rfl, rfl, trivial⟩ (by kernel_rfl) (by kernel_rfl) (fun _ => pf_y rfl rfl rfl (y_ixa' tok rfl rfl ha5 rfl rfl rfl la5 ua5)) (fun P_3 => ?_)
      obtain ⟨v6, hv6, H⟩ := H
      refine sim_l 4 (ei := [(30, .pointer (some (a5.add (t11_1.toNat * 1))))]) (d := (some 31)) wf (by kernel_rfl) ⟨rfl, trivial⟩ (by kernel_rfl) (by kernel_rfl) (pf_y rfl rfl rfl (y_ld tok rfl rfl rfl rfl hv6)) (fun P_4 => ?_)
      refine sim_p 5 (ei := [(10, Slc.v t10_2)]) (d := (some 32)) wf (by kernel_rfl) ⟨rfl, trivial⟩ (by kernel_rfl) (by kernel_rfl) (fun _ => pf_p tok rfl rfl rfl rfl) (fun P_5 => ?_)
      refine sim_p 6 (ei := [(11, .int .i64 t11_1)]) (d := (some 33)) wf (by kernel_rfl) ⟨rfl, trivial⟩ (by kernel_rfl) (by kernel_rfl) (fun _ => pf_p tok rfl rfl rfl rfl) (fun P_6 => ?_)
      refine sim_p 7 (ei := [(33, .int .i64 t11_1)]) (d := (some 34)) wf (by kernel_rfl) ⟨rfl, trivial⟩ (by kernel_rfl) (by kernel_rfl) (fun _ => pf_p tok rfl rfl rfl rfl) (fun P_7 => ?_)
      obtain ⟨a7, ha7, la7, ua7, H⟩ := H
      refine sim_p 8 (ei := [(32, Slc.v t10_2), (34, .int .i64 (Int.tmod t11_1 64))]) (d := (some 35)) wf (by kernel_rfl) ⟨rfl, rfl, trivial⟩ (by kernel_rfl) (by kernel_rfl) (fun _ => pf_y rfl rfl rfl (y_ixa' tok rfl rfl ha7 rfl rfl rfl la7 ua7)) (fun P_8 => ?_)
      obtain ⟨v8, hv8, H⟩ := H
      refine sim_l 9 (ei := [(35, .pointer (some (a7.add ((Int.tmod t11_1 64).toNat * 1))))]) (d := (some 36)) wf (by kernel_rfl) ⟨rfl, trivial⟩ (by kernel_rfl) (by kernel_rfl) (pf_y rfl rfl rfl (y_ld tok rfl rfl rfl rfl hv8)) (fun P_9 => ?_)
      refine sim_p 10 (ei := [(31, .int .u8 v6), (36, .int .u8 v8)]) (d := (some 37)) wf (by kernel_rfl) ⟨rfl, rfl, trivial⟩ (by kernel_rfl) (by kernel_rfl) (fun _ => pf_p tok rfl rfl rfl rfl) (fun P_10 => ?_)
      obtain ⟨b9, h10, eb9, eh10, H⟩ := H
      refine sim_h 11 [1, 2, 3, 4, 5, 6, 7, 8, 9, 10] [1, 2, 3, 4, 5, 6, 7, 8, 9, 10] (ei := [(37, .int .u8 (bwXor .u8 v6 v8))]) wf ⟨P_10 _, P_9, P_8 _, P_7 _, P_6 _, P_5 _, P_4, P_3 _, P_2 _, P_1 _, P_0 _, trivial⟩ (by kernel_rfl) ⟨rfl, trivial⟩ (by kernel_rfl) rfl rfl rfl (h_bs tok rfl rfl rfl rfl rfl rfl rfl eb9 eh10) ?_
      refine sim_a 12 [0, 1, 2, 3, 4, 5, 6, 7, 8, 9, 10, 11] [0, 1, 2, 3, 4, 5, 6, 7, 8, 9, 10] (ei := [(27, Slc.v t9_1), (38, Slc.v (⟨some ⟨b9, 0, none⟩, 1, 1⟩ : Slc))]) wf ⟨trivial, trivial, trivial, trivial, trivial, trivial, trivial, trivial, trivial, trivial, P_0 _, trivial⟩ (by kernel_rfl) ⟨rfl, rfl, trivial⟩ (by kernel_rfl) rfl rfl rfl (a_app (s := t9_1) (r := (⟨some ⟨b9, 0, none⟩, 1, 1⟩ : Slc)) tok rfl rfl rfl rfl rfl (slcAt_push eb9 eh10) H) ?_
      rintro _ h12 ⟨s11, rfl, H⟩
      refine sim_p 13 (ei := [(39, Slc.v s11)]) (d := (some 9)) wf (by kernel_rfl) ⟨rfl, trivial⟩ (by kernel_rfl) (by kernel_rfl) (fun _ => pf_p tok rfl rfl rfl rfl) (fun P_13 => ?_)
      refine sim_end wf ⟨P_13 _, trivial, trivial, trivial, trivial, trivial, trivial, trivial, trivial, trivial, trivial, trivial, trivial⟩ (by kernel_rfl) ?_
      clear wf P_0 P_1 P_10 P_13 P_2 P_3 P_4 P_5 P_6 P_7 P_8 P_9
      refine x_blk ?_
      refine x_seq ?_
      refine c_weak [(2, .int .u32 t2_2), (3, Slc.v p3), (4, .pointer (some (⟨b1, 0, none⟩ : Addr))), (5, .pointer (some (⟨b3, 0, none⟩ : Addr))), (9, Slc.v s11), (10, Slc.v t10_2), (11, .int .i64 t11_1)] ⟨rfl, rfl, rfl, rfl, rfl, rfl, rfl, trivial⟩ ?_
      refine c_region ?_
      refine w_p tok rfl rfl rfl ?_
      refine w_p tok rfl rfl rfl ?_
      obtain ⟨x13, ex13, H⟩ := H
      refine w_pe tok rfl (congrArg (fun z => (.int .i64 z : Value)) ex13) rfl rfl ?_
      refine w_end ?_
      exact x_join (t2_2, s11, t10_2, x13) H ⟨rfl, rfl, rfl, rfl, rfl, rfl, rfl, trivial⟩
    ·
      refine c_seq ?_
      refine c_region ?_
      refine w_p tok rfl rfl rfl ?_
      refine w_p tok rfl rfl rfl ?_
      refine w_p tok rfl rfl rfl ?_
      refine w_end ?_
      refine x_seq ?_
      refine c_if H rfl (fun H => ?_) (fun H => ?_)
      ·
        refine c_seq ?_
        refine c_region ?_
        obtain ⟨v14, lv14, hv14, H⟩ := H
        refine w_y (y_lda tok rfl rfl rfl rfl (by rw [List.length_map]; exact lv14) hv14) rfl rfl ?_
        refine w_p tok rfl rfl rfl ?_
        obtain ⟨v15, lv15, hv15, H⟩ := H
        refine w_y (y_lda tok rfl rfl rfl rfl (by rw [List.length_map]; exact lv15) hv15) rfl rfl ?_
        refine w_call ref04_Block_ok (ref04_Block_ref _ _ _ _ _ H) rfl rfl rfl rfl ?_
        rintro _ h17 ⟨r16, rfl, H⟩
        refine w_p tok rfl rfl rfl ?_
        refine w_end ?_
        refine x_seq ?_
        refine c_weak [(2, .int .u32 t2_1), (9, Slc.v t9_1), (10, Slc.v r16), (11, .int .i64 t11_1), (3, Slc.v p3), (4, .pointer (some (⟨b1, 0, none⟩ : Addr))), (5, .pointer (some (⟨b3, 0, none⟩ : Addr)))] ⟨rfl, rfl, rfl, rfl, rfl, rfl, rfl, trivial⟩ ?_
        refine c_region ?_
        refine w_p tok rfl rfl rfl ?_
        refine w_p tok rfl rfl rfl ?_
        obtain ⟨x18, ex18, H⟩ := H
        refine w_pe tok rfl (congrArg (fun z => (.int .u32 z : Value)) ex18) rfl rfl ?_
        refine w_end ?_
        exact x_join (x18, r16) H ⟨rfl, rfl, rfl, rfl, rfl, rfl, rfl, trivial⟩
      ·
        refine c_skip ?_
        exact x_join (t2_1, t10_1) H ⟨rfl, rfl, rfl, rfl, rfl, rfl, rfl, trivial⟩
  ·
    refine c_exit ?_
    refine x_te ?_
    refine x_te ?_
    refine x_bh ?_
    refine x_seq ?_
    refine c_weak [(9, Slc.v t9_1)] ⟨rfl, trivial⟩ ?_
    refine c_seq ?_
    refine c_region ?_
    refine w_p tok rfl rfl rfl ?_
    refine w_p tok rfl rfl rfl ?_
    refine w_end ?_
    refine x_seq ?_
    refine c_ret ?_
    exact x_ret _ rfl _ rfl ⟨t9_1, rfl, H⟩

theorem ref01_Kept_ok : CallOk Go.Proofs.Tryd.prog 14 := ⟨_, Go.Proofs.Tryd.func14, by kernel_rfl, by kernel_rfl⟩
theorem ref01_Kept_ref (p0 : Slc) (p1 : Slc) (k : (Bool) → Heap → Prop) (h : Heap) (H : ref01_Kept p0 p1 k h) : CallsH Go.Proofs.Tryd.prog 14 #[Slc.v p0, Slc.v p1] h (fun v h' => ∃ r : Bool, v = .bool r ∧ k r h') := by
  refine f_enter (N := 29) Go.Proofs.Tryd.func14 rfl rfl rfl (fun w0 => ?_)
  unfold ref01_Kept at H
  refine c_weak [(0, Slc.v p0), (1, Slc.v p1)] ⟨rfl, rfl, trivial⟩ ?_
  refine c_seq ?_
  refine c_region ?_
  refine w_p tok rfl rfl rfl ?_
  refine w_end ?_
  refine x_seq ?_
  refine c_seq ?_
  refine c_seq ?_
  refine c_region ?_
  refine w_p tok rfl rfl rfl ?_
  refine w_p tok rfl rfl rfl ?_
  refine w_call ref01_Same_ok (ref01_Same_ref _ _ _ _ H) rfl rfl rfl rfl ?_
  rintro _ h2 ⟨r1, rfl, H⟩
  refine w_p tok rfl rfl rfl ?_
  refine w_end ?_
  refine x_seq ?_
  refine c_if H rfl (fun H => ?_) (fun H => ?_)
  ·
    refine c_seq ?_
    refine c_region ?_
    refine w_p tok rfl rfl rfl ?_
    refine w_end ?_
    refine x_seq ?_
    refine c_ret ?_
    refine x_tr ?_
    exact x_ret _ rfl _ rfl ⟨false, rfl, H⟩
  ·
    refine c_skip ?_
    refine x_seq ?_
    refine c_seq ?_
    refine c_region ?_
    refine w_p tok rfl rfl rfl ?_
    refine w_p tok rfl rfl rfl ?_
    refine w_p tok rfl rfl rfl ?_
    refine w_p tok rfl rfl rfl ?_
    obtain ⟨s3, ps3, qs3, rs3, ts3, es3, H⟩ := H
    refine w_ye (y_sl (s := p0) (L := 0) (H := (IntKind.i64.wrap ((p0.len : Int) + 8))) (M := (p0.cap : Int)) tok rfl rfl rfl rfl rfl rfl rfl (by simp) ps3 qs3 rs3 ts3) (congrArg Slc.v es3) rfl rfl ?_
    refine w_p tok rfl rfl rfl ?_
    refine w_end ?_
    refine x_seq ?_
    refine c_weak [(0, Slc.v p0), (5, Slc.v s3)] ⟨rfl, rfl, trivial⟩ ?_
    refine c_seq ?_
    refine c_seq ?_
    refine c_region ?_
    refine w_p tok rfl rfl rfl ?_
    refine w_p tok rfl rfl rfl ?_
    obtain ⟨x4, ex4, H⟩ := H
    refine w_pe tok rfl (congrArg (fun z => (.int .i64 z : Value)) ex4) rfl rfl ?_
    refine w_end ?_
    refine x_seq ?_
    refine c_block ?_
    obtain ⟨I1, μ1, H0, HI⟩ := H
    refine c_loop (σ := Int) (fun (s : Int) => [(6, .int .i64 s), (5, Slc.v s3)]) I1 μ1 x4 H0 ⟨rfl, rfl, trivial⟩ ?_
    rintro t6_1 h_1 H
    replace H := HI t6_1 h_1 H
    unfold ref01_Kept_l1b at H
    refine c_weak [(6, .int .i64 t6_1), (5, Slc.v s3)] ⟨rfl, rfl, trivial⟩ ?_
    refine c_seq ?_
    refine c_seq ?_
    refine c_region ?_
    refine w_p tok rfl rfl rfl ?_
    refine w_p tok rfl rfl rfl ?_
    refine w_p tok rfl rfl rfl ?_
    refine w_p tok rfl rfl rfl ?_
    refine w_end ?_
    refine x_seq ?_
    refine c_if H rfl (fun H => ?_) (fun H => ?_)
    ·
      refine c_skip ?_
      refine x_seq ?_
      refine c_seq ?_
      refine c_block ?_
      refine c_seq ?_
      refine c_region ?_
      refine w_p tok rfl rfl rfl ?_
      refine w_p tok rfl rfl rfl ?_
      obtain ⟨a5, ha5, la5, ua5, H⟩ := H
      refine w_y (y_ixa' tok rfl rfl ha5 rfl rfl rfl la5 ua5) rfl rfl ?_
      obtain ⟨v6, hv6, H⟩ := H
      refine w_y (y_ld tok rfl rfl rfl rfl hv6) rfl rfl ?_
      refine w_p tok rfl rfl rfl ?_
      refine w_end ?_
      refine x_seq ?_
      refine c_weak [(6, .int .i64 t6_1), (5, Slc.v s3), (28, .bool (v6 != 165))] ⟨rfl, rfl, rfl, trivial⟩ ?_
      refine c_if H rfl (fun H => ?_) (fun H => ?_)
      ·
        refine c_seq ?_
        refine c_region ?_
        refine w_p tok rfl rfl rfl ?_
        refine w_end ?_
        refine x_seq ?_
        refine c_ret ?_
        refine x_br ?_
        refine x_tr ?_
        refine x_tr ?_
        refine x_br ?_
        refine x_tr ?_
        exact x_ret _ rfl _ rfl ⟨false, rfl, H⟩
      ·
        refine c_skip ?_
        refine x_blk ?_
        refine x_seq ?_
        refine c_region ?_
        refine w_p tok rfl rfl rfl ?_
        refine w_p tok rfl rfl rfl ?_
        obtain ⟨x7, ex7, H⟩ := H
        refine w_pe tok rfl (congrArg (fun z => (.int .i64 z : Value)) ex7) rfl rfl ?_
        refine w_end ?_
        exact x_join x7 H ⟨rfl, rfl, trivial⟩
    ·
      refine c_exit ?_
      refine x_te ?_
      refine x_te ?_
      refine x_bh ?_
      refine x_seq ?_
      refine c_seq ?_
      refine c_region ?_
      refine w_p tok rfl rfl rfl ?_
      refine w_end ?_
      refine x_seq ?_
      refine c_ret ?_
      exact x_ret _ rfl _ rfl ⟨true, rfl, H⟩

theorem law04_ChachaStreams_ok : CallOk Go.Proofs.Tryd.prog 4 := ⟨_, Go.Proofs.Tryd.func4, by kernel_rfl, by kernel_rfl⟩
theorem law04_ChachaStreams_ref (p0 : List Int) (p1 : List Int) (p2 : Int) (p3 : Slc) (k : (Bool) → Heap → Prop) (h : Heap) (H : law04_ChachaStreams p0 p1 p2 p3 k h) : CallsH Go.Proofs.Tryd.prog 4 #[.agg ((p0).map (Value.int .u8)).toArray, .agg ((p1).map (Value.int .u8)).toArray, .int .u32 p2, Slc.v p3] h (fun v h' => ∃ r : Bool, v = .bool r ∧ k r h') := by
  refine f_enter (N := 46) Go.Proofs.Tryd.func4 rfl rfl rfl (fun w0 => ?_)
  unfold law04_ChachaStreams at H
  refine c_weak [(0, .agg ((p0).map (Value.int .u8)).toArray), (1, .agg ((p1).map (Value.int .u8)).toArray), (2, .int .u32 p2), (3, Slc.v p3)] ⟨rfl, rfl, rfl, rfl, trivial⟩ ?_
  refine c_seq ?_
  refine c_region ?_
  obtain ⟨b1, h2, eb1, eh2, H⟩ := H
  refine w_h (h_box rfl rfl eb1 eh2) rfl rfl ?_
  obtain ⟨b3, h4, eb3, eh4, H⟩ := H
  refine w_h (h_box rfl rfl eb3 eh4) rfl rfl ?_
  refine w_p tok rfl rfl rfl ?_
  refine w_end ?_
  refine x_seq ?_
  refine c_seq ?_
  refine c_seq ?_
  refine c_region ?_
  refine w_p tok rfl rfl rfl ?_
  refine w_p tok rfl rfl rfl ?_
  refine w_p tok rfl rfl rfl ?_
  refine w_end ?_
  refine x_seq ?_
  refine c_if H rfl (fun H => ?_) (fun H => ?_)
  ·
    refine c_seq ?_
    refine c_region ?_
    refine w_call law04_awake_ok (law04_awake_ref  _ _ H) rfl rfl rfl rfl ?_
    rintro _ h6 ⟨r5, rfl, H⟩
    refine w_p tok rfl rfl rfl ?_
    refine w_end ?_
    refine x_seq ?_
    refine c_weak [(8, .bool r5)] ⟨rfl, trivial⟩ ?_
    refine c_ret ?_
    refine x_tr ?_
    exact x_ret _ rfl _ rfl ⟨r5, rfl, H⟩
  ·
    refine c_skip ?_
    refine x_seq ?_
    refine c_seq ?_
    refine c_region ?_
    refine w_p tok rfl rfl rfl ?_
    refine w_call ref01_Lent_ok (ref01_Lent_ref _ _ _ H) rfl rfl rfl rfl ?_
    rintro _ h8 ⟨r7, rfl, H⟩
    refine w_p tok rfl rfl rfl ?_
    refine w_end ?_
    refine x_seq ?_
    refine c_weak [(2, .int .u32 p2), (3, Slc.v p3), (4, .pointer (some (⟨b1, 0, none⟩ : Addr))), (5, .pointer (some (⟨b3, 0, none⟩ : Addr))), (9, Slc.v r7)] ⟨rfl, rfl, rfl, rfl, rfl, trivial⟩ ?_
    refine c_seq ?_
    refine c_region ?_
    obtain ⟨v9, lv9, hv9, H⟩ := H
    refine w_y (y_lda tok rfl rfl rfl rfl (by rw [List.length_map]; exact lv9) hv9) rfl rfl ?_
    obtain ⟨v10, lv10, hv10, H⟩ := H
    refine w_y (y_lda tok rfl rfl rfl rfl (by rw [List.length_map]; exact lv10) hv10) rfl rfl ?_
    refine w_p tok rfl rfl rfl ?_
    refine w_p tok rfl rfl rfl ?_
    refine w_call chacha_Xor_ok (chacha_Xor_ref _ _ _ _ _ _ H) rfl rfl rfl rfl ?_
    rintro _ h12 ⟨r11, rfl, H⟩
    refine w_p tok rfl rfl rfl ?_
    refine w_end ?_
    refine x_seq ?_
    refine c_seq ?_
    refine c_region ?_
    refine w_p tok rfl rfl rfl ?_
    obtain ⟨v13, lv13, hv13, H⟩ := H
    refine w_y (y_lda tok rfl rfl rfl rfl (by rw [List.length_map]; exact lv13) hv13) rfl rfl ?_
    obtain ⟨v14, lv14, hv14, H⟩ := H
    refine w_y (y_lda tok rfl rfl rfl rfl (by rw [List.length_map]; exact lv14) hv14) rfl rfl ?_
    refine w_p tok rfl rfl rfl ?_
    refine w_p tok rfl rfl rfl ?_
    refine w_call ref04_Xor_ok (ref04_Xor_ref _ _ _ _ _ _ H) rfl rfl rfl rfl ?_
    rintro _ h16 ⟨r15, rfl, H⟩
    refine w_call ref01_Same_ok (ref01_Same_ref _ _ _ _ H) rfl rfl rfl rfl ?_
    rintro _ h18 ⟨r17, rfl, H⟩
    refine w_p tok rfl rfl rfl ?_
    refine w_cut 8 (α := Bool) (fun (s : Bool) => [(37, .bool s), (3, Slc.v p3), (9, Slc.v r7)]) (fun (s : Bool) h => law04_ChachaStreams_g1 p3 r7 s k h) ?_ ?_
    ·
      rintro t37_1 h_1 H
      replace H : law04_ChachaStreams_g1 p3 r7 t37_1 k h_1 := H
      unfold law04_ChachaStreams_g1 at H
      refine w_weak [(37, .bool t37_1), (3, Slc.v p3), (9, Slc.v r7)] ⟨rfl, rfl, rfl, trivial⟩ ?_
      refine w_p tok rfl rfl rfl ?_
      refine w_cut 4 (α := Bool) (fun (s : Bool) => [(42, .bool s)]) (fun (s : Bool) h => law04_ChachaStreams_g2 s k h) ?_ ?_
      ·
        rintro t42_2 h_2 H
        replace H : law04_ChachaStreams_g2 t42_2 k h_2 := H
        unfold law04_ChachaStreams_g2 at H
        refine w_weak [(42, .bool t42_2)] ⟨rfl, trivial⟩ ?_
        refine w_p tok rfl rfl rfl ?_
        refine w_cut 2 (α := Bool) (fun (s : Bool) => [(45, .bool s)]) (fun (s : Bool) h => law04_ChachaStreams_g3 s k h) ?_ ?_
        ·
          rintro t45_3 h_3 H
          replace H : law04_ChachaStreams_g3 t45_3 k h_3 := H
          unfold law04_ChachaStreams_g3 at H
          refine w_weak [(45, .bool t45_3)] ⟨rfl, trivial⟩ ?_
          refine w_p tok rfl rfl rfl ?_
          refine w_end ?_
          refine x_seq ?_
          refine c_ret ?_
          exact x_ret _ rfl _ rfl ⟨t45_3, rfl, H⟩
        ·
          refine w_gif (d := 43) H rfl (fun H => ?_) (fun H => ?_)
          ·
            refine w_call law04_awake_ok (law04_awake_ref  _ _ H) rfl rfl rfl rfl ?_
            rintro _ h20 ⟨r19, rfl, H⟩
            refine w_p tok rfl rfl rfl ?_
            exact w_jn r19 H ⟨rfl, trivial⟩
          ·
            refine w_skip rfl rfl ?_
            refine w_p tok rfl rfl rfl ?_
            exact w_jn false H ⟨rfl, trivial⟩
      ·
        refine w_gif (d := 38) H rfl (fun H => ?_) (fun H => ?_)
        ·
          refine w_p tok rfl rfl rfl ?_
          refine w_p tok rfl rfl rfl ?_
          refine w_call ref01_Kept_ok (ref01_Kept_ref _ _ _ _ H) rfl rfl rfl rfl ?_
          rintro _ h22 ⟨r21, rfl, H⟩
          refine w_p tok rfl rfl rfl ?_
          exact w_jn r21 H ⟨rfl, trivial⟩
        ·
          refine w_skip rfl rfl ?_
          refine w_skip rfl rfl ?_
          refine w_skip rfl rfl ?_
          refine w_p tok rfl rfl rfl ?_
          exact w_jn false H ⟨rfl, trivial⟩
    ·
      refine w_gif (d := 29) H rfl (fun H => ?_) (fun H => ?_)
      ·
        obtain ⟨v23, lv23, hv23, H⟩ := H
        refine w_y (y_lda tok rfl rfl rfl rfl (by rw [List.length_map]; exact lv23) hv23) rfl rfl ?_
        obtain ⟨v24, lv24, hv24, H⟩ := H
        refine w_y (y_lda tok rfl rfl rfl rfl (by rw [List.length_map]; exact lv24) hv24) rfl rfl ?_
        refine w_p tok rfl rfl rfl ?_
        refine w_p tok rfl rfl rfl ?_
        refine w_call chacha_Xor_ok (chacha_Xor_ref _ _ _ _ _ _ H) rfl rfl rfl rfl ?_
        rintro _ h26 ⟨r25, rfl, H⟩
        refine w_p tok rfl rfl rfl ?_
        refine w_call ref01_Same_ok (ref01_Same_ref _ _ _ _ H) rfl rfl rfl rfl ?_
        rintro _ h28 ⟨r27, rfl, H⟩
        refine w_p tok rfl rfl rfl ?_
        exact w_jn r27 H ⟨rfl, rfl, rfl, trivial⟩
      ·
        refine w_skip rfl rfl ?_
        refine w_skip rfl rfl ?_
        refine w_skip rfl rfl ?_
        refine w_skip rfl rfl ?_
        refine w_skip rfl rfl ?_
        refine w_skip rfl rfl ?_
        refine w_skip rfl rfl ?_
        refine w_p tok rfl rfl rfl ?_
        exact w_jn false H ⟨rfl, rfl, rfl, trivial⟩

theorem law04_ChachaParts_ok : CallOk Go.Proofs.Tryd.prog 5 := ⟨_, Go.Proofs.Tryd.func5, by kernel_rfl, by kernel_rfl⟩
theorem law04_ChachaParts_ref (p0 : List Int) (p1 : List Int) (p2 : Int) (p3 : Slc) (k : (Bool) → Heap → Prop) (h : Heap) (H : law04_ChachaParts p0 p1 p2 p3 k h) : CallsH Go.Proofs.Tryd.prog 5 #[.agg ((p0).map (Value.int .u8)).toArray, .agg ((p1).map (Value.int .u8)).toArray, .int .u32 p2, Slc.v p3] h (fun v h' => ∃ r : Bool, v = .bool r ∧ k r h') := by
  refine f_enter (N := 45) Go.Proofs.Tryd.func5 rfl rfl rfl (fun w0 => ?_)
  unfold law04_ChachaParts at H
  refine c_weak [(0, .agg ((p0).map (Value.int .u8)).toArray), (1, .agg ((p1).map (Value.int .u8)).toArray), (2, .int .u32 p2), (3, Slc.v p3)] ⟨rfl, rfl, rfl, rfl, trivial⟩ ?_
  refine c_seq ?_
  refine c_region ?_
  obtain ⟨b1, h2, eb1, eh2, H⟩ := H
  refine w_h (h_box rfl rfl eb1 eh2) rfl rfl ?_
  obtain ⟨b3, h4, eb3, eh4, H⟩ := H
  refine w_h (h_box rfl rfl eb3 eh4) rfl rfl ?_
  refine w_p tok rfl rfl rfl ?_
  refine w_end ?_
  refine x_seq ?_
  refine c_seq ?_
  refine c_seq ?_
  refine c_region ?_
  refine w_p tok rfl rfl rfl ?_
  refine w_p tok rfl rfl rfl ?_
  refine w_p tok rfl rfl rfl ?_
  refine w_p tok rfl rfl rfl ?_
  refine w_cutU 4 [(18, .bool ((decide ((p3.len : Int) < 64)) || (decide ((p3.len : Int) > 300)))), (2, .int .u32 p2), (3, Slc.v p3), (4, .pointer (some (⟨b1, 0, none⟩ : Addr))), (5, .pointer (some (⟨b3, 0, none⟩ : Addr)))] ?_ ?_
  ·
    refine w_end ?_
    refine x_seq ?_
    refine c_if H rfl (fun H => ?_) (fun H => ?_)
    ·
      refine c_seq ?_
      refine c_region ?_
      refine w_call law04_awake_ok (law04_awake_ref  _ _ H) rfl rfl rfl rfl ?_
      rintro _ h6 ⟨r5, rfl, H⟩
      refine w_p tok rfl rfl rfl ?_
      refine w_end ?_
      refine x_seq ?_
      refine c_ret ?_
      refine x_tr ?_
      exact x_ret _ rfl _ rfl ⟨r5, rfl, H⟩
    ·
      refine c_skip ?_
      refine x_seq ?_
      refine c_seq ?_
      refine c_sim [(2, .int .u32 p2), (3, Slc.v p3), (4, .pointer (some (⟨b1, 0, none⟩ : Addr))), (5, .pointer (some (⟨b3, 0, none⟩ : Addr)))] (by kernel_rfl) (by kernel_rfl) ⟨rfl, rfl, rfl, rfl, trivial⟩ (fun wf => ?_)
      obtain ⟨v7, lv7, hv7, H⟩ := H
      refine sim_l 0 (ei := [(4, .pointer (some (⟨b1, 0, none⟩ : Addr)))]) (d := (some 20)) wf (by kernel_rfl) ⟨rfl, trivial⟩ (by kernel_rfl) (by kernel_rfl) (pf_y rfl rfl rfl (y_lda tok rfl rfl rfl rfl (by rw [List.length_map]; exact lv7) hv7)) (fun P_0 => ?_)
      obtain ⟨v8, lv8, hv8, H⟩ := H
      refine sim_l 1 (ei := [(5, .pointer (some (⟨b3, 0, none⟩ : Addr)))]) (d := (some 21)) wf (by kernel_rfl) ⟨rfl, trivial⟩ (by kernel_rfl) (by kernel_rfl) (pf_y rfl rfl rfl (y_lda tok rfl rfl rfl rfl (by rw [List.length_map]; exact lv8) hv8)) (fun P_1 => ?_)
      refine sim_p 2 (ei := [(2, .int .u32 p2)]) (d := (some 22)) wf (by kernel_rfl) ⟨rfl, trivial⟩ (by kernel_rfl) (by kernel_rfl) (fun _ => pf_p tok rfl rfl rfl rfl) (fun P_2 => ?_)
      refine sim_p 3 (ei := [(3, Slc.v p3)]) (d := (some 23)) wf (by kernel_rfl) ⟨rfl, trivial⟩ (by kernel_rfl) (by kernel_rfl) (fun _ => pf_p tok rfl rfl rfl rfl) (fun P_3 => ?_)
      obtain ⟨s9, ps9, qs9, rs9, ts9, es9, H⟩ := H
      refine sim_p 4 (ei := [(23, Slc.v p3)]) (d := (some 24)) wf (by kernel_rfl) ⟨rfl, trivial⟩ (by kernel_rfl) (by kernel_rfl) (fun _ => pf_ye rfl rfl rfl (y_sl (s := p3) (L := 0) (H := 64) (M := (p3.cap : Int)) tok rfl rfl rfl rfl rfl rfl rfl (by simp) ps9 qs9 rs9 ts9) (congrArg Slc.v es9)) (fun P_4 => ?_)
      refine sim_c 5 [0, 1, 2, 3, 4] [0, 1, 2, 3, 4] (ei := [(20, .agg ((v7).map (Value.int .u8)).toArray), (21, .agg ((v8).map (Value.int .u8)).toArray), (22, .int .u32 p2), (24, Slc.v s9)]) chacha_Xor_ok (chacha_Xor_ref _ _ _ _ _ _ H) wf ⟨P_4 _, P_3 _, P_2 _, P_1, P_0, trivial⟩ (by kernel_rfl) ⟨rfl, rfl, rfl, rfl, trivial⟩ (by kernel_rfl) rfl rfl rfl rfl rfl ?_
      rintro _ h11 ⟨r10, rfl, H⟩
      refine sim_p 6 (ei := [(25, Slc.v r10)]) (d := (some 9)) wf (by kernel_rfl) ⟨rfl, trivial⟩ (by kernel_rfl) (by kernel_rfl) (fun _ => pf_p tok rfl rfl rfl rfl) (fun P_6 => ?_)
      refine sim_end wf ⟨P_6 _, trivial, trivial, trivial, trivial, trivial, trivial⟩ (by kernel_rfl) ?_
      clear wf P_0 P_1 P_2 P_3 P_4 P_6
      refine x_seq ?_
      refine c_seq ?_
      refine c_sim [(2, .int .u32 p2), (3, Slc.v p3), (4, .pointer (some (⟨b1, 0, none⟩ : Addr))), (5, .pointer (some (⟨b3, 0, none⟩ : Addr))), (9, Slc.v r10)] (by kernel_rfl) (by kernel_rfl) ⟨rfl, rfl, rfl, rfl, rfl, trivial⟩ (fun wf => ?_)
      obtain ⟨v12, lv12, hv12, H⟩ := H
      refine sim_l 0 (ei := [(4, .pointer (some (⟨b1, 0, none⟩ : Addr)))]) (d := (some 26)) wf (by kernel_rfl) ⟨rfl, trivial⟩ (by kernel_rfl) (by kernel_rfl) (pf_y rfl rfl rfl (y_lda tok rfl rfl rfl rfl (by rw [List.length_map]; exact lv12) hv12)) (fun P_0 => ?_)
      obtain ⟨v13, lv13, hv13, H⟩ := H
      refine sim_l 1 (ei := [(5, .pointer (some (⟨b3, 0, none⟩ : Addr)))]) (d := (some 27)) wf (by kernel_rfl) ⟨rfl, trivial⟩ (by kernel_rfl) (by kernel_rfl) (pf_y rfl rfl rfl (y_lda tok rfl rfl rfl rfl (by rw [List.length_map]; exact lv13) hv13)) (fun P_1 => ?_)
      refine sim_p 2 (ei := [(2, .int .u32 p2)]) (d := (some 28)) wf (by kernel_rfl) ⟨rfl, trivial⟩ (by kernel_rfl) (by kernel_rfl) (fun _ => pf_p tok rfl rfl rfl rfl) (fun P_2 => ?_)
      refine sim_p 3 (ei := [(28, .int .u32 p2)]) (d := (some 29)) wf (by kernel_rfl) ⟨rfl, trivial⟩ (by kernel_rfl) (by kernel_rfl) (fun _ => pf_p tok rfl rfl rfl rfl) (fun P_3 => ?_)
      refine sim_p 4 (ei := [(3, Slc.v p3)]) (d := (some 30)) wf (by kernel_rfl) ⟨rfl, trivial⟩ (by kernel_rfl) (by kernel_rfl) (fun _ => pf_p tok rfl rfl rfl rfl) (fun P_4 => ?_)
      obtain ⟨s14, ps14, qs14, rs14, ts14, es14, H⟩ := H
      refine sim_p 5 (ei := [(30, Slc.v p3)]) (d := (some 31)) wf (by kernel_rfl) ⟨rfl, trivial⟩ (by kernel_rfl) (by kernel_rfl) (fun _ => pf_ye rfl rfl rfl (y_sl (s := p3) (L := 64) (H := (p3.len : Int)) (M := (p3.cap : Int)) tok rfl rfl rfl rfl rfl rfl rfl (by simp) ps14 qs14 rs14 ts14) (congrArg Slc.v es14)) (fun P_5 => ?_)
      refine sim_c 6 [0, 1, 2, 3, 4, 5] [0, 1, 2, 3, 4, 5] (ei := [(26, .agg ((v12).map (Value.int .u8)).toArray), (27, .agg ((v13).map (Value.int .u8)).toArray), (29, .int .u32 (IntKind.u32.wrap (p2 + 1))), (31, Slc.v s14)]) chacha_Xor_ok (chacha_Xor_ref _ _ _ _ _ _ H) wf ⟨P_5 _, P_4 _, P_3 _, P_2 _, P_1, P_0, trivial⟩ (by kernel_rfl) ⟨rfl, rfl, rfl, rfl, trivial⟩ (by kernel_rfl) rfl rfl rfl rfl rfl ?_
      rintro _ h16 ⟨r15, rfl, H⟩
      refine sim_p 7 (ei := [(32, Slc.v r15)]) (d := (some 10)) wf (by kernel_rfl) ⟨rfl, trivial⟩ (by kernel_rfl) (by kernel_rfl) (fun _ => pf_p tok rfl rfl rfl rfl) (fun P_7 => ?_)
      refine sim_end wf ⟨P_7 _, trivial, trivial, trivial, trivial, trivial, trivial, trivial⟩ (by kernel_rfl) ?_
      clear wf P_0 P_1 P_2 P_3 P_4 P_5 P_7
      refine x_seq ?_
      refine c_weak [(2, .int .u32 p2), (3, Slc.v p3), (4, .pointer (some (⟨b1, 0, none⟩ : Addr))), (5, .pointer (some (⟨b3, 0, none⟩ : Addr))), (9, Slc.v r10), (10, Slc.v r15)] ⟨rfl, rfl, rfl, rfl, rfl, rfl, trivial⟩ ?_
      refine c_seq ?_
      refine c_region ?_
      obtain ⟨v17, lv17, hv17, H⟩ := H
      refine w_y (y_lda tok rfl rfl rfl rfl (by rw [List.length_map]; exact lv17) hv17) rfl rfl ?_
      obtain ⟨v18, lv18, hv18, H⟩ := H
      refine w_y (y_lda tok rfl rfl rfl rfl (by rw [List.length_map]; exact lv18) hv18) rfl rfl ?_
      refine w_p tok rfl rfl rfl ?_
      refine w_p tok rfl rfl rfl ?_
      refine w_call chacha_Xor_ok (chacha_Xor_ref _ _ _ _ _ _ H) rfl rfl rfl rfl ?_
      rintro _ h20 ⟨r19, rfl, H⟩
      refine w_p tok rfl rfl rfl ?_
      refine w_p tok rfl rfl rfl ?_
      obtain ⟨l23, hl23, H⟩ := H
      refine w_a (a_app (s := r10) (r := r15) tok rfl rfl rfl rfl rfl hl23 H) rfl rfl ?_
      rintro _ h22 ⟨s21, rfl, H⟩
      refine w_call ref01_Same_ok (ref01_Same_ref _ _ _ _ H) rfl rfl rfl rfl ?_
      rintro _ h25 ⟨r24, rfl, H⟩
      refine w_p tok rfl rfl rfl ?_
      refine w_cut 2 (α := Bool) (fun (s : Bool) => [(44, .bool s)]) (fun (s : Bool) h => law04_ChachaParts_g1 s k h) ?_ ?_
      ·
        rintro t44_1 h_1 H
        replace H : law04_ChachaParts_g1 t44_1 k h_1 := H
        unfold law04_ChachaParts_g1 at H
        refine w_weak [(44, .bool t44_1)] ⟨rfl, trivial⟩ ?_
        refine w_p tok rfl rfl rfl ?_
        refine w_end ?_
        refine x_seq ?_
        refine c_ret ?_
        exact x_ret _ rfl _ rfl ⟨t44_1, rfl, H⟩
      ·
        refine w_gif (d := 42) H rfl (fun H => ?_) (fun H => ?_)
        ·
          refine w_call law04_awake_ok (law04_awake_ref  _ _ H) rfl rfl rfl rfl ?_
          rintro _ h27 ⟨r26, rfl, H⟩
          refine w_p tok rfl rfl rfl ?_
          exact w_jn r26 H ⟨rfl, trivial⟩
        ·
          refine w_skip rfl rfl ?_
          refine w_p tok rfl rfl rfl ?_
          exact w_jn false H ⟨rfl, trivial⟩
  ·
    refine w_gs (d := 14) rfl (fun hb => ?_) (fun hb => ?_)
    ·
      refine w_skip rfl rfl ?_
      refine w_skip rfl rfl ?_
      refine w_skip rfl rfl ?_
      refine w_p tok rfl rfl rfl ?_
      refine w_jn () rfl ⟨?_, rfl, rfl, rfl, rfl, trivial⟩
      exact congrArg (fun b => some (Value.bool b)) (or_t hb)
    ·
      refine w_p tok rfl rfl rfl ?_
      refine w_p tok rfl rfl rfl ?_
      refine w_p tok rfl rfl rfl ?_
      refine w_p tok rfl rfl rfl ?_
      refine w_jn () rfl ⟨?_, rfl, rfl, rfl, rfl, trivial⟩
      exact congrArg (fun b => some (Value.bool b)) (or_f hb)

theorem law04_ChachaWraps_ok : CallOk Go.Proofs.Tryd.prog 6 := ⟨_, Go.Proofs.Tryd.func6, by kernel_rfl, by kernel_rfl⟩
theorem law04_ChachaWraps_ref (p0 : List Int) (p1 : List Int) (p2 : Slc) (k : (Bool) → Heap → Prop) (h : Heap) (H : law04_ChachaWraps p0 p1 p2 k h) : CallsH Go.Proofs.Tryd.prog 6 #[.agg ((p0).map (Value.int .u8)).toArray, .agg ((p1).map (Value.int .u8)).toArray, Slc.v p2] h (fun v h' => ∃ r : Bool, v = .bool r ∧ k r h') := by
  refine f_enter (N := 36) Go.Proofs.Tryd.func6 rfl rfl rfl (fun w0 => ?_)
  unfold law04_ChachaWraps at H
  refine c_weak [(0, .agg ((p0).map (Value.int .u8)).toArray), (1, .agg ((p1).map (Value.int .u8)).toArray), (2, Slc.v p2)] ⟨rfl, rfl, rfl, trivial⟩ ?_
  refine c_seq ?_
  refine c_region ?_
  obtain ⟨b1, h2, eb1, eh2, H⟩ := H
  refine w_h (h_box rfl rfl eb1 eh2) rfl rfl ?_
  obtain ⟨b3, h4, eb3, eh4, H⟩ := H
  refine w_h (h_box rfl rfl eb3 eh4) rfl rfl ?_
  refine w_p tok rfl rfl rfl ?_
  refine w_end ?_
  refine x_seq ?_
  refine c_seq ?_
  refine c_seq ?_
  refine c_region ?_
  refine w_p tok rfl rfl rfl ?_
  refine w_p tok rfl rfl rfl ?_
  refine w_p tok rfl rfl rfl ?_
  refine w_end ?_
  refine x_seq ?_
  refine c_if H rfl (fun H => ?_) (fun H => ?_)
  ·
    refine c_seq ?_
    refine c_region ?_
    refine w_call law04_awake_ok (law04_awake_ref  _ _ H) rfl rfl rfl rfl ?_
    rintro _ h6 ⟨r5, rfl, H⟩
    refine w_p tok rfl rfl rfl ?_
    refine w_end ?_
    refine x_seq ?_
    refine c_weak [(6, .bool r5)] ⟨rfl, trivial⟩ ?_
    refine c_ret ?_
    refine x_tr ?_
    exact x_ret _ rfl _ rfl ⟨r5, rfl, H⟩
  ·
    refine c_skip ?_
    refine x_seq ?_
    refine c_seq ?_
    refine c_sim [(2, Slc.v p2), (3, .pointer (some (⟨b1, 0, none⟩ : Addr))), (4, .pointer (some (⟨b3, 0, none⟩ : Addr)))] (by kernel_rfl) (by kernel_rfl) ⟨rfl, rfl, rfl, trivial⟩ (fun wf => ?_)
    obtain ⟨v7, lv7, hv7, H⟩ := H
    refine sim_l 0 (ei := [(3, .pointer (some (⟨b1, 0, none⟩ : Addr)))]) (d := (some 12)) wf (by kernel_rfl) ⟨rfl, trivial⟩ (by kernel_rfl) (by kernel_rfl) (pf_y rfl rfl rfl (y_lda tok rfl rfl rfl rfl (by rw [List.length_map]; exact lv7) hv7)) (fun P_0 => ?_)
    obtain ⟨v8, lv8, hv8, H⟩ := H
    refine sim_l 1 (ei := [(4, .pointer (some (⟨b3, 0, none⟩ : Addr)))]) (d := (some 13)) wf (by kernel_rfl) ⟨rfl, trivial⟩ (by kernel_rfl) (by kernel_rfl) (pf_y rfl rfl rfl (y_lda tok rfl rfl rfl rfl (by rw [List.length_map]; exact lv8) hv8)) (fun P_1 => ?_)
    refine sim_p 3 (ei := [(2, Slc.v p2)]) (d := (some 15)) wf (by kernel_rfl) ⟨rfl, trivial⟩ (by kernel_rfl) (by kernel_rfl) (fun _ => pf_p tok rfl rfl rfl rfl) (fun P_3 => ?_)
    obtain ⟨b9, h10, ph10, qh10, rh10, th10, eb9, eh10, H⟩ := H
    refine sim_h 2 [] [] (ei := []) wf ⟨P_3 _, P_1, P_0, trivial⟩ (by kernel_rfl) trivial (by kernel_rfl) rfl rfl rfl (h_mk tok rfl rfl rfl rfl rfl rfl ph10 qh10 rh10 th10 eb9 eh10) ?_
    obtain ⟨hy11, hy12, H⟩ := H
    refine sim_re (x := ⟨1, .agg ((v8).map (Value.int .u8)).toArray, [(4, .pointer (some (⟨b3, 0, none⟩ : Addr)))]⟩) (pf_y rfl rfl rfl (y_lda tok rfl rfl rfl rfl (by rw [List.length_map]; exact lv8) hy11)) (fun P_1 => ?_)
    refine sim_re (x := ⟨0, .agg ((v7).map (Value.int .u8)).toArray, [(3, .pointer (some (⟨b1, 0, none⟩ : Addr)))]⟩) (pf_y rfl rfl rfl (y_lda tok rfl rfl rfl rfl (by rw [List.length_map]; exact lv7) hy12)) (fun P_0 => ?_)
    obtain ⟨l15, hl15, H⟩ := H
    refine sim_a 4 [2, 3] [3] (ei := [(14, Slc.v (⟨some ⟨b9, 0, none⟩, (64 : Int).toNat, (64 : Int).toNat⟩ : Slc)), (15, Slc.v p2)]) wf ⟨P_3 _, P_1, P_0, trivial⟩ (by kernel_rfl) ⟨rfl, rfl, trivial⟩ (by kernel_rfl) rfl rfl rfl (a_app (s := (⟨some ⟨b9, 0, none⟩, (64 : Int).toNat, (64 : Int).toNat⟩ : Slc)) (r := p2) tok rfl rfl rfl rfl rfl hl15 H) ?_
    rintro _ h14 ⟨s13, rfl, H⟩
    obtain ⟨hy16, hy17, H⟩ := H
    refine sim_re (x := ⟨1, .agg ((v8).map (Value.int .u8)).toArray, [(4, .pointer (some (⟨b3, 0, none⟩ : Addr)))]⟩) (pf_y rfl rfl rfl (y_lda tok rfl rfl rfl rfl (by rw [List.length_map]; exact lv8) hy16)) (fun P_1 => ?_)
    refine sim_re (x := ⟨0, .agg ((v7).map (Value.int .u8)).toArray, [(3, .pointer (some (⟨b1, 0, none⟩ : Addr)))]⟩) (pf_y rfl rfl rfl (y_lda tok rfl rfl rfl rfl (by rw [List.length_map]; exact lv7) hy17)) (fun P_0 => ?_)
    refine sim_c 5 [0, 1, 2, 3, 4] [0, 1, 3] (ei := [(12, .agg ((v7).map (Value.int .u8)).toArray), (13, .agg ((v8).map (Value.int .u8)).toArray), (16, Slc.v s13)]) chacha_Xor_ok (chacha_Xor_ref _ _ _ _ _ _ H) wf ⟨trivial, P_1, P_0, trivial⟩ (by kernel_rfl) ⟨rfl, rfl, rfl, trivial⟩ (by kernel_rfl) rfl rfl rfl rfl rfl ?_
    rintro _ h19 ⟨r18, rfl, H⟩
    refine sim_p 6 (ei := [(17, Slc.v r18)]) (d := (some 7)) wf (by kernel_rfl) ⟨rfl, trivial⟩ (by kernel_rfl) (by kernel_rfl) (fun _ => pf_p tok rfl rfl rfl rfl) (fun P_6 => ?_)
    refine sim_end wf ⟨P_6 _, trivial, trivial, trivial, trivial⟩ (by kernel_rfl) ?_
    clear wf P_0 P_1 P_3 P_6
    refine x_seq ?_
    refine c_seqJ (α := Bool) (fun (s : Bool) => [(6, .bool s)]) (fun (s : Bool) h => law04_ChachaWraps_j1 s k h) ?_ ?_
    ·
      rintro t6_1 h_1 H
      replace H : law04_ChachaWraps_j1 t6_1 k h_1 := H
      unfold law04_ChachaWraps_j1 at H
      refine c_weak [(6, .bool t6_1)] ⟨rfl, trivial⟩ ?_
      refine c_ret ?_
      exact x_ret _ rfl _ rfl ⟨t6_1, rfl, H⟩
    ·
      refine c_sim [(2, Slc.v p2), (3, .pointer (some (⟨b1, 0, none⟩ : Addr))), (4, .pointer (some (⟨b3, 0, none⟩ : Addr))), (7, Slc.v r18)] (by kernel_rfl) (by kernel_rfl) ⟨rfl, rfl, rfl, rfl, trivial⟩ (fun wf => ?_)
      refine sim_p 0 (ei := [(7, Slc.v r18)]) (d := (some 18)) wf (by kernel_rfl) ⟨rfl, trivial⟩ (by kernel_rfl) (by kernel_rfl) (fun _ => pf_p tok rfl rfl rfl rfl) (fun P_0 => ?_)
      refine sim_p 1 (ei := [(18, Slc.v r18)]) (d := (some 19)) wf (by kernel_rfl) ⟨rfl, trivial⟩ (by kernel_rfl) (by kernel_rfl) (fun _ => pf_p tok rfl rfl rfl rfl) (fun P_1 => ?_)
      refine sim_p 2 (ei := [(2, Slc.v p2)]) (d := (some 20)) wf (by kernel_rfl) ⟨rfl, trivial⟩ (by kernel_rfl) (by kernel_rfl) (fun _ => pf_p tok rfl rfl rfl rfl) (fun P_2 => ?_)
      refine sim_p 3 (ei := [(20, Slc.v p2)]) (d := (some 21)) wf (by kernel_rfl) ⟨rfl, trivial⟩ (by kernel_rfl) (by kernel_rfl) (fun _ => pf_p tok rfl rfl rfl rfl) (fun P_3 => ?_)
      refine sim_p 4 (ei := [(21, .int .i64 (p2.len : Int))]) (d := (some 22)) wf (by kernel_rfl) ⟨rfl, trivial⟩ (by kernel_rfl) (by kernel_rfl) (fun _ => pf_p tok rfl rfl rfl rfl) (fun P_4 => ?_)
      refine sim_p 5 (ei := [(19, .int .i64 (r18.len : Int)), (22, .int .i64 (IntKind.i64.wrap (64 + (p2.len : Int))))]) (d := (some 23)) wf (by kernel_rfl) ⟨rfl, rfl, trivial⟩ (by kernel_rfl) (by kernel_rfl) (fun _ => pf_p tok rfl rfl rfl rfl) (fun P_5 => ?_)
      refine sim_p 6 (ei := [(23, .bool ((r18.len : Int) == (IntKind.i64.wrap (64 + (p2.len : Int)))))]) (d := (some 24)) wf (by kernel_rfl) ⟨rfl, trivial⟩ (by kernel_rfl) (by kernel_rfl) (fun _ => pf_p tok rfl rfl rfl rfl) (fun P_6 => ?_)
      refine sim_gif 24 H rfl (fun hb H => ?_) (fun hb H => ?_)
      ·
        refine sim_p 7 (ei := [(7, Slc.v r18), (24, .bool true)]) (d := (some 25)) wf (by kernel_rfl) ⟨rfl, rfl, trivial⟩ (by kernel_rfl) (by kernel_rfl) (fun _ => pf_p tok rfl rfl rfl rfl) (fun P_7 => ?_)
        obtain ⟨s20, ps20, qs20, rs20, ts20, es20, H⟩ := H
        refine sim_p 8 (ei := [(24, .bool true), (25, Slc.v r18)]) (d := (some 26)) wf (by kernel_rfl) ⟨rfl, rfl, trivial⟩ (by kernel_rfl) (by kernel_rfl) (fun _ => pf_ye rfl rfl rfl (y_sl (s := r18) (L := 64) (H := (r18.len : Int)) (M := (r18.cap : Int)) tok rfl rfl rfl rfl rfl rfl rfl (by simp) ps20 qs20 rs20 ts20) (congrArg Slc.v es20)) (fun P_8 => ?_)
        obtain ⟨v21, lv21, hv21, H⟩ := H
        refine sim_l 9 (ei := [(3, .pointer (some (⟨b1, 0, none⟩ : Addr))), (24, .bool true)]) (d := (some 27)) wf (by kernel_rfl) ⟨rfl, rfl, trivial⟩ (by kernel_rfl) (by kernel_rfl) (pf_y rfl rfl rfl (y_lda tok rfl rfl rfl rfl (by rw [List.length_map]; exact lv21) hv21)) (fun P_9 => ?_)
        obtain ⟨v22, lv22, hv22, H⟩ := H
        refine sim_l 10 (ei := [(4, .pointer (some (⟨b3, 0, none⟩ : Addr))), (24, .bool true)]) (d := (some 28)) wf (by kernel_rfl) ⟨rfl, rfl, trivial⟩ (by kernel_rfl) (by kernel_rfl) (pf_y rfl rfl rfl (y_lda tok rfl rfl rfl rfl (by rw [List.length_map]; exact lv22) hv22)) (fun P_10 => ?_)
        refine sim_p 11 (ei := [(2, Slc.v p2), (24, .bool true)]) (d := (some 29)) wf (by kernel_rfl) ⟨rfl, rfl, trivial⟩ (by kernel_rfl) (by kernel_rfl) (fun _ => pf_p tok rfl rfl rfl rfl) (fun P_11 => ?_)
        refine sim_c 12 [0, 1, 2, 3, 4, 5, 6, 9, 10, 11] [0, 1, 2, 3, 4, 5, 6, 9, 10, 11] (ei := [(24, .bool true), (27, .agg ((v21).map (Value.int .u8)).toArray), (28, .agg ((v22).map (Value.int .u8)).toArray), (29, Slc.v p2)]) chacha_Xor_ok (chacha_Xor_ref _ _ _ _ _ _ H) wf ⟨P_11 _, P_10, P_9, P_8 _, P_7 _, P_6 _, P_5 _, P_4 _, P_3 _, P_2 _, P_1 _, P_0 _, trivial⟩ (by kernel_rfl) ⟨rfl, rfl, rfl, rfl, trivial⟩ (by kernel_rfl) rfl rfl rfl rfl rfl ?_
        rintro _ h24 ⟨r23, rfl, H⟩
        refine sim_c 13 [0, 1, 2, 3, 4, 5, 6, 7, 8, 9, 10, 11, 12] [0, 1, 2, 3, 4, 5, 6, 7, 8, 9, 10, 11] (ei := [(24, .bool true), (26, Slc.v s20), (30, Slc.v r23)]) ref01_Same_ok (ref01_Same_ref _ _ _ _ H) wf ⟨trivial, trivial, trivial, P_8 _, P_7 _, trivial, trivial, trivial, trivial, trivial, trivial, trivial, trivial⟩ (by kernel_rfl) ⟨rfl, rfl, rfl, trivial⟩ (by kernel_rfl) rfl rfl rfl rfl rfl ?_
        rintro _ h26 ⟨r25, rfl, H⟩
        refine sim_p 14 (ei := [(24, .bool true), (31, .bool r25)]) (d := (some 32)) wf (by kernel_rfl) ⟨rfl, rfl, trivial⟩ (by kernel_rfl) (by kernel_rfl) (fun _ => pf_p tok rfl rfl rfl rfl) (fun P_14 => ?_)
        refine sim_p 15 (ei := [(32, .bool r25)]) (d := (some 33)) wf (by kernel_rfl) ⟨rfl, trivial⟩ (by kernel_rfl) (by kernel_rfl) (fun _ => pf_p tok rfl rfl rfl rfl) (fun P_15 => ?_)
        refine sim_gif 33 H rfl (fun hb H => ?_) (fun hb H => ?_)
        ·
          refine sim_c 16 [0, 1, 2, 3, 4, 5, 6, 7, 8, 9, 10, 11, 12, 13, 14, 15] [0, 1, 2, 3, 4, 5, 6, 7, 8, 9, 10, 11, 14, 15] (ei := [(33, .bool true)]) law04_awake_ok (law04_awake_ref  _ _ H) wf ⟨P_15 _, P_14 _, trivial, trivial, trivial, trivial, trivial, trivial, trivial, trivial, trivial, trivial, trivial, trivial, trivial⟩ (by kernel_rfl) ⟨rfl, trivial⟩ (by kernel_rfl) rfl rfl rfl rfl rfl ?_
          rintro _ h28 ⟨r27, rfl, H⟩
          refine sim_p 17 (ei := [(33, .bool true), (34, .bool r27)]) (d := (some 35)) wf (by kernel_rfl) ⟨rfl, rfl, trivial⟩ (by kernel_rfl) (by kernel_rfl) (fun _ => pf_p tok rfl rfl rfl rfl) (fun P_17 => ?_)
          refine sim_p 18 (ei := [(35, .bool r27)]) (d := (some 6)) wf (by kernel_rfl) ⟨rfl, trivial⟩ (by kernel_rfl) (by kernel_rfl) (fun _ => pf_p tok rfl rfl rfl rfl) (fun P_18 => ?_)
          refine sim_end wf ⟨P_18 _, P_17 _, trivial, trivial, trivial, trivial, trivial, trivial, trivial, trivial, trivial, trivial, trivial, trivial, trivial, trivial, trivial⟩ (by kernel_rfl) ?_
          clear wf P_0 P_1 P_10 P_11 P_14 P_15 P_17 P_18 P_2 P_3 P_4 P_5 P_6 P_7 P_8 P_9
          exact x_join r27 H ⟨rfl, trivial⟩
        ·
          refine sim_p 16 (v := undef) (ei := [(33, .bool false)]) (d := (some 34)) wf (by kernel_rfl) ⟨rfl, trivial⟩ (by kernel_rfl) (by kernel_rfl) (fun _ => pf_s rfl rfl rfl) (fun P_16 => ?_)
          refine sim_p 17 (ei := [(33, .bool false)]) (d := (some 35)) wf (by kernel_rfl) ⟨rfl, trivial⟩ (by kernel_rfl) (by kernel_rfl) (fun _ => pf_p tok rfl rfl rfl rfl) (fun P_17 => ?_)
          refine sim_p 18 (ei := [(35, .bool false)]) (d := (some 6)) wf (by kernel_rfl) ⟨rfl, trivial⟩ (by kernel_rfl) (by kernel_rfl) (fun _ => pf_p tok rfl rfl rfl rfl) (fun P_18 => ?_)
          refine sim_end wf ⟨P_18 _, P_17 _, P_16 _, P_15 _, P_14 _, trivial, trivial, trivial, trivial, trivial, trivial, trivial, trivial, trivial, trivial, trivial, trivial, trivial⟩ (by kernel_rfl) ?_
          clear wf P_0 P_1 P_10 P_11 P_14 P_15 P_16 P_17 P_18 P_2 P_3 P_4 P_5 P_6 P_7 P_8 P_9
          exact x_join false H ⟨rfl, trivial⟩
      ·
        refine sim_p 7 (v := undef) (ei := [(7, Slc.v r18), (24, .bool false)]) (d := (some 25)) wf (by kernel_rfl) ⟨rfl, rfl, trivial⟩ (by kernel_rfl) (by kernel_rfl) (fun _ => pf_s rfl rfl rfl) (fun P_7 => ?_)
        refine sim_p 8 (v := undef) (ei := [(24, .bool false)]) (d := (some 26)) wf (by kernel_rfl) ⟨rfl, trivial⟩ (by kernel_rfl) (by kernel_rfl) (fun _ => pf_s rfl rfl rfl) (fun P_8 => ?_)
        refine sim_p 9 (v := undef) (ei := [(3, .pointer (some (⟨b1, 0, none⟩ : Addr))), (24, .bool false)]) (d := (some 27)) wf (by kernel_rfl) ⟨rfl, rfl, trivial⟩ (by kernel_rfl) (by kernel_rfl) (fun _ => pf_s rfl rfl rfl) (fun P_9 => ?_)
        refine sim_p 10 (v := undef) (ei := [(4, .pointer (some (⟨b3, 0, none⟩ : Addr))), (24, .bool false)]) (d := (some 28)) wf (by kernel_rfl) ⟨rfl, rfl, trivial⟩ (by kernel_rfl) (by kernel_rfl) (fun _ => pf_s rfl rfl rfl) (fun P_10 => ?_)
        refine sim_p 11 (v := undef) (ei := [(2, Slc.v p2), (24, .bool false)]) (d := (some 29)) wf (by kernel_rfl) ⟨rfl, rfl, trivial⟩ (by kernel_rfl) (by kernel_rfl) (fun _ => pf_s rfl rfl rfl) (fun P_11 => ?_)
        refine sim_p 12 (v := undef) (ei := [(24, .bool false)]) (d := (some 30)) wf (by kernel_rfl) ⟨rfl, trivial⟩ (by kernel_rfl) (by kernel_rfl) (fun _ => pf_s rfl rfl rfl) (fun P_12 => ?_)
        refine sim_p 13 (v := undef) (ei := [(24, .bool false)]) (d := (some 31)) wf (by kernel_rfl) ⟨rfl, trivial⟩ (by kernel_rfl) (by kernel_rfl) (fun _ => pf_s rfl rfl rfl) (fun P_13 => ?_)
        refine sim_p 14 (ei := [(24, .bool false)]) (d := (some 32)) wf (by kernel_rfl) ⟨rfl, trivial⟩ (by kernel_rfl) (by kernel_rfl) (fun _ => pf_p tok rfl rfl rfl rfl) (fun P_14 => ?_)
        refine sim_p 15 (ei := [(32, .bool false)]) (d := (some 33)) wf (by kernel_rfl) ⟨rfl, trivial⟩ (by kernel_rfl) (by kernel_rfl) (fun _ => pf_p tok rfl rfl rfl rfl) (fun P_15 => ?_)
        refine sim_gif 33 H rfl (fun hb H => ?_) (fun hb H => ?_)
        ·
          refine sim_c 16 [0, 1, 2, 3, 4, 5, 6, 7, 8, 9, 10, 11, 12, 13, 14, 15] [0, 1, 2, 3, 4, 5, 6, 7, 8, 9, 10, 11, 12, 13, 14, 15] (ei := [(33, .bool true)]) law04_awake_ok (law04_awake_ref  _ _ H) wf ⟨P_15 _, P_14 _, P_13 _, P_12 _, P_11 _, P_10 _, P_9 _, P_8 _, P_7 _, P_6 _, P_5 _, P_4 _, P_3 _, P_2 _, P_1 _, P_0 _, trivial⟩ (by kernel_rfl) ⟨rfl, trivial⟩ (by kernel_rfl) rfl rfl rfl rfl rfl ?_
          rintro _ h30 ⟨r29, rfl, H⟩
          refine sim_p 17 (ei := [(33, .bool true), (34, .bool r29)]) (d := (some 35)) wf (by kernel_rfl) ⟨rfl, rfl, trivial⟩ (by kernel_rfl) (by kernel_rfl) (fun _ => pf_p tok rfl rfl rfl rfl) (fun P_17 => ?_)
          refine sim_p 18 (ei := [(35, .bool r29)]) (d := (some 6)) wf (by kernel_rfl) ⟨rfl, trivial⟩ (by kernel_rfl) (by kernel_rfl) (fun _ => pf_p tok rfl rfl rfl rfl) (fun P_18 => ?_)
          refine sim_end wf ⟨P_18 _, P_17 _, trivial, trivial, trivial, trivial, trivial, trivial, trivial, trivial, trivial, trivial, trivial, trivial, trivial, trivial, trivial, trivial, trivial⟩ (by kernel_rfl) ?_
          clear wf P_0 P_1 P_10 P_11 P_12 P_13 P_14 P_15 P_17 P_18 P_2 P_3 P_4 P_5 P_6 P_7 P_8 P_9
          exact x_join r29 H ⟨rfl, trivial⟩
        ·
          refine sim_p 16 (v := undef) (ei := [(33, .bool false)]) (d := (some 34)) wf (by kernel_rfl) ⟨rfl, trivial⟩ (by kernel_rfl) (by kernel_rfl) (fun _ => pf_s rfl rfl rfl) (fun P_16 => ?_)
          refine sim_p 17 (ei := [(33, .bool false)]) (d := (some 35)) wf (by kernel_rfl) ⟨rfl, trivial⟩ (by kernel_rfl) (by kernel_rfl) (fun _ => pf_p tok rfl rfl rfl rfl) (fun P_17 => ?_)
          refine sim_p 18 (ei := [(35, .bool false)]) (d := (some 6)) wf (by kernel_rfl) ⟨rfl, trivial⟩ (by kernel_rfl) (by kernel_rfl) (fun _ => pf_p tok rfl rfl rfl rfl) (fun P_18 => ?_)
          refine sim_end wf ⟨P_18 _, P_17 _, P_16 _, P_15 _, P_14 _, P_13 _, P_12 _, P_11 _, P_10 _, P_9 _, P_8 _, P_7 _, P_6 _, P_5 _, P_4 _, P_3 _, P_2 _, P_1 _, P_0 _, trivial⟩ (by kernel_rfl) ?_
          clear wf P_0 P_1 P_10 P_11 P_12 P_13 P_14 P_15 P_16 P_17 P_18 P_2 P_3 P_4 P_5 P_6 P_7 P_8 P_9
          exact x_join false H ⟨rfl, trivial⟩
end Go.Q.Yd

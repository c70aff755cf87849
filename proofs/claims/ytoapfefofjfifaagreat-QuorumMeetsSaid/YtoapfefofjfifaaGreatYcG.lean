/- A part of the proof of statements of this seat: lemmas, no statement of their own. -/
import Derived.Test.YtoapfefofjfifaaGreatYcTab
import Derived.Test.YtoapfefofjfifaaGreatYcW
set_option linter.unusedVariables false
set_option maxRecDepth 100000
set_option maxHeartbeats 1000000
namespace Go.Q.Yc
/-- maps.Values map quaestor piece.place quaestor api.Piece quaestor piece.place quaestor api.Piece  -/
def maps_Values_map_piece_place_api_Piece_piece_place_api_Piece (p0 : Option Nat) (k : (Value) → Heap → Prop) (h : Heap) : Prop :=
  ∃ (b1 : Nat) (h2 : Heap), b1 = h.size ∧ h2 = h.push (.cells ([.map p0]).toArray 85) ∧ (k (Value.func (.func 47) #[] #[.pointer (some (⟨b1, 0, none⟩ : Addr))]) h2)

/-- math bits.Len32 -/
def math_bits_Len32_j2 (t0_2 : Int) (t2_2 : Int) (k : (Int) → Heap → Prop) (h_2 : Heap) : Prop :=
  ∃ v1 : Int, (0 : Int) ≤ (IntKind.u8.wrap t0_2) ∧ StrAt (⟨#[0, 1, 2, 2, 3, 3, 3, 3, 4, 4, 4, 4, 4, 4, 4, 4, 5, 5, 5, 5, 5, 5, 5, 5, 5, 5, 5, 5, 5, 5, 5, 5, 6, 6, 6, 6, 6, 6, 6, 6, 6, 6, 6, 6, 6, 6, 6, 6, 6, 6, 6, 6, 6, 6, 6, 6, 6, 6, 6, 6, 6, 6, 6, 6, 7, 7, 7, 7, 7, 7, 7, 7, 7, 7, 7, 7, 7, 7, 7, 7, 7, 7, 7, 7, 7, 7, 7, 7, 7, 7, 7, 7, 7, 7, 7, 7, 7, 7, 7, 7, 7, 7, 7, 7, 7, 7, 7, 7, 7, 7, 7, 7, 7, 7, 7, 7, 7, 7, 7, 7, 7, 7, 7, 7, 7, 7, 7, 7, 8, 8, 8, 8, 8, 8, 8, 8, 8, 8, 8, 8, 8, 8, 8, 8, 8, 8, 8, 8, 8, 8, 8, 8, 8, 8, 8, 8, 8, 8, 8, 8, 8, 8, 8, 8, 8, 8, 8, 8, 8, 8, 8, 8, 8, 8, 8, 8, 8, 8, 8, 8, 8, 8, 8, 8, 8, 8, 8, 8, 8, 8, 8, 8, 8, 8, 8, 8, 8, 8, 8, 8, 8, 8, 8, 8, 8, 8, 8, 8, 8, 8, 8, 8, 8, 8, 8, 8, 8, 8, 8, 8, 8, 8, 8, 8, 8, 8, 8, 8, 8, 8, 8, 8, 8, 8, 8, 8, 8, 8, 8, 8, 8, 8, 8, 8, 8, 8, 8, 8, 8, 8, 8, 8, 8, 8, 8, 8]⟩ : ByteArray) (IntKind.u8.wrap t0_2) v1 ∧ (∃ x2 : Int, x2 = (IntKind.i64.wrap (t2_2 + (IntKind.i64.wrap v1))) ∧ (k x2 h_2))
def math_bits_Len32_j1 (t0_1 : Int) (t2_1 : Int) (k : (Int) → Heap → Prop) (h_1 : Heap) : Prop :=
  if (decide (t0_1 ≥ 256)) then (∃ x3 : Int, x3 = (shr .u32 t0_1 (8 : Int).toNat) ∧ (∃ x4 : Int, x4 = (IntKind.i64.wrap (t2_1 + 8)) ∧ (math_bits_Len32_j2 x3 x4 k h_1))) else (math_bits_Len32_j2 t0_1 t2_1 k h_1)
def math_bits_Len32 (p0 : Int) (k : (Int) → Heap → Prop) (h : Heap) : Prop :=
  if (decide (p0 ≥ 65536)) then (∃ x5 : Int, x5 = (shr .u32 p0 (16 : Int).toNat) ∧ (math_bits_Len32_j1 x5 16 k h)) else (math_bits_Len32_j1 p0 0 k h)

/-- math bits.Len64 -/
def math_bits_Len64_j3 (t0_3 : Int) (t2_3 : Int) (k : (Int) → Heap → Prop) (h_3 : Heap) : Prop :=
  ∃ v1 : Int, (0 : Int) ≤ (IntKind.u8.wrap t0_3) ∧ StrAt (⟨#[0, 1, 2, 2, 3, 3, 3, 3, 4, 4, 4, 4, 4, 4, 4, 4, 5, 5, 5, 5, 5, 5, 5, 5, 5, 5, 5, 5, 5, 5, 5, 5, 6, 6, 6, 6, 6, 6, 6, 6, 6, 6, 6, 6, 6, 6, 6, 6, 6, 6, 6, 6, 6, 6, 6, 6, 6, 6, 6, 6, 6, 6, 6, 6, 7, 7, 7, 7, 7, 7, 7, 7, 7, 7, 7, 7, 7, 7, 7, 7, 7, 7, 7, 7, 7, 7, 7, 7, 7, 7, 7, 7, 7, 7, 7, 7, 7, 7, 7, 7, 7, 7, 7, 7, 7, 7, 7, 7, 7, 7, 7, 7, 7, 7, 7, 7, 7, 7, 7, 7, 7, 7, 7, 7, 7, 7, 7, 7, 8, 8, 8, 8, 8, 8, 8, 8, 8, 8, 8, 8, 8, 8, 8, 8, 8, 8, 8, 8, 8, 8, 8, 8, 8, 8, 8, 8, 8, 8, 8, 8, 8, 8, 8, 8, 8, 8, 8, 8, 8, 8, 8, 8, 8, 8, 8, 8, 8, 8, 8, 8, 8, 8, 8, 8, 8, 8, 8, 8, 8, 8, 8, 8, 8, 8, 8, 8, 8, 8, 8, 8, 8, 8, 8, 8, 8, 8, 8, 8, 8, 8, 8, 8, 8, 8, 8, 8, 8, 8, 8, 8, 8, 8, 8, 8, 8, 8, 8, 8, 8, 8, 8, 8, 8, 8, 8, 8, 8, 8, 8, 8, 8, 8, 8, 8, 8, 8, 8, 8, 8, 8, 8, 8, 8, 8, 8, 8]⟩ : ByteArray) (IntKind.u8.wrap t0_3) v1 ∧ (∃ x2 : Int, x2 = (IntKind.i64.wrap (t2_3 + (IntKind.i64.wrap v1))) ∧ (k x2 h_3))
def math_bits_Len64_j2 (t0_2 : Int) (t2_2 : Int) (k : (Int) → Heap → Prop) (h_2 : Heap) : Prop :=
  if (decide (t0_2 ≥ 256)) then (∃ x3 : Int, x3 = (shr .u64 t0_2 (8 : Int).toNat) ∧ (∃ x4 : Int, x4 = (IntKind.i64.wrap (t2_2 + 8)) ∧ (math_bits_Len64_j3 x3 x4 k h_2))) else (math_bits_Len64_j3 t0_2 t2_2 k h_2)
def math_bits_Len64_j1 (t0_1 : Int) (t2_1 : Int) (k : (Int) → Heap → Prop) (h_1 : Heap) : Prop :=
  if (decide (t0_1 ≥ 65536)) then (∃ x5 : Int, x5 = (shr .u64 t0_1 (16 : Int).toNat) ∧ (∃ x6 : Int, x6 = (IntKind.i64.wrap (t2_1 + 16)) ∧ (math_bits_Len64_j2 x5 x6 k h_1))) else (math_bits_Len64_j2 t0_1 t2_1 k h_1)
def math_bits_Len64 (p0 : Int) (k : (Int) → Heap → Prop) (h : Heap) : Prop :=
  if (decide (p0 ≥ 4294967296)) then (∃ x7 : Int, x7 = (shr .u64 p0 (32 : Int).toNat) ∧ (math_bits_Len64_j1 x7 32 k h)) else (math_bits_Len64_j1 p0 0 k h)

/-- math bits.Len -/
def math_bits_Len (p0 : Int) (k : (Int) → Heap → Prop) (h : Heap) : Prop :=
  if false then (math_bits_Len32 (IntKind.u32.wrap p0) (fun (r1 : Int) h2 => k r1 h2) h) else (math_bits_Len64 p0 (fun (r3 : Int) h4 => k r3 h4) h)

/-- slices.insertionSortCmpFunc quaestor api.Piece  -/
def slices_insertionSortCmpFunc_api_Piece__piece_compare_j3 (t0_3 : Slc) (t1_3 : Int) (t2_3 : Int) (t8_3 : Int) (t9_3 : Int) (t34_3 : Bool) (k : (Unit) → Heap → Prop) (nx1 : (Int) → Heap → Prop) (nx2 : (Int) → Heap → Prop) (h_3 : Heap) : Prop :=
  if t34_3 then (∃ a2 : Addr, t0_3.a = some a2 ∧ (0 : Int) ≤ (IntKind.i64.wrap (t9_3 - 1)) ∧ (IntKind.i64.wrap (t9_3 - 1)) < (t0_3.len : Int) ∧ (∃ v3 : S_api_Piece, CellsAt h_3 (a2.add ((IntKind.i64.wrap (t9_3 - 1)).toNat * 5)) (S_api_Piece.cs v3) ∧ (∃ a4 : Addr, t0_3.a = some a4 ∧ (0 : Int) ≤ t9_3 ∧ t9_3 < (t0_3.len : Int) ∧ (∃ v5 : S_api_Piece, CellsAt h_3 (a4.add (t9_3.toNat * 5)) (S_api_Piece.cs v5) ∧ (∃ a6 : Addr, t0_3.a = some a6 ∧ (0 : Int) ≤ t9_3 ∧ t9_3 < (t0_3.len : Int) ∧ (∃ h7 : Heap, WrsAt h_3 (a6.add (t9_3.toNat * 5)) 5 ∧ h7 = setsH h_3 (a6.add (t9_3.toNat * 5)) 0 (S_api_Piece.cs v3) ∧ (∃ a8 : Addr, t0_3.a = some a8 ∧ (0 : Int) ≤ (IntKind.i64.wrap (t9_3 - 1)) ∧ (IntKind.i64.wrap (t9_3 - 1)) < (t0_3.len : Int) ∧ (∃ h9 : Heap, WrsAt h7 (a8.add ((IntKind.i64.wrap (t9_3 - 1)).toNat * 5)) 5 ∧ h9 = setsH h7 (a8.add ((IntKind.i64.wrap (t9_3 - 1)).toNat * 5)) 0 (S_api_Piece.cs v5) ∧ (∃ x10 : Int, x10 = (IntKind.i64.wrap (t9_3 - 1)) ∧ (nx2 x10 h9)))))))))) else (∃ x11 : Int, x11 = (IntKind.i64.wrap (t8_3 + 1)) ∧ (nx1 x11 h_3))
def slices_insertionSortCmpFunc_api_Piece__piece_compare_l2b (t0_2 : Slc) (t1_2 : Int) (t2_2 : Int) (t8_2 : Int) (t9_2 : Int) (k : (Unit) → Heap → Prop) (nx1 : (Int) → Heap → Prop) (nx2 : (Int) → Heap → Prop) (h_2 : Heap) : Prop :=
  if (decide (t9_2 > t1_2)) then (∃ a12 : Addr, t0_2.a = some a12 ∧ (0 : Int) ≤ t9_2 ∧ t9_2 < (t0_2.len : Int) ∧ (∃ v13 : S_api_Piece, CellsAt h_2 (a12.add (t9_2.toNat * 5)) (S_api_Piece.cs v13) ∧ (∃ a14 : Addr, t0_2.a = some a14 ∧ (0 : Int) ≤ (IntKind.i64.wrap (t9_2 - 1)) ∧ (IntKind.i64.wrap (t9_2 - 1)) < (t0_2.len : Int) ∧ (∃ v15 : S_api_Piece, CellsAt h_2 (a14.add ((IntKind.i64.wrap (t9_2 - 1)).toNat * 5)) (S_api_Piece.cs v15) ∧ (False))))) else (slices_insertionSortCmpFunc_api_Piece__piece_compare_j3 t0_2 t1_2 t2_2 t8_2 t9_2 false k nx1 nx2 h_2)
def slices_insertionSortCmpFunc_api_Piece__piece_compare_l2 (t0_2 : Slc) (t1_2 : Int) (t2_2 : Int) (t8_2 : Int) (i9 : Int) (k : (Unit) → Heap → Prop) (nx1 : (Int) → Heap → Prop) (h : Heap) : Prop :=
  ∃ (I : Int → Heap → Prop) (μ : Int → Heap → Nat), I i9 h ∧ ∀ (t9_2 : Int) (h : Heap), I t9_2 h → slices_insertionSortCmpFunc_api_Piece__piece_compare_l2b t0_2 t1_2 t2_2 t8_2 t9_2 k nx1 (fun s h' => I s h' ∧ μ s h' < μ t9_2 h) h
def slices_insertionSortCmpFunc_api_Piece__piece_compare_l1b (t0_1 : Slc) (t1_1 : Int) (t2_1 : Int) (t8_1 : Int) (k : (Unit) → Heap → Prop) (nx1 : (Int) → Heap → Prop) (h_1 : Heap) : Prop :=
  if (decide (t8_1 < t2_1)) then (slices_insertionSortCmpFunc_api_Piece__piece_compare_l2 t0_1 t1_1 t2_1 t8_1 t8_1 k nx1 h_1) else (k () h_1)
def slices_insertionSortCmpFunc_api_Piece__piece_compare_l1 (t0_1 : Slc) (t1_1 : Int) (t2_1 : Int) (i8 : Int) (k : (Unit) → Heap → Prop) (h : Heap) : Prop :=
  ∃ (I : Int → Heap → Prop) (μ : Int → Heap → Nat), I i8 h ∧ ∀ (t8_1 : Int) (h : Heap), I t8_1 h → slices_insertionSortCmpFunc_api_Piece__piece_compare_l1b t0_1 t1_1 t2_1 t8_1 k (fun s h' => I s h' ∧ μ s h' < μ t8_1 h) h
def slices_insertionSortCmpFunc_api_Piece__piece_compare (p0 : Slc) (p1 : Int) (p2 : Int) (k : (Unit) → Heap → Prop) (h : Heap) : Prop :=
  ∃ x1 : Int, x1 = (IntKind.i64.wrap (p1 + 1)) ∧ (slices_insertionSortCmpFunc_api_Piece__piece_compare_l1 p0 p1 p2 x1 k h)

/-- slices.pdqsortCmpFunc quaestor api.Piece  -/
def slices_pdqsortCmpFunc_api_Piece__piece_compare_j2 (t0_2 : Slc) (t1_2 : Int) (t2_2 : Int) (t10_2 : Bool) (t11_2 : Bool) (t12_2 : Int) (t3_2 : Int) (k : (Unit) → Heap → Prop) (nx1 : (Int × Int × Int × Bool × Bool) → Heap → Prop) (h_2 : Heap) : Prop :=
  False
def slices_pdqsortCmpFunc_api_Piece__piece_compare_l1b (t0_1 : Slc) (t1_1 : Int) (t2_1 : Int) (t3_1 : Int) (t10_1 : Bool) (t11_1 : Bool) (k : (Unit) → Heap → Prop) (nx1 : (Int × Int × Int × Bool × Bool) → Heap → Prop) (h_1 : Heap) : Prop :=
  ∃ x1 : Int, x1 = (IntKind.i64.wrap (t2_1 - t1_1)) ∧ (if (decide (x1 ≤ 12)) then (slices_insertionSortCmpFunc_api_Piece__piece_compare t0_1 t1_1 t2_1 (fun (r2 : Unit) h3 => k () h3) h_1) else (if (t3_1 == 0) then (False) else (if (!t10_1) then (False) else (slices_pdqsortCmpFunc_api_Piece__piece_compare_j2 t0_1 t1_1 t2_1 t10_1 t11_1 x1 t3_1 k nx1 h_1))))
def slices_pdqsortCmpFunc_api_Piece__piece_compare_l1 (t0_1 : Slc) (i1 : Int) (i2 : Int) (i3 : Int) (i10 : Bool) (i11 : Bool) (k : (Unit) → Heap → Prop) (h : Heap) : Prop :=
  ∃ (I : (Int × Int × Int × Bool × Bool) → Heap → Prop) (μ : (Int × Int × Int × Bool × Bool) → Heap → Nat), I (i1, i2, i3, i10, i11) h ∧ ∀ (t1_1 : Int) (t2_1 : Int) (t3_1 : Int) (t10_1 : Bool) (t11_1 : Bool) (h : Heap), I (t1_1, t2_1, t3_1, t10_1, t11_1) h → slices_pdqsortCmpFunc_api_Piece__piece_compare_l1b t0_1 t1_1 t2_1 t3_1 t10_1 t11_1 k (fun s h' => I s h' ∧ μ s h' < μ (t1_1, t2_1, t3_1, t10_1, t11_1) h) h
def slices_pdqsortCmpFunc_api_Piece__piece_compare (p0 : Slc) (p1 : Int) (p2 : Int) (p3 : Int) (k : (Unit) → Heap → Prop) (h : Heap) : Prop :=
  slices_pdqsortCmpFunc_api_Piece__piece_compare_l1 p0 p1 p2 p3 true true k h

/-- slices.SortFunc   quaestor api.Piece quaestor api.Piece  -/
def slices_SortFunc_api_Piece_api_Piece__piece_compare (p0 : Slc) (k : (Unit) → Heap → Prop) (h : Heap) : Prop :=
  ∃ x1 : Int, x1 = (p0.len : Int) ∧ (math_bits_Len (IntKind.u64.wrap x1) (fun (r2 : Int) h3 => slices_pdqsortCmpFunc_api_Piece__piece_compare p0 0 x1 r2 (fun (r4 : Unit) h5 => k () h5) h3) h)

/-- slices.SortedFunc quaestor api.Piece  -/
def slices_SortedFunc_api_Piece__piece_compare (p0 : Value) (k : (Slc) → Heap → Prop) (h : Heap) : Prop :=
  slices_Collect_api_Piece p0 (fun (r1 : Slc) h2 => slices_SortFunc_api_Piece_api_Piece__piece_compare r1 (fun (r3 : Unit) h4 => k r1 h4) h2) h

/-- quaestor piece.Merge -/
def piece_Merge_j3 (t3_3 : Nat) (t12_3 : Slc) (t13_3 : Int) (t14_3 : Int) (t18_3 : Slc) (t19_3 : Int) (t20_3 : Int) (k : (Slc) → Heap → Prop) (nx1 : (Int) → Heap → Prop) (nx2 : (Int) → Heap → Prop) (h_3 : Heap) : Prop :=
  nx2 (IntKind.i64.wrap (t20_3 + 1)) h_3
def piece_Merge_l2b (t3_2 : Nat) (t12_2 : Slc) (t13_2 : Int) (t14_2 : Int) (t18_2 : Slc) (t19_2 : Int) (t20_2 : Int) (k : (Slc) → Heap → Prop) (nx1 : (Int) → Heap → Prop) (nx2 : (Int) → Heap → Prop) (h_2 : Heap) : Prop :=
  if (decide (t20_2 < t19_2)) then (∃ a5 : Addr, t18_2.a = some a5 ∧ (0 : Int) ≤ t20_2 ∧ t20_2 < (t18_2.len : Int) ∧ (∃ v6 : S_api_Piece, CellsAt h_2 (a5.add (t20_2.toNat * 5)) (S_api_Piece.cs v6) ∧ (∃ (b7 : Nat) (h8 : Heap), b7 = h_2.size ∧ h8 = h_2.push (.cells (S_api_Piece.cs (⟨ByteArray.empty, 0, 0, (⟨0, 0⟩ : S_api_Id)⟩ : S_api_Piece)).toArray 75) ∧ (∃ h9 : Heap, WrsAt h8 (⟨b7, 0, none⟩ : Addr) 5 ∧ h9 = setsH h8 (⟨b7, 0, none⟩ : Addr) 0 (S_api_Piece.cs v6) ∧ (∃ v10 : S_api_Piece, CellsAt h9 (⟨b7, 0, none⟩ : Addr) (S_api_Piece.cs v10) ∧ (False)))))) else (nx1 (IntKind.i64.wrap (t14_2 + 1)) h_2)
def piece_Merge_l2 (t3_2 : Nat) (t12_2 : Slc) (t13_2 : Int) (t14_2 : Int) (t18_2 : Slc) (t19_2 : Int) (i20 : Int) (k : (Slc) → Heap → Prop) (nx1 : (Int) → Heap → Prop) (h : Heap) : Prop :=
  ∃ (I : Int → Heap → Prop) (μ : Int → Heap → Nat), I i20 h ∧ ∀ (t20_2 : Int) (h : Heap), I t20_2 h → piece_Merge_l2b t3_2 t12_2 t13_2 t14_2 t18_2 t19_2 t20_2 k nx1 (fun s h' => I s h' ∧ μ s h' < μ t20_2 h) h
def piece_Merge_l1b (t3_1 : Nat) (t12_1 : Slc) (t13_1 : Int) (t14_1 : Int) (k : (Slc) → Heap → Prop) (nx1 : (Int) → Heap → Prop) (h_1 : Heap) : Prop :=
  if (decide (t14_1 < t13_1)) then (∃ a3 : Addr, t12_1.a = some a3 ∧ (0 : Int) ≤ t14_1 ∧ t14_1 < (t12_1.len : Int) ∧ (∃ v4 : Slc, cellH h_1 (a3.add (t14_1.toNat * 1)) = some (Slc.v v4) ∧ (piece_Merge_l2 t3_1 t12_1 t13_1 t14_1 v4 (v4.len : Int) 0 k nx1 h_1))) else (maps_Values_map_piece_place_api_Piece_piece_place_api_Piece (some t3_1) (fun (r11 : Value) h12 => slices_SortedFunc_api_Piece__piece_compare r11 (fun (r13 : Slc) h14 => k r13 h14) h12) h_1)
def piece_Merge_l1 (t3_1 : Nat) (t12_1 : Slc) (t13_1 : Int) (i14 : Int) (k : (Slc) → Heap → Prop) (h : Heap) : Prop :=
  ∃ (I : Int → Heap → Prop) (μ : Int → Heap → Nat), I i14 h ∧ ∀ (t14_1 : Int) (h : Heap), I t14_1 h → piece_Merge_l1b t3_1 t12_1 t13_1 t14_1 k (fun s h' => I s h' ∧ μ s h' < μ t14_1 h) h
def piece_Merge (p0 : Slc) (k : (Slc) → Heap → Prop) (h : Heap) : Prop :=
  ∃ (b1 : Nat) (h2 : Heap), b1 = h.size ∧ h2 = h.push (.map #[] 0) ∧ (piece_Merge_l1 b1 p0 (p0.len : Int) 0 k h2)

theorem maps_Values_map_piece_place_api_Piece_piece_place_api_Piece_ok : CallOk Go.Proofs.Tryz.prog 35 := ⟨_, Go.Proofs.Tryz.func35, by kernel_rfl, by kernel_rfl⟩
theorem maps_Values_map_piece_place_api_Piece_piece_place_api_Piece_ref (p0 : Option Nat) (k : (Value) → Heap → Prop) (h : Heap) (H : maps_Values_map_piece_place_api_Piece_piece_place_api_Piece p0 k h) : CallsH Go.Proofs.Tryz.prog 35 #[.map p0] h (fun v h' => ∃ r : Value, v = r ∧ k r h') := by
  refine f_enter (N := 4) Go.Proofs.Tryz.func35 rfl rfl rfl (fun w0 => ?_)
  unfold maps_Values_map_piece_place_api_Piece_piece_place_api_Piece at H
  refine c_weak [(0, .map p0)] ⟨rfl, trivial⟩ ?_
  refine c_seq ?_
  refine c_region ?_
  obtain ⟨b1, h2, eb1, eh2, H⟩ := H
  refine w_h (h_box rfl rfl eb1 eh2) rfl rfl ?_
  refine w_p tok rfl rfl rfl ?_
  refine w_end ?_
  refine x_seq ?_
  refine c_seq ?_
  refine c_region ?_
  refine w_y (y_mkf rfl rfl) rfl rfl ?_
  refine w_p tok rfl rfl rfl ?_
  refine w_end ?_
  refine x_seq ?_
  refine c_ret ?_
  exact x_ret _ rfl _ rfl ⟨(Value.func (.func 47) #[] #[.pointer (some (⟨b1, 0, none⟩ : Addr))]), rfl, H⟩

theorem math_bits_Len32_ok : CallOk Go.Proofs.Tryz.prog 91 := ⟨_, Go.Proofs.Tryz.func91, by kernel_rfl, by kernel_rfl⟩
theorem math_bits_Len32_ref (p0 : Int) (k : (Int) → Heap → Prop) (h : Heap) (H : math_bits_Len32 p0 k h) : CallsH Go.Proofs.Tryz.prog 91 #[.int .u32 p0] h (fun v h' => ∃ r : Int, v = .int .i64 r ∧ k r h') := by
  refine f_enter (N := 19) Go.Proofs.Tryz.func91 rfl rfl rfl (fun w0 => ?_)
  unfold math_bits_Len32 at H
  refine c_weak [(0, .int .u32 p0)] ⟨rfl, trivial⟩ ?_
  refine c_seq ?_
  refine c_region ?_
  refine w_p tok rfl rfl rfl ?_
  refine w_end ?_
  refine x_seq ?_
  refine c_seqJ (α := Int × Int) (fun (s : Int × Int) => [(0, .int .u32 s.1), (2, .int .i64 s.2)]) (fun (s : Int × Int) h => math_bits_Len32_j1 s.1 s.2 k h) ?_ ?_
  ·
    rintro ⟨t0_1, t2_1⟩ h_1 H
    replace H : math_bits_Len32_j1 t0_1 t2_1 k h_1 := H
    unfold math_bits_Len32_j1 at H
    refine c_weak [(0, .int .u32 t0_1), (2, .int .i64 t2_1)] ⟨rfl, rfl, trivial⟩ ?_
    refine c_seqJ (α := Int × Int) (fun (s : Int × Int) => [(0, .int .u32 s.1), (2, .int .i64 s.2)]) (fun (s : Int × Int) h => math_bits_Len32_j2 s.1 s.2 k h) ?_ ?_
    ·
      rintro ⟨t0_2, t2_2⟩ h_2 H
      replace H : math_bits_Len32_j2 t0_2 t2_2 k h_2 := H
      unfold math_bits_Len32_j2 at H
      refine c_weak [(0, .int .u32 t0_2), (2, .int .i64 t2_2)] ⟨rfl, rfl, trivial⟩ ?_
      refine c_seq ?_
      refine c_region ?_
      refine w_p tok rfl rfl rfl ?_
      refine w_p tok rfl rfl rfl ?_
      refine w_p tok rfl rfl rfl ?_
      obtain ⟨v1, lv1, hv1, H⟩ := H
      refine w_y (y_ixs' tok rfl rfl rfl rfl lv1 hv1) rfl rfl ?_
      refine w_p tok rfl rfl rfl ?_
      refine w_p tok rfl rfl rfl ?_
      obtain ⟨x2, ex2, H⟩ := H
      refine w_pe tok rfl (congrArg (fun z => (.int .i64 z : Value)) ex2) rfl rfl ?_
      refine w_end ?_
      refine x_seq ?_
      refine c_weak [(2, .int .i64 x2)] ⟨rfl, trivial⟩ ?_
      refine c_ret ?_
      exact x_ret _ rfl _ rfl ⟨x2, rfl, H⟩
    ·
      refine c_seq ?_
      refine c_region ?_
      refine w_p tok rfl rfl rfl ?_
      refine w_p tok rfl rfl rfl ?_
      refine w_end ?_
      refine x_seq ?_
      refine c_if H rfl (fun H => ?_) (fun H => ?_)
      ·
        refine c_seq ?_
        refine c_region ?_
        refine w_p tok rfl rfl rfl ?_
        refine w_p tok rfl rfl rfl ?_
        obtain ⟨x3, ex3, H⟩ := H
        refine w_pe tok rfl (congrArg (fun z => (.int .u32 z : Value)) ex3) rfl rfl ?_
        refine w_end ?_
        refine x_seq ?_
        refine c_region ?_
        refine w_p tok rfl rfl rfl ?_
        refine w_p tok rfl rfl rfl ?_
        obtain ⟨x4, ex4, H⟩ := H
        refine w_pe tok rfl (congrArg (fun z => (.int .i64 z : Value)) ex4) rfl rfl ?_
        refine w_end ?_
        exact x_join (x3, x4) H ⟨rfl, rfl, trivial⟩
      ·
        refine c_skip ?_
        exact x_join (t0_1, t2_1) H ⟨rfl, rfl, trivial⟩
  ·
    refine c_seq ?_
    refine c_region ?_
    refine w_p tok rfl rfl rfl ?_
    refine w_p tok rfl rfl rfl ?_
    refine w_end ?_
    refine x_seq ?_
    refine c_if H rfl (fun H => ?_) (fun H => ?_)
    ·
      refine c_seq ?_
      refine c_region ?_
      refine w_p tok rfl rfl rfl ?_
      refine w_p tok rfl rfl rfl ?_
      obtain ⟨x5, ex5, H⟩ := H
      refine w_pe tok rfl (congrArg (fun z => (.int .u32 z : Value)) ex5) rfl rfl ?_
      refine w_end ?_
      refine x_seq ?_
      refine c_region ?_
      refine w_p tok rfl rfl rfl ?_
      refine w_end ?_
      exact x_join (x5, 16) H ⟨rfl, rfl, trivial⟩
    ·
      refine c_skip ?_
      exact x_join (p0, 0) H ⟨rfl, rfl, trivial⟩

theorem math_bits_Len64_ok : CallOk Go.Proofs.Tryz.prog 92 := ⟨_, Go.Proofs.Tryz.func92, by kernel_rfl, by kernel_rfl⟩
theorem math_bits_Len64_ref (p0 : Int) (k : (Int) → Heap → Prop) (h : Heap) (H : math_bits_Len64 p0 k h) : CallsH Go.Proofs.Tryz.prog 92 #[.int .u64 p0] h (fun v h' => ∃ r : Int, v = .int .i64 r ∧ k r h') := by
  refine f_enter (N := 25) Go.Proofs.Tryz.func92 rfl rfl rfl (fun w0 => ?_)
  unfold math_bits_Len64 at H
  refine c_weak [(0, .int .u64 p0)] ⟨rfl, trivial⟩ ?_
  refine c_seq ?_
  refine c_region ?_
  refine w_p tok rfl rfl rfl ?_
  refine w_end ?_
  refine x_seq ?_
  refine c_seqJ (α := Int × Int) (fun (s : Int × Int) => [(0, .int .u64 s.1), (2, .int .i64 s.2)]) (fun (s : Int × Int) h => math_bits_Len64_j1 s.1 s.2 k h) ?_ ?_
  ·
    rintro ⟨t0_1, t2_1⟩ h_1 H
    replace H : math_bits_Len64_j1 t0_1 t2_1 k h_1 := H
    unfold math_bits_Len64_j1 at H
    refine c_weak [(0, .int .u64 t0_1), (2, .int .i64 t2_1)] ⟨rfl, rfl, trivial⟩ ?_
    refine c_seqJ (α := Int × Int) (fun (s : Int × Int) => [(0, .int .u64 s.1), (2, .int .i64 s.2)]) (fun (s : Int × Int) h => math_bits_Len64_j2 s.1 s.2 k h) ?_ ?_
    ·
      rintro ⟨t0_2, t2_2⟩ h_2 H
      replace H : math_bits_Len64_j2 t0_2 t2_2 k h_2 := H
      unfold math_bits_Len64_j2 at H
      refine c_weak [(0, .int .u64 t0_2), (2, .int .i64 t2_2)] ⟨rfl, rfl, trivial⟩ ?_
      refine c_seqJ (α := Int × Int) (fun (s : Int × Int) => [(0, .int .u64 s.1), (2, .int .i64 s.2)]) (fun (s : Int × Int) h => math_bits_Len64_j3 s.1 s.2 k h) ?_ ?_
      ·
        rintro ⟨t0_3, t2_3⟩ h_3 H
        replace H : math_bits_Len64_j3 t0_3 t2_3 k h_3 := H
        unfold math_bits_Len64_j3 at H
        refine c_weak [(0, .int .u64 t0_3), (2, .int .i64 t2_3)] ⟨rfl, rfl, trivial⟩ ?_
        refine c_seq ?_
        refine c_region ?_
        refine w_p tok rfl rfl rfl ?_
        refine w_p tok rfl rfl rfl ?_
        refine w_p tok rfl rfl rfl ?_
        obtain ⟨v1, lv1, hv1, H⟩ := H
        refine w_y (y_ixs' tok rfl rfl rfl rfl lv1 hv1) rfl rfl ?_
        refine w_p tok rfl rfl rfl ?_
        refine w_p tok rfl rfl rfl ?_
        obtain ⟨x2, ex2, H⟩ := H
        refine w_pe tok rfl (congrArg (fun z => (.int .i64 z : Value)) ex2) rfl rfl ?_
        refine w_end ?_
        refine x_seq ?_
        refine c_weak [(2, .int .i64 x2)] ⟨rfl, trivial⟩ ?_
        refine c_ret ?_
        exact x_ret _ rfl _ rfl ⟨x2, rfl, H⟩
      ·
        refine c_seq ?_
        refine c_region ?_
        refine w_p tok rfl rfl rfl ?_
        refine w_p tok rfl rfl rfl ?_
        refine w_end ?_
        refine x_seq ?_
        refine c_if H rfl (fun H => ?_) (fun H => ?_)
        ·
          refine c_seq ?_
          refine c_region ?_
          refine w_p tok rfl rfl rfl ?_
          refine w_p tok rfl rfl rfl ?_
          obtain ⟨x3, ex3, H⟩ := H
          refine w_pe tok rfl (congrArg (fun z => (.int .u64 z : Value)) ex3) rfl rfl ?_
          refine w_end ?_
          refine x_seq ?_
          refine c_region ?_
          refine w_p tok rfl rfl rfl ?_
          refine w_p tok rfl rfl rfl ?_
          obtain ⟨x4, ex4, H⟩ := H
          refine w_pe tok rfl (congrArg (fun z => (.int .i64 z : Value)) ex4) rfl rfl ?_
          refine w_end ?_
          exact x_join (x3, x4) H ⟨rfl, rfl, trivial⟩
        ·
          refine c_skip ?_
          exact x_join (t0_2, t2_2) H ⟨rfl, rfl, trivial⟩
    ·
      refine c_seq ?_
      refine c_region ?_
      refine w_p tok rfl rfl rfl ?_
      refine w_p tok rfl rfl rfl ?_
      refine w_end ?_
      refine x_seq ?_
      refine c_if H rfl (fun H => ?_) (fun H => ?_)
      ·
        refine c_seq ?_
        refine c_region ?_
        refine w_p tok rfl rfl rfl ?_
        refine w_p tok rfl rfl rfl ?_
        obtain ⟨x5, ex5, H⟩ := H
        refine w_pe tok rfl (congrArg (fun z => (.int .u64 z : Value)) ex5) rfl rfl ?_
        refine w_end ?_
        refine x_seq ?_
        refine c_region ?_
        refine w_p tok rfl rfl rfl ?_
        refine w_p tok rfl rfl rfl ?_
        obtain ⟨x6, ex6, H⟩ := H
        refine w_pe tok rfl (congrArg (fun z => (.int .i64 z : Value)) ex6) rfl rfl ?_
        refine w_end ?_
        exact x_join (x5, x6) H ⟨rfl, rfl, trivial⟩
      ·
        refine c_skip ?_
        exact x_join (t0_1, t2_1) H ⟨rfl, rfl, trivial⟩
  ·
    refine c_seq ?_
    refine c_region ?_
    refine w_p tok rfl rfl rfl ?_
    refine w_p tok rfl rfl rfl ?_
    refine w_end ?_
    refine x_seq ?_
    refine c_if H rfl (fun H => ?_) (fun H => ?_)
    ·
      refine c_seq ?_
      refine c_region ?_
      refine w_p tok rfl rfl rfl ?_
      refine w_p tok rfl rfl rfl ?_
      obtain ⟨x7, ex7, H⟩ := H
      refine w_pe tok rfl (congrArg (fun z => (.int .u64 z : Value)) ex7) rfl rfl ?_
      refine w_end ?_
      refine x_seq ?_
      refine c_region ?_
      refine w_p tok rfl rfl rfl ?_
      refine w_end ?_
      exact x_join (x7, 32) H ⟨rfl, rfl, trivial⟩
    ·
      refine c_skip ?_
      exact x_join (p0, 0) H ⟨rfl, rfl, trivial⟩

theorem math_bits_Len_ok : CallOk Go.Proofs.Tryz.prog 68 := ⟨_, Go.Proofs.Tryz.func68, by kernel_rfl, by kernel_rfl⟩
theorem math_bits_Len_ref (p0 : Int) (k : (Int) → Heap → Prop) (h : Heap) (H : math_bits_Len p0 k h) : CallsH Go.Proofs.Tryz.prog 68 #[.int .u64 p0] h (fun v h' => ∃ r : Int, v = .int .i64 r ∧ k r h') := by
  refine f_enter (N := 8) Go.Proofs.Tryz.func68 rfl rfl rfl (fun w0 => ?_)
  unfold math_bits_Len at H
  refine c_weak [(0, .int .u64 p0)] ⟨rfl, trivial⟩ ?_
  refine c_seq ?_
  refine c_region ?_
  refine w_p tok rfl rfl rfl ?_
  refine w_end ?_
  refine x_seq ?_
  refine c_seq ?_
  refine c_if H rfl (fun H => ?_) (fun H => ?_)
  ·
    refine c_seq ?_
    refine c_region ?_
    refine w_p tok rfl rfl rfl ?_
    refine w_p tok rfl rfl rfl ?_
    refine w_call math_bits_Len32_ok (math_bits_Len32_ref _ _ _ H) rfl rfl rfl rfl ?_
    rintro _ h2 ⟨r1, rfl, H⟩
    refine w_p tok rfl rfl rfl ?_
    refine w_end ?_
    refine x_seq ?_
    refine c_ret ?_
    refine x_tr ?_
    exact x_ret _ rfl _ rfl ⟨r1, rfl, H⟩
  ·
    refine c_skip ?_
    refine x_seq ?_
    refine c_seq ?_
    refine c_region ?_
    refine w_p tok rfl rfl rfl ?_
    refine w_call math_bits_Len64_ok (math_bits_Len64_ref _ _ _ H) rfl rfl rfl rfl ?_
    rintro _ h4 ⟨r3, rfl, H⟩
    refine w_p tok rfl rfl rfl ?_
    refine w_end ?_
    refine x_seq ?_
    refine c_ret ?_
    exact x_ret _ rfl _ rfl ⟨r3, rfl, H⟩

theorem slices_insertionSortCmpFunc_api_Piece__piece_compare_ok : CallOk Go.Proofs.Tryz.prog 83 := ⟨_, Go.Proofs.Tryz.func83, by kernel_rfl, by kernel_rfl⟩
theorem slices_insertionSortCmpFunc_api_Piece__piece_compare_ref (p0 : Slc) (p1 : Int) (p2 : Int) (k : (Unit) → Heap → Prop) (h : Heap) (H : slices_insertionSortCmpFunc_api_Piece__piece_compare p0 p1 p2 k h) : CallsH Go.Proofs.Tryz.prog 83 #[Slc.v p0, .int .i64 p1, .int .i64 p2, (Value.func (.func 36) #[] #[])] h (fun v h' => ∃ r : Unit, v = .tuple #[] ∧ k r h') := by
  refine f_enter (N := 53) Go.Proofs.Tryz.func83 rfl rfl rfl (fun w0 => ?_)
  unfold slices_insertionSortCmpFunc_api_Piece__piece_compare at H
  refine c_weak [(0, Slc.v p0), (1, .int .i64 p1), (2, .int .i64 p2), (3, (Value.func (.func 36) #[] #[]))] ⟨rfl, rfl, rfl, rfl, trivial⟩ ?_
  refine c_seq ?_
  refine c_region ?_
  refine w_p tok rfl rfl rfl ?_
  refine w_p tok rfl rfl rfl ?_
  obtain ⟨x1, ex1, H⟩ := H
  refine w_pe tok rfl (congrArg (fun z => (.int .i64 z : Value)) ex1) rfl rfl ?_
  refine w_end ?_
  refine x_seq ?_
  refine c_block ?_
  obtain ⟨I1, μ1, H0, HI⟩ := H
  refine c_loop (σ := Int) (fun (s : Int) => [(8, .int .i64 s), (0, Slc.v p0), (1, .int .i64 p1), (2, .int .i64 p2), (3, (Value.func (.func 36) #[] #[]))]) I1 μ1 x1 H0 ⟨rfl, rfl, rfl, rfl, rfl, trivial⟩ ?_
  rintro t8_1 h_1 H
  replace H := HI t8_1 h_1 H
  unfold slices_insertionSortCmpFunc_api_Piece__piece_compare_l1b at H
  refine c_weak [(8, .int .i64 t8_1), (0, Slc.v p0), (1, .int .i64 p1), (2, .int .i64 p2), (3, (Value.func (.func 36) #[] #[]))] ⟨rfl, rfl, rfl, rfl, rfl, trivial⟩ ?_
  refine c_seq ?_
  refine c_seq ?_
  refine c_region ?_
  refine w_p tok rfl rfl rfl ?_
  refine w_p tok rfl rfl rfl ?_
  refine w_p tok rfl rfl rfl ?_
  refine w_end ?_
  refine x_seq ?_
  refine c_if H rfl (fun H => ?_) (fun H => ?_)
  ·
    refine c_skip ?_
    refine x_seq ?_
    refine c_seq ?_
    refine c_block ?_
    refine c_seq ?_
    refine c_region ?_
    refine w_p tok rfl rfl rfl ?_
    refine w_p tok rfl rfl rfl ?_
    refine w_end ?_
    refine x_seq ?_
    refine c_block ?_
    obtain ⟨I2, μ2, H0, HI⟩ := H
    refine c_loop (σ := Int) (fun (s : Int) => [(9, .int .i64 s), (0, Slc.v p0), (1, .int .i64 p1), (2, .int .i64 p2), (3, (Value.func (.func 36) #[] #[])), (8, .int .i64 t8_1)]) I2 μ2 t8_1 H0 ⟨rfl, rfl, rfl, rfl, rfl, rfl, trivial⟩ ?_
    rintro t9_2 h_2 H
    replace H := HI t9_2 h_2 H
    unfold slices_insertionSortCmpFunc_api_Piece__piece_compare_l2b at H
    refine c_weak [(9, .int .i64 t9_2), (0, Slc.v p0), (1, .int .i64 p1), (2, .int .i64 p2), (3, (Value.func (.func 36) #[] #[])), (8, .int .i64 t8_1)] ⟨rfl, rfl, rfl, rfl, rfl, rfl, trivial⟩ ?_
    refine c_seq ?_
    refine c_seqJ (α := Bool) (fun (s : Bool) => [(34, .bool s), (0, Slc.v p0), (1, .int .i64 p1), (2, .int .i64 p2), (3, (Value.func (.func 36) #[] #[])), (8, .int .i64 t8_1), (9, .int .i64 t9_2)]) (fun (s : Bool) h => slices_insertionSortCmpFunc_api_Piece__piece_compare_j3 p0 p1 p2 t8_1 t9_2 s k (fun s h' => I1 s h' ∧ μ1 s h' < μ1 t8_1 h_1) (fun s h' => I2 s h' ∧ μ2 s h' < μ2 t9_2 h_2) h) ?_ ?_
    ·
      rintro t34_3 h_3 H
      replace H : slices_insertionSortCmpFunc_api_Piece__piece_compare_j3 p0 p1 p2 t8_1 t9_2 t34_3 k (fun s h' => I1 s h' ∧ μ1 s h' < μ1 t8_1 h_1) (fun s h' => I2 s h' ∧ μ2 s h' < μ2 t9_2 h_2) h_3 := H
      unfold slices_insertionSortCmpFunc_api_Piece__piece_compare_j3 at H
      refine c_weak [(34, .bool t34_3), (0, Slc.v p0), (1, .int .i64 p1), (2, .int .i64 p2), (3, (Value.func (.func 36) #[] #[])), (8, .int .i64 t8_1), (9, .int .i64 t9_2)] ⟨rfl, rfl, rfl, rfl, rfl, rfl, rfl, trivial⟩ ?_
      refine c_if H rfl (fun H => ?_) (fun H => ?_)
      ·
        refine c_skip ?_
        refine x_seq ?_
        refine c_seq ?_
        refine c_block ?_
        refine c_sim [(0, Slc.v p0), (1, .int .i64 p1), (2, .int .i64 p2), (3, (Value.func (.func 36) #[] #[])), (8, .int .i64 t8_1), (9, .int .i64 t9_2)] (by kernel_rfl) (by kernel_rfl) ⟨rfl, rfl, rfl, rfl, rfl, rfl, trivial⟩ (fun wf => ?_)
        refine sim_p 0 (ei := [(0, Slc.v p0)]) (d := (some 37)) wf (by kernel_rfl) ⟨rfl, trivial⟩ (by kernel_rfl) (by kernel_rfl) (fun _ => pf_p tok rfl rfl rfl rfl) (fun P_0 => ?_)
        refine sim_p 1 (ei := [(9, .int .i64 t9_2)]) (d := (some 38)) wf (by kernel_rfl) ⟨rfl, trivial⟩ (by kernel_rfl) (by kernel_rfl) (fun _ => pf_p tok rfl rfl rfl rfl) (fun P_1 => ?_)
        refine sim_p 2 (ei := [(0, Slc.v p0)]) (d := (some 39)) wf (by kernel_rfl) ⟨rfl, trivial⟩ (by kernel_rfl) (by kernel_rfl) (fun _ => pf_p tok rfl rfl rfl rfl) (fun P_2 => ?_)
        refine sim_p 3 (ei := [(9, .int .i64 t9_2)]) (d := (some 40)) wf (by kernel_rfl) ⟨rfl, trivial⟩ (by kernel_rfl) (by kernel_rfl) (fun _ => pf_p tok rfl rfl rfl rfl) (fun P_3 => ?_)
        refine sim_p 4 (ei := [(40, .int .i64 t9_2)]) (d := (some 41)) wf (by kernel_rfl) ⟨rfl, trivial⟩ (by kernel_rfl) (by kernel_rfl) (fun _ => pf_p tok rfl rfl rfl rfl) (fun P_4 => ?_)
        refine sim_p 5 (ei := [(0, Slc.v p0)]) (d := (some 42)) wf (by kernel_rfl) ⟨rfl, trivial⟩ (by kernel_rfl) (by kernel_rfl) (fun _ => pf_p tok rfl rfl rfl rfl) (fun P_5 => ?_)
        refine sim_p 6 (ei := [(9, .int .i64 t9_2)]) (d := (some 43)) wf (by kernel_rfl) ⟨rfl, trivial⟩ (by kernel_rfl) (by kernel_rfl) (fun _ => pf_p tok rfl rfl rfl rfl) (fun P_6 => ?_)
        refine sim_p 7 (ei := [(43, .int .i64 t9_2)]) (d := (some 44)) wf (by kernel_rfl) ⟨rfl, trivial⟩ (by kernel_rfl) (by kernel_rfl) (fun _ => pf_p tok rfl rfl rfl rfl) (fun P_7 => ?_)
        obtain ⟨a2, ha2, la2, ua2, H⟩ := H
        refine sim_p 8 (ei := [(42, Slc.v p0), (44, .int .i64 (IntKind.i64.wrap (t9_2 - 1)))]) (d := (some 45)) wf (by kernel_rfl) ⟨rfl, rfl, trivial⟩ (by kernel_rfl) (by kernel_rfl) (fun _ => pf_y rfl rfl rfl (y_ixa' tok rfl rfl ha2 rfl rfl rfl la2 ua2)) (fun P_8 => ?_)
        obtain ⟨v3, hv3, H⟩ := H
        refine sim_l 9 (ei := [(45, .pointer (some (a2.add ((IntKind.i64.wrap (t9_2 - 1)).toNat * 5))))]) (d := (some 46)) wf (by kernel_rfl) ⟨rfl, trivial⟩ (by kernel_rfl) (by kernel_rfl) (pf_y rfl rfl rfl (y_lda tok rfl rfl rfl rfl rfl hv3)) (fun P_9 => ?_)
        refine sim_p 10 (ei := [(0, Slc.v p0)]) (d := (some 47)) wf (by kernel_rfl) ⟨rfl, trivial⟩ (by kernel_rfl) (by kernel_rfl) (fun _ => pf_p tok rfl rfl rfl rfl) (fun P_10 => ?_)
        refine sim_p 11 (ei := [(9, .int .i64 t9_2)]) (d := (some 48)) wf (by kernel_rfl) ⟨rfl, trivial⟩ (by kernel_rfl) (by kernel_rfl) (fun _ => pf_p tok rfl rfl rfl rfl) (fun P_11 => ?_)
        obtain ⟨a4, ha4, la4, ua4, H⟩ := H
        refine sim_p 12 (ei := [(47, Slc.v p0), (48, .int .i64 t9_2)]) (d := (some 49)) wf (by kernel_rfl) ⟨rfl, rfl, trivial⟩ (by kernel_rfl) (by kernel_rfl) (fun _ => pf_y rfl rfl rfl (y_ixa' tok rfl rfl ha4 rfl rfl rfl la4 ua4)) (fun P_12 => ?_)
        obtain ⟨v5, hv5, H⟩ := H
        refine sim_l 13 (ei := [(49, .pointer (some (a4.add (t9_2.toNat * 5))))]) (d := (some 50)) wf (by kernel_rfl) ⟨rfl, trivial⟩ (by kernel_rfl) (by kernel_rfl) (pf_y rfl rfl rfl (y_lda tok rfl rfl rfl rfl rfl hv5)) (fun P_13 => ?_)
        obtain ⟨a6, ha6, la6, ua6, H⟩ := H
        refine sim_p 14 (ei := [(37, Slc.v p0), (38, .int .i64 t9_2)]) (d := (some 51)) wf (by kernel_rfl) ⟨rfl, rfl, trivial⟩ (by kernel_rfl) (by kernel_rfl) (fun _ => pf_y rfl rfl rfl (y_ixa' tok rfl rfl ha6 rfl rfl rfl la6 ua6)) (fun P_14 => ?_)
        obtain ⟨h7, wh7, eh7, H⟩ := H
        refine sim_h 15 [0, 1, 5, 6, 7, 8, 9, 10, 11, 12, 13, 14] [0, 1, 5, 6, 7, 8, 9, 10, 11, 12, 13, 14] (ei := [(46, .agg (S_api_Piece.cs v3).toArray), (51, .pointer (some (a6.add (t9_2.toNat * 5))))]) wf ⟨P_14 _, P_13, P_12 _, P_11 _, P_10 _, P_9, P_8 _, P_7 _, P_6 _, P_5 _, P_4 _, P_3 _, P_2 _, P_1 _, P_0 _, trivial⟩ (by kernel_rfl) ⟨rfl, rfl, trivial⟩ (by kernel_rfl) rfl rfl rfl (h_sts tok rfl rfl rfl rfl rfl (oneC (by kernel_rfl)) wh7 eh7) ?_
        obtain ⟨a8, ha8, la8, ua8, H⟩ := H
        refine sim_p 16 (ei := [(39, Slc.v p0), (41, .int .i64 (IntKind.i64.wrap (t9_2 - 1)))]) (d := (some 52)) wf (by kernel_rfl) ⟨rfl, rfl, trivial⟩ (by kernel_rfl) (by kernel_rfl) (fun _ => pf_y rfl rfl rfl (y_ixa' tok rfl rfl ha8 rfl rfl rfl la8 ua8)) (fun P_16 => ?_)
        obtain ⟨h9, wh9, eh9, H⟩ := H
        refine sim_h 17 [0, 1, 2, 3, 4, 5, 6, 7, 8, 9, 10, 11, 12, 13, 14, 15, 16] [0, 1, 2, 3, 4, 5, 6, 7, 8, 9, 10, 11, 12, 13, 14, 16] (ei := [(50, .agg (S_api_Piece.cs v5).toArray), (52, .pointer (some (a8.add ((IntKind.i64.wrap (t9_2 - 1)).toNat * 5))))]) wf ⟨P_16 _, trivial, trivial, trivial, trivial, trivial, trivial, trivial, trivial, trivial, trivial, P_4 _, P_3 _, P_2 _, trivial, trivial, trivial⟩ (by kernel_rfl) ⟨rfl, rfl, trivial⟩ (by kernel_rfl) rfl rfl rfl (h_sts tok rfl rfl rfl rfl rfl (oneC (by kernel_rfl)) wh9 eh9) ?_
        refine sim_end wf ⟨trivial, trivial, trivial, trivial, trivial, trivial, trivial, trivial, trivial, trivial, trivial, trivial, trivial, trivial, trivial, trivial, trivial⟩ (by kernel_rfl) ?_
        clear wf P_0 P_1 P_10 P_11 P_12 P_13 P_14 P_16 P_2 P_3 P_4 P_5 P_6 P_7 P_8 P_9
        refine x_blk ?_
        refine x_seq ?_
        refine c_weak [(0, Slc.v p0), (1, .int .i64 p1), (2, .int .i64 p2), (3, (Value.func (.func 36) #[] #[])), (8, .int .i64 t8_1), (9, .int .i64 t9_2)] ⟨rfl, rfl, rfl, rfl, rfl, rfl, trivial⟩ ?_
        refine c_region ?_
        refine w_p tok rfl rfl rfl ?_
        refine w_p tok rfl rfl rfl ?_
        obtain ⟨x10, ex10, H⟩ := H
        refine w_pe tok rfl (congrArg (fun z => (.int .i64 z : Value)) ex10) rfl rfl ?_
        refine w_end ?_
        exact x_join x10 H ⟨rfl, rfl, rfl, rfl, rfl, rfl, trivial⟩
      ·
        refine c_exit ?_
        refine x_te ?_
        refine x_te ?_
        refine x_bh ?_
        refine x_blk ?_
        refine x_seq ?_
        refine c_region ?_
        refine w_p tok rfl rfl rfl ?_
        refine w_p tok rfl rfl rfl ?_
        obtain ⟨x11, ex11, H⟩ := H
        refine w_pe tok rfl (congrArg (fun z => (.int .i64 z : Value)) ex11) rfl rfl ?_
        refine w_end ?_
        exact x_join x11 H ⟨rfl, rfl, rfl, rfl, rfl, trivial⟩
    ·
      refine c_sim [(0, Slc.v p0), (1, .int .i64 p1), (2, .int .i64 p2), (3, (Value.func (.func 36) #[] #[])), (8, .int .i64 t8_1), (9, .int .i64 t9_2)] (by kernel_rfl) (by kernel_rfl) ⟨rfl, rfl, rfl, rfl, rfl, rfl, trivial⟩ (fun wf => ?_)
      refine sim_p 0 (ei := [(9, .int .i64 t9_2)]) (d := (some 18)) wf (by kernel_rfl) ⟨rfl, trivial⟩ (by kernel_rfl) (by kernel_rfl) (fun _ => pf_p tok rfl rfl rfl rfl) (fun P_0 => ?_)
      refine sim_p 1 (ei := [(1, .int .i64 p1)]) (d := (some 19)) wf (by kernel_rfl) ⟨rfl, trivial⟩ (by kernel_rfl) (by kernel_rfl) (fun _ => pf_p tok rfl rfl rfl rfl) (fun P_1 => ?_)
      refine sim_p 2 (ei := [(18, .int .i64 t9_2), (19, .int .i64 p1)]) (d := (some 20)) wf (by kernel_rfl) ⟨rfl, rfl, trivial⟩ (by kernel_rfl) (by kernel_rfl) (fun _ => pf_p tok rfl rfl rfl rfl) (fun P_2 => ?_)
      refine sim_p 3 (ei := [(20, .bool (decide (t9_2 > p1)))]) (d := (some 21)) wf (by kernel_rfl) ⟨rfl, trivial⟩ (by kernel_rfl) (by kernel_rfl) (fun _ => pf_p tok rfl rfl rfl rfl) (fun P_3 => ?_)
      refine sim_gif 21 H rfl (fun hb H => ?_) (fun hb H => ?_)
      ·
        refine sim_p 4 (ei := [(3, (Value.func (.func 36) #[] #[])), (21, .bool true)]) (d := (some 22)) wf (by kernel_rfl) ⟨rfl, rfl, trivial⟩ (by kernel_rfl) (by kernel_rfl) (fun _ => pf_p tok rfl rfl rfl rfl) (fun P_4 => ?_)
        refine sim_p 5 (ei := [(0, Slc.v p0), (21, .bool true)]) (d := (some 23)) wf (by kernel_rfl) ⟨rfl, rfl, trivial⟩ (by kernel_rfl) (by kernel_rfl) (fun _ => pf_p tok rfl rfl rfl rfl) (fun P_5 => ?_)
        refine sim_p 6 (ei := [(9, .int .i64 t9_2), (21, .bool true)]) (d := (some 24)) wf (by kernel_rfl) ⟨rfl, rfl, trivial⟩ (by kernel_rfl) (by kernel_rfl) (fun _ => pf_p tok rfl rfl rfl rfl) (fun P_6 => ?_)
        obtain ⟨a12, ha12, la12, ua12, H⟩ := H
        refine sim_p 7 (ei := [(21, .bool true), (23, Slc.v p0), (24, .int .i64 t9_2)]) (d := (some 25)) wf (by kernel_rfl) ⟨rfl, rfl, rfl, trivial⟩ (by kernel_rfl) (by kernel_rfl) (fun _ => pf_y rfl rfl rfl (y_ixa' tok rfl rfl ha12 rfl rfl rfl la12 ua12)) (fun P_7 => ?_)
        obtain ⟨v13, hv13, H⟩ := H
        refine sim_l 8 (ei := [(21, .bool true), (25, .pointer (some (a12.add (t9_2.toNat * 5))))]) (d := (some 26)) wf (by kernel_rfl) ⟨rfl, rfl, trivial⟩ (by kernel_rfl) (by kernel_rfl) (pf_y rfl rfl rfl (y_lda tok rfl rfl rfl rfl rfl hv13)) (fun P_8 => ?_)
        refine sim_p 9 (ei := [(0, Slc.v p0), (21, .bool true)]) (d := (some 27)) wf (by kernel_rfl) ⟨rfl, rfl, trivial⟩ (by kernel_rfl) (by kernel_rfl) (fun _ => pf_p tok rfl rfl rfl rfl) (fun P_9 => ?_)
        refine sim_p 10 (ei := [(9, .int .i64 t9_2), (21, .bool true)]) (d := (some 28)) wf (by kernel_rfl) ⟨rfl, rfl, trivial⟩ (by kernel_rfl) (by kernel_rfl) (fun _ => pf_p tok rfl rfl rfl rfl) (fun P_10 => ?_)
        refine sim_p 11 (ei := [(21, .bool true), (28, .int .i64 t9_2)]) (d := (some 29)) wf (by kernel_rfl) ⟨rfl, rfl, trivial⟩ (by kernel_rfl) (by kernel_rfl) (fun _ => pf_p tok rfl rfl rfl rfl) (fun P_11 => ?_)
        obtain ⟨a14, ha14, la14, ua14, H⟩ := H
        refine sim_p 12 (ei := [(21, .bool true), (27, Slc.v p0), (29, .int .i64 (IntKind.i64.wrap (t9_2 - 1)))]) (d := (some 30)) wf (by kernel_rfl) ⟨rfl, rfl, rfl, trivial⟩ (by kernel_rfl) (by kernel_rfl) (fun _ => pf_y rfl rfl rfl (y_ixa' tok rfl rfl ha14 rfl rfl rfl la14 ua14)) (fun P_12 => ?_)
        obtain ⟨v15, hv15, H⟩ := H
        refine sim_l 13 (ei := [(21, .bool true), (30, .pointer (some (a14.add ((IntKind.i64.wrap (t9_2 - 1)).toNat * 5))))]) (d := (some 31)) wf (by kernel_rfl) ⟨rfl, rfl, trivial⟩ (by kernel_rfl) (by kernel_rfl) (pf_y rfl rfl rfl (y_lda tok rfl rfl rfl rfl rfl hv15)) (fun P_13 => ?_)
        exact H.elim
      ·
        refine sim_p 4 (v := undef) (ei := [(3, (Value.func (.func 36) #[] #[])), (21, .bool false)]) (d := (some 22)) wf (by kernel_rfl) ⟨rfl, rfl, trivial⟩ (by kernel_rfl) (by kernel_rfl) (fun _ => pf_s rfl rfl rfl) (fun P_4 => ?_)
        refine sim_p 5 (v := undef) (ei := [(0, Slc.v p0), (21, .bool false)]) (d := (some 23)) wf (by kernel_rfl) ⟨rfl, rfl, trivial⟩ (by kernel_rfl) (by kernel_rfl) (fun _ => pf_s rfl rfl rfl) (fun P_5 => ?_)
        refine sim_p 6 (v := undef) (ei := [(9, .int .i64 t9_2), (21, .bool false)]) (d := (some 24)) wf (by kernel_rfl) ⟨rfl, rfl, trivial⟩ (by kernel_rfl) (by kernel_rfl) (fun _ => pf_s rfl rfl rfl) (fun P_6 => ?_)
        refine sim_p 7 (v := undef) (ei := [(21, .bool false), (23, undef), (24, undef)]) (d := (some 25)) wf (by kernel_rfl) ⟨rfl, rfl, rfl, trivial⟩ (by kernel_rfl) (by kernel_rfl) (fun _ => pf_s rfl rfl rfl) (fun P_7 => ?_)
        refine sim_p 8 (v := undef) (ei := [(21, .bool false), (25, undef)]) (d := (some 26)) wf (by kernel_rfl) ⟨rfl, rfl, trivial⟩ (by kernel_rfl) (by kernel_rfl) (fun _ => pf_s rfl rfl rfl) (fun P_8 => ?_)
        refine sim_p 9 (v := undef) (ei := [(0, Slc.v p0), (21, .bool false)]) (d := (some 27)) wf (by kernel_rfl) ⟨rfl, rfl, trivial⟩ (by kernel_rfl) (by kernel_rfl) (fun _ => pf_s rfl rfl rfl) (fun P_9 => ?_)
        refine sim_p 10 (v := undef) (ei := [(9, .int .i64 t9_2), (21, .bool false)]) (d := (some 28)) wf (by kernel_rfl) ⟨rfl, rfl, trivial⟩ (by kernel_rfl) (by kernel_rfl) (fun _ => pf_s rfl rfl rfl) (fun P_10 => ?_)
        refine sim_p 11 (v := undef) (ei := [(21, .bool false), (28, undef)]) (d := (some 29)) wf (by kernel_rfl) ⟨rfl, rfl, trivial⟩ (by kernel_rfl) (by kernel_rfl) (fun _ => pf_s rfl rfl rfl) (fun P_11 => ?_)
        refine sim_p 12 (v := undef) (ei := [(21, .bool false), (27, undef), (29, undef)]) (d := (some 30)) wf (by kernel_rfl) ⟨rfl, rfl, rfl, trivial⟩ (by kernel_rfl) (by kernel_rfl) (fun _ => pf_s rfl rfl rfl) (fun P_12 => ?_)
        refine sim_p 13 (v := undef) (ei := [(21, .bool false), (30, undef)]) (d := (some 31)) wf (by kernel_rfl) ⟨rfl, rfl, trivial⟩ (by kernel_rfl) (by kernel_rfl) (fun _ => pf_s rfl rfl rfl) (fun P_13 => ?_)
        refine sim_p 14 (v := undef) (ei := [(21, .bool false), (22, undef), (26, undef), (31, undef)]) (d := (some 32)) wf (by kernel_rfl) ⟨rfl, rfl, rfl, rfl, trivial⟩ (by kernel_rfl) (by kernel_rfl) (fun _ => pf_s rfl rfl rfl) (fun P_14 => ?_)
        refine sim_p 15 (v := undef) (ei := [(21, .bool false), (32, undef)]) (d := (some 33)) wf (by kernel_rfl) ⟨rfl, rfl, trivial⟩ (by kernel_rfl) (by kernel_rfl) (fun _ => pf_s rfl rfl rfl) (fun P_15 => ?_)
        refine sim_p 16 (ei := [(21, .bool false), (33, undef)]) (d := (some 34)) wf (by kernel_rfl) ⟨rfl, rfl, trivial⟩ (by kernel_rfl) (by kernel_rfl) (fun _ => pf_p tok rfl rfl rfl rfl) (fun P_16 => ?_)
        refine sim_end wf ⟨P_16 _, P_15 _, P_14 _, P_13 _, P_12 _, P_11 _, P_10 _, P_9 _, P_8 _, P_7 _, P_6 _, P_5 _, P_4 _, P_3 _, P_2 _, P_1 _, P_0 _, trivial⟩ (by kernel_rfl) ?_
        clear wf P_0 P_1 P_10 P_11 P_12 P_13 P_14 P_15 P_16 P_2 P_3 P_4 P_5 P_6 P_7 P_8 P_9
        exact x_join false H ⟨rfl, rfl, rfl, rfl, rfl, rfl, rfl, trivial⟩
  ·
    refine c_exit ?_
    refine x_te ?_
    refine x_te ?_
    refine x_bh ?_
    exact x_end _ rfl _ rfl ⟨(), rfl, H⟩

theorem slices_pdqsortCmpFunc_api_Piece__piece_compare_ok : CallOk Go.Proofs.Tryz.prog 67 := ⟨_, Go.Proofs.Tryz.func67, by kernel_rfl, by kernel_rfl⟩
theorem slices_pdqsortCmpFunc_api_Piece__piece_compare_ref (p0 : Slc) (p1 : Int) (p2 : Int) (p3 : Int) (k : (Unit) → Heap → Prop) (h : Heap) (H : slices_pdqsortCmpFunc_api_Piece__piece_compare p0 p1 p2 p3 k h) : CallsH Go.Proofs.Tryz.prog 67 #[Slc.v p0, .int .i64 p1, .int .i64 p2, .int .i64 p3, (Value.func (.func 36) #[] #[])] h (fun v h' => ∃ r : Unit, v = .tuple #[] ∧ k r h') := by
  refine f_enter (N := 148) Go.Proofs.Tryz.func67 rfl rfl rfl (fun w0 => ?_)
  unfold slices_pdqsortCmpFunc_api_Piece__piece_compare at H
  refine c_weak [(0, Slc.v p0), (1, .int .i64 p1), (2, .int .i64 p2), (3, .int .i64 p3), (4, (Value.func (.func 36) #[] #[]))] ⟨rfl, rfl, rfl, rfl, rfl, trivial⟩ ?_
  refine c_seq ?_
  refine c_region ?_
  refine w_p tok rfl rfl rfl ?_
  refine w_end ?_
  refine x_seq ?_
  refine c_seq ?_
  refine c_region ?_
  refine w_p tok rfl rfl rfl ?_
  refine w_end ?_
  refine x_seq ?_
  refine c_block ?_
  obtain ⟨I1, μ1, H0, HI⟩ := H
  refine c_loop (σ := Int × Int × Int × Bool × Bool) (fun (s : Int × Int × Int × Bool × Bool) => [(1, .int .i64 s.1), (2, .int .i64 s.2.1), (3, .int .i64 s.2.2.1), (10, .bool s.2.2.2.1), (11, .bool s.2.2.2.2), (0, Slc.v p0), (4, (Value.func (.func 36) #[] #[]))]) I1 μ1 (p1, p2, p3, true, true) H0 ⟨rfl, rfl, rfl, rfl, rfl, rfl, rfl, trivial⟩ ?_
  rintro ⟨t1_1, t2_1, t3_1, t10_1, t11_1⟩ h_1 H
  replace H := HI t1_1 t2_1 t3_1 t10_1 t11_1 h_1 H
  unfold slices_pdqsortCmpFunc_api_Piece__piece_compare_l1b at H
  refine c_weak [(1, .int .i64 t1_1), (2, .int .i64 t2_1), (3, .int .i64 t3_1), (10, .bool t10_1), (11, .bool t11_1), (0, Slc.v p0), (4, (Value.func (.func 36) #[] #[]))] ⟨rfl, rfl, rfl, rfl, rfl, rfl, rfl, trivial⟩ ?_
  refine c_block ?_
  refine c_seq ?_
  refine c_region ?_
  refine w_p tok rfl rfl rfl ?_
  refine w_p tok rfl rfl rfl ?_
  refine w_p tok rfl rfl rfl ?_
  obtain ⟨x1, ex1, H⟩ := H
  refine w_pe tok rfl (congrArg (fun z => (.int .i64 z : Value)) ex1) rfl rfl ?_
  refine w_end ?_
  refine x_seq ?_
  refine c_seq ?_
  refine c_seq ?_
  refine c_region ?_
  refine w_p tok rfl rfl rfl ?_
  refine w_p tok rfl rfl rfl ?_
  refine w_end ?_
  refine x_seq ?_
  refine c_if H rfl (fun H => ?_) (fun H => ?_)
  ·
    refine c_seq ?_
    refine c_region ?_
    refine w_p tok rfl rfl rfl ?_
    refine w_p tok rfl rfl rfl ?_
    refine w_p tok rfl rfl rfl ?_
    refine w_p tok rfl rfl rfl ?_
    refine w_call slices_insertionSortCmpFunc_api_Piece__piece_compare_ok (slices_insertionSortCmpFunc_api_Piece__piece_compare_ref _ _ _ _ _ H) rfl rfl rfl rfl ?_
    rintro _ h3 ⟨r2, rfl, H⟩
    refine w_end ?_
    refine x_seq ?_
    refine c_weak [] trivial ?_
    refine c_ret ?_
    refine x_tr ?_
    refine x_br ?_
    refine x_tr ?_
    refine x_br ?_
    exact x_ret _ rfl _ rfl ⟨(), rfl, H⟩
  ·
    refine c_skip ?_
    refine x_seq ?_
    refine c_seq ?_
    refine c_seq ?_
    refine c_region ?_
    refine w_p tok rfl rfl rfl ?_
    refine w_p tok rfl rfl rfl ?_
    refine w_end ?_
    refine x_seq ?_
    refine c_if H rfl (fun H => ?_) (fun H => ?_)
    ·
      refine c_seq ?_
      refine c_region ?_
      refine w_p tok rfl rfl rfl ?_
      refine w_p tok rfl rfl rfl ?_
      refine w_p tok rfl rfl rfl ?_
      refine w_p tok rfl rfl rfl ?_
      exact H.elim
    ·
      refine c_skip ?_
      refine x_seq ?_
      refine c_weak [(1, .int .i64 t1_1), (2, .int .i64 t2_1), (3, .int .i64 t3_1), (10, .bool t10_1), (11, .bool t11_1), (0, Slc.v p0), (4, (Value.func (.func 36) #[] #[])), (12, .int .i64 x1)] ⟨rfl, rfl, rfl, rfl, rfl, rfl, rfl, rfl, trivial⟩ ?_
      refine c_seqJ (α := Int) (fun (s : Int) => [(3, .int .i64 s), (0, Slc.v p0), (1, .int .i64 t1_1), (2, .int .i64 t2_1), (4, (Value.func (.func 36) #[] #[])), (10, .bool t10_1), (11, .bool t11_1), (12, .int .i64 x1)]) (fun (s : Int) h => slices_pdqsortCmpFunc_api_Piece__piece_compare_j2 p0 t1_1 t2_1 t10_1 t11_1 x1 s k (fun s h' => I1 s h' ∧ μ1 s h' < μ1 (t1_1, t2_1, t3_1, t10_1, t11_1) h_1) h) ?_ ?_
      ·
        rintro t3_2 h_2 H
        replace H : slices_pdqsortCmpFunc_api_Piece__piece_compare_j2 p0 t1_1 t2_1 t10_1 t11_1 x1 t3_2 k (fun s h' => I1 s h' ∧ μ1 s h' < μ1 (t1_1, t2_1, t3_1, t10_1, t11_1) h_1) h_2 := H
        unfold slices_pdqsortCmpFunc_api_Piece__piece_compare_j2 at H
        refine c_weak [(3, .int .i64 t3_2), (0, Slc.v p0), (1, .int .i64 t1_1), (2, .int .i64 t2_1), (4, (Value.func (.func 36) #[] #[])), (10, .bool t10_1), (11, .bool t11_1), (12, .int .i64 x1)] ⟨rfl, rfl, rfl, rfl, rfl, rfl, rfl, rfl, trivial⟩ ?_
        refine c_seq ?_
        refine c_region ?_
        refine w_p tok rfl rfl rfl ?_
        refine w_p tok rfl rfl rfl ?_
        refine w_p tok rfl rfl rfl ?_
        refine w_p tok rfl rfl rfl ?_
        exact H.elim
      ·
        refine c_seq ?_
        refine c_region ?_
        refine w_p tok rfl rfl rfl ?_
        refine w_p tok rfl rfl rfl ?_
        refine w_end ?_
        refine x_seq ?_
        refine c_if H rfl (fun H => ?_) (fun H => ?_)
        ·
          refine c_seq ?_
          refine c_region ?_
          refine w_p tok rfl rfl rfl ?_
          refine w_p tok rfl rfl rfl ?_
          refine w_p tok rfl rfl rfl ?_
          refine w_p tok rfl rfl rfl ?_
          exact H.elim
        ·
          refine c_skip ?_
          exact x_join t3_1 H ⟨rfl, rfl, rfl, rfl, rfl, rfl, rfl, rfl, trivial⟩

theorem slices_SortFunc_api_Piece_api_Piece__piece_compare_ok : CallOk Go.Proofs.Tryz.prog 46 := ⟨_, Go.Proofs.Tryz.func46, by kernel_rfl, by kernel_rfl⟩
theorem slices_SortFunc_api_Piece_api_Piece__piece_compare_ref (p0 : Slc) (k : (Unit) → Heap → Prop) (h : Heap) (H : slices_SortFunc_api_Piece_api_Piece__piece_compare p0 k h) : CallsH Go.Proofs.Tryz.prog 46 #[Slc.v p0, (Value.func (.func 36) #[] #[])] h (fun v h' => ∃ r : Unit, v = .tuple #[] ∧ k r h') := by
  refine f_enter (N := 14) Go.Proofs.Tryz.func46 rfl rfl rfl (fun w0 => ?_)
  unfold slices_SortFunc_api_Piece_api_Piece__piece_compare at H
  refine c_weak [(0, Slc.v p0), (1, (Value.func (.func 36) #[] #[]))] ⟨rfl, rfl, trivial⟩ ?_
  refine c_seq ?_
  refine c_region ?_
  refine w_p tok rfl rfl rfl ?_
  refine w_p tok rfl rfl rfl ?_
  obtain ⟨x1, ex1, H⟩ := H
  refine w_pe tok rfl (congrArg (fun z => (.int .i64 z : Value)) ex1) rfl rfl ?_
  refine w_end ?_
  refine x_seq ?_
  refine c_region ?_
  refine w_p tok rfl rfl rfl ?_
  refine w_p tok rfl rfl rfl ?_
  refine w_p tok rfl rfl rfl ?_
  refine w_p tok rfl rfl rfl ?_
  refine w_call math_bits_Len_ok (math_bits_Len_ref _ _ _ H) rfl rfl rfl rfl ?_
  rintro _ h3 ⟨r2, rfl, H⟩
  refine w_p tok rfl rfl rfl ?_
  refine w_call slices_pdqsortCmpFunc_api_Piece__piece_compare_ok (slices_pdqsortCmpFunc_api_Piece__piece_compare_ref _ _ _ _ _ _ H) rfl rfl rfl rfl ?_
  rintro _ h5 ⟨r4, rfl, H⟩
  refine w_end ?_
  exact x_end _ rfl _ rfl ⟨(), rfl, H⟩

theorem slices_SortedFunc_api_Piece__piece_compare_ok : CallOk Go.Proofs.Tryz.prog 34 := ⟨_, Go.Proofs.Tryz.func34, by kernel_rfl, by kernel_rfl⟩
theorem slices_SortedFunc_api_Piece__piece_compare_ref (p0 : Value) (k : (Slc) → Heap → Prop) (h : Heap) (H : slices_SortedFunc_api_Piece__piece_compare p0 k h) : CallsH Go.Proofs.Tryz.prog 34 #[p0, (Value.func (.func 36) #[] #[])] h (fun v h' => ∃ r : Slc, v = Slc.v r ∧ k r h') := by
  refine f_enter (N := 12) Go.Proofs.Tryz.func34 rfl rfl rfl (fun w0 => ?_)
  unfold slices_SortedFunc_api_Piece__piece_compare at H
  refine c_weak [(0, p0), (1, (Value.func (.func 36) #[] #[]))] ⟨rfl, rfl, trivial⟩ ?_
  refine c_seq ?_
  refine c_region ?_
  refine w_p tok rfl rfl rfl ?_
  refine w_end ?_
  refine x_seq ?_
  refine c_seq ?_
  refine c_region ?_
  refine w_p tok rfl rfl rfl ?_
  refine w_call slices_Collect_api_Piece_ok (slices_Collect_api_Piece_ref _ _ _ H) rfl rfl rfl rfl ?_
  rintro _ h2 ⟨r1, rfl, H⟩
  refine w_p tok rfl rfl rfl ?_
  refine w_end ?_
  refine x_seq ?_
  refine c_seq ?_
  refine c_region ?_
  refine w_p tok rfl rfl rfl ?_
  refine w_p tok rfl rfl rfl ?_
  refine w_call slices_SortFunc_api_Piece_api_Piece__piece_compare_ok (slices_SortFunc_api_Piece_api_Piece__piece_compare_ref _ _ _ H) rfl rfl rfl rfl ?_
  rintro _ h4 ⟨r3, rfl, H⟩
  refine w_end ?_
  refine x_seq ?_
  refine c_weak [(5, Slc.v r1)] ⟨rfl, trivial⟩ ?_
  refine c_seq ?_
  refine c_region ?_
  refine w_p tok rfl rfl rfl ?_
  refine w_p tok rfl rfl rfl ?_
  refine w_end ?_
  refine x_seq ?_
  refine c_ret ?_
  exact x_ret _ rfl _ rfl ⟨r1, rfl, H⟩

theorem piece_Merge_ok : CallOk Go.Proofs.Tryz.prog 20 := ⟨_, Go.Proofs.Tryz.func20, by kernel_rfl, by kernel_rfl⟩
theorem piece_Merge_ref (p0 : Slc) (k : (Slc) → Heap → Prop) (h : Heap) (H : piece_Merge p0 k h) : CallsH Go.Proofs.Tryz.prog 20 #[Slc.v p0] h (fun v h' => ∃ r : Slc, v = Slc.v r ∧ k r h') := by
  refine f_enter (N := 62) Go.Proofs.Tryz.func20 rfl rfl rfl (fun w0 => ?_)
  unfold piece_Merge at H
  refine c_weak [(0, Slc.v p0)] ⟨rfl, trivial⟩ ?_
  refine c_seq ?_
  refine c_region ?_
  refine w_p tok rfl rfl rfl ?_
  refine w_end ?_
  refine x_seq ?_
  refine c_seq ?_
  refine c_region ?_
  obtain ⟨b1, h2, eb1, eh2, H⟩ := H
  refine w_h (h_mkm rfl eb1 eh2) rfl rfl ?_
  refine w_p tok rfl rfl rfl ?_
  refine w_end ?_
  refine x_seq ?_
  refine c_seq ?_
  refine c_seq ?_
  refine c_region ?_
  refine w_p tok rfl rfl rfl ?_
  refine w_p tok rfl rfl rfl ?_
  refine w_p tok rfl rfl rfl ?_
  refine w_end ?_
  refine x_seq ?_
  refine c_block ?_
  obtain ⟨I1, μ1, H0, HI⟩ := H
  refine c_loop (σ := Int) (fun (s : Int) => [(14, .int .i64 s), (3, .map (some b1)), (12, Slc.v p0), (13, .int .i64 (p0.len : Int))]) I1 μ1 0 H0 ⟨rfl, rfl, rfl, rfl, trivial⟩ ?_
  rintro t14_1 h_1 H
  replace H := HI t14_1 h_1 H
  unfold piece_Merge_l1b at H
  refine c_weak [(14, .int .i64 t14_1), (3, .map (some b1)), (12, Slc.v p0), (13, .int .i64 (p0.len : Int))] ⟨rfl, rfl, rfl, rfl, trivial⟩ ?_
  refine c_seq ?_
  refine c_region ?_
  refine w_p tok rfl rfl rfl ?_
  refine w_end ?_
  refine x_seq ?_
  refine c_seq ?_
  refine c_if H rfl (fun H => ?_) (fun H => ?_)
  ·
    refine c_skip ?_
    refine x_seq ?_
    refine c_seq ?_
    refine c_block ?_
    refine c_seq ?_
    refine c_region ?_
    obtain ⟨a3, ha3, la3, ua3, H⟩ := H
    refine w_y (y_ixa' tok rfl rfl ha3 rfl rfl rfl la3 ua3) rfl rfl ?_
    obtain ⟨v4, hv4, H⟩ := H
    refine w_y (y_ld tok rfl rfl rfl rfl hv4) rfl rfl ?_
    refine w_p tok rfl rfl rfl ?_
    refine w_end ?_
    refine x_seq ?_
    refine c_scope ?_
    refine c_seq ?_
    refine c_label ?_
    refine x_seq ?_
    refine c_seq ?_
    refine c_region ?_
    refine w_p tok rfl rfl rfl ?_
    refine w_p tok rfl rfl rfl ?_
    refine w_p tok rfl rfl rfl ?_
    refine w_end ?_
    refine x_seq ?_
    refine c_block ?_
    obtain ⟨I2, μ2, H0, HI⟩ := H
    refine c_loop (σ := Int) (fun (s : Int) => [(20, .int .i64 s), (3, .map (some b1)), (12, Slc.v p0), (13, .int .i64 (p0.len : Int)), (14, .int .i64 t14_1), (18, Slc.v v4), (19, .int .i64 (v4.len : Int))]) I2 μ2 0 H0 ⟨rfl, rfl, rfl, rfl, rfl, rfl, rfl, trivial⟩ ?_
    rintro t20_2 h_2 H
    replace H := HI t20_2 h_2 H
    unfold piece_Merge_l2b at H
    refine c_weak [(20, .int .i64 t20_2), (3, .map (some b1)), (12, Slc.v p0), (13, .int .i64 (p0.len : Int)), (14, .int .i64 t14_1), (18, Slc.v v4), (19, .int .i64 (v4.len : Int))] ⟨rfl, rfl, rfl, rfl, rfl, rfl, rfl, trivial⟩ ?_
    refine c_seq ?_
    refine c_region ?_
    refine w_p tok rfl rfl rfl ?_
    refine w_end ?_
    refine x_seq ?_
    refine c_seq ?_
    refine c_if H rfl (fun H => ?_) (fun H => ?_)
    ·
      refine c_skip ?_
      refine x_seq ?_
      refine c_seqJ (α := Unit) (fun (s : Unit) => [(3, .map (some b1)), (12, Slc.v p0), (13, .int .i64 (p0.len : Int)), (14, .int .i64 t14_1), (18, Slc.v v4), (19, .int .i64 (v4.len : Int)), (20, .int .i64 t20_2)]) (fun (s : Unit) h => piece_Merge_j3 b1 p0 (p0.len : Int) t14_1 v4 (v4.len : Int) t20_2 k (fun s h' => I1 s h' ∧ μ1 s h' < μ1 t14_1 h_1) (fun s h' => I2 s h' ∧ μ2 s h' < μ2 t20_2 h_2) h) ?_ ?_
      ·
        rintro _ h_3 H
        replace H : piece_Merge_j3 b1 p0 (p0.len : Int) t14_1 v4 (v4.len : Int) t20_2 k (fun s h' => I1 s h' ∧ μ1 s h' < μ1 t14_1 h_1) (fun s h' => I2 s h' ∧ μ2 s h' < μ2 t20_2 h_2) h_3 := H
        unfold piece_Merge_j3 at H
        refine c_weak [(3, .map (some b1)), (12, Slc.v p0), (13, .int .i64 (p0.len : Int)), (14, .int .i64 t14_1), (18, Slc.v v4), (19, .int .i64 (v4.len : Int)), (20, .int .i64 t20_2)] ⟨rfl, rfl, rfl, rfl, rfl, rfl, rfl, trivial⟩ ?_
        refine c_region ?_
        refine w_p tok rfl rfl rfl ?_
        refine w_p tok rfl rfl rfl ?_
        refine w_end ?_
        exact x_join (IntKind.i64.wrap (t20_2 + 1)) H ⟨rfl, rfl, rfl, rfl, rfl, rfl, rfl, trivial⟩
      ·
        refine c_block ?_
        refine c_seq ?_
        refine c_region ?_
        obtain ⟨a5, ha5, la5, ua5, H⟩ := H
        refine w_y (y_ixa' tok rfl rfl ha5 rfl rfl rfl la5 ua5) rfl rfl ?_
        obtain ⟨v6, hv6, H⟩ := H
        refine w_y (y_lda tok rfl rfl rfl rfl rfl hv6) rfl rfl ?_
        obtain ⟨b7, h8, eb7, eh8, H⟩ := H
        refine w_h (h_alloc tok rfl rfl eb7 eh8) rfl rfl ?_
        obtain ⟨h9, wh9, eh9, H⟩ := H
        refine w_h (h_sts tok rfl rfl rfl rfl rfl (oneC (by kernel_rfl)) wh9 eh9) rfl rfl ?_
        refine w_end ?_
        refine x_seq ?_
        refine c_seq ?_
        refine c_seq ?_
        refine c_region ?_
        obtain ⟨v10, hv10, H⟩ := H
        refine w_y (y_lda tok rfl rfl rfl rfl rfl hv10) rfl rfl ?_
        exact H.elim
    ·
      refine c_exit ?_
      refine x_te ?_
      refine x_te ?_
      refine x_bh ?_
      refine x_scn ?_
      refine x_blk ?_
      refine x_seq ?_
      refine c_region ?_
      refine w_p tok rfl rfl rfl ?_
      refine w_p tok rfl rfl rfl ?_
      refine w_end ?_
      exact x_join (IntKind.i64.wrap (t14_1 + 1)) H ⟨rfl, rfl, rfl, rfl, trivial⟩
  ·
    refine c_exit ?_
    refine x_te ?_
    refine x_te ?_
    refine x_bh ?_
    refine x_seq ?_
    refine c_seq ?_
    refine c_region ?_
    refine w_p tok rfl rfl rfl ?_
    refine w_call maps_Values_map_piece_place_api_Piece_piece_place_api_Piece_ok (maps_Values_map_piece_place_api_Piece_piece_place_api_Piece_ref _ _ _ H) rfl rfl rfl rfl ?_
    rintro _ h12 ⟨r11, rfl, H⟩
    refine w_call slices_SortedFunc_api_Piece__piece_compare_ok (slices_SortedFunc_api_Piece__piece_compare_ref _ _ _ H) rfl rfl rfl rfl ?_
    rintro _ h14 ⟨r13, rfl, H⟩
    refine w_p tok rfl rfl rfl ?_
    refine w_end ?_
    refine x_seq ?_
    refine c_weak [(2, Slc.v r13)] ⟨rfl, trivial⟩ ?_
    refine c_ret ?_
    exact x_ret _ rfl _ rfl ⟨r13, rfl, H⟩
end Go.Q.Yc

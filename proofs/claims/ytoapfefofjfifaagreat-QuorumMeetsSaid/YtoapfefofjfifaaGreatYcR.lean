/- A part of the proof of statements of this seat: lemmas, no statement of their own. -/
import Derived.Test.YtoapfefofjfifaaGreatYcTab
import Derived.Test.YtoapfefofjfifaaGreatYcG
import Derived.Test.YtoapfefofjfifaaGreatQEq
set_option linter.unusedVariables false
set_option maxRecDepth 100000
set_option maxHeartbeats 1000000
namespace Go.Q.Yc
/-- internal stringslite.IndexByte -/
def internal_stringslite_IndexByte (p0 : ByteArray) (p1 : Int) (k : (Int) → Heap → Prop) (h : Heap) : Prop :=
  ∃ x1 : Int, x1 = (Lib.indexByte p0.data.toList p1.toNat.toUInt8) ∧ (k x1 h)

/-- internal stringslite.Index -/
def internal_stringslite_Index_g4 (t0_4 : ByteArray) (t1_4 : ByteArray) (t5_4 : Int) (t6_4 : Int) (t7_4 : Int) (t8_4 : Int) (t9_4 : Int) (t10_4 : Int) (t107_4 : Bool) (k : (Int) → Heap → Prop) (nx1 : (Int × Int) → Heap → Prop) (h_4 : Heap) : Prop :=
  if t107_4 then (∃ s14 : ByteArray, (0 : Int) ≤ t8_4 ∧ (t8_4 : Int) ≤ (t0_4.size : Int) ∧ (t0_4.size : Int) ≤ (t0_4.size : Int) ∧ s14 = t0_4.extract t8_4.toNat (t0_4.size : Int).toNat ∧ (False)) else (∃ v15 : Int, cellH h_4 (⟨0, 0, none⟩ : Addr) = some (.int .i64 v15) ∧ (if (((decide (t5_4 > v15)) && (decide (t10_4 ≥ (IntKind.i64.wrap (4 + (shr .i64 t8_4 (4 : Int).toNat)))))) && (decide (t8_4 < t9_4))) then (∃ s16 : ByteArray, (0 : Int) ≤ t8_4 ∧ (t8_4 : Int) ≤ (t0_4.size : Int) ∧ (t0_4.size : Int) ≤ (t0_4.size : Int) ∧ s16 = t0_4.extract t8_4.toNat (t0_4.size : Int).toNat ∧ (False)) else (nx1 (t8_4, t10_4) h_4)))
def internal_stringslite_Index_g3 (t0_3 : ByteArray) (t1_3 : ByteArray) (t5_3 : Int) (t6_3 : Int) (t7_3 : Int) (t8_3 : Int) (t9_3 : Int) (t10_3 : Int) (t93_3 : Bool) (k : (Int) → Heap → Prop) (nx1 : (Int × Int) → Heap → Prop) (h_3 : Heap) : Prop :=
  if t93_3 then (k t8_3 h_3) else (∃ x11 : Int, x11 = (IntKind.i64.wrap (t8_3 + 1)) ∧ (∃ x12 : Int, x12 = (IntKind.i64.wrap (t10_3 + 1)) ∧ (∃ v13 : Int, cellH h_3 (⟨0, 0, none⟩ : Addr) = some (.int .i64 v13) ∧ (if (decide (t5_3 ≤ v13)) then (False) else (internal_stringslite_Index_g4 t0_3 t1_3 t5_3 t6_3 t7_3 x11 t9_3 x12 false k nx1 h_3)))))
def internal_stringslite_Index_j2 (t0_2 : ByteArray) (t1_2 : ByteArray) (t5_2 : Int) (t6_2 : Int) (t7_2 : Int) (t9_2 : Int) (t10_2 : Int) (t8_2 : Int) (k : (Int) → Heap → Prop) (nx1 : (Int × Int) → Heap → Prop) (h_2 : Heap) : Prop :=
  ∃ v10 : Int, (0 : Int) ≤ (IntKind.i64.wrap (t8_2 + 1)) ∧ StrAt t0_2 (IntKind.i64.wrap (t8_2 + 1)) v10 ∧ (if (v10 == t7_2) then (∃ s17 : ByteArray, (0 : Int) ≤ t8_2 ∧ (t8_2 : Int) ≤ (IntKind.i64.wrap (t8_2 + t5_2)) ∧ (IntKind.i64.wrap (t8_2 + t5_2)) ≤ (t0_2.size : Int) ∧ s17 = t0_2.extract t8_2.toNat (IntKind.i64.wrap (t8_2 + t5_2)).toNat ∧ (internal_stringslite_Index_g3 t0_2 t1_2 t5_2 t6_2 t7_2 t8_2 t9_2 t10_2 (s17.toList == t1_2.toList) k nx1 h_2)) else (internal_stringslite_Index_g3 t0_2 t1_2 t5_2 t6_2 t7_2 t8_2 t9_2 t10_2 false k nx1 h_2))
def internal_stringslite_Index_l1b (t0_1 : ByteArray) (t1_1 : ByteArray) (t5_1 : Int) (t6_1 : Int) (t7_1 : Int) (t9_1 : Int) (t8_1 : Int) (t10_1 : Int) (k : (Int) → Heap → Prop) (nx1 : (Int × Int) → Heap → Prop) (h_1 : Heap) : Prop :=
  if (decide (t8_1 < t9_1)) then (∃ v18 : Int, (0 : Int) ≤ t8_1 ∧ StrAt t0_1 t8_1 v18 ∧ (if (v18 != t6_1) then (∃ s19 : ByteArray, (0 : Int) ≤ (IntKind.i64.wrap (t8_1 + 1)) ∧ ((IntKind.i64.wrap (t8_1 + 1)) : Int) ≤ t9_1 ∧ t9_1 ≤ (t0_1.size : Int) ∧ s19 = t0_1.extract (IntKind.i64.wrap (t8_1 + 1)).toNat t9_1.toNat ∧ (internal_stringslite_IndexByte s19 t6_1 (fun (r20 : Int) h21 => if (decide (r20 < 0)) then (∃ x22 : Int, x22 = (-1) ∧ (k x22 h21)) else (∃ x23 : Int, x23 = (IntKind.i64.wrap (t8_1 + (IntKind.i64.wrap (r20 + 1)))) ∧ (internal_stringslite_Index_j2 t0_1 t1_1 t5_1 t6_1 t7_1 t9_1 t10_1 x23 k nx1 h21))) h_1)) else (internal_stringslite_Index_j2 t0_1 t1_1 t5_1 t6_1 t7_1 t9_1 t10_1 t8_1 k nx1 h_1))) else (∃ x24 : Int, x24 = (-1) ∧ (k x24 h_1))
def internal_stringslite_Index_l1 (t0_1 : ByteArray) (t1_1 : ByteArray) (t5_1 : Int) (t6_1 : Int) (t7_1 : Int) (t9_1 : Int) (i8 : Int) (i10 : Int) (k : (Int) → Heap → Prop) (h : Heap) : Prop :=
  ∃ (I : (Int × Int) → Heap → Prop) (μ : (Int × Int) → Heap → Nat), I (i8, i10) h ∧ ∀ (t8_1 : Int) (t10_1 : Int) (h : Heap), I (t8_1, t10_1) h → internal_stringslite_Index_l1b t0_1 t1_1 t5_1 t6_1 t7_1 t9_1 t8_1 t10_1 k (fun s h' => I s h' ∧ μ s h' < μ (t8_1, t10_1) h) h
def internal_stringslite_Index (p0 : ByteArray) (p1 : ByteArray) (k : (Int) → Heap → Prop) (h : Heap) : Prop :=
  ∃ x1 : Int, x1 = (p1.size : Int) ∧ (if ((x1 == 0) || (p1.toList == p0.toList)) then (k 0 h) else (if (x1 == 1) then (∃ v2 : Int, (0 : Int) ≤ 0 ∧ StrAt p1 0 v2 ∧ (internal_stringslite_IndexByte p0 v2 (fun (r3 : Int) h4 => k r3 h4) h)) else (if (decide (x1 ≥ (p0.size : Int))) then (∃ x5 : Int, x5 = (-1) ∧ (k x5 h)) else (∃ v6 : Int, cellH h (⟨0, 0, none⟩ : Addr) = some (.int .i64 v6) ∧ (if ((decide (x1 ≤ v6)) && (decide ((p0.size : Int) ≤ 64))) then (False) else (∃ v7 : Int, (0 : Int) ≤ 0 ∧ StrAt p1 0 v7 ∧ (∃ v8 : Int, (0 : Int) ≤ 1 ∧ StrAt p1 1 v8 ∧ (∃ x9 : Int, x9 = (IntKind.i64.wrap ((IntKind.i64.wrap ((p0.size : Int) - x1)) + 1)) ∧ (internal_stringslite_Index_l1 p0 p1 x1 v7 v8 x9 0 0 k h)))))))))

/-- internal stringslite.Cut -/
def internal_stringslite_Cut (p0 : ByteArray) (p1 : ByteArray) (k : (ByteArray × ByteArray × Bool) → Heap → Prop) (h : Heap) : Prop :=
  internal_stringslite_Index p0 p1 (fun (r1 : Int) h2 => if (decide (r1 ≥ 0)) then (∃ s3 : ByteArray, (0 : Int) ≤ 0 ∧ (0 : Int) ≤ r1 ∧ r1 ≤ (p0.size : Int) ∧ s3 = p0.extract (0 : Int).toNat r1.toNat ∧ (∃ s4 : ByteArray, (0 : Int) ≤ (IntKind.i64.wrap (r1 + (p1.size : Int))) ∧ ((IntKind.i64.wrap (r1 + (p1.size : Int))) : Int) ≤ (p0.size : Int) ∧ (p0.size : Int) ≤ (p0.size : Int) ∧ s4 = p0.extract (IntKind.i64.wrap (r1 + (p1.size : Int))).toNat (p0.size : Int).toNat ∧ (k (s3, s4, true) h2))) else (k (p0, (⟨#[]⟩ : ByteArray), false) h2)) h

/-- strings.Cut -/
def strings_Cut (p0 : ByteArray) (p1 : ByteArray) (k : (ByteArray × ByteArray × Bool) → Heap → Prop) (h : Heap) : Prop :=
  internal_stringslite_Cut p0 p1 (fun (r1 : ByteArray × ByteArray × Bool) h2 => k (r1.1, r1.2.1, r1.2.2) h2) h

/-- quaestor label.Selector -/
def label_Selector_g1 (t2_1 : Addr) (t5_1 : ByteArray) (t6_1 : Bool) (t7_1 : Addr) (t27_1 : Bool) (k : (S_api_Selector × Int) → Heap → Prop) (h_1 : Heap) : Prop :=
  if t27_1 then (∃ h8 : Heap, WrsAt h_1 t2_1 2 ∧ h8 = setsH h_1 t2_1 0 (S_api_Selector.cs (⟨ByteArray.empty, (⟨none, 0, 0⟩ : Slc)⟩ : S_api_Selector)) ∧ (∃ v9 : S_api_Selector, CellsAt h8 t2_1 (S_api_Selector.cs v9) ∧ k (v9, 4) h8)) else (if (!t6_1) then (∃ v10 : S_api_Selector, CellsAt h_1 t7_1 (S_api_Selector.cs v10) ∧ (∃ h11 : Heap, WrsAt h_1 t2_1 2 ∧ h11 = setsH h_1 t2_1 0 (S_api_Selector.cs v10) ∧ (∃ v12 : S_api_Selector, CellsAt h11 t2_1 (S_api_Selector.cs v12) ∧ k (v12, 0) h11))) else (False))
def label_Selector (p0 : ByteArray) (k : (S_api_Selector × Int) → Heap → Prop) (h : Heap) : Prop :=
  ∃ (b1 : Nat) (h2 : Heap), b1 = h.size ∧ h2 = h.push (.cells (S_api_Selector.cs (⟨ByteArray.empty, (⟨none, 0, 0⟩ : Slc)⟩ : S_api_Selector)).toArray 116) ∧ (strings_Cut p0 (⟨#[123]⟩ : ByteArray) (fun (r3 : ByteArray × ByteArray × Bool) h4 => ∃ (b5 : Nat) (h6 : Heap), b5 = h4.size ∧ h6 = h4.push (.cells (S_api_Selector.cs (⟨ByteArray.empty, (⟨none, 0, 0⟩ : Slc)⟩ : S_api_Selector)).toArray 116) ∧ (∃ h7 : Heap, WrsAt h6 (⟨b5, 0, none⟩ : Addr) 2 ∧ h7 = setsH h6 (⟨b5, 0, none⟩ : Addr) 0 (S_api_Selector.cs (⟨r3.1, (⟨none, 0, 0⟩ : Slc)⟩ : S_api_Selector)) ∧ (if (!(r3.1.toList == (⟨#[]⟩ : ByteArray).toList)) then (False) else (label_Selector_g1 (⟨b1, 0, none⟩ : Addr) r3.2.1 r3.2.2 (⟨b5, 0, none⟩ : Addr) false k h7)))) h2)

/-- quaestor query.Check -/
def query_Check_g2 (t31_2 : Bool) (k : (Int) → Heap → Prop) (h_2 : Heap) : Prop :=
  if t31_2 then (k 1 h_2) else (k 0 h_2)
def query_Check_g3 (t22_3 : Bool) (t30_3 : Bool) (k : (Int) → Heap → Prop) (h_3 : Heap) : Prop :=
  query_Check_g2 t30_3 k h_3
def query_Check_g1 (t1_1 : Addr) (t21_1 : Bool) (k : (Int) → Heap → Prop) (h_1 : Heap) : Prop :=
  if t21_1 then (query_Check_g2 true k h_1) else (∃ v10 : Int, cellH h_1 (t1_1.add 3) = some (.int .i64 v10) ∧ (if (v10 == 6) then (∃ v11 : Int, cellH h_1 (t1_1.add 4) = some (.int .i64 v11) ∧ (query_Check_g3 false (decide (v11 < 1)) k h_1)) else (query_Check_g3 false false k h_1)))
def query_Check (p0 : S_api_Query) (k : (Int) → Heap → Prop) (h : Heap) : Prop :=
  ∃ (b1 : Nat) (h2 : Heap), b1 = h.size ∧ h2 = h.push (.cells (S_api_Query.cs p0).toArray 32) ∧ (∃ v3 : ByteArray, cellH h2 (⟨b1, 0, none⟩ : Addr) = some (.string v3) ∧ (label_Selector v3 (fun (r4 : S_api_Selector × Int) h5 => ∃ (b6 : Nat) (h7 : Heap), b6 = h5.size ∧ h7 = h5.push (.cells (S_api_Selector.cs (⟨ByteArray.empty, (⟨none, 0, 0⟩ : Slc)⟩ : S_api_Selector)).toArray 116) ∧ (∃ h8 : Heap, WrsAt h7 (⟨b6, 0, none⟩ : Addr) 2 ∧ h8 = setsH h7 (⟨b6, 0, none⟩ : Addr) 0 (S_api_Selector.cs r4.1) ∧ (if (r4.2 != 0) then (k r4.2 h8) else (∃ v9 : Int, cellH h8 ((⟨b1, 0, none⟩ : Addr).add 3) = some (.int .i64 v9) ∧ (if (decide (v9 < 0)) then (query_Check_g1 (⟨b1, 0, none⟩ : Addr) true k h8) else (∃ v12 : Int, cellH h8 ((⟨b1, 0, none⟩ : Addr).add 3) = some (.int .i64 v12) ∧ (query_Check_g1 (⟨b1, 0, none⟩ : Addr) (decide (v12 > 6)) k h8))))))) h2))

/-- quaestor piece.Between -/
def piece_Between_j2 (t1_2 : Int) (t2_2 : Int) (t10_2 : Slc) (t11_2 : Int) (t12_2 : Int) (t7_2 : Slc) (k : (Slc) → Heap → Prop) (nx1 : (Slc × Int) → Heap → Prop) (h_2 : Heap) : Prop :=
  nx1 (t7_2, (IntKind.i64.wrap (t12_2 + 1))) h_2
def piece_Between_g3 (t1_3 : Int) (t2_3 : Int) (t7_3 : Slc) (t9_3 : Addr) (t10_3 : Slc) (t11_3 : Int) (t12_3 : Int) (t25_3 : Bool) (k : (Slc) → Heap → Prop) (nx1 : (Slc × Int) → Heap → Prop) (h_3 : Heap) : Prop :=
  if t25_3 then (∃ v7 : S_api_Piece, CellsAt h_3 t9_3 (S_api_Piece.cs v7) ∧ (∃ (b8 : Nat) (h9 : Heap), b8 = h_3.size ∧ h9 = h_3.push (.cells ((S_api_Piece.cs v7)).toArray 75) ∧ (App 75 5 48 [.string ByteArray.empty, .int .i64 0, .int .i64 0, .int .u64 0, .int .u16 0] h9 t7_3 1 ((S_api_Piece.cs v7)) (fun s10 h11 => piece_Between_j2 t1_3 t2_3 t10_3 t11_3 t12_3 s10 k nx1 h11)))) else (piece_Between_j2 t1_3 t2_3 t10_3 t11_3 t12_3 t7_3 k nx1 h_3)
def piece_Between_l1b (t1_1 : Int) (t2_1 : Int) (t10_1 : Slc) (t11_1 : Int) (t7_1 : Slc) (t12_1 : Int) (k : (Slc) → Heap → Prop) (nx1 : (Slc × Int) → Heap → Prop) (h_1 : Heap) : Prop :=
  if (decide (t12_1 < t11_1)) then (∃ a1 : Addr, t10_1.a = some a1 ∧ (0 : Int) ≤ t12_1 ∧ t12_1 < (t10_1.len : Int) ∧ (∃ v2 : S_api_Piece, CellsAt h_1 (a1.add (t12_1.toNat * 5)) (S_api_Piece.cs v2) ∧ (∃ (b3 : Nat) (h4 : Heap), b3 = h_1.size ∧ h4 = h_1.push (.cells (S_api_Piece.cs (⟨ByteArray.empty, 0, 0, (⟨0, 0⟩ : S_api_Id)⟩ : S_api_Piece)).toArray 75) ∧ (∃ h5 : Heap, WrsAt h4 (⟨b3, 0, none⟩ : Addr) 5 ∧ h5 = setsH h4 (⟨b3, 0, none⟩ : Addr) 0 (S_api_Piece.cs v2) ∧ (∃ v6 : Int, cellH h5 ((⟨b3, 0, none⟩ : Addr).add 1) = some (.int .i64 v6) ∧ (if (decide (v6 ≥ t1_1)) then (∃ v12 : Int, cellH h5 ((⟨b3, 0, none⟩ : Addr).add 1) = some (.int .i64 v12) ∧ (piece_Between_g3 t1_1 t2_1 t7_1 (⟨b3, 0, none⟩ : Addr) t10_1 t11_1 t12_1 (decide (v12 ≤ t2_1)) k nx1 h5)) else (piece_Between_g3 t1_1 t2_1 t7_1 (⟨b3, 0, none⟩ : Addr) t10_1 t11_1 t12_1 false k nx1 h5))))))) else (k t7_1 h_1)
def piece_Between_l1 (t1_1 : Int) (t2_1 : Int) (t10_1 : Slc) (t11_1 : Int) (i7 : Slc) (i12 : Int) (k : (Slc) → Heap → Prop) (h : Heap) : Prop :=
  ∃ (I : (Slc × Int) → Heap → Prop) (μ : (Slc × Int) → Heap → Nat), I (i7, i12) h ∧ ∀ (t7_1 : Slc) (t12_1 : Int) (h : Heap), I (t7_1, t12_1) h → piece_Between_l1b t1_1 t2_1 t10_1 t11_1 t7_1 t12_1 k (fun s h' => I s h' ∧ μ s h' < μ (t7_1, t12_1) h) h
def piece_Between (p0 : Slc) (p1 : Int) (p2 : Int) (k : (Slc) → Heap → Prop) (h : Heap) : Prop :=
  piece_Between_l1 p1 p2 p0 (p0.len : Int) (⟨none, 0, 0⟩ : Slc) 0 k h

/-- quaestor query.Ask -/
def query_Ask_j2 (t9_2 : Addr) (t11_2 : Nat) (t40_2 : Slc) (t41_2 : Int) (t42_2 : Int) (t12_2 : Slc) (k : (Slc × Int) → Heap → Prop) (nx1 : (Slc × Int) → Heap → Prop) (h_2 : Heap) : Prop :=
  nx1 (t12_2, (IntKind.i64.wrap (t42_2 + 1))) h_2
def query_Ask_j3 (t9_3 : Addr) (t11_3 : Nat) (t12_3 : Slc) (t14_3 : Addr) (t40_3 : Slc) (t41_3 : Int) (t42_3 : Int) (t15_3 : Bool) (k : (Slc × Int) → Heap → Prop) (nx1 : (Slc × Int) → Heap → Prop) (h_3 : Heap) : Prop :=
  if t15_3 then (∃ v33 : S_api_Piece, CellsAt h_3 t14_3 (S_api_Piece.cs v33) ∧ (∃ (b34 : Nat) (h35 : Heap), b34 = h_3.size ∧ h35 = h_3.push (.cells ((S_api_Piece.cs v33)).toArray 75) ∧ (App 75 5 48 [.string ByteArray.empty, .int .i64 0, .int .i64 0, .int .u64 0, .int .u16 0] h35 t12_3 1 ((S_api_Piece.cs v33)) (fun s36 h37 => query_Ask_j2 t9_3 t11_3 t40_3 t41_3 t42_3 s36 k nx1 h37)))) else (query_Ask_j2 t9_3 t11_3 t40_3 t41_3 t42_3 t12_3 k nx1 h_3)
def query_Ask_l1b (t9_1 : Addr) (t11_1 : Nat) (t40_1 : Slc) (t41_1 : Int) (t12_1 : Slc) (t42_1 : Int) (k : (Slc × Int) → Heap → Prop) (nx1 : (Slc × Int) → Heap → Prop) (h_1 : Heap) : Prop :=
  if (decide (t42_1 < t41_1)) then (∃ a26 : Addr, t40_1.a = some a26 ∧ (0 : Int) ≤ t42_1 ∧ t42_1 < (t40_1.len : Int) ∧ (∃ v27 : S_api_Piece, CellsAt h_1 (a26.add (t42_1.toNat * 5)) (S_api_Piece.cs v27) ∧ (∃ (b28 : Nat) (h29 : Heap), b28 = h_1.size ∧ h29 = h_1.push (.cells (S_api_Piece.cs (⟨ByteArray.empty, 0, 0, (⟨0, 0⟩ : S_api_Id)⟩ : S_api_Piece)).toArray 75) ∧ (∃ h30 : Heap, WrsAt h29 (⟨b28, 0, none⟩ : Addr) 5 ∧ h30 = setsH h29 (⟨b28, 0, none⟩ : Addr) 0 (S_api_Piece.cs v27) ∧ (∃ v31 : ByteArray, cellH h30 (⟨b28, 0, none⟩ : Addr) = some (.string v31) ∧ (∃ l32 : List (ByteArray × Bool), MapAt (K := ByteArray) (V := Bool) .string Value.string Value.bool h30 (some t11_1) l32 ∧ (if (!(mget l32 v31).isSome) then (∃ v38 : ByteArray, cellH h30 (⟨b28, 0, none⟩ : Addr) = some (.string v38) ∧ (False)) else (query_Ask_j3 t9_1 t11_1 t12_1 (⟨b28, 0, none⟩ : Addr) t40_1 t41_1 t42_1 ((mget l32 v31).getD false) k nx1 h30)))))))) else (k (t12_1, 0) h_1)
def query_Ask_l1 (t9_1 : Addr) (t11_1 : Nat) (t40_1 : Slc) (t41_1 : Int) (i12 : Slc) (i42 : Int) (k : (Slc × Int) → Heap → Prop) (h : Heap) : Prop :=
  ∃ (I : (Slc × Int) → Heap → Prop) (μ : (Slc × Int) → Heap → Nat), I (i12, i42) h ∧ ∀ (t12_1 : Slc) (t42_1 : Int) (h : Heap), I (t12_1, t42_1) h → query_Ask_l1b t9_1 t11_1 t40_1 t41_1 t12_1 t42_1 k (fun s h' => I s h' ∧ μ s h' < μ (t12_1, t42_1) h) h
def query_Ask (p0 : S_api_Query) (p1 : Slc) (p2 : Int) (k : (Slc × Int) → Heap → Prop) (h : Heap) : Prop :=
  ∃ (b1 : Nat) (h2 : Heap), b1 = h.size ∧ h2 = h.push (.cells (S_api_Query.cs p0).toArray 32) ∧ (∃ v3 : S_api_Query, CellsAt h2 (⟨b1, 0, none⟩ : Addr) (S_api_Query.cs v3) ∧ (query_Check v3 (fun (r4 : Int) h5 => if (r4 != 0) then (k ((⟨none, 0, 0⟩ : Slc), r4) h5) else (∃ v6 : ByteArray, cellH h5 (⟨b1, 0, none⟩ : Addr) = some (.string v6) ∧ (label_Selector v6 (fun (r7 : S_api_Selector × Int) h8 => ∃ (b9 : Nat) (h10 : Heap), b9 = h8.size ∧ h10 = h8.push (.cells (S_api_Selector.cs (⟨ByteArray.empty, (⟨none, 0, 0⟩ : Slc)⟩ : S_api_Selector)).toArray 116) ∧ (∃ h11 : Heap, WrsAt h10 (⟨b9, 0, none⟩ : Addr) 2 ∧ h11 = setsH h10 (⟨b9, 0, none⟩ : Addr) 0 (S_api_Selector.cs r7.1) ∧ (∃ (b12 : Nat) (h13 : Heap), b12 = h11.size ∧ h13 = h11.push (.map #[] 0) ∧ (∃ v14 : Int, cellH h13 ((⟨b1, 0, none⟩ : Addr).add 1) = some (.int .i64 v14) ∧ (∃ v15 : Int, cellH h13 ((⟨b1, 0, none⟩ : Addr).add 2) = some (.int .i64 v15) ∧ (∃ (b16 : Nat) (h17 : Heap), b16 = h13.size ∧ h17 = h13.push (.cells ([Slc.v p1]).toArray 30) ∧ (cellH h17 ((⟨b1, 0, none⟩ : Addr).add 2) = some (.int .i64 v15) ∧ cellH h17 ((⟨b1, 0, none⟩ : Addr).add 1) = some (.int .i64 v14) ∧ (piece_Merge (⟨some ⟨b16, 0, none⟩, 1, 1⟩ : Slc) (fun (r20 : Slc) h21 => cellH h21 ((⟨b1, 0, none⟩ : Addr).add 2) = some (.int .i64 v15) ∧ cellH h21 ((⟨b1, 0, none⟩ : Addr).add 1) = some (.int .i64 v14) ∧ (piece_Between r20 (if p2 > v14 then p2 else v14) v15 (fun (r24 : Slc) h25 => query_Ask_l1 (⟨b9, 0, none⟩ : Addr) b12 r24 (r24.len : Int) (⟨none, 0, 0⟩ : Slc) 0 k h25) h21)) h17)))))))) h5))) h2))

/-- quaestor query.groups -/
def query_groups_l2b (t9_2 : Slc) (t10_2 : Int) (t0_2 : Slc) (t3_2 : Slc) (t11_2 : Int) (k : (Slc) → Heap → Prop) (nx1 : (Slc × Slc) → Heap → Prop) (nx2 : (Slc × Slc × Int) → Heap → Prop) (h_2 : Heap) : Prop :=
  if (decide (t11_2 < t10_2)) then (∃ a1 : Addr, t9_2.a = some a1 ∧ (0 : Int) ≤ t11_2 ∧ t11_2 < (t9_2.len : Int) ∧ (∃ v2 : S_api_Piece, CellsAt h_2 (a1.add (t11_2.toNat * 5)) (S_api_Piece.cs v2) ∧ (∃ (b3 : Nat) (h4 : Heap), b3 = h_2.size ∧ h4 = h_2.push (.cells (S_api_Piece.cs (⟨ByteArray.empty, 0, 0, (⟨0, 0⟩ : S_api_Id)⟩ : S_api_Piece)).toArray 75) ∧ (∃ h5 : Heap, WrsAt h4 (⟨b3, 0, none⟩ : Addr) 5 ∧ h5 = setsH h4 (⟨b3, 0, none⟩ : Addr) 0 (S_api_Piece.cs v2) ∧ (∃ v6 : ByteArray, cellH h5 (⟨b3, 0, none⟩ : Addr) = some (.string v6) ∧ (∃ a7 : Addr, t0_2.a = some a7 ∧ (0 : Int) ≤ 0 ∧ 0 < (t0_2.len : Int) ∧ (∃ v8 : ByteArray, cellH h5 (a7.add ((0 : Int).toNat * 5)) = some (.string v8) ∧ (if (!(v6.toList == v8.toList)) then (∃ s9 : Slc, (0 : Int) ≤ 0 ∧ (0 : Int) ≤ t11_2 ∧ (t11_2 : Int) ≤ (t0_2.cap : Int) ∧ (t0_2.cap : Int) ≤ (t0_2.cap : Int) ∧ s9 = subS t0_2 5 (0 : Int).toNat t11_2.toNat (t0_2.cap : Int).toNat ∧ (∃ (b10 : Nat) (h11 : Heap), b10 = h5.size ∧ h11 = h5.push (.cells ([Slc.v s9]).toArray 30) ∧ (App 30 1 24 [.slice none 0 0] h11 t3_2 1 ([Slc.v s9]) (fun s12 h13 => ∃ s14 : Slc, (0 : Int) ≤ t11_2 ∧ (t11_2 : Int) ≤ (t0_2.len : Int) ∧ ((t0_2.len : Int) : Int) ≤ (t0_2.cap : Int) ∧ (t0_2.cap : Int) ≤ (t0_2.cap : Int) ∧ s14 = subS t0_2 5 t11_2.toNat (t0_2.len : Int).toNat (t0_2.cap : Int).toNat ∧ (nx1 (s14, s12) h13))))) else (nx2 (t0_2, t3_2, (IntKind.i64.wrap (t11_2 + 1))) h5))))))))) else (∃ (b15 : Nat) (h16 : Heap), b15 = h_2.size ∧ h16 = h_2.push (.cells ([Slc.v t0_2]).toArray 30) ∧ (App 30 1 24 [.slice none 0 0] h16 t3_2 1 ([Slc.v t0_2]) (fun s17 h18 => k s17 h18)))
def query_groups_l2 (t9_2 : Slc) (t10_2 : Int) (i0 : Slc) (i3 : Slc) (i11 : Int) (k : (Slc) → Heap → Prop) (nx1 : (Slc × Slc) → Heap → Prop) (h : Heap) : Prop :=
  ∃ (I : (Slc × Slc × Int) → Heap → Prop) (μ : (Slc × Slc × Int) → Heap → Nat), I (i0, i3, i11) h ∧ ∀ (t0_2 : Slc) (t3_2 : Slc) (t11_2 : Int) (h : Heap), I (t0_2, t3_2, t11_2) h → query_groups_l2b t9_2 t10_2 t0_2 t3_2 t11_2 k nx1 (fun s h' => I s h' ∧ μ s h' < μ (t0_2, t3_2, t11_2) h) h
def query_groups_l1b (t0_1 : Slc) (t3_1 : Slc) (k : (Slc) → Heap → Prop) (nx1 : (Slc × Slc) → Heap → Prop) (h_1 : Heap) : Prop :=
  if (decide ((t0_1.len : Int) > 0)) then (query_groups_l2 t0_1 (t0_1.len : Int) t0_1 t3_1 0 k nx1 h_1) else (k t3_1 h_1)
def query_groups_l1 (i0 : Slc) (i3 : Slc) (k : (Slc) → Heap → Prop) (h : Heap) : Prop :=
  ∃ (I : (Slc × Slc) → Heap → Prop) (μ : (Slc × Slc) → Heap → Nat), I (i0, i3) h ∧ ∀ (t0_1 : Slc) (t3_1 : Slc) (h : Heap), I (t0_1, t3_1) h → query_groups_l1b t0_1 t3_1 k (fun s h' => I s h' ∧ μ s h' < μ (t0_1, t3_1) h) h
def query_groups (p0 : Slc) (k : (Slc) → Heap → Prop) (h : Heap) : Prop :=
  query_groups_l1 p0 (⟨none, 0, 0⟩ : Slc) k h

/-- quaestor query.Run -/
def query_Run_l1b (t3_1 : Addr) (t26_1 : Slc) (t27_1 : Int) (t10_1 : Slc) (t28_1 : Int) (k : (Slc × Int) → Heap → Prop) (nx1 : (Slc × Int) → Heap → Prop) (h_1 : Heap) : Prop :=
  if (decide (t28_1 < t27_1)) then (∃ a8 : Addr, t26_1.a = some a8 ∧ (0 : Int) ≤ t28_1 ∧ t28_1 < (t26_1.len : Int) ∧ (∃ v9 : Slc, cellH h_1 (a8.add (t28_1.toNat * 1)) = some (Slc.v v9) ∧ (∃ v10 : S_api_Query, CellsAt h_1 t3_1 (S_api_Query.cs v10) ∧ (False)))) else (k (t10_1, 0) h_1)
def query_Run_l1 (t3_1 : Addr) (t26_1 : Slc) (t27_1 : Int) (i10 : Slc) (i28 : Int) (k : (Slc × Int) → Heap → Prop) (h : Heap) : Prop :=
  ∃ (I : (Slc × Int) → Heap → Prop) (μ : (Slc × Int) → Heap → Nat), I (i10, i28) h ∧ ∀ (t10_1 : Slc) (t28_1 : Int) (h : Heap), I (t10_1, t28_1) h → query_Run_l1b t3_1 t26_1 t27_1 t10_1 t28_1 k (fun s h' => I s h' ∧ μ s h' < μ (t10_1, t28_1) h) h
def query_Run (p0 : S_api_Query) (p1 : Slc) (p2 : Int) (k : (Slc × Int) → Heap → Prop) (h : Heap) : Prop :=
  ∃ (b1 : Nat) (h2 : Heap), b1 = h.size ∧ h2 = h.push (.cells (S_api_Query.cs p0).toArray 32) ∧ (∃ v3 : S_api_Query, CellsAt h2 (⟨b1, 0, none⟩ : Addr) (S_api_Query.cs v3) ∧ (query_Ask v3 p1 p2 (fun (r4 : Slc × Int) h5 => if (r4.2 != 0) then (k ((⟨none, 0, 0⟩ : Slc), r4.2) h5) else (query_groups r4.1 (fun (r6 : Slc) h7 => query_Run_l1 (⟨b1, 0, none⟩ : Addr) r6 (r6.len : Int) (⟨none, 0, 0⟩ : Slc) 0 k h7) h5)) h2))

theorem internal_stringslite_IndexByte_ok : CallOk Go.Proofs.Tryz.prog 129 := ⟨_, Go.Proofs.Tryz.func129, by kernel_rfl, by kernel_rfl⟩
theorem internal_stringslite_IndexByte_ref (p0 : ByteArray) (p1 : Int) (k : (Int) → Heap → Prop) (h : Heap) (H : internal_stringslite_IndexByte p0 p1 k h) : CallsH Go.Proofs.Tryz.prog 129 #[.string p0, .int .u8 p1] h (fun v h' => ∃ r : Int, v = .int .i64 r ∧ k r h') := by
  refine f_enter (N := 8) Go.Proofs.Tryz.func129 rfl rfl rfl (fun w0 => ?_)
  unfold internal_stringslite_IndexByte at H
  refine c_weak [(0, .string p0), (1, .int .u8 p1)] ⟨rfl, rfl, trivial⟩ ?_
  refine c_seq ?_
  refine c_region ?_
  refine w_p tok rfl rfl rfl ?_
  refine w_end ?_
  refine x_seq ?_
  refine c_seq ?_
  refine c_region ?_
  refine w_p tok rfl rfl rfl ?_
  refine w_p tok rfl rfl rfl ?_
  refine w_y (y_ext (ibs_run p0 p1 Go.Proofs.Tryz.func134 (by kernel_rfl) (by kernel_rfl) (by kernel_rfl) (by kernel_rfl)) rfl rfl) rfl rfl ?_
  obtain ⟨x1, ex1, H⟩ := H
  refine w_pe tok rfl (congrArg (fun z => (.int .i64 z : Value)) ex1) rfl rfl ?_
  refine w_end ?_
  refine x_seq ?_
  refine c_ret ?_
  exact x_ret _ rfl _ rfl ⟨x1, rfl, H⟩

theorem internal_stringslite_Index_ok : CallOk Go.Proofs.Tryz.prog 118 := ⟨_, Go.Proofs.Tryz.func118, by kernel_rfl, by kernel_rfl⟩
theorem internal_stringslite_Index_ref (p0 : ByteArray) (p1 : ByteArray) (k : (Int) → Heap → Prop) (h : Heap) (H : internal_stringslite_Index p0 p1 k h) : CallsH Go.Proofs.Tryz.prog 118 #[.string p0, .string p1] h (fun v h' => ∃ r : Int, v = .int .i64 r ∧ k r h') := by
  refine f_enter (N := 143) Go.Proofs.Tryz.func118 rfl rfl rfl (fun w0 => ?_)
  unfold internal_stringslite_Index at H
  refine c_weak [(0, .string p0), (1, .string p1)] ⟨rfl, rfl, trivial⟩ ?_
  refine c_seq ?_
  refine c_region ?_
  refine w_p tok rfl rfl rfl ?_
  refine w_end ?_
  refine x_seq ?_
  refine c_seq ?_
  refine c_region ?_
  refine w_p tok rfl rfl rfl ?_
  refine w_p tok rfl rfl rfl ?_
  obtain ⟨x1, ex1, H⟩ := H
  refine w_pe tok rfl (congrArg (fun z => (.int .i64 z : Value)) ex1) rfl rfl ?_
  refine w_end ?_
  refine x_seq ?_
  refine c_seq ?_
  refine c_block ?_
  refine c_seq ?_
  refine c_region ?_
  refine w_p tok rfl rfl rfl ?_
  refine w_p tok rfl rfl rfl ?_
  refine w_p tok rfl rfl rfl ?_
  refine w_cutU 4 [(23, .bool ((x1 == 0) || (p1.toList == p0.toList))), (0, .string p0), (1, .string p1), (5, .int .i64 x1)] ?_ ?_
  ·
    refine w_p tok rfl rfl rfl ?_
    refine w_end ?_
    refine x_seq ?_
    refine c_if H rfl (fun H => ?_) (fun H => ?_)
    ·
      refine c_seq ?_
      refine c_region ?_
      refine w_p tok rfl rfl rfl ?_
      refine w_end ?_
      refine x_seq ?_
      refine c_ret ?_
      refine x_br ?_
      refine x_tr ?_
      exact x_ret _ rfl _ rfl ⟨0, rfl, H⟩
    ·
      refine c_seq ?_
      refine c_region ?_
      refine w_p tok rfl rfl rfl ?_
      refine w_p tok rfl rfl rfl ?_
      refine w_p tok rfl rfl rfl ?_
      refine w_end ?_
      refine x_seq ?_
      refine c_if H rfl (fun H => ?_) (fun H => ?_)
      ·
        refine c_seq ?_
        refine c_region ?_
        refine w_p tok rfl rfl rfl ?_
        refine w_p tok rfl rfl rfl ?_
        obtain ⟨v2, lv2, hv2, H⟩ := H
        refine w_y (y_ixs' tok rfl rfl rfl rfl lv2 hv2) rfl rfl ?_
        refine w_call internal_stringslite_IndexByte_ok (internal_stringslite_IndexByte_ref _ _ _ _ H) rfl rfl rfl rfl ?_
        rintro _ h4 ⟨r3, rfl, H⟩
        refine w_p tok rfl rfl rfl ?_
        refine w_end ?_
        refine x_seq ?_
        refine c_weak [(4, .int .i64 r3)] ⟨rfl, trivial⟩ ?_
        refine c_ret ?_
        refine x_br ?_
        refine x_tr ?_
        exact x_ret _ rfl _ rfl ⟨r3, rfl, H⟩
      ·
        refine c_seq ?_
        refine c_region ?_
        refine w_p tok rfl rfl rfl ?_
        refine w_p tok rfl rfl rfl ?_
        refine w_p tok rfl rfl rfl ?_
        refine w_p tok rfl rfl rfl ?_
        refine w_p tok rfl rfl rfl ?_
        refine w_end ?_
        refine x_seq ?_
        refine c_weak [(0, .string p0), (1, .string p1), (5, .int .i64 x1), (31, .bool (decide (x1 ≥ (p0.size : Int))))] ⟨rfl, rfl, rfl, rfl, trivial⟩ ?_
        refine c_if H rfl (fun H => ?_) (fun H => ?_)
        ·
          refine c_seq ?_
          refine c_region ?_
          obtain ⟨x5, ex5, H⟩ := H
          refine w_pe tok rfl (congrArg (fun z => (.int .i64 z : Value)) ex5) rfl rfl ?_
          refine w_end ?_
          refine x_seq ?_
          refine c_ret ?_
          refine x_br ?_
          refine x_tr ?_
          exact x_ret _ rfl _ rfl ⟨x5, rfl, H⟩
        ·
          refine c_seq ?_
          refine c_region ?_
          refine w_p tok rfl rfl rfl ?_
          obtain ⟨v6, hv6, H⟩ := H
          refine w_y (y_ld tok rfl rfl rfl rfl hv6) rfl rfl ?_
          refine w_p tok rfl rfl rfl ?_
          refine w_p tok rfl rfl rfl ?_
          refine w_cutU 4 [(44, .bool ((decide (x1 ≤ v6)) && (decide ((p0.size : Int) ≤ 64)))), (0, .string p0), (1, .string p1), (5, .int .i64 x1)] ?_ ?_
          ·
            refine w_p tok rfl rfl rfl ?_
            refine w_end ?_
            refine x_seq ?_
            refine c_if H rfl (fun H => ?_) (fun H => ?_)
            ·
              refine c_seq ?_
              refine c_region ?_
              refine w_p tok rfl rfl rfl ?_
              refine w_p tok rfl rfl rfl ?_
              exact H.elim
            ·
              refine c_skip ?_
              refine x_blk ?_
              refine x_seq ?_
              refine c_seq ?_
              refine c_region ?_
              refine w_p tok rfl rfl rfl ?_
              obtain ⟨v7, lv7, hv7, H⟩ := H
              refine w_y (y_ixs' tok rfl rfl rfl rfl lv7 hv7) rfl rfl ?_
              refine w_p tok rfl rfl rfl ?_
              refine w_end ?_
              refine x_seq ?_
              refine c_seq ?_
              refine c_region ?_
              refine w_p tok rfl rfl rfl ?_
              obtain ⟨v8, lv8, hv8, H⟩ := H
              refine w_y (y_ixs' tok rfl rfl rfl rfl lv8 hv8) rfl rfl ?_
              refine w_p tok rfl rfl rfl ?_
              refine w_end ?_
              refine x_seq ?_
              refine c_seq ?_
              refine c_region ?_
              refine w_p tok rfl rfl rfl ?_
              refine w_end ?_
              refine x_seq ?_
              refine c_seq ?_
              refine c_region ?_
              refine w_p tok rfl rfl rfl ?_
              refine w_p tok rfl rfl rfl ?_
              refine w_p tok rfl rfl rfl ?_
              refine w_p tok rfl rfl rfl ?_
              refine w_p tok rfl rfl rfl ?_
              obtain ⟨x9, ex9, H⟩ := H
              refine w_pe tok rfl (congrArg (fun z => (.int .i64 z : Value)) ex9) rfl rfl ?_
              refine w_end ?_
              refine x_seq ?_
              refine c_weak [(0, .string p0), (1, .string p1), (5, .int .i64 x1), (6, .int .u8 v7), (7, .int .u8 v8), (8, .int .i64 0), (9, .int .i64 x9)] ⟨rfl, rfl, rfl, rfl, rfl, rfl, rfl, trivial⟩ ?_
              refine c_seq ?_
              refine c_region ?_
              refine w_p tok rfl rfl rfl ?_
              refine w_end ?_
              refine x_seq ?_
              refine c_seq ?_
              refine c_block ?_
              obtain ⟨I1, μ1, H0, HI⟩ := H
              refine c_loop (σ := Int × Int) (fun (s : Int × Int) => [(8, .int .i64 s.1), (10, .int .i64 s.2), (0, .string p0), (1, .string p1), (5, .int .i64 x1), (6, .int .u8 v7), (7, .int .u8 v8), (9, .int .i64 x9)]) I1 μ1 (0, 0) H0 ⟨rfl, rfl, rfl, rfl, rfl, rfl, rfl, rfl, trivial⟩ ?_
              rintro ⟨t8_1, t10_1⟩ h_1 H
              replace H := HI t8_1 t10_1 h_1 H
              unfold internal_stringslite_Index_l1b at H
              refine c_weak [(8, .int .i64 t8_1), (10, .int .i64 t10_1), (0, .string p0), (1, .string p1), (5, .int .i64 x1), (6, .int .u8 v7), (7, .int .u8 v8), (9, .int .i64 x9)] ⟨rfl, rfl, rfl, rfl, rfl, rfl, rfl, rfl, trivial⟩ ?_
              refine c_seq ?_
              refine c_seq ?_
              refine c_region ?_
              refine w_p tok rfl rfl rfl ?_
              refine w_p tok rfl rfl rfl ?_
              refine w_p tok rfl rfl rfl ?_
              refine w_end ?_
              refine x_seq ?_
              refine c_if H rfl (fun H => ?_) (fun H => ?_)
              ·
                refine c_skip ?_
                refine x_seq ?_
                refine c_block ?_
                refine c_seqJ (α := Int) (fun (s : Int) => [(8, .int .i64 s), (0, .string p0), (1, .string p1), (5, .int .i64 x1), (6, .int .u8 v7), (7, .int .u8 v8), (9, .int .i64 x9), (10, .int .i64 t10_1)]) (fun (s : Int) h => internal_stringslite_Index_j2 p0 p1 x1 v7 v8 x9 t10_1 s k (fun s h' => I1 s h' ∧ μ1 s h' < μ1 (t8_1, t10_1) h_1) h) ?_ ?_
                ·
                  rintro t8_2 h_2 H
                  replace H : internal_stringslite_Index_j2 p0 p1 x1 v7 v8 x9 t10_1 t8_2 k (fun s h' => I1 s h' ∧ μ1 s h' < μ1 (t8_1, t10_1) h_1) h_2 := H
                  unfold internal_stringslite_Index_j2 at H
                  refine c_weak [(8, .int .i64 t8_2), (0, .string p0), (1, .string p1), (5, .int .i64 x1), (6, .int .u8 v7), (7, .int .u8 v8), (9, .int .i64 x9), (10, .int .i64 t10_1)] ⟨rfl, rfl, rfl, rfl, rfl, rfl, rfl, rfl, trivial⟩ ?_
                  refine c_seq ?_
                  refine c_seq ?_
                  refine c_region ?_
                  refine w_p tok rfl rfl rfl ?_
                  refine w_p tok rfl rfl rfl ?_
                  refine w_p tok rfl rfl rfl ?_
                  obtain ⟨v10, lv10, hv10, H⟩ := H
                  refine w_y (y_ixs' tok rfl rfl rfl rfl lv10 hv10) rfl rfl ?_
                  refine w_p tok rfl rfl rfl ?_
                  refine w_p tok rfl rfl rfl ?_
                  refine w_p tok rfl rfl rfl ?_
                  refine w_cut 9 (α := Bool) (fun (s : Bool) => [(93, .bool s), (0, .string p0), (1, .string p1), (5, .int .i64 x1), (6, .int .u8 v7), (7, .int .u8 v8), (8, .int .i64 t8_2), (9, .int .i64 x9), (10, .int .i64 t10_1)]) (fun (s : Bool) h => internal_stringslite_Index_g3 p0 p1 x1 v7 v8 t8_2 x9 t10_1 s k (fun s h' => I1 s h' ∧ μ1 s h' < μ1 (t8_1, t10_1) h_1) h) ?_ ?_
                  ·
                    rintro t93_3 h_3 H
                    replace H : internal_stringslite_Index_g3 p0 p1 x1 v7 v8 t8_2 x9 t10_1 t93_3 k (fun s h' => I1 s h' ∧ μ1 s h' < μ1 (t8_1, t10_1) h_1) h_3 := H
                    unfold internal_stringslite_Index_g3 at H
                    refine w_weak [(93, .bool t93_3), (0, .string p0), (1, .string p1), (5, .int .i64 x1), (6, .int .u8 v7), (7, .int .u8 v8), (8, .int .i64 t8_2), (9, .int .i64 x9), (10, .int .i64 t10_1)] ⟨rfl, rfl, rfl, rfl, rfl, rfl, rfl, rfl, rfl, trivial⟩ ?_
                    refine w_end ?_
                    refine x_seq ?_
                    refine c_if H rfl (fun H => ?_) (fun H => ?_)
                    ·
                      refine c_seq ?_
                      refine c_region ?_
                      refine w_p tok rfl rfl rfl ?_
                      refine w_p tok rfl rfl rfl ?_
                      refine w_end ?_
                      refine x_seq ?_
                      refine c_weak [(4, .int .i64 t8_2)] ⟨rfl, trivial⟩ ?_
                      refine c_ret ?_
                      refine x_tr ?_
                      refine x_br ?_
                      refine x_tr ?_
                      refine x_br ?_
                      refine x_tr ?_
                      exact x_ret _ rfl _ rfl ⟨t8_2, rfl, H⟩
                    ·
                      refine c_skip ?_
                      refine x_seq ?_
                      refine c_seq ?_
                      refine c_region ?_
                      refine w_p tok rfl rfl rfl ?_
                      refine w_p tok rfl rfl rfl ?_
                      obtain ⟨x11, ex11, H⟩ := H
                      refine w_pe tok rfl (congrArg (fun z => (.int .i64 z : Value)) ex11) rfl rfl ?_
                      refine w_end ?_
                      refine x_seq ?_
                      refine c_seq ?_
                      refine c_region ?_
                      refine w_p tok rfl rfl rfl ?_
                      refine w_p tok rfl rfl rfl ?_
                      obtain ⟨x12, ex12, H⟩ := H
                      refine w_pe tok rfl (congrArg (fun z => (.int .i64 z : Value)) ex12) rfl rfl ?_
                      refine w_end ?_
                      refine x_seq ?_
                      refine c_seq ?_
                      refine c_region ?_
                      refine w_p tok rfl rfl rfl ?_
                      obtain ⟨v13, hv13, H⟩ := H
                      refine w_y (y_ld tok rfl rfl rfl rfl hv13) rfl rfl ?_
                      refine w_p tok rfl rfl rfl ?_
                      refine w_p tok rfl rfl rfl ?_
                      refine w_cut 5 (α := Bool) (fun (s : Bool) => [(107, .bool s), (0, .string p0), (1, .string p1), (5, .int .i64 x1), (6, .int .u8 v7), (7, .int .u8 v8), (8, .int .i64 x11), (9, .int .i64 x9), (10, .int .i64 x12)]) (fun (s : Bool) h => internal_stringslite_Index_g4 p0 p1 x1 v7 v8 x11 x9 x12 s k (fun s h' => I1 s h' ∧ μ1 s h' < μ1 (t8_1, t10_1) h_1) h) ?_ ?_
                      ·
                        rintro t107_4 h_4 H
                        replace H : internal_stringslite_Index_g4 p0 p1 x1 v7 v8 x11 x9 x12 t107_4 k (fun s h' => I1 s h' ∧ μ1 s h' < μ1 (t8_1, t10_1) h_1) h_4 := H
                        unfold internal_stringslite_Index_g4 at H
                        refine w_weak [(107, .bool t107_4), (0, .string p0), (1, .string p1), (5, .int .i64 x1), (6, .int .u8 v7), (7, .int .u8 v8), (8, .int .i64 x11), (9, .int .i64 x9), (10, .int .i64 x12)] ⟨rfl, rfl, rfl, rfl, rfl, rfl, rfl, rfl, rfl, trivial⟩ ?_
                        refine w_end ?_
                        refine x_seq ?_
                        refine c_if H rfl (fun H => ?_) (fun H => ?_)
                        ·
                          refine c_seq ?_
                          refine c_region ?_
                          refine w_p tok rfl rfl rfl ?_
                          refine w_p tok rfl rfl rfl ?_
                          obtain ⟨s14, ps14, qs14, rs14, es14, H⟩ := H
                          refine w_ye (y_sls (s := p0) (L := x11) (H := (p0.size : Int)) tok rfl rfl rfl rfl rfl ps14 qs14 rs14) (congrArg Value.string es14) rfl rfl ?_
                          refine w_p tok rfl rfl rfl ?_
                          exact H.elim
                        ·
                          refine c_seq ?_
                          refine c_region ?_
                          refine w_p tok rfl rfl rfl ?_
                          obtain ⟨v15, hv15, H⟩ := H
                          refine w_y (y_ld tok rfl rfl rfl rfl hv15) rfl rfl ?_
                          refine w_p tok rfl rfl rfl ?_
                          refine w_p tok rfl rfl rfl ?_
                          refine w_cutU 6 [(127, .bool ((decide (x1 > v15)) && (decide (x12 ≥ (IntKind.i64.wrap (4 + (shr .i64 x11 (4 : Int).toNat))))))), (0, .string p0), (1, .string p1), (5, .int .i64 x1), (6, .int .u8 v7), (7, .int .u8 v8), (8, .int .i64 x11), (9, .int .i64 x9), (10, .int .i64 x12)] ?_ ?_
                          ·
                            refine w_p tok rfl rfl rfl ?_
                            refine w_cutU 4 [(132, .bool (((decide (x1 > v15)) && (decide (x12 ≥ (IntKind.i64.wrap (4 + (shr .i64 x11 (4 : Int).toNat)))))) && (decide (x11 < x9)))), (0, .string p0), (1, .string p1), (5, .int .i64 x1), (6, .int .u8 v7), (7, .int .u8 v8), (8, .int .i64 x11), (9, .int .i64 x9), (10, .int .i64 x12)] ?_ ?_
                            ·
                              refine w_end ?_
                              refine x_seq ?_
                              refine c_if H rfl (fun H => ?_) (fun H => ?_)
                              ·
                                refine c_seq ?_
                                refine c_region ?_
                                refine w_p tok rfl rfl rfl ?_
                                refine w_p tok rfl rfl rfl ?_
                                obtain ⟨s16, ps16, qs16, rs16, es16, H⟩ := H
                                refine w_ye (y_sls (s := p0) (L := x11) (H := (p0.size : Int)) tok rfl rfl rfl rfl rfl ps16 qs16 rs16) (congrArg Value.string es16) rfl rfl ?_
                                refine w_p tok rfl rfl rfl ?_
                                exact H.elim
                              ·
                                refine c_skip ?_
                                refine x_blk ?_
                                exact x_join (x11, x12) H ⟨rfl, rfl, rfl, rfl, rfl, rfl, rfl, rfl, trivial⟩
                            ·
                              refine w_gs (d := 128) rfl (fun hb => ?_) (fun hb => ?_)
                              ·
                                refine w_p tok rfl rfl rfl ?_
                                refine w_p tok rfl rfl rfl ?_
                                refine w_p tok rfl rfl rfl ?_
                                refine w_p tok rfl rfl rfl ?_
                                refine w_jn () rfl ⟨?_, rfl, rfl, rfl, rfl, rfl, rfl, rfl, rfl, trivial⟩
                                exact congrArg (fun b => some (Value.bool b)) (and_t hb)
                              ·
                                refine w_skip rfl rfl ?_
                                refine w_skip rfl rfl ?_
                                refine w_skip rfl rfl ?_
                                refine w_p tok rfl rfl rfl ?_
                                refine w_jn () rfl ⟨?_, rfl, rfl, rfl, rfl, rfl, rfl, rfl, rfl, trivial⟩
                                exact congrArg (fun b => some (Value.bool b)) (and_f hb)
                          ·
                            refine w_gs (d := 121) rfl (fun hb => ?_) (fun hb => ?_)
                            ·
                              refine w_p tok rfl rfl rfl ?_
                              refine w_p tok rfl rfl rfl ?_
                              refine w_p tok rfl rfl rfl ?_
                              refine w_p tok rfl rfl rfl ?_
                              refine w_p tok rfl rfl rfl ?_
                              refine w_p tok rfl rfl rfl ?_
                              refine w_jn () rfl ⟨?_, rfl, rfl, rfl, rfl, rfl, rfl, rfl, rfl, trivial⟩
                              exact congrArg (fun b => some (Value.bool b)) (and_t hb)
                            ·
                              refine w_skip rfl rfl ?_
                              refine w_skip rfl rfl ?_
                              refine w_skip rfl rfl ?_
                              refine w_skip rfl rfl ?_
                              refine w_skip rfl rfl ?_
                              refine w_p tok rfl rfl rfl ?_
                              refine w_jn () rfl ⟨?_, rfl, rfl, rfl, rfl, rfl, rfl, rfl, rfl, trivial⟩
                              exact congrArg (fun b => some (Value.bool b)) (and_f hb)
                      ·
                        refine w_gif (d := 102) H rfl (fun H => ?_) (fun H => ?_)
                        ·
                          refine w_p tok rfl rfl rfl ?_
                          refine w_p tok rfl rfl rfl ?_
                          exact H.elim
                        ·
                          refine w_skip rfl rfl ?_
                          refine w_skip rfl rfl ?_
                          refine w_skip rfl rfl ?_
                          refine w_skip rfl rfl ?_
                          refine w_p tok rfl rfl rfl ?_
                          exact w_jn false H ⟨rfl, rfl, rfl, rfl, rfl, rfl, rfl, rfl, rfl, trivial⟩
                  ·
                    refine w_gif (d := 84) H rfl (fun H => ?_) (fun H => ?_)
                    ·
                      refine w_p tok rfl rfl rfl ?_
                      refine w_p tok rfl rfl rfl ?_
                      refine w_p tok rfl rfl rfl ?_
                      refine w_p tok rfl rfl rfl ?_
                      refine w_p tok rfl rfl rfl ?_
                      obtain ⟨s17, ps17, qs17, rs17, es17, H⟩ := H
                      refine w_ye (y_sls (s := p0) (L := t8_2) (H := (IntKind.i64.wrap (t8_2 + x1))) tok rfl rfl rfl rfl rfl ps17 qs17 rs17) (congrArg Value.string es17) rfl rfl ?_
                      refine w_p tok rfl rfl rfl ?_
                      refine w_p tok rfl rfl rfl ?_
                      refine w_p tok rfl rfl rfl ?_
                      exact w_jn (s17.toList == p1.toList) H ⟨rfl, rfl, rfl, rfl, rfl, rfl, rfl, rfl, rfl, trivial⟩
                    ·
                      refine w_skip rfl rfl ?_
                      refine w_skip rfl rfl ?_
                      refine w_skip rfl rfl ?_
                      refine w_skip rfl rfl ?_
                      refine w_skip rfl rfl ?_
                      refine w_skip rfl rfl ?_
                      refine w_skip rfl rfl ?_
                      refine w_skip rfl rfl ?_
                      refine w_p tok rfl rfl rfl ?_
                      exact w_jn false H ⟨rfl, rfl, rfl, rfl, rfl, rfl, rfl, rfl, rfl, trivial⟩
                ·
                  refine c_seq ?_
                  refine c_region ?_
                  refine w_p tok rfl rfl rfl ?_
                  refine w_p tok rfl rfl rfl ?_
                  obtain ⟨v18, lv18, hv18, H⟩ := H
                  refine w_y (y_ixs' tok rfl rfl rfl rfl lv18 hv18) rfl rfl ?_
                  refine w_p tok rfl rfl rfl ?_
                  refine w_p tok rfl rfl rfl ?_
                  refine w_end ?_
                  refine x_seq ?_
                  refine c_weak [(8, .int .i64 t8_1), (10, .int .i64 t10_1), (0, .string p0), (1, .string p1), (5, .int .i64 x1), (6, .int .u8 v7), (7, .int .u8 v8), (9, .int .i64 x9), (64, .bool (v18 != v7))] ⟨rfl, rfl, rfl, rfl, rfl, rfl, rfl, rfl, rfl, trivial⟩ ?_
                  refine c_if H rfl (fun H => ?_) (fun H => ?_)
                  ·
                    refine c_seq ?_
                    refine c_region ?_
                    refine w_p tok rfl rfl rfl ?_
                    refine w_p tok rfl rfl rfl ?_
                    refine w_p tok rfl rfl rfl ?_
                    refine w_p tok rfl rfl rfl ?_
                    obtain ⟨s19, ps19, qs19, rs19, es19, H⟩ := H
                    refine w_ye (y_sls (s := p0) (L := (IntKind.i64.wrap (t8_1 + 1))) (H := x9) tok rfl rfl rfl rfl rfl ps19 qs19 rs19) (congrArg Value.string es19) rfl rfl ?_
                    refine w_p tok rfl rfl rfl ?_
                    refine w_call internal_stringslite_IndexByte_ok (internal_stringslite_IndexByte_ref _ _ _ _ H) rfl rfl rfl rfl ?_
                    rintro _ h21 ⟨r20, rfl, H⟩
                    refine w_p tok rfl rfl rfl ?_
                    refine w_end ?_
                    refine x_seq ?_
                    refine c_weak [(8, .int .i64 t8_1), (10, .int .i64 t10_1), (0, .string p0), (1, .string p1), (5, .int .i64 x1), (6, .int .u8 v7), (7, .int .u8 v8), (9, .int .i64 x9), (11, .int .i64 r20)] ⟨rfl, rfl, rfl, rfl, rfl, rfl, rfl, rfl, rfl, trivial⟩ ?_
                    refine c_seq ?_
                    refine c_seq ?_
                    refine c_region ?_
                    refine w_p tok rfl rfl rfl ?_
                    refine w_p tok rfl rfl rfl ?_
                    refine w_end ?_
                    refine x_seq ?_
                    refine c_if H rfl (fun H => ?_) (fun H => ?_)
                    ·
                      refine c_seq ?_
                      refine c_region ?_
                      obtain ⟨x22, ex22, H⟩ := H
                      refine w_pe tok rfl (congrArg (fun z => (.int .i64 z : Value)) ex22) rfl rfl ?_
                      refine w_end ?_
                      refine x_seq ?_
                      refine c_weak [(4, .int .i64 x22)] ⟨rfl, trivial⟩ ?_
                      refine c_ret ?_
                      refine x_tr ?_
                      refine x_tr ?_
                      refine x_br ?_
                      refine x_tr ?_
                      refine x_br ?_
                      refine x_tr ?_
                      exact x_ret _ rfl _ rfl ⟨x22, rfl, H⟩
                    ·
                      refine c_skip ?_
                      refine x_seq ?_
                      refine c_region ?_
                      refine w_p tok rfl rfl rfl ?_
                      refine w_p tok rfl rfl rfl ?_
                      refine w_p tok rfl rfl rfl ?_
                      refine w_p tok rfl rfl rfl ?_
                      obtain ⟨x23, ex23, H⟩ := H
                      refine w_pe tok rfl (congrArg (fun z => (.int .i64 z : Value)) ex23) rfl rfl ?_
                      refine w_end ?_
                      exact x_join x23 H ⟨rfl, rfl, rfl, rfl, rfl, rfl, rfl, rfl, trivial⟩
                  ·
                    refine c_skip ?_
                    exact x_join t8_1 H ⟨rfl, rfl, rfl, rfl, rfl, rfl, rfl, rfl, trivial⟩
              ·
                refine c_exit ?_
                refine x_te ?_
                refine x_te ?_
                refine x_bh ?_
                refine x_seq ?_
                refine c_weak [] trivial ?_
                refine c_seq ?_
                refine c_region ?_
                obtain ⟨x24, ex24, H⟩ := H
                refine w_pe tok rfl (congrArg (fun z => (.int .i64 z : Value)) ex24) rfl rfl ?_
                refine w_end ?_
                refine x_seq ?_
                refine c_ret ?_
                exact x_ret _ rfl _ rfl ⟨x24, rfl, H⟩
          ·
            refine w_gs (d := 40) rfl (fun hb => ?_) (fun hb => ?_)
            ·
              refine w_p tok rfl rfl rfl ?_
              refine w_p tok rfl rfl rfl ?_
              refine w_p tok rfl rfl rfl ?_
              refine w_p tok rfl rfl rfl ?_
              refine w_jn () rfl ⟨?_, rfl, rfl, rfl, trivial⟩
              exact congrArg (fun b => some (Value.bool b)) (and_t hb)
            ·
              refine w_skip rfl rfl ?_
              refine w_skip rfl rfl ?_
              refine w_skip rfl rfl ?_
              refine w_p tok rfl rfl rfl ?_
              refine w_jn () rfl ⟨?_, rfl, rfl, rfl, trivial⟩
              exact congrArg (fun b => some (Value.bool b)) (and_f hb)
  ·
    refine w_gs (d := 19) rfl (fun hb => ?_) (fun hb => ?_)
    ·
      refine w_skip rfl rfl ?_
      refine w_skip rfl rfl ?_
      refine w_skip rfl rfl ?_
      refine w_p tok rfl rfl rfl ?_
      refine w_jn () rfl ⟨?_, rfl, rfl, rfl, trivial⟩
      exact congrArg (fun b => some (Value.bool b)) (or_t hb)
    ·
      refine w_p tok rfl rfl rfl ?_
      refine w_p tok rfl rfl rfl ?_
      refine w_p tok rfl rfl rfl ?_
      refine w_p tok rfl rfl rfl ?_
      refine w_jn () rfl ⟨?_, rfl, rfl, rfl, trivial⟩
      exact congrArg (fun b => some (Value.bool b)) (or_f hb)

theorem internal_stringslite_Cut_ok : CallOk Go.Proofs.Tryz.prog 93 := ⟨_, Go.Proofs.Tryz.func93, by kernel_rfl, by kernel_rfl⟩
theorem internal_stringslite_Cut_ref (p0 : ByteArray) (p1 : ByteArray) (k : (ByteArray × ByteArray × Bool) → Heap → Prop) (h : Heap) (H : internal_stringslite_Cut p0 p1 k h) : CallsH Go.Proofs.Tryz.prog 93 #[.string p0, .string p1] h (fun v h' => ∃ r : ByteArray × ByteArray × Bool, v = .tuple #[.string r.1, .string r.2.1, .bool r.2.2] ∧ k r h') := by
  refine f_enter (N := 23) Go.Proofs.Tryz.func93 rfl rfl rfl (fun w0 => ?_)
  unfold internal_stringslite_Cut at H
  refine c_weak [(0, .string p0), (1, .string p1)] ⟨rfl, rfl, trivial⟩ ?_
  refine c_seq ?_
  refine c_region ?_
  refine w_p tok rfl rfl rfl ?_
  refine w_p tok rfl rfl rfl ?_
  refine w_p tok rfl rfl rfl ?_
  refine w_end ?_
  refine x_seq ?_
  refine c_seq ?_
  refine c_seq ?_
  refine c_region ?_
  refine w_p tok rfl rfl rfl ?_
  refine w_p tok rfl rfl rfl ?_
  refine w_call internal_stringslite_Index_ok (internal_stringslite_Index_ref _ _ _ _ H) rfl rfl rfl rfl ?_
  rintro _ h2 ⟨r1, rfl, H⟩
  refine w_p tok rfl rfl rfl ?_
  refine w_end ?_
  refine x_seq ?_
  refine c_seq ?_
  refine c_region ?_
  refine w_p tok rfl rfl rfl ?_
  refine w_p tok rfl rfl rfl ?_
  refine w_end ?_
  refine x_seq ?_
  refine c_weak [(0, .string p0), (1, .string p1), (7, .int .i64 r1), (12, .bool (decide (r1 ≥ 0)))] ⟨rfl, rfl, rfl, rfl, trivial⟩ ?_
  refine c_if H rfl (fun H => ?_) (fun H => ?_)
  ·
    refine c_seq ?_
    refine c_draw (by kernel_rfl) (by kernel_rfl) ?_
    refine q_p tok rfl rfl rfl ?_
    refine q_p tok rfl rfl rfl ?_
    obtain ⟨s3, ps3, qs3, rs3, es3, H⟩ := H
    refine q_ye (y_sls (s := p0) (L := 0) (H := r1) tok rfl rfl rfl rfl rfl ps3 qs3 rs3) (congrArg Value.string es3) rfl rfl ?_
    refine q_p tok rfl rfl rfl ?_
    refine q_p tok rfl rfl rfl ?_
    refine q_p tok rfl rfl rfl ?_
    refine q_p tok rfl rfl rfl ?_
    refine q_p tok rfl rfl rfl ?_
    obtain ⟨s4, ps4, qs4, rs4, es4, H⟩ := H
    refine q_ye (y_sls (s := p0) (L := (IntKind.i64.wrap (r1 + (p1.size : Int)))) (H := (p0.size : Int)) tok rfl rfl rfl rfl rfl ps4 qs4 rs4) (congrArg Value.string es4) rfl rfl ?_
    refine q_p tok rfl rfl rfl ?_
    refine q_p tok rfl rfl rfl ?_
    refine q_p tok rfl rfl rfl ?_
    refine q_end ?_
    refine x_seq ?_
    refine c_weak [(4, .string s3), (5, .string s4), (6, .bool true)] ⟨rfl, rfl, rfl, trivial⟩ ?_
    refine c_ret ?_
    refine x_tr ?_
    exact x_ret _ rfl _ rfl ⟨(s3, s4, true), rfl, H⟩
  ·
    refine c_skip ?_
    refine x_seq ?_
    refine c_seq ?_
    refine c_region ?_
    refine w_p tok rfl rfl rfl ?_
    refine w_p tok rfl rfl rfl ?_
    refine w_p tok rfl rfl rfl ?_
    refine w_p tok rfl rfl rfl ?_
    refine w_end ?_
    refine x_seq ?_
    refine c_ret ?_
    exact x_ret _ rfl _ rfl ⟨(p0, (⟨#[]⟩ : ByteArray), false), rfl, H⟩

theorem strings_Cut_ok : CallOk Go.Proofs.Tryz.prog 70 := ⟨_, Go.Proofs.Tryz.func70, by kernel_rfl, by kernel_rfl⟩
theorem strings_Cut_ref (p0 : ByteArray) (p1 : ByteArray) (k : (ByteArray × ByteArray × Bool) → Heap → Prop) (h : Heap) (H : strings_Cut p0 p1 k h) : CallsH Go.Proofs.Tryz.prog 70 #[.string p0, .string p1] h (fun v h' => ∃ r : ByteArray × ByteArray × Bool, v = .tuple #[.string r.1, .string r.2.1, .bool r.2.2] ∧ k r h') := by
  refine f_enter (N := 13) Go.Proofs.Tryz.func70 rfl rfl rfl (fun w0 => ?_)
  unfold strings_Cut at H
  refine c_weak [(0, .string p0), (1, .string p1)] ⟨rfl, rfl, trivial⟩ ?_
  refine c_seq ?_
  refine c_region ?_
  refine w_p tok rfl rfl rfl ?_
  refine w_p tok rfl rfl rfl ?_
  refine w_p tok rfl rfl rfl ?_
  refine w_end ?_
  refine x_seq ?_
  refine c_seq ?_
  refine c_region ?_
  refine w_p tok rfl rfl rfl ?_
  refine w_p tok rfl rfl rfl ?_
  refine w_call internal_stringslite_Cut_ok (internal_stringslite_Cut_ref _ _ _ _ H) rfl rfl rfl rfl ?_
  rintro _ h2 ⟨r1, rfl, H⟩
  refine w_p tok rfl rfl rfl ?_
  refine w_p tok rfl rfl rfl ?_
  refine w_p tok rfl rfl rfl ?_
  refine w_p tok rfl rfl rfl ?_
  refine w_p tok rfl rfl rfl ?_
  refine w_p tok rfl rfl rfl ?_
  refine w_end ?_
  refine x_seq ?_
  refine c_weak [(4, .string r1.1), (5, .string r1.2.1), (6, .bool r1.2.2)] ⟨rfl, rfl, rfl, trivial⟩ ?_
  refine c_ret ?_
  exact x_ret _ rfl _ rfl ⟨(r1.1, r1.2.1, r1.2.2), rfl, H⟩

theorem label_Selector_ok : CallOk Go.Proofs.Tryz.prog 50 := ⟨_, Go.Proofs.Tryz.func50, by kernel_rfl, by kernel_rfl⟩
theorem label_Selector_ref (p0 : ByteArray) (k : (S_api_Selector × Int) → Heap → Prop) (h : Heap) (H : label_Selector p0 k h) : CallsH Go.Proofs.Tryz.prog 50 #[.string p0] h (fun v h' => ∃ r : S_api_Selector × Int, v = .tuple #[.agg (S_api_Selector.cs r.1).toArray, .int .i64 r.2] ∧ k r h') := by
  refine f_enter (N := 70) Go.Proofs.Tryz.func50 rfl rfl rfl (fun w0 => ?_)
  unfold label_Selector at H
  refine c_weak [(0, .string p0)] ⟨rfl, trivial⟩ ?_
  refine c_seq ?_
  refine c_region ?_
  obtain ⟨b1, h2, eb1, eh2, H⟩ := H
  refine w_h (h_alloc tok rfl rfl eb1 eh2) rfl rfl ?_
  refine w_p tok rfl rfl rfl ?_
  refine w_end ?_
  refine x_seq ?_
  refine c_scope ?_
  refine c_seq ?_
  refine c_region ?_
  refine w_p tok rfl rfl rfl ?_
  refine w_call strings_Cut_ok (strings_Cut_ref _ _ _ _ H) rfl rfl rfl rfl ?_
  rintro _ h4 ⟨r3, rfl, H⟩
  refine w_p tok rfl rfl rfl ?_
  refine w_p tok rfl rfl rfl ?_
  refine w_p tok rfl rfl rfl ?_
  refine w_p tok rfl rfl rfl ?_
  refine w_p tok rfl rfl rfl ?_
  refine w_p tok rfl rfl rfl ?_
  refine w_p tok rfl rfl rfl ?_
  refine w_end ?_
  refine x_seq ?_
  refine c_weak [(2, .pointer (some (⟨b1, 0, none⟩ : Addr))), (4, .string r3.1), (5, .string r3.2.1), (6, .bool r3.2.2)] ⟨rfl, rfl, rfl, rfl, trivial⟩ ?_
  refine c_seq ?_
  refine c_region ?_
  refine w_p tok rfl rfl rfl ?_
  refine w_y (y_build tok rfl rfl rfl rfl rfl) rfl rfl ?_
  obtain ⟨b5, h6, eb5, eh6, H⟩ := H
  refine w_h (h_alloc tok rfl rfl eb5 eh6) rfl rfl ?_
  obtain ⟨h7, wh7, eh7, H⟩ := H
  refine w_h (h_sts tok rfl rfl rfl rfl rfl (oneC (by kernel_rfl)) wh7 eh7) rfl rfl ?_
  refine w_end ?_
  refine x_seq ?_
  refine c_seq ?_
  refine c_seq ?_
  refine c_region ?_
  refine w_p tok rfl rfl rfl ?_
  refine w_p tok rfl rfl rfl ?_
  refine w_p tok rfl rfl rfl ?_
  refine w_cut 4 (α := Bool) (fun (s : Bool) => [(27, .bool s), (2, .pointer (some (⟨b1, 0, none⟩ : Addr))), (5, .string r3.2.1), (6, .bool r3.2.2), (7, .pointer (some (⟨b5, 0, none⟩ : Addr)))]) (fun (s : Bool) h => label_Selector_g1 (⟨b1, 0, none⟩ : Addr) r3.2.1 r3.2.2 (⟨b5, 0, none⟩ : Addr) s k h) ?_ ?_
  ·
    rintro t27_1 h_1 H
    replace H : label_Selector_g1 (⟨b1, 0, none⟩ : Addr) r3.2.1 r3.2.2 (⟨b5, 0, none⟩ : Addr) t27_1 k h_1 := H
    unfold label_Selector_g1 at H
    refine w_weak [(27, .bool t27_1), (2, .pointer (some (⟨b1, 0, none⟩ : Addr))), (5, .string r3.2.1), (6, .bool r3.2.2), (7, .pointer (some (⟨b5, 0, none⟩ : Addr)))] ⟨rfl, rfl, rfl, rfl, rfl, trivial⟩ ?_
    refine w_end ?_
    refine x_seq ?_
    refine c_if H rfl (fun H => ?_) (fun H => ?_)
    ·
      refine c_seq ?_
      refine c_region ?_
      refine w_y (y_build tok rfl rfl rfl rfl rfl) rfl rfl ?_
      obtain ⟨h8, wh8, eh8, H⟩ := H
      refine w_h (h_sts tok rfl rfl rfl rfl rfl (oneC (by kernel_rfl)) wh8 eh8) rfl rfl ?_
      refine w_p tok rfl rfl rfl ?_
      refine w_end ?_
      refine x_seq ?_
      refine c_ret ?_
      refine x_tr ?_
      refine x_sr ?_
      obtain ⟨v9, hv9, H⟩ := H
      exact x_retc tok _ rfl [.agg (S_api_Selector.cs v9).toArray, .int .i64 4] ⟨⟨_, _, rfl, rfl, .inr ⟨rfl, _, rfl, rfl, hv9⟩⟩, rfl, trivial⟩ ⟨(v9, 4), rfl, H⟩
    ·
      refine c_skip ?_
      refine x_seq ?_
      refine c_seq ?_
      refine c_seq ?_
      refine c_region ?_
      refine w_p tok rfl rfl rfl ?_
      refine w_p tok rfl rfl rfl ?_
      refine w_end ?_
      refine x_seq ?_
      refine c_if H rfl (fun H => ?_) (fun H => ?_)
      ·
        refine c_seq ?_
        refine c_region ?_
        obtain ⟨v10, hv10, H⟩ := H
        refine w_y (y_lda tok rfl rfl rfl rfl rfl hv10) rfl rfl ?_
        obtain ⟨h11, wh11, eh11, H⟩ := H
        refine w_h (h_sts tok rfl rfl rfl rfl rfl (oneC (by kernel_rfl)) wh11 eh11) rfl rfl ?_
        refine w_p tok rfl rfl rfl ?_
        refine w_end ?_
        refine x_seq ?_
        refine c_weak [(2, .pointer (some (⟨b1, 0, none⟩ : Addr))), (3, .int .i64 0)] ⟨rfl, rfl, trivial⟩ ?_
        refine c_ret ?_
        refine x_tr ?_
        refine x_sr ?_
        obtain ⟨v12, hv12, H⟩ := H
        exact x_retc tok _ rfl [.agg (S_api_Selector.cs v12).toArray, .int .i64 0] ⟨⟨_, _, rfl, rfl, .inr ⟨rfl, _, rfl, rfl, hv12⟩⟩, rfl, trivial⟩ ⟨(v12, 0), rfl, H⟩
      ·
        refine c_skip ?_
        refine x_seq ?_
        refine c_seq ?_
        refine c_region ?_
        refine w_p tok rfl rfl rfl ?_
        exact H.elim
  ·
    refine w_gif (d := 23) H rfl (fun H => ?_) (fun H => ?_)
    ·
      refine w_p tok rfl rfl rfl ?_
      exact H.elim
    ·
      refine w_skip rfl rfl ?_
      refine w_skip rfl rfl ?_
      refine w_skip rfl rfl ?_
      refine w_p tok rfl rfl rfl ?_
      exact w_jn false H ⟨rfl, rfl, rfl, rfl, rfl, trivial⟩

theorem query_Check_ok : CallOk Go.Proofs.Tryz.prog 49 := ⟨_, Go.Proofs.Tryz.func49, by kernel_rfl, by kernel_rfl⟩
theorem query_Check_ref (p0 : S_api_Query) (k : (Int) → Heap → Prop) (h : Heap) (H : query_Check p0 k h) : CallsH Go.Proofs.Tryz.prog 49 #[.agg (S_api_Query.cs p0).toArray] h (fun v h' => ∃ r : Int, v = .int .i64 r ∧ k r h') := by
  refine f_enter (N := 32) Go.Proofs.Tryz.func49 rfl rfl rfl (fun w0 => ?_)
  unfold query_Check at H
  refine c_weak [(0, .agg (S_api_Query.cs p0).toArray)] ⟨rfl, trivial⟩ ?_
  refine c_seq ?_
  refine c_region ?_
  obtain ⟨b1, h2, eb1, eh2, H⟩ := H
  refine w_h (h_box rfl rfl eb1 eh2) rfl rfl ?_
  refine w_p tok rfl rfl rfl ?_
  refine w_end ?_
  refine x_seq ?_
  refine c_seq ?_
  refine c_seq ?_
  refine c_region ?_
  refine w_p tok rfl rfl rfl ?_
  obtain ⟨v3, hv3, H⟩ := H
  refine w_y (y_ld tok rfl rfl rfl rfl hv3) rfl rfl ?_
  refine w_call label_Selector_ok (label_Selector_ref _ _ _ H) rfl rfl rfl rfl ?_
  rintro _ h5 ⟨r4, rfl, H⟩
  refine w_p tok rfl rfl rfl ?_
  refine w_p tok rfl rfl rfl ?_
  refine w_p tok rfl rfl rfl ?_
  obtain ⟨b6, h7, eb6, eh7, H⟩ := H
  refine w_h (h_alloc tok rfl rfl eb6 eh7) rfl rfl ?_
  obtain ⟨h8, wh8, eh8, H⟩ := H
  refine w_h (h_sts tok rfl rfl rfl rfl rfl (oneC (by kernel_rfl)) wh8 eh8) rfl rfl ?_
  refine w_p tok rfl rfl rfl ?_
  refine w_end ?_
  refine x_seq ?_
  refine c_weak [(1, .pointer (some (⟨b1, 0, none⟩ : Addr))), (4, .int .i64 r4.2)] ⟨rfl, rfl, trivial⟩ ?_
  refine c_seq ?_
  refine c_region ?_
  refine w_p tok rfl rfl rfl ?_
  refine w_p tok rfl rfl rfl ?_
  refine w_end ?_
  refine x_seq ?_
  refine c_if H rfl (fun H => ?_) (fun H => ?_)
  ·
    refine c_seq ?_
    refine c_region ?_
    refine w_p tok rfl rfl rfl ?_
    refine w_p tok rfl rfl rfl ?_
    refine w_end ?_
    refine x_seq ?_
    refine c_ret ?_
    refine x_tr ?_
    exact x_ret _ rfl _ rfl ⟨r4.2, rfl, H⟩
  ·
    refine c_skip ?_
    refine x_seq ?_
    refine c_seq ?_
    refine c_seq ?_
    refine c_region ?_
    refine w_p tok rfl rfl rfl ?_
    obtain ⟨v9, hv9, H⟩ := H
    refine w_y (y_ld tok rfl rfl rfl rfl hv9) rfl rfl ?_
    refine w_p tok rfl rfl rfl ?_
    refine w_p tok rfl rfl rfl ?_
    refine w_cut 4 (α := Bool) (fun (s : Bool) => [(21, .bool s), (1, .pointer (some (⟨b1, 0, none⟩ : Addr)))]) (fun (s : Bool) h => query_Check_g1 (⟨b1, 0, none⟩ : Addr) s k h) ?_ ?_
    ·
      rintro t21_1 h_1 H
      replace H : query_Check_g1 (⟨b1, 0, none⟩ : Addr) t21_1 k h_1 := H
      unfold query_Check_g1 at H
      refine w_weak [(21, .bool t21_1), (1, .pointer (some (⟨b1, 0, none⟩ : Addr)))] ⟨rfl, rfl, trivial⟩ ?_
      refine w_p tok rfl rfl rfl ?_
      refine w_cut 9 (α := Bool) (fun (s : Bool) => [(31, .bool s)]) (fun (s : Bool) h => query_Check_g2 s k h) ?_ ?_
      ·
        rintro t31_2 h_2 H
        replace H : query_Check_g2 t31_2 k h_2 := H
        unfold query_Check_g2 at H
        refine w_weak [(31, .bool t31_2)] ⟨rfl, trivial⟩ ?_
        refine w_end ?_
        refine x_seq ?_
        refine c_if H rfl (fun H => ?_) (fun H => ?_)
        ·
          refine c_seq ?_
          refine c_region ?_
          refine w_p tok rfl rfl rfl ?_
          refine w_end ?_
          refine x_seq ?_
          refine c_ret ?_
          refine x_tr ?_
          exact x_ret _ rfl _ rfl ⟨1, rfl, H⟩
        ·
          refine c_skip ?_
          refine x_seq ?_
          refine c_seq ?_
          refine c_region ?_
          refine w_p tok rfl rfl rfl ?_
          refine w_end ?_
          refine x_seq ?_
          refine c_ret ?_
          exact x_ret _ rfl _ rfl ⟨0, rfl, H⟩
      ·
        refine w_gif (d := 22) H rfl (fun H => ?_) (fun H => ?_)
        ·
          refine w_skip rfl rfl ?_
          refine w_skip rfl rfl ?_
          refine w_skip rfl rfl ?_
          refine w_skip rfl rfl ?_
          refine w_skip rfl rfl ?_
          refine w_skip rfl rfl ?_
          refine w_skip rfl rfl ?_
          refine w_skip rfl rfl ?_
          refine w_p tok rfl rfl rfl ?_
          exact w_jn true H ⟨rfl, trivial⟩
        ·
          refine w_p tok rfl rfl rfl ?_
          obtain ⟨v10, hv10, H⟩ := H
          refine w_y (y_ld tok rfl rfl rfl rfl hv10) rfl rfl ?_
          refine w_p tok rfl rfl rfl ?_
          refine w_p tok rfl rfl rfl ?_
          refine w_cut 4 (α := Bool) (fun (s : Bool) => [(30, .bool s), (22, .bool false)]) (fun (s : Bool) h => query_Check_g3 false s k h) ?_ ?_
          ·
            rintro t30_3 h_3 H
            replace H : query_Check_g3 false t30_3 k h_3 := H
            unfold query_Check_g3 at H
            refine w_weak [(30, .bool t30_3), (22, .bool false)] ⟨rfl, rfl, trivial⟩ ?_
            refine w_p tok rfl rfl rfl ?_
            exact w_jn t30_3 H ⟨rfl, trivial⟩
          ·
            refine w_gif (d := 26) H rfl (fun H => ?_) (fun H => ?_)
            ·
              refine w_p tok rfl rfl rfl ?_
              obtain ⟨v11, hv11, H⟩ := H
              refine w_y (y_ld tok rfl rfl rfl rfl hv11) rfl rfl ?_
              refine w_p tok rfl rfl rfl ?_
              refine w_p tok rfl rfl rfl ?_
              exact w_jn (decide (v11 < 1)) H ⟨rfl, rfl, trivial⟩
            ·
              refine w_skip rfl rfl ?_
              refine w_skip rfl rfl ?_
              refine w_skip rfl rfl ?_
              refine w_p tok rfl rfl rfl ?_
              exact w_jn false H ⟨rfl, rfl, trivial⟩
    ·
      refine w_gif (d := 17) H rfl (fun H => ?_) (fun H => ?_)
      ·
        refine w_skip rfl rfl ?_
        refine w_skip rfl rfl ?_
        refine w_skip rfl rfl ?_
        refine w_p tok rfl rfl rfl ?_
        exact w_jn true H ⟨rfl, rfl, trivial⟩
      ·
        refine w_p tok rfl rfl rfl ?_
        obtain ⟨v12, hv12, H⟩ := H
        refine w_y (y_ld tok rfl rfl rfl rfl hv12) rfl rfl ?_
        refine w_p tok rfl rfl rfl ?_
        refine w_p tok rfl rfl rfl ?_
        exact w_jn (decide (v12 > 6)) H ⟨rfl, rfl, trivial⟩

theorem piece_Between_ok : CallOk Go.Proofs.Tryz.prog 51 := ⟨_, Go.Proofs.Tryz.func51, by kernel_rfl, by kernel_rfl⟩
theorem piece_Between_ref (p0 : Slc) (p1 : Int) (p2 : Int) (k : (Slc) → Heap → Prop) (h : Heap) (H : piece_Between p0 p1 p2 k h) : CallsH Go.Proofs.Tryz.prog 51 #[Slc.v p0, .int .i64 p1, .int .i64 p2] h (fun v h' => ∃ r : Slc, v = Slc.v r ∧ k r h') := by
  refine f_enter (N := 32) Go.Proofs.Tryz.func51 rfl rfl rfl (fun w0 => ?_)
  unfold piece_Between at H
  refine c_weak [(0, Slc.v p0), (1, .int .i64 p1), (2, .int .i64 p2)] ⟨rfl, rfl, rfl, trivial⟩ ?_
  refine c_seq ?_
  refine c_region ?_
  refine w_p tok rfl rfl rfl ?_
  refine w_end ?_
  refine x_seq ?_
  refine c_seq ?_
  refine c_region ?_
  refine w_p tok rfl rfl rfl ?_
  refine w_end ?_
  refine x_seq ?_
  refine c_seq ?_
  refine c_seq ?_
  refine c_region ?_
  refine w_p tok rfl rfl rfl ?_
  refine w_p tok rfl rfl rfl ?_
  refine w_p tok rfl rfl rfl ?_
  refine w_end ?_
  refine x_seq ?_
  refine c_block ?_
  obtain ⟨I1, μ1, H0, HI⟩ := H
  refine c_loop (σ := Slc × Int) (fun (s : Slc × Int) => [(7, Slc.v s.1), (12, .int .i64 s.2), (1, .int .i64 p1), (2, .int .i64 p2), (10, Slc.v p0), (11, .int .i64 (p0.len : Int))]) I1 μ1 ((⟨none, 0, 0⟩ : Slc), 0) H0 ⟨rfl, rfl, rfl, rfl, rfl, rfl, trivial⟩ ?_
  rintro ⟨t7_1, t12_1⟩ h_1 H
  replace H := HI t7_1 t12_1 h_1 H
  unfold piece_Between_l1b at H
  refine c_weak [(7, Slc.v t7_1), (12, .int .i64 t12_1), (1, .int .i64 p1), (2, .int .i64 p2), (10, Slc.v p0), (11, .int .i64 (p0.len : Int))] ⟨rfl, rfl, rfl, rfl, rfl, rfl, trivial⟩ ?_
  refine c_seq ?_
  refine c_region ?_
  refine w_p tok rfl rfl rfl ?_
  refine w_end ?_
  refine x_seq ?_
  refine c_seq ?_
  refine c_if H rfl (fun H => ?_) (fun H => ?_)
  ·
    refine c_skip ?_
    refine x_seq ?_
    refine c_seqJ (α := Slc) (fun (s : Slc) => [(7, Slc.v s), (1, .int .i64 p1), (2, .int .i64 p2), (10, Slc.v p0), (11, .int .i64 (p0.len : Int)), (12, .int .i64 t12_1)]) (fun (s : Slc) h => piece_Between_j2 p1 p2 p0 (p0.len : Int) t12_1 s k (fun s h' => I1 s h' ∧ μ1 s h' < μ1 (t7_1, t12_1) h_1) h) ?_ ?_
    ·
      rintro t7_2 h_2 H
      replace H : piece_Between_j2 p1 p2 p0 (p0.len : Int) t12_1 t7_2 k (fun s h' => I1 s h' ∧ μ1 s h' < μ1 (t7_1, t12_1) h_1) h_2 := H
      unfold piece_Between_j2 at H
      refine c_weak [(7, Slc.v t7_2), (1, .int .i64 p1), (2, .int .i64 p2), (10, Slc.v p0), (11, .int .i64 (p0.len : Int)), (12, .int .i64 t12_1)] ⟨rfl, rfl, rfl, rfl, rfl, rfl, trivial⟩ ?_
      refine c_region ?_
      refine w_p tok rfl rfl rfl ?_
      refine w_p tok rfl rfl rfl ?_
      refine w_end ?_
      exact x_join (t7_2, (IntKind.i64.wrap (t12_1 + 1))) H ⟨rfl, rfl, rfl, rfl, rfl, rfl, trivial⟩
    ·
      refine c_block ?_
      refine c_seq ?_
      refine c_region ?_
      obtain ⟨a1, ha1, la1, ua1, H⟩ := H
      refine w_y (y_ixa' tok rfl rfl ha1 rfl rfl rfl la1 ua1) rfl rfl ?_
      obtain ⟨v2, hv2, H⟩ := H
      refine w_y (y_lda tok rfl rfl rfl rfl rfl hv2) rfl rfl ?_
      obtain ⟨b3, h4, eb3, eh4, H⟩ := H
      refine w_h (h_alloc tok rfl rfl eb3 eh4) rfl rfl ?_
      obtain ⟨h5, wh5, eh5, H⟩ := H
      refine w_h (h_sts tok rfl rfl rfl rfl rfl (oneC (by kernel_rfl)) wh5 eh5) rfl rfl ?_
      refine w_end ?_
      refine x_seq ?_
      refine c_seq ?_
      refine c_region ?_
      refine w_p tok rfl rfl rfl ?_
      obtain ⟨v6, hv6, H⟩ := H
      refine w_y (y_ld tok rfl rfl rfl rfl hv6) rfl rfl ?_
      refine w_p tok rfl rfl rfl ?_
      refine w_p tok rfl rfl rfl ?_
      refine w_p tok rfl rfl rfl ?_
      refine w_cut 5 (α := Bool) (fun (s : Bool) => [(25, .bool s), (1, .int .i64 p1), (2, .int .i64 p2), (7, Slc.v t7_1), (9, .pointer (some (⟨b3, 0, none⟩ : Addr))), (10, Slc.v p0), (11, .int .i64 (p0.len : Int)), (12, .int .i64 t12_1)]) (fun (s : Bool) h => piece_Between_g3 p1 p2 t7_1 (⟨b3, 0, none⟩ : Addr) p0 (p0.len : Int) t12_1 s k (fun s h' => I1 s h' ∧ μ1 s h' < μ1 (t7_1, t12_1) h_1) h) ?_ ?_
      ·
        rintro t25_3 h_3 H
        replace H : piece_Between_g3 p1 p2 t7_1 (⟨b3, 0, none⟩ : Addr) p0 (p0.len : Int) t12_1 t25_3 k (fun s h' => I1 s h' ∧ μ1 s h' < μ1 (t7_1, t12_1) h_1) h_3 := H
        unfold piece_Between_g3 at H
        refine w_weak [(25, .bool t25_3), (1, .int .i64 p1), (2, .int .i64 p2), (7, Slc.v t7_1), (9, .pointer (some (⟨b3, 0, none⟩ : Addr))), (10, Slc.v p0), (11, .int .i64 (p0.len : Int)), (12, .int .i64 t12_1)] ⟨rfl, rfl, rfl, rfl, rfl, rfl, rfl, rfl, trivial⟩ ?_
        refine w_end ?_
        refine x_seq ?_
        refine c_if H rfl (fun H => ?_) (fun H => ?_)
        ·
          refine c_region ?_
          refine w_p tok rfl rfl rfl ?_
          obtain ⟨v7, hv7, H⟩ := H
          refine w_y (y_lda tok rfl rfl rfl rfl rfl hv7) rfl rfl ?_
          obtain ⟨b8, h9, eb8, eh9, H⟩ := H
          refine w_h (h_bs tok rfl rfl rfl rfl rfl rfl rfl eb8 eh9) rfl rfl ?_
          refine w_a (a_app (s := t7_1) (r := (⟨some ⟨b8, 0, none⟩, 1, 1⟩ : Slc)) tok rfl rfl rfl rfl rfl (slcAt_push eb8 eh9) H) rfl rfl ?_
          rintro _ h11 ⟨s10, rfl, H⟩
          refine w_p tok rfl rfl rfl ?_
          refine w_end ?_
          refine x_blk ?_
          exact x_join s10 H ⟨rfl, rfl, rfl, rfl, rfl, rfl, trivial⟩
        ·
          refine c_skip ?_
          refine x_blk ?_
          exact x_join t7_1 H ⟨rfl, rfl, rfl, rfl, rfl, rfl, trivial⟩
      ·
        refine w_gif (d := 20) H rfl (fun H => ?_) (fun H => ?_)
        ·
          refine w_p tok rfl rfl rfl ?_
          obtain ⟨v12, hv12, H⟩ := H
          refine w_y (y_ld tok rfl rfl rfl rfl hv12) rfl rfl ?_
          refine w_p tok rfl rfl rfl ?_
          refine w_p tok rfl rfl rfl ?_
          refine w_p tok rfl rfl rfl ?_
          exact w_jn (decide (v12 ≤ p2)) H ⟨rfl, rfl, rfl, rfl, rfl, rfl, rfl, rfl, trivial⟩
        ·
          refine w_skip rfl rfl ?_
          refine w_skip rfl rfl ?_
          refine w_skip rfl rfl ?_
          refine w_skip rfl rfl ?_
          refine w_p tok rfl rfl rfl ?_
          exact w_jn false H ⟨rfl, rfl, rfl, rfl, rfl, rfl, rfl, rfl, trivial⟩
  ·
    refine c_exit ?_
    refine x_te ?_
    refine x_te ?_
    refine x_bh ?_
    refine x_seq ?_
    refine c_seq ?_
    refine c_region ?_
    refine w_p tok rfl rfl rfl ?_
    refine w_p tok rfl rfl rfl ?_
    refine w_end ?_
    refine x_seq ?_
    refine c_weak [(6, Slc.v t7_1)] ⟨rfl, trivial⟩ ?_
    refine c_ret ?_
    exact x_ret _ rfl _ rfl ⟨t7_1, rfl, H⟩

theorem query_Ask_ok : CallOk Go.Proofs.Tryz.prog 37 := ⟨_, Go.Proofs.Tryz.func37, by kernel_rfl, by kernel_rfl⟩
theorem query_Ask_ref (p0 : S_api_Query) (p1 : Slc) (p2 : Int) (k : (Slc × Int) → Heap → Prop) (h : Heap) (H : query_Ask p0 p1 p2 k h) : CallsH Go.Proofs.Tryz.prog 37 #[.agg (S_api_Query.cs p0).toArray, Slc.v p1, .int .i64 p2] h (fun v h' => ∃ r : Slc × Int, v = .tuple #[Slc.v r.1, .int .i64 r.2] ∧ k r h') := by
  refine f_enter (N := 79) Go.Proofs.Tryz.func37 rfl rfl rfl (fun w0 => ?_)
  unfold query_Ask at H
  refine c_weak [(0, .agg (S_api_Query.cs p0).toArray), (1, Slc.v p1), (2, .int .i64 p2)] ⟨rfl, rfl, rfl, trivial⟩ ?_
  refine c_seq ?_
  refine c_region ?_
  obtain ⟨b1, h2, eb1, eh2, H⟩ := H
  refine w_h (h_box rfl rfl eb1 eh2) rfl rfl ?_
  refine w_p tok rfl rfl rfl ?_
  refine w_p tok rfl rfl rfl ?_
  refine w_end ?_
  refine x_seq ?_
  refine c_seq ?_
  refine c_seq ?_
  refine c_region ?_
  obtain ⟨v3, hv3, H⟩ := H
  refine w_y (y_lda tok rfl rfl rfl rfl rfl hv3) rfl rfl ?_
  refine w_call query_Check_ok (query_Check_ref _ _ _ H) rfl rfl rfl rfl ?_
  rintro _ h5 ⟨r4, rfl, H⟩
  refine w_p tok rfl rfl rfl ?_
  refine w_end ?_
  refine x_seq ?_
  refine c_seq ?_
  refine c_region ?_
  refine w_p tok rfl rfl rfl ?_
  refine w_p tok rfl rfl rfl ?_
  refine w_end ?_
  refine x_seq ?_
  refine c_if H rfl (fun H => ?_) (fun H => ?_)
  ·
    refine c_seq ?_
    refine c_region ?_
    refine w_p tok rfl rfl rfl ?_
    refine w_p tok rfl rfl rfl ?_
    refine w_p tok rfl rfl rfl ?_
    refine w_end ?_
    refine x_seq ?_
    refine c_weak [(6, Slc.v (⟨none, 0, 0⟩ : Slc)), (7, .int .i64 r4)] ⟨rfl, rfl, trivial⟩ ?_
    refine c_ret ?_
    refine x_tr ?_
    exact x_ret _ rfl _ rfl ⟨((⟨none, 0, 0⟩ : Slc), r4), rfl, H⟩
  ·
    refine c_skip ?_
    refine x_seq ?_
    refine c_weak [(1, Slc.v p1), (2, .int .i64 p2), (3, .pointer (some (⟨b1, 0, none⟩ : Addr)))] ⟨rfl, rfl, rfl, trivial⟩ ?_
    refine c_seq ?_
    refine c_region ?_
    refine w_p tok rfl rfl rfl ?_
    obtain ⟨v6, hv6, H⟩ := H
    refine w_y (y_ld tok rfl rfl rfl rfl hv6) rfl rfl ?_
    refine w_call label_Selector_ok (label_Selector_ref _ _ _ H) rfl rfl rfl rfl ?_
    rintro _ h8 ⟨r7, rfl, H⟩
    refine w_p tok rfl rfl rfl ?_
    refine w_p tok rfl rfl rfl ?_
    refine w_p tok rfl rfl rfl ?_
    obtain ⟨b9, h10, eb9, eh10, H⟩ := H
    refine w_h (h_alloc tok rfl rfl eb9 eh10) rfl rfl ?_
    obtain ⟨h11, wh11, eh11, H⟩ := H
    refine w_h (h_sts tok rfl rfl rfl rfl rfl (oneC (by kernel_rfl)) wh11 eh11) rfl rfl ?_
    refine w_p tok rfl rfl rfl ?_
    refine w_end ?_
    refine x_seq ?_
    refine c_weak [(1, Slc.v p1), (2, .int .i64 p2), (3, .pointer (some (⟨b1, 0, none⟩ : Addr))), (9, .pointer (some (⟨b9, 0, none⟩ : Addr)))] ⟨rfl, rfl, rfl, rfl, trivial⟩ ?_
    refine c_seq ?_
    refine c_region ?_
    obtain ⟨b12, h13, eb12, eh13, H⟩ := H
    refine w_h (h_mkm rfl eb12 eh13) rfl rfl ?_
    refine w_p tok rfl rfl rfl ?_
    refine w_end ?_
    refine x_seq ?_
    refine c_seq ?_
    refine c_region ?_
    refine w_p tok rfl rfl rfl ?_
    refine w_end ?_
    refine x_seq ?_
    refine c_seq ?_
    refine c_seq ?_
    refine c_sim [(1, Slc.v p1), (2, .int .i64 p2), (3, .pointer (some (⟨b1, 0, none⟩ : Addr))), (9, .pointer (some (⟨b9, 0, none⟩ : Addr))), (11, .map (some b12)), (12, Slc.v (⟨none, 0, 0⟩ : Slc))] (by kernel_rfl) (by kernel_rfl) ⟨rfl, rfl, rfl, rfl, rfl, rfl, trivial⟩ (fun wf => ?_)
    refine sim_p 0 (ei := [(1, Slc.v p1)]) (d := (some 31)) wf (by kernel_rfl) ⟨rfl, trivial⟩ (by kernel_rfl) (by kernel_rfl) (fun _ => pf_p tok rfl rfl rfl rfl) (fun P_0 => ?_)
    refine sim_p 3 (ei := [(3, .pointer (some (⟨b1, 0, none⟩ : Addr)))]) (d := (some 34)) wf (by kernel_rfl) ⟨rfl, trivial⟩ (by kernel_rfl) (by kernel_rfl) (fun _ => pf_p tok rfl rfl rfl rfl) (fun P_3 => ?_)
    obtain ⟨v14, hv14, H⟩ := H
    refine sim_l 4 (ei := [(34, .pointer (some ((⟨b1, 0, none⟩ : Addr).add 1)))]) (d := (some 35)) wf (by kernel_rfl) ⟨rfl, trivial⟩ (by kernel_rfl) (by kernel_rfl) (pf_y rfl rfl rfl (y_ld tok rfl rfl rfl rfl hv14)) (fun P_4 => ?_)
    refine sim_p 5 (ei := [(2, .int .i64 p2)]) (d := (some 36)) wf (by kernel_rfl) ⟨rfl, trivial⟩ (by kernel_rfl) (by kernel_rfl) (fun _ => pf_p tok rfl rfl rfl rfl) (fun P_5 => ?_)
    refine sim_p 6 (ei := [(35, .int .i64 v14), (36, .int .i64 p2)]) (d := (some 37)) wf (by kernel_rfl) ⟨rfl, rfl, trivial⟩ (by kernel_rfl) (by kernel_rfl) (fun _ => pf_p tok rfl rfl rfl rfl) (fun P_6 => ?_)
    refine sim_p 7 (ei := [(3, .pointer (some (⟨b1, 0, none⟩ : Addr)))]) (d := (some 38)) wf (by kernel_rfl) ⟨rfl, trivial⟩ (by kernel_rfl) (by kernel_rfl) (fun _ => pf_p tok rfl rfl rfl rfl) (fun P_7 => ?_)
    obtain ⟨v15, hv15, H⟩ := H
    refine sim_l 8 (ei := [(38, .pointer (some ((⟨b1, 0, none⟩ : Addr).add 2)))]) (d := (some 39)) wf (by kernel_rfl) ⟨rfl, trivial⟩ (by kernel_rfl) (by kernel_rfl) (pf_y rfl rfl rfl (y_ld tok rfl rfl rfl rfl hv15)) (fun P_8 => ?_)
    refine sim_p 11 (ei := []) (d := (some 42)) wf (by kernel_rfl) trivial (by kernel_rfl) (by kernel_rfl) (fun _ => pf_p tok rfl rfl rfl rfl) (fun P_11 => ?_)
    obtain ⟨b16, h17, eb16, eh17, H⟩ := H
    refine sim_h 1 [0] [0] (ei := [(31, Slc.v p1)]) wf ⟨P_11 _, P_8, P_7 _, P_6 _, P_5 _, P_4, P_3 _, P_0 _, trivial⟩ (by kernel_rfl) ⟨rfl, trivial⟩ (by kernel_rfl) rfl rfl rfl (h_bs tok rfl rfl rfl rfl rfl rfl rfl eb16 eh17) ?_
    obtain ⟨hy18, hy19, H⟩ := H
    refine sim_re (x := ⟨8, .int .i64 v15, [(38, .pointer (some ((⟨b1, 0, none⟩ : Addr).add 2)))]⟩) (pf_y rfl rfl rfl (y_ld tok rfl rfl rfl rfl hy18)) (fun P_8 => ?_)
    refine sim_re (x := ⟨4, .int .i64 v14, [(34, .pointer (some ((⟨b1, 0, none⟩ : Addr).add 1)))]⟩) (pf_y rfl rfl rfl (y_ld tok rfl rfl rfl rfl hy19)) (fun P_4 => ?_)
    refine sim_c 2 [0, 1] [0] (ei := [(32, Slc.v (⟨some ⟨b16, 0, none⟩, 1, 1⟩ : Slc))]) piece_Merge_ok (piece_Merge_ref _ _ _ H) wf ⟨P_11 _, P_8, P_7 _, P_6 _, P_5 _, P_4, P_3 _, trivial, trivial⟩ (by kernel_rfl) ⟨rfl, trivial⟩ (by kernel_rfl) rfl rfl rfl rfl rfl ?_
    rintro _ h21 ⟨r20, rfl, H⟩
    obtain ⟨hy22, hy23, H⟩ := H
    refine sim_re (x := ⟨8, .int .i64 v15, [(38, .pointer (some ((⟨b1, 0, none⟩ : Addr).add 2)))]⟩) (pf_y rfl rfl rfl (y_ld tok rfl rfl rfl rfl hy22)) (fun P_8 => ?_)
    refine sim_re (x := ⟨4, .int .i64 v14, [(34, .pointer (some ((⟨b1, 0, none⟩ : Addr).add 1)))]⟩) (pf_y rfl rfl rfl (y_ld tok rfl rfl rfl rfl hy23)) (fun P_4 => ?_)
    refine sim_c 9 [0, 1, 2, 3, 4, 5, 6, 7, 8] [0, 3, 4, 5, 6, 7, 8] (ei := [(33, Slc.v r20), (37, .int .i64 (if p2 > v14 then p2 else v14)), (39, .int .i64 v15)]) piece_Between_ok (piece_Between_ref _ _ _ _ _ H) wf ⟨P_11 _, P_8, P_7 _, P_6 _, P_5 _, P_4, P_3 _, trivial, trivial⟩ (by kernel_rfl) ⟨rfl, rfl, rfl, trivial⟩ (by kernel_rfl) rfl rfl rfl rfl rfl ?_
    rintro _ h25 ⟨r24, rfl, H⟩
    refine sim_p 10 (ei := [(40, Slc.v r24)]) (d := (some 41)) wf (by kernel_rfl) ⟨rfl, trivial⟩ (by kernel_rfl) (by kernel_rfl) (fun _ => pf_p tok rfl rfl rfl rfl) (fun P_10 => ?_)
    refine sim_end wf ⟨P_10 _, P_11 _, trivial, trivial, trivial, trivial, trivial, trivial, trivial, trivial⟩ (by kernel_rfl) ?_
    clear wf P_0 P_10 P_11 P_3 P_4 P_5 P_6 P_7 P_8
    refine x_seq ?_
    refine c_weak [(9, .pointer (some (⟨b9, 0, none⟩ : Addr))), (11, .map (some b12)), (12, Slc.v (⟨none, 0, 0⟩ : Slc)), (42, .int .i64 0), (40, Slc.v r24), (41, .int .i64 (r24.len : Int))] ⟨rfl, rfl, rfl, rfl, rfl, rfl, trivial⟩ ?_
    refine c_block ?_
    obtain ⟨I1, μ1, H0, HI⟩ := H
    refine c_loop (σ := Slc × Int) (fun (s : Slc × Int) => [(12, Slc.v s.1), (42, .int .i64 s.2), (9, .pointer (some (⟨b9, 0, none⟩ : Addr))), (11, .map (some b12)), (40, Slc.v r24), (41, .int .i64 (r24.len : Int))]) I1 μ1 ((⟨none, 0, 0⟩ : Slc), 0) H0 ⟨rfl, rfl, rfl, rfl, rfl, rfl, trivial⟩ ?_
    rintro ⟨t12_1, t42_1⟩ h_1 H
    replace H := HI t12_1 t42_1 h_1 H
    unfold query_Ask_l1b at H
    refine c_weak [(12, Slc.v t12_1), (42, .int .i64 t42_1), (9, .pointer (some (⟨b9, 0, none⟩ : Addr))), (11, .map (some b12)), (40, Slc.v r24), (41, .int .i64 (r24.len : Int))] ⟨rfl, rfl, rfl, rfl, rfl, rfl, trivial⟩ ?_
    refine c_seq ?_
    refine c_region ?_
    refine w_p tok rfl rfl rfl ?_
    refine w_end ?_
    refine x_seq ?_
    refine c_seq ?_
    refine c_if H rfl (fun H => ?_) (fun H => ?_)
    ·
      refine c_skip ?_
      refine x_seq ?_
      refine c_seqJ (α := Slc) (fun (s : Slc) => [(12, Slc.v s), (9, .pointer (some (⟨b9, 0, none⟩ : Addr))), (11, .map (some b12)), (40, Slc.v r24), (41, .int .i64 (r24.len : Int)), (42, .int .i64 t42_1)]) (fun (s : Slc) h => query_Ask_j2 (⟨b9, 0, none⟩ : Addr) b12 r24 (r24.len : Int) t42_1 s k (fun s h' => I1 s h' ∧ μ1 s h' < μ1 (t12_1, t42_1) h_1) h) ?_ ?_
      ·
        rintro t12_2 h_2 H
        replace H : query_Ask_j2 (⟨b9, 0, none⟩ : Addr) b12 r24 (r24.len : Int) t42_1 t12_2 k (fun s h' => I1 s h' ∧ μ1 s h' < μ1 (t12_1, t42_1) h_1) h_2 := H
        unfold query_Ask_j2 at H
        refine c_weak [(12, Slc.v t12_2), (9, .pointer (some (⟨b9, 0, none⟩ : Addr))), (11, .map (some b12)), (40, Slc.v r24), (41, .int .i64 (r24.len : Int)), (42, .int .i64 t42_1)] ⟨rfl, rfl, rfl, rfl, rfl, rfl, trivial⟩ ?_
        refine c_region ?_
        refine w_p tok rfl rfl rfl ?_
        refine w_p tok rfl rfl rfl ?_
        refine w_end ?_
        exact x_join (t12_2, (IntKind.i64.wrap (t42_1 + 1))) H ⟨rfl, rfl, rfl, rfl, rfl, rfl, trivial⟩
      ·
        refine c_block ?_
        refine c_seq ?_
        refine c_region ?_
        obtain ⟨a26, ha26, la26, ua26, H⟩ := H
        refine w_y (y_ixa' tok rfl rfl ha26 rfl rfl rfl la26 ua26) rfl rfl ?_
        obtain ⟨v27, hv27, H⟩ := H
        refine w_y (y_lda tok rfl rfl rfl rfl rfl hv27) rfl rfl ?_
        obtain ⟨b28, h29, eb28, eh29, H⟩ := H
        refine w_h (h_alloc tok rfl rfl eb28 eh29) rfl rfl ?_
        obtain ⟨h30, wh30, eh30, H⟩ := H
        refine w_h (h_sts tok rfl rfl rfl rfl rfl (oneC (by kernel_rfl)) wh30 eh30) rfl rfl ?_
        refine w_end ?_
        refine x_seq ?_
        refine c_seq ?_
        refine c_region ?_
        refine w_p tok rfl rfl rfl ?_
        refine w_p tok rfl rfl rfl ?_
        obtain ⟨v31, hv31, H⟩ := H
        refine w_y (y_ld tok rfl rfl rfl rfl hv31) rfl rfl ?_
        obtain ⟨l32, hl32, H⟩ := H
        refine w_y (y_lk2 (K := ByteArray) (V := Bool) (d := .string) (kf := Value.string) (vf := Value.bool) (kt := 9) (et := 4) (k := v31) (z := false) (m := (some b12)) (l := l32) rfl rfl rfl (by kernel_rfl) (by kernel_rfl) kStr (zero_1 tok (T := tab) rfl rfl rfl) hl32) rfl rfl ?_
        refine w_p tok rfl rfl rfl ?_
        refine w_p tok rfl rfl rfl ?_
        refine w_p tok rfl rfl rfl ?_
        refine w_p tok rfl rfl rfl ?_
        refine w_p tok rfl rfl rfl ?_
        refine w_end ?_
        refine x_seq ?_
        refine c_weak [(12, Slc.v t12_1), (42, .int .i64 t42_1), (9, .pointer (some (⟨b9, 0, none⟩ : Addr))), (11, .map (some b12)), (40, Slc.v r24), (41, .int .i64 (r24.len : Int)), (14, .pointer (some (⟨b28, 0, none⟩ : Addr))), (15, .bool ((mget l32 v31).getD false)), (16, .bool ((mget l32 v31).isSome))] ⟨rfl, rfl, rfl, rfl, rfl, rfl, rfl, rfl, rfl, trivial⟩ ?_
        refine c_seqJ (α := Bool) (fun (s : Bool) => [(15, .bool s), (9, .pointer (some (⟨b9, 0, none⟩ : Addr))), (11, .map (some b12)), (12, Slc.v t12_1), (14, .pointer (some (⟨b28, 0, none⟩ : Addr))), (40, Slc.v r24), (41, .int .i64 (r24.len : Int)), (42, .int .i64 t42_1)]) (fun (s : Bool) h => query_Ask_j3 (⟨b9, 0, none⟩ : Addr) b12 t12_1 (⟨b28, 0, none⟩ : Addr) r24 (r24.len : Int) t42_1 s k (fun s h' => I1 s h' ∧ μ1 s h' < μ1 (t12_1, t42_1) h_1) h) ?_ ?_
        ·
          rintro t15_3 h_3 H
          replace H : query_Ask_j3 (⟨b9, 0, none⟩ : Addr) b12 t12_1 (⟨b28, 0, none⟩ : Addr) r24 (r24.len : Int) t42_1 t15_3 k (fun s h' => I1 s h' ∧ μ1 s h' < μ1 (t12_1, t42_1) h_1) h_3 := H
          unfold query_Ask_j3 at H
          refine c_weak [(15, .bool t15_3), (9, .pointer (some (⟨b9, 0, none⟩ : Addr))), (11, .map (some b12)), (12, Slc.v t12_1), (14, .pointer (some (⟨b28, 0, none⟩ : Addr))), (40, Slc.v r24), (41, .int .i64 (r24.len : Int)), (42, .int .i64 t42_1)] ⟨rfl, rfl, rfl, rfl, rfl, rfl, rfl, rfl, trivial⟩ ?_
          refine c_seq ?_
          refine c_region ?_
          refine w_p tok rfl rfl rfl ?_
          refine w_end ?_
          refine x_seq ?_
          refine c_if H rfl (fun H => ?_) (fun H => ?_)
          ·
            refine c_region ?_
            refine w_p tok rfl rfl rfl ?_
            obtain ⟨v33, hv33, H⟩ := H
            refine w_y (y_lda tok rfl rfl rfl rfl rfl hv33) rfl rfl ?_
            obtain ⟨b34, h35, eb34, eh35, H⟩ := H
            refine w_h (h_bs tok rfl rfl rfl rfl rfl rfl rfl eb34 eh35) rfl rfl ?_
            refine w_a (a_app (s := t12_1) (r := (⟨some ⟨b34, 0, none⟩, 1, 1⟩ : Slc)) tok rfl rfl rfl rfl rfl (slcAt_push eb34 eh35) H) rfl rfl ?_
            rintro _ h37 ⟨s36, rfl, H⟩
            refine w_p tok rfl rfl rfl ?_
            refine w_end ?_
            refine x_blk ?_
            exact x_join s36 H ⟨rfl, rfl, rfl, rfl, rfl, rfl, trivial⟩
          ·
            refine c_skip ?_
            refine x_blk ?_
            exact x_join t12_1 H ⟨rfl, rfl, rfl, rfl, rfl, rfl, trivial⟩
        ·
          refine c_seq ?_
          refine c_region ?_
          refine w_p tok rfl rfl rfl ?_
          refine w_p tok rfl rfl rfl ?_
          refine w_end ?_
          refine x_seq ?_
          refine c_if H rfl (fun H => ?_) (fun H => ?_)
          ·
            refine c_seq ?_
            refine c_region ?_
            refine w_p tok rfl rfl rfl ?_
            obtain ⟨v38, hv38, H⟩ := H
            refine w_y (y_ld tok rfl rfl rfl rfl hv38) rfl rfl ?_
            exact H.elim
          ·
            refine c_skip ?_
            exact x_join ((mget l32 v31).getD false) H ⟨rfl, rfl, rfl, rfl, rfl, rfl, rfl, rfl, trivial⟩
    ·
      refine c_exit ?_
      refine x_te ?_
      refine x_te ?_
      refine x_bh ?_
      refine x_seq ?_
      refine c_seq ?_
      refine c_region ?_
      refine w_p tok rfl rfl rfl ?_
      refine w_p tok rfl rfl rfl ?_
      refine w_p tok rfl rfl rfl ?_
      refine w_end ?_
      refine x_seq ?_
      refine c_weak [(6, Slc.v t12_1), (7, .int .i64 0)] ⟨rfl, rfl, trivial⟩ ?_
      refine c_ret ?_
      exact x_ret _ rfl _ rfl ⟨(t12_1, 0), rfl, H⟩

theorem query_groups_ok : CallOk Go.Proofs.Tryz.prog 38 := ⟨_, Go.Proofs.Tryz.func38, by kernel_rfl, by kernel_rfl⟩
theorem query_groups_ref (p0 : Slc) (k : (Slc) → Heap → Prop) (h : Heap) (H : query_groups p0 k h) : CallsH Go.Proofs.Tryz.prog 38 #[Slc.v p0] h (fun v h' => ∃ r : Slc, v = Slc.v r ∧ k r h') := by
  refine f_enter (N := 38) Go.Proofs.Tryz.func38 rfl rfl rfl (fun w0 => ?_)
  unfold query_groups at H
  refine c_weak [(0, Slc.v p0)] ⟨rfl, trivial⟩ ?_
  refine c_seq ?_
  refine c_region ?_
  refine w_p tok rfl rfl rfl ?_
  refine w_end ?_
  refine x_seq ?_
  refine c_scope ?_
  refine c_seq ?_
  refine c_region ?_
  refine w_p tok rfl rfl rfl ?_
  refine w_end ?_
  refine x_seq ?_
  refine c_seq ?_
  refine c_label ?_
  refine x_seq ?_
  refine c_seq ?_
  refine c_block ?_
  obtain ⟨I1, μ1, H0, HI⟩ := H
  refine c_loop (σ := Slc × Slc) (fun (s : Slc × Slc) => [(0, Slc.v s.1), (3, Slc.v s.2)]) I1 μ1 (p0, (⟨none, 0, 0⟩ : Slc)) H0 ⟨rfl, rfl, trivial⟩ ?_
  rintro ⟨t0_1, t3_1⟩ h_1 H
  replace H := HI t0_1 t3_1 h_1 H
  unfold query_groups_l1b at H
  refine c_weak [(0, Slc.v t0_1), (3, Slc.v t3_1)] ⟨rfl, rfl, trivial⟩ ?_
  refine c_seq ?_
  refine c_seq ?_
  refine c_region ?_
  refine w_p tok rfl rfl rfl ?_
  refine w_p tok rfl rfl rfl ?_
  refine w_p tok rfl rfl rfl ?_
  refine w_end ?_
  refine x_seq ?_
  refine c_if H rfl (fun H => ?_) (fun H => ?_)
  ·
    refine c_skip ?_
    refine x_seq ?_
    refine c_block ?_
    refine c_seq ?_
    refine c_seq ?_
    refine c_region ?_
    refine w_p tok rfl rfl rfl ?_
    refine w_p tok rfl rfl rfl ?_
    refine w_p tok rfl rfl rfl ?_
    refine w_end ?_
    refine x_seq ?_
    refine c_block ?_
    obtain ⟨I2, μ2, H0, HI⟩ := H
    refine c_loop (σ := Slc × Slc × Int) (fun (s : Slc × Slc × Int) => [(0, Slc.v s.1), (3, Slc.v s.2.1), (11, .int .i64 s.2.2), (9, Slc.v t0_1), (10, .int .i64 (t0_1.len : Int))]) I2 μ2 (t0_1, t3_1, 0) H0 ⟨rfl, rfl, rfl, rfl, rfl, trivial⟩ ?_
    rintro ⟨t0_2, t3_2, t11_2⟩ h_2 H
    replace H := HI t0_2 t3_2 t11_2 h_2 H
    unfold query_groups_l2b at H
    refine c_weak [(0, Slc.v t0_2), (3, Slc.v t3_2), (11, .int .i64 t11_2), (9, Slc.v t0_1), (10, .int .i64 (t0_1.len : Int))] ⟨rfl, rfl, rfl, rfl, rfl, trivial⟩ ?_
    refine c_seq ?_
    refine c_region ?_
    refine w_p tok rfl rfl rfl ?_
    refine w_end ?_
    refine x_seq ?_
    refine c_seq ?_
    refine c_if H rfl (fun H => ?_) (fun H => ?_)
    ·
      refine c_skip ?_
      refine x_seq ?_
      refine c_seq ?_
      refine c_block ?_
      refine c_seq ?_
      refine c_region ?_
      refine w_p tok rfl rfl rfl ?_
      obtain ⟨a1, ha1, la1, ua1, H⟩ := H
      refine w_y (y_ixa' tok rfl rfl ha1 rfl rfl rfl la1 ua1) rfl rfl ?_
      obtain ⟨v2, hv2, H⟩ := H
      refine w_y (y_lda tok rfl rfl rfl rfl rfl hv2) rfl rfl ?_
      obtain ⟨b3, h4, eb3, eh4, H⟩ := H
      refine w_h (h_alloc tok rfl rfl eb3 eh4) rfl rfl ?_
      refine w_p tok rfl rfl rfl ?_
      obtain ⟨h5, wh5, eh5, H⟩ := H
      refine w_h (h_sts tok rfl rfl rfl rfl rfl (oneC (by kernel_rfl)) wh5 eh5) rfl rfl ?_
      refine w_end ?_
      refine x_seq ?_
      refine c_seq ?_
      refine c_draw (by kernel_rfl) (by kernel_rfl) ?_
      refine q_p tok rfl rfl rfl ?_
      obtain ⟨v6, hv6, H⟩ := H
      refine q_y (y_ld tok rfl rfl rfl rfl hv6) rfl rfl ?_
      refine q_p tok rfl rfl rfl ?_
      obtain ⟨a7, ha7, la7, ua7, H⟩ := H
      refine q_y (y_ixa' tok rfl rfl ha7 rfl rfl rfl la7 ua7) rfl rfl ?_
      refine q_p tok rfl rfl rfl ?_
      obtain ⟨v8, hv8, H⟩ := H
      refine q_y (y_ld tok rfl rfl rfl rfl hv8) rfl rfl ?_
      refine q_p tok rfl rfl rfl ?_
      refine q_end ?_
      refine x_seq ?_
      refine c_weak [(0, Slc.v t0_2), (3, Slc.v t3_2), (11, .int .i64 t11_2), (9, Slc.v t0_1), (10, .int .i64 (t0_1.len : Int)), (4, .int .i64 t11_2), (22, .bool (!(v6.toList == v8.toList)))] ⟨rfl, rfl, rfl, rfl, rfl, rfl, rfl, trivial⟩ ?_
      refine c_if H rfl (fun H => ?_) (fun H => ?_)
      ·
        refine c_seq ?_
        refine c_region ?_
        refine w_p tok rfl rfl rfl ?_
        refine w_p tok rfl rfl rfl ?_
        refine w_p tok rfl rfl rfl ?_
        obtain ⟨s9, ps9, qs9, rs9, ts9, es9, H⟩ := H
        refine w_ye (y_sl (s := t0_2) (L := 0) (H := t11_2) (M := (t0_2.cap : Int)) tok rfl rfl rfl rfl rfl rfl rfl (by simp) ps9 qs9 rs9 ts9) (congrArg Slc.v es9) rfl rfl ?_
        obtain ⟨b10, h11, eb10, eh11, H⟩ := H
        refine w_h (h_bs tok rfl rfl rfl rfl rfl rfl rfl eb10 eh11) rfl rfl ?_
        refine w_a (a_app (s := t3_2) (r := (⟨some ⟨b10, 0, none⟩, 1, 1⟩ : Slc)) tok rfl rfl rfl rfl rfl (slcAt_push eb10 eh11) H) rfl rfl ?_
        rintro _ h13 ⟨s12, rfl, H⟩
        refine w_p tok rfl rfl rfl ?_
        refine w_end ?_
        refine x_seq ?_
        refine c_weak [(0, Slc.v t0_2), (3, Slc.v s12), (4, .int .i64 t11_2)] ⟨rfl, rfl, rfl, trivial⟩ ?_
        refine c_seq ?_
        refine c_region ?_
        refine w_p tok rfl rfl rfl ?_
        refine w_p tok rfl rfl rfl ?_
        obtain ⟨s14, ps14, qs14, rs14, ts14, es14, H⟩ := H
        refine w_ye (y_sl (s := t0_2) (L := t11_2) (H := (t0_2.len : Int)) (M := (t0_2.cap : Int)) tok rfl rfl rfl rfl rfl rfl rfl (by simp) ps14 qs14 rs14 ts14) (congrArg Slc.v es14) rfl rfl ?_
        refine w_p tok rfl rfl rfl ?_
        refine w_end ?_
        refine x_seq ?_
        refine c_exit ?_
        refine x_bm rfl ?_
        refine x_te ?_
        refine x_te ?_
        refine x_bm rfl ?_
        refine x_te ?_
        refine x_bh ?_
        exact x_join (s14, s12) H ⟨rfl, rfl, trivial⟩
      ·
        refine c_skip ?_
        refine x_blk ?_
        refine x_seq ?_
        refine c_region ?_
        refine w_p tok rfl rfl rfl ?_
        refine w_p tok rfl rfl rfl ?_
        refine w_end ?_
        exact x_join (t0_2, t3_2, (IntKind.i64.wrap (t11_2 + 1))) H ⟨rfl, rfl, rfl, rfl, rfl, trivial⟩
    ·
      refine c_exit ?_
      refine x_te ?_
      refine x_te ?_
      refine x_bh ?_
      refine x_seq ?_
      refine c_seq ?_
      refine c_region ?_
      refine w_p tok rfl rfl rfl ?_
      refine w_p tok rfl rfl rfl ?_
      obtain ⟨b15, h16, eb15, eh16, H⟩ := H
      refine w_h (h_bs tok rfl rfl rfl rfl rfl rfl rfl eb15 eh16) rfl rfl ?_
      refine w_a (a_app (s := t3_2) (r := (⟨some ⟨b15, 0, none⟩, 1, 1⟩ : Slc)) tok rfl rfl rfl rfl rfl (slcAt_push eb15 eh16) H) rfl rfl ?_
      rintro _ h18 ⟨s17, rfl, H⟩
      refine w_p tok rfl rfl rfl ?_
      refine w_end ?_
      refine x_seq ?_
      refine c_weak [(2, Slc.v s17)] ⟨rfl, trivial⟩ ?_
      refine c_ret ?_
      refine x_br ?_
      refine x_tr ?_
      refine x_br ?_
      refine x_tr ?_
      refine x_sr ?_
      exact x_ret _ rfl _ rfl ⟨s17, rfl, H⟩
  ·
    refine c_exit ?_
    refine x_te ?_
    refine x_te ?_
    refine x_bh ?_
    refine x_seq ?_
    refine c_seq ?_
    refine c_region ?_
    refine w_p tok rfl rfl rfl ?_
    refine w_p tok rfl rfl rfl ?_
    refine w_end ?_
    refine x_seq ?_
    refine c_ret ?_
    refine x_sr ?_
    exact x_ret _ rfl _ rfl ⟨t3_1, rfl, H⟩

theorem query_Run_ok : CallOk Go.Proofs.Tryz.prog 21 := ⟨_, Go.Proofs.Tryz.func21, by kernel_rfl, by kernel_rfl⟩
theorem query_Run_ref (p0 : S_api_Query) (p1 : Slc) (p2 : Int) (k : (Slc × Int) → Heap → Prop) (h : Heap) (H : query_Run p0 p1 p2 k h) : CallsH Go.Proofs.Tryz.prog 21 #[.agg (S_api_Query.cs p0).toArray, Slc.v p1, .int .i64 p2] h (fun v h' => ∃ r : Slc × Int, v = .tuple #[Slc.v r.1, .int .i64 r.2] ∧ k r h') := by
  refine f_enter (N := 46) Go.Proofs.Tryz.func21 rfl rfl rfl (fun w0 => ?_)
  unfold query_Run at H
  refine c_weak [(0, .agg (S_api_Query.cs p0).toArray), (1, Slc.v p1), (2, .int .i64 p2)] ⟨rfl, rfl, rfl, trivial⟩ ?_
  refine c_seq ?_
  refine c_region ?_
  obtain ⟨b1, h2, eb1, eh2, H⟩ := H
  refine w_h (h_box rfl rfl eb1 eh2) rfl rfl ?_
  refine w_p tok rfl rfl rfl ?_
  refine w_p tok rfl rfl rfl ?_
  refine w_end ?_
  refine x_seq ?_
  refine c_seq ?_
  refine c_region ?_
  obtain ⟨v3, hv3, H⟩ := H
  refine w_y (y_lda tok rfl rfl rfl rfl rfl hv3) rfl rfl ?_
  refine w_p tok rfl rfl rfl ?_
  refine w_p tok rfl rfl rfl ?_
  refine w_call query_Ask_ok (query_Ask_ref _ _ _ _ _ H) rfl rfl rfl rfl ?_
  rintro _ h5 ⟨r4, rfl, H⟩
  refine w_p tok rfl rfl rfl ?_
  refine w_p tok rfl rfl rfl ?_
  refine w_p tok rfl rfl rfl ?_
  refine w_p tok rfl rfl rfl ?_
  refine w_p tok rfl rfl rfl ?_
  refine w_end ?_
  refine x_seq ?_
  refine c_weak [(3, .pointer (some (⟨b1, 0, none⟩ : Addr))), (8, Slc.v r4.1), (9, .int .i64 r4.2)] ⟨rfl, rfl, rfl, trivial⟩ ?_
  refine c_seq ?_
  refine c_seq ?_
  refine c_region ?_
  refine w_p tok rfl rfl rfl ?_
  refine w_p tok rfl rfl rfl ?_
  refine w_end ?_
  refine x_seq ?_
  refine c_if H rfl (fun H => ?_) (fun H => ?_)
  ·
    refine c_seq ?_
    refine c_region ?_
    refine w_p tok rfl rfl rfl ?_
    refine w_p tok rfl rfl rfl ?_
    refine w_p tok rfl rfl rfl ?_
    refine w_end ?_
    refine x_seq ?_
    refine c_ret ?_
    refine x_tr ?_
    exact x_ret _ rfl _ rfl ⟨((⟨none, 0, 0⟩ : Slc), r4.2), rfl, H⟩
  ·
    refine c_skip ?_
    refine x_seq ?_
    refine c_seq ?_
    refine c_region ?_
    refine w_p tok rfl rfl rfl ?_
    refine w_end ?_
    refine x_seq ?_
    refine c_seq ?_
    refine c_seq ?_
    refine c_region ?_
    refine w_p tok rfl rfl rfl ?_
    refine w_call query_groups_ok (query_groups_ref _ _ _ H) rfl rfl rfl rfl ?_
    rintro _ h7 ⟨r6, rfl, H⟩
    refine w_p tok rfl rfl rfl ?_
    refine w_p tok rfl rfl rfl ?_
    refine w_end ?_
    refine x_seq ?_
    refine c_block ?_
    obtain ⟨I1, μ1, H0, HI⟩ := H
    refine c_loop (σ := Slc × Int) (fun (s : Slc × Int) => [(10, Slc.v s.1), (28, .int .i64 s.2), (3, .pointer (some (⟨b1, 0, none⟩ : Addr))), (26, Slc.v r6), (27, .int .i64 (r6.len : Int))]) I1 μ1 ((⟨none, 0, 0⟩ : Slc), 0) H0 ⟨rfl, rfl, rfl, rfl, rfl, trivial⟩ ?_
    rintro ⟨t10_1, t28_1⟩ h_1 H
    replace H := HI t10_1 t28_1 h_1 H
    unfold query_Run_l1b at H
    refine c_weak [(10, Slc.v t10_1), (28, .int .i64 t28_1), (3, .pointer (some (⟨b1, 0, none⟩ : Addr))), (26, Slc.v r6), (27, .int .i64 (r6.len : Int))] ⟨rfl, rfl, rfl, rfl, rfl, trivial⟩ ?_
    refine c_seq ?_
    refine c_region ?_
    refine w_p tok rfl rfl rfl ?_
    refine w_end ?_
    refine x_seq ?_
    refine c_seq ?_
    refine c_if H rfl (fun H => ?_) (fun H => ?_)
    ·
      refine c_skip ?_
      refine x_seq ?_
      refine c_seq ?_
      refine c_block ?_
      refine c_seq ?_
      refine c_region ?_
      obtain ⟨a8, ha8, la8, ua8, H⟩ := H
      refine w_y (y_ixa' tok rfl rfl ha8 rfl rfl rfl la8 ua8) rfl rfl ?_
      obtain ⟨v9, hv9, H⟩ := H
      refine w_y (y_ld tok rfl rfl rfl rfl hv9) rfl rfl ?_
      refine w_p tok rfl rfl rfl ?_
      refine w_end ?_
      refine x_seq ?_
      refine c_seq ?_
      refine c_region ?_
      obtain ⟨v10, hv10, H⟩ := H
      refine w_y (y_lda tok rfl rfl rfl rfl rfl hv10) rfl rfl ?_
      refine w_p tok rfl rfl rfl ?_
      exact H.elim
    ·
      refine c_exit ?_
      refine x_te ?_
      refine x_te ?_
      refine x_bh ?_
      refine x_seq ?_
      refine c_seq ?_
      refine c_region ?_
      refine w_p tok rfl rfl rfl ?_
      refine w_p tok rfl rfl rfl ?_
      refine w_p tok rfl rfl rfl ?_
      refine w_end ?_
      refine x_seq ?_
      refine c_weak [(6, Slc.v t10_1), (7, .int .i64 0)] ⟨rfl, rfl, trivial⟩ ?_
      refine c_ret ?_
      exact x_ret _ rfl _ rfl ⟨(t10_1, 0), rfl, H⟩
end Go.Q.Yc

/- A part of the proof of statements of this seat: lemmas, no statement of their own. -/
import Derived.Test.YtcmbgfmbmbgbiaaYbTab
import Derived.Test.YtcmbgfmbmbgbiaaYbRg3
set_option linter.unusedVariables false
set_option maxRecDepth 100000
set_option maxHeartbeats 1000000
namespace Go.Q.Yb
/-- quaestor quaestorref01.Short -/
def ref01_Short_l1b (t0_1 : Int) (t3_1 : Slc) (k : (Slc) → Heap → Prop) (nx1 : (Int × Slc) → Heap → Prop) (h_1 : Heap) : Prop :=
  if (decide (t0_1 ≥ 128)) then (∃ (b1 : Nat) (h2 : Heap), b1 = h_1.size ∧ h2 = h_1.push (.cells ([.int .u8 (IntKind.u8.wrap ((IntKind.u8.wrap (Int.tmod t0_1 128)) + 128))]).toArray 5) ∧ (App 5 1 1 [.int .u8 0] h2 t3_1 1 ([.int .u8 (IntKind.u8.wrap ((IntKind.u8.wrap (Int.tmod t0_1 128)) + 128))]) (fun s3 h4 => ∃ x5 : Int, x5 = (IntKind.u64.wrap (Int.tdiv t0_1 128)) ∧ (nx1 (x5, s3) h4)))) else (∃ (b6 : Nat) (h7 : Heap), b6 = h_1.size ∧ h7 = h_1.push (.cells ([.int .u8 (IntKind.u8.wrap t0_1)]).toArray 5) ∧ (App 5 1 1 [.int .u8 0] h7 t3_1 1 ([.int .u8 (IntKind.u8.wrap t0_1)]) (fun s8 h9 => k s8 h9)))
def ref01_Short_l1 (i0 : Int) (i3 : Slc) (k : (Slc) → Heap → Prop) (h : Heap) : Prop :=
  ∃ (I : (Int × Slc) → Heap → Prop) (μ : (Int × Slc) → Heap → Nat), I (i0, i3) h ∧ ∀ (t0_1 : Int) (t3_1 : Slc) (h : Heap), I (t0_1, t3_1) h → ref01_Short_l1b t0_1 t3_1 k (fun s h' => I s h' ∧ μ s h' < μ (t0_1, t3_1) h) h
def ref01_Short (p0 : Int) (k : (Slc) → Heap → Prop) (h : Heap) : Prop :=
  ref01_Short_l1 p0 (⟨none, 0, 0⟩ : Slc) k h

/-- quaestor quaestorref01.Form -/
def ref01_Form_l1b (t1_1 : Int) (t0_1 : Int) (t5_1 : Slc) (t6_1 : Int) (k : (Slc) → Heap → Prop) (nx1 : (Int × Slc × Int) → Heap → Prop) (h_1 : Heap) : Prop :=
  if (decide (t6_1 < t1_1)) then (∃ (b1 : Nat) (h2 : Heap), b1 = h_1.size ∧ h2 = h_1.push (.cells ([.int .u8 (IntKind.u8.wrap (Int.tmod t0_1 256))]).toArray 5) ∧ (App 5 1 1 [.int .u8 0] h2 t5_1 1 ([.int .u8 (IntKind.u8.wrap (Int.tmod t0_1 256))]) (fun s3 h4 => ∃ x5 : Int, x5 = (IntKind.u64.wrap (Int.tdiv t0_1 256)) ∧ (∃ x6 : Int, x6 = (IntKind.i64.wrap (t6_1 + 1)) ∧ (nx1 (x5, s3, x6) h4))))) else (k t5_1 h_1)
def ref01_Form_l1 (t1_1 : Int) (i0 : Int) (i5 : Slc) (i6 : Int) (k : (Slc) → Heap → Prop) (h : Heap) : Prop :=
  ∃ (I : (Int × Slc × Int) → Heap → Prop) (μ : (Int × Slc × Int) → Heap → Nat), I (i0, i5, i6) h ∧ ∀ (t0_1 : Int) (t5_1 : Slc) (t6_1 : Int) (h : Heap), I (t0_1, t5_1, t6_1) h → ref01_Form_l1b t1_1 t0_1 t5_1 t6_1 k (fun s h' => I s h' ∧ μ s h' < μ (t0_1, t5_1, t6_1) h) h
def ref01_Form (p0 : Int) (p1 : Int) (k : (Slc) → Heap → Prop) (h : Heap) : Prop :=
  ref01_Form_l1 p1 p0 (⟨none, 0, 0⟩ : Slc) 0 k h

/-- quaestor quaestorref01.Zig -/
def ref01_Zig (p0 : Int) (k : (Int) → Heap → Prop) (h : Heap) : Prop :=
  if (decide (p0 ≥ 0)) then (∃ x1 : Int, x1 = (IntKind.u64.wrap ((IntKind.u64.wrap p0) * 2)) ∧ (k x1 h)) else (∃ x2 : Int, x2 = (IntKind.u64.wrap ((IntKind.u64.wrap ((IntKind.u64.wrap (0 - (IntKind.u64.wrap p0))) * 2)) - 1)) ∧ (k x2 h))

/-- quaestor quaestorref16.Name -/
def ref16_Name_l1b (t0_1 : ByteArray) (t3_1 : Int) (k : (Bool) → Heap → Prop) (nx1 : (Int) → Heap → Prop) (h_1 : Heap) : Prop :=
  if (decide (t3_1 < (t0_1.size : Int))) then (∃ v1 : Int, (0 : Int) ≤ t3_1 ∧ StrAt t0_1 t3_1 v1 ∧ (if (((!((decide (v1 ≥ 97)) && (decide (v1 ≤ 122)))) && (!((decide (v1 ≥ 48)) && (decide (v1 ≤ 57))))) && (v1 != 45)) then (k false h_1) else (∃ x2 : Int, x2 = (IntKind.i64.wrap (t3_1 + 1)) ∧ (nx1 x2 h_1)))) else (k ((decide ((t0_1.size : Int) ≥ 1)) && (decide ((t0_1.size : Int) ≤ 24))) h_1)
def ref16_Name_l1 (t0_1 : ByteArray) (i3 : Int) (k : (Bool) → Heap → Prop) (h : Heap) : Prop :=
  ∃ (I : Int → Heap → Prop) (μ : Int → Heap → Nat), I i3 h ∧ ∀ (t3_1 : Int) (h : Heap), I t3_1 h → ref16_Name_l1b t0_1 t3_1 k (fun s h' => I s h' ∧ μ s h' < μ t3_1 h) h
def ref16_Name (p0 : ByteArray) (k : (Bool) → Heap → Prop) (h : Heap) : Prop :=
  ref16_Name_l1 p0 0 k h

/-- (*quaestor quaestorref25.Reg).find -/
def ref25_Reg_find_l1b (t0_1 : Option Addr) (t1_1 : ByteArray) (t5_1 : Int) (k : (Int) → Heap → Prop) (nx1 : (Int) → Heap → Prop) (h_1 : Heap) : Prop :=
  ∃ a1 : Addr, t0_1 = some a1 ∧ (∃ v2 : Slc, cellH h_1 a1 = some (Slc.v v2) ∧ (if (decide (t5_1 < (v2.len : Int))) then (∃ v3 : Slc, cellH h_1 a1 = some (Slc.v v3) ∧ (∃ a4 : Addr, v3.a = some a4 ∧ (0 : Int) ≤ t5_1 ∧ t5_1 < (v3.len : Int) ∧ (∃ v5 : ByteArray, cellH h_1 (a4.add (t5_1.toNat * 4)) = some (.string v5) ∧ (if (v5.toList == t1_1.toList) then (k t5_1 h_1) else (∃ x6 : Int, x6 = (IntKind.i64.wrap (t5_1 + 1)) ∧ (nx1 x6 h_1)))))) else (∃ x7 : Int, x7 = (-1) ∧ (k x7 h_1))))
def ref25_Reg_find_l1 (t0_1 : Option Addr) (t1_1 : ByteArray) (i5 : Int) (k : (Int) → Heap → Prop) (h : Heap) : Prop :=
  ∃ (I : Int → Heap → Prop) (μ : Int → Heap → Nat), I i5 h ∧ ∀ (t5_1 : Int) (h : Heap), I t5_1 h → ref25_Reg_find_l1b t0_1 t1_1 t5_1 k (fun s h' => I s h' ∧ μ s h' < μ t5_1 h) h
def ref25_Reg_find (p0 : Option Addr) (p1 : ByteArray) (k : (Int) → Heap → Prop) (h : Heap) : Prop :=
  ref25_Reg_find_l1 p0 p1 0 k h

/-- (*quaestor quaestorref25.Reg).Epoch -/
def ref25_Reg_Epoch_g1 (t0_1 : Option Addr) (t5_1 : Int) (t22_1 : Bool) (k : (Int) → Heap → Prop) (h_1 : Heap) : Prop :=
  if t22_1 then (k 0 h_1) else (∃ a3 : Addr, t0_1 = some a3 ∧ (∃ v4 : Slc, cellH h_1 a3 = some (Slc.v v4) ∧ (∃ a5 : Addr, v4.a = some a5 ∧ (0 : Int) ≤ t5_1 ∧ t5_1 < (v4.len : Int) ∧ (∃ v6 : Slc, cellH h_1 ((a5.add (t5_1.toNat * 4)).add 1) = some (Slc.v v6) ∧ (∃ v7 : Slc, cellH h_1 a3 = some (Slc.v v7) ∧ (∃ a8 : Addr, v7.a = some a8 ∧ (0 : Int) ≤ t5_1 ∧ t5_1 < (v7.len : Int) ∧ (∃ v9 : Slc, cellH h_1 ((a8.add (t5_1.toNat * 4)).add 1) = some (Slc.v v9) ∧ (∃ a10 : Addr, v6.a = some a10 ∧ (0 : Int) ≤ (IntKind.i64.wrap ((v9.len : Int) - 1)) ∧ (IntKind.i64.wrap ((v9.len : Int) - 1)) < (v6.len : Int) ∧ (∃ v11 : Int, cellH h_1 (a10.add ((IntKind.i64.wrap ((v9.len : Int) - 1)).toNat * 14)) = some (.int .u32 v11) ∧ (k v11 h_1))))))))))
def ref25_Reg_Epoch (p0 : Option Addr) (p1 : ByteArray) (k : (Int) → Heap → Prop) (h : Heap) : Prop :=
  ref25_Reg_find p0 p1 (fun (r1 : Int) h2 => if (decide (r1 < 0)) then (ref25_Reg_Epoch_g1 p0 r1 true k h2) else (∃ a12 : Addr, p0 = some a12 ∧ (∃ v13 : Slc, cellH h2 a12 = some (Slc.v v13) ∧ (∃ a14 : Addr, v13.a = some a14 ∧ (0 : Int) ≤ r1 ∧ r1 < (v13.len : Int) ∧ (∃ v15 : Slc, cellH h2 ((a14.add (r1.toNat * 4)).add 1) = some (Slc.v v15) ∧ (ref25_Reg_Epoch_g1 p0 r1 ((v15.len : Int) == 0) k h2)))))) h

/-- (*quaestor quaestorref25.Reg).Apply -/
def ref25_Reg_Apply_g5 (t0_5 : Option Addr) (t3_5 : Addr) (t8_5 : Addr) (t9_5 : Slc) (t10_5 : Int) (t106_5 : Bool) (k : (Int) → Heap → Prop) (nx4 : (Slc × Int) → Heap → Prop) (h_5 : Heap) : Prop :=
  if t106_5 then (∃ a30 : Addr, t0_5 = some a30 ∧ (∃ v31 : Slc, cellH h_5 a30 = some (Slc.v v31) ∧ (∃ a32 : Addr, v31.a = some a32 ∧ (0 : Int) ≤ t10_5 ∧ t10_5 < (v31.len : Int) ∧ (∃ v33 : S_api_Tenant, CellsAt h_5 (a32.add (t10_5.toNat * 4)) (S_api_Tenant.cs v33) ∧ (∃ (b34 : Nat) (h35 : Heap), b34 = h_5.size ∧ h35 = h_5.push (.cells ((S_api_Tenant.cs v33)).toArray 130) ∧ (App 130 4 56 [.string ByteArray.empty, .slice none 0 0, .int .i64 0, .bool false] h35 t9_5 1 ((S_api_Tenant.cs v33)) (fun s36 h37 => ∃ x38 : Int, x38 = (IntKind.i64.wrap (t10_5 + 1)) ∧ (nx4 (s36, x38) h37)))))))) else (∃ x39 : Int, x39 = (t9_5.len : Int) ∧ (∃ v40 : S_api_Tenant, CellsAt h_5 t8_5 (S_api_Tenant.cs v40) ∧ (∃ (b41 : Nat) (h42 : Heap), b41 = h_5.size ∧ h42 = h_5.push (.cells ((S_api_Tenant.cs v40)).toArray 130) ∧ (App 130 4 56 [.string ByteArray.empty, .slice none 0 0, .int .i64 0, .bool false] h42 t9_5 1 ((S_api_Tenant.cs v40)) (fun s43 h44 => ∃ a45 : Addr, t0_5 = some a45 ∧ (∃ v46 : Slc, cellH h44 a45 = some (Slc.v v46) ∧ (∃ s47 : Slc, (0 : Int) ≤ x39 ∧ (x39 : Int) ≤ (v46.len : Int) ∧ ((v46.len : Int) : Int) ≤ (v46.cap : Int) ∧ (v46.cap : Int) ≤ (v46.cap : Int) ∧ s47 = subS v46 4 x39.toNat (v46.len : Int).toNat (v46.cap : Int).toNat ∧ (∃ l50 : List Value, SlcAt h44 s47 l50 ∧ App 130 4 56 [.string ByteArray.empty, .slice none 0 0, .int .i64 0, .bool false] h44 s43 s47.len l50 (fun s48 h49 => ∃ h51 : Heap, WrH h49 a45 ∧ h51 = setH h49 a45 (Slc.v s48) ∧ (k 0 h51))))))))))
def ref25_Reg_Apply_l4b (t0_4 : Option Addr) (t3_4 : Addr) (t8_4 : Addr) (t9_4 : Slc) (t10_4 : Int) (k : (Int) → Heap → Prop) (nx4 : (Slc × Int) → Heap → Prop) (h_4 : Heap) : Prop :=
  ∃ a28 : Addr, t0_4 = some a28 ∧ (∃ v29 : Slc, cellH h_4 a28 = some (Slc.v v29) ∧ (if (decide (t10_4 < (v29.len : Int))) then (∃ v52 : Slc, cellH h_4 a28 = some (Slc.v v52) ∧ (∃ a53 : Addr, v52.a = some a53 ∧ (0 : Int) ≤ t10_4 ∧ t10_4 < (v52.len : Int) ∧ (∃ v54 : ByteArray, cellH h_4 (a53.add (t10_4.toNat * 4)) = some (.string v54) ∧ (∃ v55 : ByteArray, cellH h_4 (t3_4.add 1) = some (.string v55) ∧ (ref25_Reg_Apply_g5 t0_4 t3_4 t8_4 t9_4 t10_4 (Op.bytesLess v54.toList v55.toList) k nx4 h_4))))) else (ref25_Reg_Apply_g5 t0_4 t3_4 t8_4 t9_4 t10_4 false k nx4 h_4)))
def ref25_Reg_Apply_l4 (t0_4 : Option Addr) (t3_4 : Addr) (t8_4 : Addr) (i9 : Slc) (i10 : Int) (k : (Int) → Heap → Prop) (h : Heap) : Prop :=
  ∃ (I : (Slc × Int) → Heap → Prop) (μ : (Slc × Int) → Heap → Nat), I (i9, i10) h ∧ ∀ (t9_4 : Slc) (t10_4 : Int) (h : Heap), I (t9_4, t10_4) h → ref25_Reg_Apply_l4b t0_4 t3_4 t8_4 t9_4 t10_4 k (fun s h' => I s h' ∧ μ s h' < μ (t9_4, t10_4) h) h
def ref25_Reg_Apply_j7 (t0_7 : Option Addr) (t5_7 : Int) (t12_7 : Addr) (k : (Int) → Heap → Prop) (h_7 : Heap) : Prop :=
  ∃ a64 : Addr, t0_7 = some a64 ∧ (∃ v65 : Slc, cellH h_7 a64 = some (Slc.v v65) ∧ (∃ v66 : S_api_Tenant, CellsAt h_7 t12_7 (S_api_Tenant.cs v66) ∧ (∃ a67 : Addr, v65.a = some a67 ∧ (0 : Int) ≤ t5_7 ∧ t5_7 < (v65.len : Int) ∧ (∃ h68 : Heap, WrsAt h_7 (a67.add (t5_7.toNat * 4)) 4 ∧ h68 = setsH h_7 (a67.add (t5_7.toNat * 4)) 0 (S_api_Tenant.cs v66) ∧ (k 0 h68)))))
def ref25_Reg_Apply_g8 (t0_8 : Option Addr) (t5_8 : Int) (t7_8 : Addr) (t12_8 : Addr) (t164_8 : Bool) (k : (Int) → Heap → Prop) (h_8 : Heap) : Prop :=
  if t164_8 then (k 13 h_8) else (∃ v70 : Slc, cellH h_8 (t12_8.add 1) = some (Slc.v v70) ∧ (∃ v71 : S_api_Wrapped, CellsAt h_8 t7_8 (S_api_Wrapped.cs v71) ∧ ((∃ (b72 : Nat) (h73 : Heap), b72 = h_8.size ∧ h73 = h_8.push (.cells ([]).toArray 132) ∧ (CellsAt h73 t7_8 (S_api_Wrapped.cs v71) ∧ cellH h73 (t12_8.add 1) = some (Slc.v v70) ∧ ((∃ l78 : List Value, SlcAt h73 v70 l78 ∧ App 132 14 40 [.int .u32 0, .int .u8 0, .int .u8 0, .int .u8 0, .int .u8 0, .int .u8 0, .int .u8 0, .int .u8 0, .int .u8 0, .int .u8 0, .int .u8 0, .int .u8 0, .int .u8 0, .slice none 0 0] h73 (⟨some ⟨b72, 0, none⟩, 0, 0⟩ : Slc) v70.len l78 (fun s76 h77 => CellsAt h77 t7_8 (S_api_Wrapped.cs v71) ∧ (∃ (b80 : Nat) (h81 : Heap), b80 = h77.size ∧ h81 = h77.push (.cells ((S_api_Wrapped.cs v71)).toArray 132) ∧ (App 132 14 40 [.int .u32 0, .int .u8 0, .int .u8 0, .int .u8 0, .int .u8 0, .int .u8 0, .int .u8 0, .int .u8 0, .int .u8 0, .int .u8 0, .int .u8 0, .int .u8 0, .int .u8 0, .slice none 0 0] h81 s76 1 ((S_api_Wrapped.cs v71)) (fun s82 h83 => ∃ h84 : Heap, WrH h83 (t12_8.add 1) ∧ h84 = setH h83 (t12_8.add 1) (Slc.v s82) ∧ (ref25_Reg_Apply_j7 t0_8 t5_8 t12_8 k h84)))))) ∧ (∃ (b85 : Nat) (h86 : Heap), b85 = h73.size ∧ h86 = h73.push (.cells ((S_api_Wrapped.cs v71)).toArray 132) ∧ (cellH h86 (t12_8.add 1) = some (Slc.v v70) ∧ (∃ l90 : List Value, SlcAt h86 v70 l90 ∧ App 132 14 40 [.int .u32 0, .int .u8 0, .int .u8 0, .int .u8 0, .int .u8 0, .int .u8 0, .int .u8 0, .int .u8 0, .int .u8 0, .int .u8 0, .int .u8 0, .int .u8 0, .int .u8 0, .slice none 0 0] h86 (⟨some ⟨b72, 0, none⟩, 0, 0⟩ : Slc) v70.len l90 (fun s88 h89 => ∃ l93 : List Value, SlcAt h89 (⟨some ⟨b85, 0, none⟩, 1, 1⟩ : Slc) l93 ∧ App 132 14 40 [.int .u32 0, .int .u8 0, .int .u8 0, .int .u8 0, .int .u8 0, .int .u8 0, .int .u8 0, .int .u8 0, .int .u8 0, .int .u8 0, .int .u8 0, .int .u8 0, .int .u8 0, .slice none 0 0] h89 s88 (⟨some ⟨b85, 0, none⟩, 1, 1⟩ : Slc).len l93 (fun s91 h92 => ∃ h94 : Heap, WrH h92 (t12_8.add 1) ∧ h94 = setH h92 (t12_8.add 1) (Slc.v s91) ∧ (ref25_Reg_Apply_j7 t0_8 t5_8 t12_8 k h94))))))))) ∧ (∃ (b95 : Nat) (h96 : Heap), b95 = h_8.size ∧ h96 = h_8.push (.cells ((S_api_Wrapped.cs v71)).toArray 132) ∧ (cellH h96 (t12_8.add 1) = some (Slc.v v70) ∧ (∃ (b98 : Nat) (h99 : Heap), b98 = h96.size ∧ h99 = h96.push (.cells ([]).toArray 132) ∧ (cellH h99 (t12_8.add 1) = some (Slc.v v70) ∧ (∃ l103 : List Value, SlcAt h99 v70 l103 ∧ App 132 14 40 [.int .u32 0, .int .u8 0, .int .u8 0, .int .u8 0, .int .u8 0, .int .u8 0, .int .u8 0, .int .u8 0, .int .u8 0, .int .u8 0, .int .u8 0, .int .u8 0, .int .u8 0, .slice none 0 0] h99 (⟨some ⟨b98, 0, none⟩, 0, 0⟩ : Slc) v70.len l103 (fun s101 h102 => ∃ l106 : List Value, SlcAt h102 (⟨some ⟨b95, 0, none⟩, 1, 1⟩ : Slc) l106 ∧ App 132 14 40 [.int .u32 0, .int .u8 0, .int .u8 0, .int .u8 0, .int .u8 0, .int .u8 0, .int .u8 0, .int .u8 0, .int .u8 0, .int .u8 0, .int .u8 0, .int .u8 0, .int .u8 0, .slice none 0 0] h102 s101 (⟨some ⟨b95, 0, none⟩, 1, 1⟩ : Slc).len l106 (fun s104 h105 => ∃ h107 : Heap, WrH h105 (t12_8.add 1) ∧ h107 = setH h105 (t12_8.add 1) (Slc.v s104) ∧ (ref25_Reg_Apply_j7 t0_8 t5_8 t12_8 k h107)))))))))))
def ref25_Reg_Apply_j10 (t0_10 : Option Addr) (t3_10 : Addr) (t5_10 : Int) (t12_10 : Addr) (t14_10 : Int) (t13_10 : Slc) (k : (Int) → Heap → Prop) (nx9 : (Slc × Int) → Heap → Prop) (h_10 : Heap) : Prop :=
  ∃ x111 : Int, x111 = (IntKind.i64.wrap (t14_10 + 1)) ∧ (nx9 (t13_10, x111) h_10)
def ref25_Reg_Apply_l9b (t0_9 : Option Addr) (t3_9 : Addr) (t5_9 : Int) (t12_9 : Addr) (t13_9 : Slc) (t14_9 : Int) (k : (Int) → Heap → Prop) (nx9 : (Slc × Int) → Heap → Prop) (h_9 : Heap) : Prop :=
  ∃ v110 : Slc, cellH h_9 (t12_9.add 1) = some (Slc.v v110) ∧ (if (decide (t14_9 < (v110.len : Int))) then (∃ v112 : Slc, cellH h_9 (t12_9.add 1) = some (Slc.v v112) ∧ (∃ a113 : Addr, v112.a = some a113 ∧ (0 : Int) ≤ t14_9 ∧ t14_9 < (v112.len : Int) ∧ (∃ v114 : Int, cellH h_9 (a113.add (t14_9.toNat * 14)) = some (.int .u32 v114) ∧ (∃ v115 : Int, cellH h_9 (t3_9.add 2) = some (.int .u32 v115) ∧ (if (decide (v114 ≥ v115)) then (∃ v116 : Slc, cellH h_9 (t12_9.add 1) = some (Slc.v v116) ∧ (∃ a117 : Addr, v116.a = some a117 ∧ (0 : Int) ≤ t14_9 ∧ t14_9 < (v116.len : Int) ∧ (∃ v118 : S_api_Wrapped, CellsAt h_9 (a117.add (t14_9.toNat * 14)) (S_api_Wrapped.cs v118) ∧ (∃ (b119 : Nat) (h120 : Heap), b119 = h_9.size ∧ h120 = h_9.push (.cells ((S_api_Wrapped.cs v118)).toArray 132) ∧ (App 132 14 40 [.int .u32 0, .int .u8 0, .int .u8 0, .int .u8 0, .int .u8 0, .int .u8 0, .int .u8 0, .int .u8 0, .int .u8 0, .int .u8 0, .int .u8 0, .int .u8 0, .int .u8 0, .slice none 0 0] h120 t13_9 1 ((S_api_Wrapped.cs v118)) (fun s121 h122 => ref25_Reg_Apply_j10 t0_9 t3_9 t5_9 t12_9 t14_9 s121 k nx9 h122)))))) else (ref25_Reg_Apply_j10 t0_9 t3_9 t5_9 t12_9 t14_9 t13_9 k nx9 h_9)))))) else (∃ h123 : Heap, WrH h_9 (t12_9.add 1) ∧ h123 = setH h_9 (t12_9.add 1) (Slc.v t13_9) ∧ (ref25_Reg_Apply_j7 t0_9 t5_9 t12_9 k h123)))
def ref25_Reg_Apply_l9 (t0_9 : Option Addr) (t3_9 : Addr) (t5_9 : Int) (t12_9 : Addr) (i13 : Slc) (i14 : Int) (k : (Int) → Heap → Prop) (h : Heap) : Prop :=
  ∃ (I : (Slc × Int) → Heap → Prop) (μ : (Slc × Int) → Heap → Nat), I (i13, i14) h ∧ ∀ (t13_9 : Slc) (t14_9 : Int) (h : Heap), I (t13_9, t14_9) h → ref25_Reg_Apply_l9b t0_9 t3_9 t5_9 t12_9 t13_9 t14_9 k (fun s h' => I s h' ∧ μ s h' < μ (t13_9, t14_9) h) h
def ref25_Reg_Apply_g6 (t0_6 : Option Addr) (t3_6 : Addr) (t5_6 : Int) (t6_6 : Int) (t7_6 : Addr) (t12_6 : Addr) (t151_6 : Bool) (k : (Int) → Heap → Prop) (h_6 : Heap) : Prop :=
  if t151_6 then (k 17 h_6) else (∃ v69 : Int, cellH h_6 t3_6 = some (.int .i64 v69) ∧ (if (v69 == 2) then (if (t6_6 == 4294967295) then (ref25_Reg_Apply_g8 t0_6 t5_6 t7_6 t12_6 true k h_6) else (∃ v108 : Int, cellH h_6 (t3_6.add 2) = some (.int .u32 v108) ∧ (ref25_Reg_Apply_g8 t0_6 t5_6 t7_6 t12_6 (v108 != (IntKind.u32.wrap (t6_6 + 1))) k h_6))) else (if (v69 == 3) then (∃ v109 : Int, cellH h_6 (t3_6.add 2) = some (.int .u32 v109) ∧ (if (decide (v109 > t6_6)) then (k 13 h_6) else (ref25_Reg_Apply_l9 t0_6 t3_6 t5_6 t12_6 (⟨none, 0, 0⟩ : Slc) 0 k h_6))) else (if (v69 == 4) then (∃ v124 : Int, cellH h_6 (t3_6.add 16) = some (.int .i64 v124) ∧ (∃ v125 : Int, cellH h_6 (t12_6.add 2) = some (.int .i64 v125) ∧ (if (decide (v124 < v125)) then (k 13 h_6) else (∃ v126 : Int, cellH h_6 (t3_6.add 16) = some (.int .i64 v126) ∧ (∃ h127 : Heap, WrH h_6 (t12_6.add 2) ∧ h127 = setH h_6 (t12_6.add 2) (.int .i64 v126) ∧ (ref25_Reg_Apply_j7 t0_6 t5_6 t12_6 k h127)))))) else (if (v69 == 5) then (∃ h128 : Heap, WrH h_6 (t12_6.add 3) ∧ h128 = setH h_6 (t12_6.add 3) (.bool true) ∧ (∃ h129 : Heap, WrH h128 (t12_6.add 1) ∧ h129 = setH h128 (t12_6.add 1) (Slc.v (⟨none, 0, 0⟩ : Slc)) ∧ (ref25_Reg_Apply_j7 t0_6 t5_6 t12_6 k h129))) else (ref25_Reg_Apply_j7 t0_6 t5_6 t12_6 k h_6))))))
def ref25_Reg_Apply_g3 (t0_3 : Option Addr) (t3_3 : Addr) (t49_3 : Bool) (k : (Int) → Heap → Prop) (h_3 : Heap) : Prop :=
  if t49_3 then (k 1 h_3) else (∃ v4 : Int, cellH h_3 t3_3 = some (.int .i64 v4) ∧ (if (v4 == 0) then (k 0 h_3) else (∃ v5 : ByteArray, cellH h_3 (t3_3.add 1) = some (.string v5) ∧ (ref25_Reg_find t0_3 v5 (fun (r6 : Int) h7 => ∃ v8 : ByteArray, cellH h7 (t3_3.add 1) = some (.string v8) ∧ (ref25_Reg_Epoch t0_3 v8 (fun (r9 : Int) h10 => ∃ v11 : Int, cellH h10 (t3_3.add 2) = some (.int .u32 v11) ∧ (∃ v12 : List Int, CellsAt h10 (t3_3.add 3) (arr 12 .u8 v12) ∧ (∃ v13 : Slc, cellH h10 (t3_3.add 15) = some (Slc.v v13) ∧ (∃ (b14 : Nat) (h15 : Heap), b14 = h10.size ∧ h15 = h10.push (.cells (S_api_Wrapped.cs (⟨0, ([] : List Int), (⟨none, 0, 0⟩ : Slc)⟩ : S_api_Wrapped)).toArray 132) ∧ (∃ h16 : Heap, WrsAt h15 (⟨b14, 0, none⟩ : Addr) 14 ∧ h16 = setsH h15 (⟨b14, 0, none⟩ : Addr) 0 (S_api_Wrapped.cs (⟨v11, v12, v13⟩ : S_api_Wrapped)) ∧ (∃ v17 : Int, cellH h16 t3_3 = some (.int .i64 v17) ∧ (if (v17 == 1) then (if (decide (r6 ≥ 0)) then (k 7 h16) else (∃ a18 : Addr, t0_3 = some a18 ∧ (∃ v19 : Slc, cellH h16 a18 = some (Slc.v v19) ∧ (if (decide ((v19.len : Int) ≥ 8)) then (k 8 h16) else (∃ v20 : Int, cellH h16 (t3_3.add 2) = some (.int .u32 v20) ∧ (if (v20 != 1) then (k 13 h16) else (∃ v21 : ByteArray, cellH h16 (t3_3.add 1) = some (.string v21) ∧ (∃ v22 : S_api_Wrapped, CellsAt h16 (⟨b14, 0, none⟩ : Addr) (S_api_Wrapped.cs v22) ∧ (∃ (b23 : Nat) (h24 : Heap), b23 = h16.size ∧ h24 = h16.push (.cells ((S_api_Wrapped.cs v22)).toArray 132) ∧ (∃ (b25 : Nat) (h26 : Heap), b25 = h24.size ∧ h26 = h24.push (.cells (S_api_Tenant.cs (⟨ByteArray.empty, (⟨none, 0, 0⟩ : Slc), 0, false⟩ : S_api_Tenant)).toArray 130) ∧ (∃ h27 : Heap, WrsAt h26 (⟨b25, 0, none⟩ : Addr) 4 ∧ h27 = setsH h26 (⟨b25, 0, none⟩ : Addr) 0 (S_api_Tenant.cs (⟨v21, (⟨some ⟨b23, 0, none⟩, 1, 1⟩ : Slc), (-9223372036854775808), false⟩ : S_api_Tenant)) ∧ (ref25_Reg_Apply_l4 t0_3 t3_3 (⟨b25, 0, none⟩ : Addr) (⟨none, 0, 0⟩ : Slc) 0 k h27)))))))))))) else (if (decide (r6 < 0)) then (k 16 h16) else (∃ a56 : Addr, t0_3 = some a56 ∧ (∃ v57 : Slc, cellH h16 a56 = some (Slc.v v57) ∧ (∃ a58 : Addr, v57.a = some a58 ∧ (0 : Int) ≤ r6 ∧ r6 < (v57.len : Int) ∧ (∃ v59 : S_api_Tenant, CellsAt h16 (a58.add (r6.toNat * 4)) (S_api_Tenant.cs v59) ∧ (∃ (b60 : Nat) (h61 : Heap), b60 = h16.size ∧ h61 = h16.push (.cells (S_api_Tenant.cs (⟨ByteArray.empty, (⟨none, 0, 0⟩ : Slc), 0, false⟩ : S_api_Tenant)).toArray 130) ∧ (∃ h62 : Heap, WrsAt h61 (⟨b60, 0, none⟩ : Addr) 4 ∧ h62 = setsH h61 (⟨b60, 0, none⟩ : Addr) 0 (S_api_Tenant.cs v59) ∧ (∃ v63 : Bool, cellH h62 ((⟨b60, 0, none⟩ : Addr).add 3) = some (.bool v63) ∧ (if v63 then (∃ v130 : Int, cellH h62 t3_3 = some (.int .i64 v130) ∧ (ref25_Reg_Apply_g6 t0_3 t3_3 r6 r9 (⟨b14, 0, none⟩ : Addr) (⟨b60, 0, none⟩ : Addr) (v130 != 5) k h62)) else (ref25_Reg_Apply_g6 t0_3 t3_3 r6 r9 (⟨b14, 0, none⟩ : Addr) (⟨b60, 0, none⟩ : Addr) false k h62))))))))))))))))) h7)) h_3))))
def ref25_Reg_Apply_g12 (t0_12 : Option Addr) (t3_12 : Addr) (t34_12 : Bool) (t48_12 : Bool) (k : (Int) → Heap → Prop) (h_12 : Heap) : Prop :=
  ref25_Reg_Apply_g3 t0_12 t3_12 t48_12 k h_12
def ref25_Reg_Apply_g11 (t0_11 : Option Addr) (t3_11 : Addr) (t34_11 : Bool) (t42_11 : Bool) (k : (Int) → Heap → Prop) (h_11 : Heap) : Prop :=
  if t42_11 then (∃ v132 : Slc, cellH h_11 (t3_11.add 15) = some (Slc.v v132) ∧ (ref25_Reg_Apply_g12 t0_11 t3_11 t34_11 ((v132.len : Int) != 48) k h_11)) else (ref25_Reg_Apply_g12 t0_11 t3_11 t34_11 false k h_11)
def ref25_Reg_Apply_g2 (t0_2 : Option Addr) (t3_2 : Addr) (t33_2 : Bool) (k : (Int) → Heap → Prop) (h_2 : Heap) : Prop :=
  if t33_2 then (ref25_Reg_Apply_g3 t0_2 t3_2 true k h_2) else (∃ v131 : Int, cellH h_2 t3_2 = some (.int .i64 v131) ∧ (if (v131 == 1) then (ref25_Reg_Apply_g11 t0_2 t3_2 false true k h_2) else (∃ v133 : Int, cellH h_2 t3_2 = some (.int .i64 v133) ∧ (ref25_Reg_Apply_g11 t0_2 t3_2 false (v133 == 2) k h_2))))
def ref25_Reg_Apply_g13 (t0_13 : Option Addr) (t3_13 : Addr) (t23_13 : Bool) (t32_13 : Bool) (k : (Int) → Heap → Prop) (h_13 : Heap) : Prop :=
  ref25_Reg_Apply_g2 t0_13 t3_13 t32_13 k h_13
def ref25_Reg_Apply_g1 (t0_1 : Option Addr) (t3_1 : Addr) (t22_1 : Bool) (k : (Int) → Heap → Prop) (h_1 : Heap) : Prop :=
  if t22_1 then (ref25_Reg_Apply_g2 t0_1 t3_1 true k h_1) else (∃ v134 : Int, cellH h_1 t3_1 = some (.int .i64 v134) ∧ (if (decide (v134 > 0)) then (∃ v135 : ByteArray, cellH h_1 (t3_1.add 1) = some (.string v135) ∧ (ref16_Name v135 (fun (r136 : Bool) h137 => ref25_Reg_Apply_g13 t0_1 t3_1 false (!r136) k h137) h_1)) else (ref25_Reg_Apply_g13 t0_1 t3_1 false false k h_1)))
def ref25_Reg_Apply (p0 : Option Addr) (p1 : S_api_Command) (k : (Int) → Heap → Prop) (h : Heap) : Prop :=
  ∃ (b1 : Nat) (h2 : Heap), b1 = h.size ∧ h2 = h.push (.cells (S_api_Command.cs p1).toArray 32) ∧ (∃ v3 : Int, cellH h2 (⟨b1, 0, none⟩ : Addr) = some (.int .i64 v3) ∧ (if (decide (v3 < 0)) then (ref25_Reg_Apply_g1 p0 (⟨b1, 0, none⟩ : Addr) true k h2) else (∃ v138 : Int, cellH h2 (⟨b1, 0, none⟩ : Addr) = some (.int .i64 v138) ∧ (ref25_Reg_Apply_g1 p0 (⟨b1, 0, none⟩ : Addr) (decide (v138 > 5)) k h2))))

/-- (*quaestor quaestorref25.Reg).Bytes -/
def ref25_Reg_Bytes_l3b (t0_3 : Option Addr) (t4_3 : Int) (t5_3 : Addr) (t3_3 : Slc) (t6_3 : Int) (k : (Slc) → Heap → Prop) (nx1 : (Slc × Int) → Heap → Prop) (nx3 : (Slc × Int) → Heap → Prop) (h_3 : Heap) : Prop :=
  ∃ v36 : Slc, cellH h_3 (t5_3.add 1) = some (Slc.v v36) ∧ (if (decide (t6_3 < (v36.len : Int))) then (∃ v37 : Slc, cellH h_3 (t5_3.add 1) = some (Slc.v v37) ∧ (∃ a38 : Addr, v37.a = some a38 ∧ (0 : Int) ≤ t6_3 ∧ t6_3 < (v37.len : Int) ∧ (∃ v39 : Int, cellH h_3 (a38.add (t6_3.toNat * 14)) = some (.int .u32 v39) ∧ (ref01_Form (IntKind.u64.wrap v39) 4 (fun (r40 : Slc) h41 => ∃ l44 : List Value, SlcAt h41 r40 l44 ∧ App 5 1 1 [.int .u8 0] h41 t3_3 r40.len l44 (fun s42 h43 => ∃ v45 : Slc, cellH h43 (t5_3.add 1) = some (Slc.v v45) ∧ (∃ a46 : Addr, v45.a = some a46 ∧ (0 : Int) ≤ t6_3 ∧ t6_3 < (v45.len : Int) ∧ (∃ s47 : Slc, (0 : Int) ≤ 0 ∧ 0 ≤ (12 : Int) ∧ 12 ≤ (12 : Int) ∧ s47 = subS ⟨some ((a46.add (t6_3.toNat * 14)).add 1), 12, 12⟩ 1 (0 : Int).toNat (12 : Int).toNat 12 ∧ (∃ l50 : List Value, SlcAt h43 s47 l50 ∧ App 5 1 1 [.int .u8 0] h43 s42 s47.len l50 (fun s48 h49 => ∃ v51 : Slc, cellH h49 (t5_3.add 1) = some (Slc.v v51) ∧ (∃ a52 : Addr, v51.a = some a52 ∧ (0 : Int) ≤ t6_3 ∧ t6_3 < (v51.len : Int) ∧ (∃ v53 : Slc, cellH h49 ((a52.add (t6_3.toNat * 14)).add 13) = some (Slc.v v53) ∧ (∃ l56 : List Value, SlcAt h49 v53 l56 ∧ App 5 1 1 [.int .u8 0] h49 s48 v53.len l56 (fun s54 h55 => ∃ x57 : Int, x57 = (IntKind.i64.wrap (t6_3 + 1)) ∧ (nx3 (s54, x57) h55))))))))))) h_3)))) else (∃ x58 : Int, x58 = (IntKind.i64.wrap (t4_3 + 1)) ∧ (nx1 (t3_3, x58) h_3)))
def ref25_Reg_Bytes_l3 (t0_3 : Option Addr) (t4_3 : Int) (t5_3 : Addr) (i3 : Slc) (i6 : Int) (k : (Slc) → Heap → Prop) (nx1 : (Slc × Int) → Heap → Prop) (h : Heap) : Prop :=
  ∃ (I : (Slc × Int) → Heap → Prop) (μ : (Slc × Int) → Heap → Nat), I (i3, i6) h ∧ ∀ (t3_3 : Slc) (t6_3 : Int) (h : Heap), I (t3_3, t6_3) h → ref25_Reg_Bytes_l3b t0_3 t4_3 t5_3 t3_3 t6_3 k nx1 (fun s h' => I s h' ∧ μ s h' < μ (t3_3, t6_3) h) h
def ref25_Reg_Bytes_j2 (t0_2 : Option Addr) (t4_2 : Int) (t5_2 : Addr) (t3_2 : Slc) (k : (Slc) → Heap → Prop) (nx1 : (Slc × Int) → Heap → Prop) (h_2 : Heap) : Prop :=
  ∃ v22 : Int, cellH h_2 (t5_2.add 2) = some (.int .i64 v22) ∧ (ref01_Zig v22 (fun (r23 : Int) h24 => ref01_Form r23 8 (fun (r25 : Slc) h26 => ∃ l29 : List Value, SlcAt h26 r25 l29 ∧ App 5 1 1 [.int .u8 0] h26 t3_2 r25.len l29 (fun s27 h28 => ∃ v30 : Slc, cellH h28 (t5_2.add 1) = some (Slc.v v30) ∧ (ref01_Short (IntKind.u64.wrap (v30.len : Int)) (fun (r31 : Slc) h32 => ∃ l35 : List Value, SlcAt h32 r31 l35 ∧ App 5 1 1 [.int .u8 0] h32 s27 r31.len l35 (fun s33 h34 => ref25_Reg_Bytes_l3 t0_2 t4_2 t5_2 s33 0 k nx1 h34)) h28))) h24) h_2)
def ref25_Reg_Bytes_l1b (t0_1 : Option Addr) (t3_1 : Slc) (t4_1 : Int) (k : (Slc) → Heap → Prop) (nx1 : (Slc × Int) → Heap → Prop) (h_1 : Heap) : Prop :=
  ∃ a5 : Addr, t0_1 = some a5 ∧ (∃ v6 : Slc, cellH h_1 a5 = some (Slc.v v6) ∧ (if (decide (t4_1 < (v6.len : Int))) then (∃ v7 : Slc, cellH h_1 a5 = some (Slc.v v7) ∧ (∃ a8 : Addr, v7.a = some a8 ∧ (0 : Int) ≤ t4_1 ∧ t4_1 < (v7.len : Int) ∧ (∃ v9 : S_api_Tenant, CellsAt h_1 (a8.add (t4_1.toNat * 4)) (S_api_Tenant.cs v9) ∧ (∃ (b10 : Nat) (h11 : Heap), b10 = h_1.size ∧ h11 = h_1.push (.cells (S_api_Tenant.cs (⟨ByteArray.empty, (⟨none, 0, 0⟩ : Slc), 0, false⟩ : S_api_Tenant)).toArray 130) ∧ (∃ h12 : Heap, WrsAt h11 (⟨b10, 0, none⟩ : Addr) 4 ∧ h12 = setsH h11 (⟨b10, 0, none⟩ : Addr) 0 (S_api_Tenant.cs v9) ∧ (∃ v13 : ByteArray, cellH h12 (⟨b10, 0, none⟩ : Addr) = some (.string v13) ∧ (ref01_Short (IntKind.u64.wrap (v13.size : Int)) (fun (r14 : Slc) h15 => ∃ l18 : List Value, SlcAt h15 r14 l18 ∧ App 5 1 1 [.int .u8 0] h15 t3_1 r14.len l18 (fun s16 h17 => ∃ v19 : ByteArray, cellH h17 (⟨b10, 0, none⟩ : Addr) = some (.string v19) ∧ (App 5 1 1 [.int .u8 0] h17 s16 v19.size (b8 (sB v19)) (fun s20 h21 => ∃ v59 : Bool, cellH h21 ((⟨b10, 0, none⟩ : Addr).add 3) = some (.bool v59) ∧ (if v59 then (∃ (b60 : Nat) (h61 : Heap), b60 = h21.size ∧ h61 = h21.push (.cells ([.int .u8 1]).toArray 5) ∧ (App 5 1 1 [.int .u8 0] h61 s20 1 ([.int .u8 1]) (fun s62 h63 => ref25_Reg_Bytes_j2 t0_1 t4_1 (⟨b10, 0, none⟩ : Addr) s62 k nx1 h63))) else (∃ (b64 : Nat) (h65 : Heap), b64 = h21.size ∧ h65 = h21.push (.cells ([.int .u8 0]).toArray 5) ∧ (App 5 1 1 [.int .u8 0] h65 s20 1 ([.int .u8 0]) (fun s66 h67 => ref25_Reg_Bytes_j2 t0_1 t4_1 (⟨b10, 0, none⟩ : Addr) s66 k nx1 h67)))))))) h12))))))) else (k t3_1 h_1)))
def ref25_Reg_Bytes_l1 (t0_1 : Option Addr) (i3 : Slc) (i4 : Int) (k : (Slc) → Heap → Prop) (h : Heap) : Prop :=
  ∃ (I : (Slc × Int) → Heap → Prop) (μ : (Slc × Int) → Heap → Nat), I (i3, i4) h ∧ ∀ (t3_1 : Slc) (t4_1 : Int) (h : Heap), I (t3_1, t4_1) h → ref25_Reg_Bytes_l1b t0_1 t3_1 t4_1 k (fun s h' => I s h' ∧ μ s h' < μ (t3_1, t4_1) h) h
def ref25_Reg_Bytes (p0 : Option Addr) (k : (Slc) → Heap → Prop) (h : Heap) : Prop :=
  ∃ a1 : Addr, p0 = some a1 ∧ (∃ v2 : Slc, cellH h a1 = some (Slc.v v2) ∧ (ref01_Short (IntKind.u64.wrap (v2.len : Int)) (fun (r3 : Slc) h4 => ref25_Reg_Bytes_l1 p0 r3 0 k h4) h))

/-- quaestor quaestorlaw25.RegPlays -/
def law25_RegPlays_j2 (t0_2 : Slc) (t1_2 : ByteArray) (t5_2 : Option Addr) (t6_2 : Addr) (t7_2 : Int) (t59_2 : Bool) (k : (Bool) → Heap → Prop) (nx1 : (Int) → Heap → Prop) (h_2 : Heap) : Prop :=
  if t59_2 then (k false h_2) else (∃ x9 : Int, x9 = (IntKind.i64.wrap (t7_2 + 1)) ∧ (nx1 x9 h_2))
def law25_RegPlays_j3 (t4_3 : Bool) (k : (Bool) → Heap → Prop) (nx1 : (Int) → Heap → Prop) (h_3 : Heap) : Prop :=
  k t4_3 h_3
def law25_RegPlays_l1b (t0_1 : Slc) (t1_1 : ByteArray) (t5_1 : Option Addr) (t6_1 : Addr) (t7_1 : Int) (k : (Bool) → Heap → Prop) (nx1 : (Int) → Heap → Prop) (h_1 : Heap) : Prop :=
  if (decide (t7_1 < (t0_1.len : Int))) then (∃ a10 : Addr, t0_1.a = some a10 ∧ (0 : Int) ≤ t7_1 ∧ t7_1 < (t0_1.len : Int) ∧ (∃ v11 : S_api_Command, CellsAt h_1 (a10.add (t7_1.toNat * 17)) (S_api_Command.cs v11) ∧ (∃ a12 : Addr, t0_1.a = some a12 ∧ (0 : Int) ≤ t7_1 ∧ t7_1 < (t0_1.len : Int) ∧ (∃ v13 : S_api_Command, CellsAt h_1 (a12.add (t7_1.toNat * 17)) (S_api_Command.cs v13) ∧ (reg_Reg_Apply t5_1 v11 (fun (r14 : Int) h15 => CellsAt h15 (a12.add (t7_1.toNat * 17)) (S_api_Command.cs v13) ∧ (ref25_Reg_Apply (some t6_1) v13 (fun (r17 : Int) h18 => if (r14 != r17) then (if true then (law25_RegPlays_j2 t0_1 t1_1 t5_1 t6_1 t7_1 true k nx1 h18) else (reg_Reg_Epoch t5_1 t1_1 (fun (r19 : Int) h20 => ref25_Reg_Epoch (some t6_1) t1_1 (fun (r21 : Int) h22 => law25_RegPlays_j2 t0_1 t1_1 t5_1 t6_1 t7_1 (r19 != r21) k nx1 h22) h20) h18)) else (∃ v23 : Slc, cellH h18 t6_1 = some (Slc.v v23) ∧ (reg_Reg_Tenants t5_1 (fun (r24 : Slc) h25 => cellH h25 t6_1 = some (Slc.v v23) ∧ (ref25_SameTenants r24 v23 (fun (r27 : Bool) h28 => if (!r27) then (law25_RegPlays_j2 t0_1 t1_1 t5_1 t6_1 t7_1 true k nx1 h28) else (reg_Reg_Epoch t5_1 t1_1 (fun (r29 : Int) h30 => ref25_Reg_Epoch (some t6_1) t1_1 (fun (r31 : Int) h32 => law25_RegPlays_j2 t0_1 t1_1 t5_1 t6_1 t7_1 (r29 != r31) k nx1 h32) h30) h28)) h25)) h18))) h15)) h_1))))) else (reg_Reg_Bytes t5_1 (fun (r33 : Slc) h34 => reg_From r33 (fun (r35 : Option Addr × Int) h36 => ref25_Reg_Bytes (some t6_1) (fun (r37 : Slc) h38 => ref01_Same r33 r37 (fun (r39 : Bool) h40 => if (!r39) then (k false h40) else (if (r35.2 == 0) then (∃ v41 : Slc, cellH h40 t6_1 = some (Slc.v v41) ∧ (reg_Reg_Tenants r35.1 (fun (r42 : Slc) h43 => cellH h43 t6_1 = some (Slc.v v41) ∧ (ref25_SameTenants r42 v41 (fun (r45 : Bool) h46 => if r45 then (law25_awake  (fun (r47 : Bool) h48 => law25_RegPlays_j3 r47 k nx1 h48) h46) else (law25_RegPlays_j3 false k nx1 h46)) h43)) h40)) else (if false then (law25_awake  (fun (r49 : Bool) h50 => law25_RegPlays_j3 r49 k nx1 h50) h40) else (law25_RegPlays_j3 false k nx1 h40)))) h38) h36) h34) h_1)
def law25_RegPlays_l1 (t0_1 : Slc) (t1_1 : ByteArray) (t5_1 : Option Addr) (t6_1 : Addr) (i7 : Int) (k : (Bool) → Heap → Prop) (h : Heap) : Prop :=
  ∃ (I : Int → Heap → Prop) (μ : Int → Heap → Nat), I i7 h ∧ ∀ (t7_1 : Int) (h : Heap), I t7_1 h → law25_RegPlays_l1b t0_1 t1_1 t5_1 t6_1 t7_1 k (fun s h' => I s h' ∧ μ s h' < μ t7_1 h) h
def law25_RegPlays (p0 : Slc) (p1 : ByteArray) (k : (Bool) → Heap → Prop) (h : Heap) : Prop :=
  ref25_Great p0 30 (fun (r1 : Bool) h2 => if (r1 || (decide ((p1.size : Int) > 100))) then (law25_awake  (fun (r3 : Bool) h4 => k r3 h4) h2) else (reg_New  (fun (r5 : Option Addr) h6 => ∃ (b7 : Nat) (h8 : Heap), b7 = h6.size ∧ h8 = h6.push (.cells (S_quaestorref25_Reg.cs (⟨(⟨none, 0, 0⟩ : Slc)⟩ : S_quaestorref25_Reg)).toArray 139) ∧ (law25_RegPlays_l1 p0 p1 r5 (⟨b7, 0, none⟩ : Addr) 0 k h8)) h2)) h

theorem ref01_Short_ok : CallOk Go.Proofs.Try.prog 98 := ⟨_, Go.Proofs.Try.func98, by kernel_rfl, by kernel_rfl⟩
theorem ref01_Short_ref (p0 : Int) (k : (Slc) → Heap → Prop) (h : Heap) (H : ref01_Short p0 k h) : CallsH Go.Proofs.Try.prog 98 #[.int .u64 p0] h (fun v h' => ∃ r : Slc, v = Slc.v r ∧ k r h') := by
  refine f_enter (N := 20) Go.Proofs.Try.func98 rfl rfl rfl (fun w0 => ?_)
  unfold ref01_Short at H
  refine c_weak [(0, .int .u64 p0)] ⟨rfl, trivial⟩ ?_
  refine c_seq ?_
  refine c_region ?_
  refine w_p tok rfl rfl rfl ?_
  refine w_end ?_
  refine x_seq ?_
  refine c_seq ?_
  refine c_region ?_
  refine w_p tok rfl rfl rfl ?_
  refine w_end ?_
  refine x_seq ?_
  refine c_seq ?_
  refine c_block ?_
  obtain ⟨I1, μ1, H0, HI⟩ := H
  refine c_loop (σ := Int × Slc) (fun (s : Int × Slc) => [(0, .int .u64 s.1), (3, Slc.v s.2)]) I1 μ1 (p0, (⟨none, 0, 0⟩ : Slc)) H0 ⟨rfl, rfl, trivial⟩ ?_
  rintro ⟨t0_1, t3_1⟩ h_1 H
  replace H := HI t0_1 t3_1 h_1 H
  unfold ref01_Short_l1b at H
  refine c_weak [(0, .int .u64 t0_1), (3, Slc.v t3_1)] ⟨rfl, rfl, trivial⟩ ?_
  refine c_seq ?_
  refine c_seq ?_
  refine c_region ?_
  refine w_p tok rfl rfl rfl ?_
  refine w_p tok rfl rfl rfl ?_
  refine w_end ?_
  refine x_seq ?_
  refine c_if H rfl (fun H => ?_) (fun H => ?_)
  ·
    refine c_skip ?_
    refine x_seq ?_
    refine c_block ?_
    refine c_seq ?_
    refine c_region ?_
    refine w_p tok rfl rfl rfl ?_
    refine w_p tok rfl rfl rfl ?_
    refine w_p tok rfl rfl rfl ?_
    refine w_p tok rfl rfl rfl ?_
    refine w_p tok rfl rfl rfl ?_
    obtain ⟨b1, h2, eb1, eh2, H⟩ := H
    refine w_h (h_bs tok rfl rfl rfl rfl rfl rfl rfl eb1 eh2) rfl rfl ?_
    refine w_a (a_app (s := t3_1) (r := (⟨some ⟨b1, 0, none⟩, 1, 1⟩ : Slc)) tok rfl rfl rfl rfl rfl (slcAt_push eb1 eh2) H) rfl rfl ?_
    rintro _ h4 ⟨s3, rfl, H⟩
    refine w_p tok rfl rfl rfl ?_
    refine w_end ?_
    refine x_seq ?_
    refine c_weak [(0, .int .u64 t0_1), (3, Slc.v s3)] ⟨rfl, rfl, trivial⟩ ?_
    refine c_region ?_
    refine w_p tok rfl rfl rfl ?_
    refine w_p tok rfl rfl rfl ?_
    obtain ⟨x5, ex5, H⟩ := H
    refine w_pe tok rfl (congrArg (fun z => (.int .u64 z : Value)) ex5) rfl rfl ?_
    refine w_end ?_
    refine x_blk ?_
    exact x_join (x5, s3) H ⟨rfl, rfl, trivial⟩
  ·
    refine c_exit ?_
    refine x_te ?_
    refine x_te ?_
    refine x_bh ?_
    refine x_seq ?_
    refine c_seq ?_
    refine c_region ?_
    refine w_p tok rfl rfl rfl ?_
    refine w_p tok rfl rfl rfl ?_
    refine w_p tok rfl rfl rfl ?_
    obtain ⟨b6, h7, eb6, eh7, H⟩ := H
    refine w_h (h_bs tok rfl rfl rfl rfl rfl rfl rfl eb6 eh7) rfl rfl ?_
    refine w_a (a_app (s := t3_1) (r := (⟨some ⟨b6, 0, none⟩, 1, 1⟩ : Slc)) tok rfl rfl rfl rfl rfl (slcAt_push eb6 eh7) H) rfl rfl ?_
    rintro _ h9 ⟨s8, rfl, H⟩
    refine w_p tok rfl rfl rfl ?_
    refine w_end ?_
    refine x_seq ?_
    refine c_weak [(2, Slc.v s8)] ⟨rfl, trivial⟩ ?_
    refine c_ret ?_
    exact x_ret _ rfl _ rfl ⟨s8, rfl, H⟩

theorem ref01_Form_ok : CallOk Go.Proofs.Try.prog 99 := ⟨_, Go.Proofs.Try.func99, by kernel_rfl, by kernel_rfl⟩
theorem ref01_Form_ref (p0 : Int) (p1 : Int) (k : (Slc) → Heap → Prop) (h : Heap) (H : ref01_Form p0 p1 k h) : CallsH Go.Proofs.Try.prog 99 #[.int .u64 p0, .int .i64 p1] h (fun v h' => ∃ r : Slc, v = Slc.v r ∧ k r h') := by
  refine f_enter (N := 21) Go.Proofs.Try.func99 rfl rfl rfl (fun w0 => ?_)
  unfold ref01_Form at H
  refine c_weak [(0, .int .u64 p0), (1, .int .i64 p1)] ⟨rfl, rfl, trivial⟩ ?_
  refine c_seq ?_
  refine c_region ?_
  refine w_p tok rfl rfl rfl ?_
  refine w_end ?_
  refine x_seq ?_
  refine c_seq ?_
  refine c_region ?_
  refine w_p tok rfl rfl rfl ?_
  refine w_end ?_
  refine x_seq ?_
  refine c_seq ?_
  refine c_seq ?_
  refine c_region ?_
  refine w_p tok rfl rfl rfl ?_
  refine w_end ?_
  refine x_seq ?_
  refine c_block ?_
  obtain ⟨I1, μ1, H0, HI⟩ := H
  refine c_loop (σ := Int × Slc × Int) (fun (s : Int × Slc × Int) => [(0, .int .u64 s.1), (5, Slc.v s.2.1), (6, .int .i64 s.2.2), (1, .int .i64 p1)]) I1 μ1 (p0, (⟨none, 0, 0⟩ : Slc), 0) H0 ⟨rfl, rfl, rfl, rfl, trivial⟩ ?_
  rintro ⟨t0_1, t5_1, t6_1⟩ h_1 H
  replace H := HI t0_1 t5_1 t6_1 h_1 H
  unfold ref01_Form_l1b at H
  refine c_weak [(0, .int .u64 t0_1), (5, Slc.v t5_1), (6, .int .i64 t6_1), (1, .int .i64 p1)] ⟨rfl, rfl, rfl, rfl, trivial⟩ ?_
  refine c_seq ?_
  refine c_seq ?_
  refine c_region ?_
  refine w_p tok rfl rfl rfl ?_
  refine w_p tok rfl rfl rfl ?_
  refine w_p tok rfl rfl rfl ?_
  refine w_end ?_
  refine x_seq ?_
  refine c_if H rfl (fun H => ?_) (fun H => ?_)
  ·
    refine c_skip ?_
    refine x_seq ?_
    refine c_seq ?_
    refine c_block ?_
    refine c_seq ?_
    refine c_region ?_
    refine w_p tok rfl rfl rfl ?_
    refine w_p tok rfl rfl rfl ?_
    refine w_p tok rfl rfl rfl ?_
    refine w_p tok rfl rfl rfl ?_
    obtain ⟨b1, h2, eb1, eh2, H⟩ := H
    refine w_h (h_bs tok rfl rfl rfl rfl rfl rfl rfl eb1 eh2) rfl rfl ?_
    refine w_a (a_app (s := t5_1) (r := (⟨some ⟨b1, 0, none⟩, 1, 1⟩ : Slc)) tok rfl rfl rfl rfl rfl (slcAt_push eb1 eh2) H) rfl rfl ?_
    rintro _ h4 ⟨s3, rfl, H⟩
    refine w_p tok rfl rfl rfl ?_
    refine w_end ?_
    refine x_seq ?_
    refine c_weak [(0, .int .u64 t0_1), (5, Slc.v s3), (6, .int .i64 t6_1), (1, .int .i64 p1)] ⟨rfl, rfl, rfl, rfl, trivial⟩ ?_
    refine c_region ?_
    refine w_p tok rfl rfl rfl ?_
    refine w_p tok rfl rfl rfl ?_
    obtain ⟨x5, ex5, H⟩ := H
    refine w_pe tok rfl (congrArg (fun z => (.int .u64 z : Value)) ex5) rfl rfl ?_
    refine w_end ?_
    refine x_blk ?_
    refine x_seq ?_
    refine c_region ?_
    refine w_p tok rfl rfl rfl ?_
    refine w_p tok rfl rfl rfl ?_
    obtain ⟨x6, ex6, H⟩ := H
    refine w_pe tok rfl (congrArg (fun z => (.int .i64 z : Value)) ex6) rfl rfl ?_
    refine w_end ?_
    exact x_join (x5, s3, x6) H ⟨rfl, rfl, rfl, rfl, trivial⟩
  ·
    refine c_exit ?_
    refine x_te ?_
    refine x_te ?_
    refine x_bh ?_
    refine x_seq ?_
    refine c_seq ?_
    refine c_region ?_
    refine w_p tok rfl rfl rfl ?_
    refine w_p tok rfl rfl rfl ?_
    refine w_end ?_
    refine x_seq ?_
    refine c_weak [(4, Slc.v t5_1)] ⟨rfl, trivial⟩ ?_
    refine c_ret ?_
    exact x_ret _ rfl _ rfl ⟨t5_1, rfl, H⟩

theorem ref01_Zig_ok : CallOk Go.Proofs.Try.prog 100 := ⟨_, Go.Proofs.Try.func100, by kernel_rfl, by kernel_rfl⟩
theorem ref01_Zig_ref (p0 : Int) (k : (Int) → Heap → Prop) (h : Heap) (H : ref01_Zig p0 k h) : CallsH Go.Proofs.Try.prog 100 #[.int .i64 p0] h (fun v h' => ∃ r : Int, v = .int .u64 r ∧ k r h') := by
  refine f_enter (N := 13) Go.Proofs.Try.func100 rfl rfl rfl (fun w0 => ?_)
  unfold ref01_Zig at H
  refine c_weak [(0, .int .i64 p0)] ⟨rfl, trivial⟩ ?_
  refine c_seq ?_
  refine c_region ?_
  refine w_p tok rfl rfl rfl ?_
  refine w_end ?_
  refine x_seq ?_
  refine c_seq ?_
  refine c_seq ?_
  refine c_region ?_
  refine w_p tok rfl rfl rfl ?_
  refine w_p tok rfl rfl rfl ?_
  refine w_end ?_
  refine x_seq ?_
  refine c_if H rfl (fun H => ?_) (fun H => ?_)
  ·
    refine c_seq ?_
    refine c_region ?_
    refine w_p tok rfl rfl rfl ?_
    refine w_p tok rfl rfl rfl ?_
    refine w_p tok rfl rfl rfl ?_
    obtain ⟨x1, ex1, H⟩ := H
    refine w_pe tok rfl (congrArg (fun z => (.int .u64 z : Value)) ex1) rfl rfl ?_
    refine w_end ?_
    refine x_seq ?_
    refine c_ret ?_
    refine x_tr ?_
    exact x_ret _ rfl _ rfl ⟨x1, rfl, H⟩
  ·
    refine c_skip ?_
    refine x_seq ?_
    refine c_seq ?_
    refine c_region ?_
    refine w_p tok rfl rfl rfl ?_
    refine w_p tok rfl rfl rfl ?_
    refine w_p tok rfl rfl rfl ?_
    refine w_p tok rfl rfl rfl ?_
    refine w_p tok rfl rfl rfl ?_
    obtain ⟨x2, ex2, H⟩ := H
    refine w_pe tok rfl (congrArg (fun z => (.int .u64 z : Value)) ex2) rfl rfl ?_
    refine w_end ?_
    refine x_seq ?_
    refine c_weak [(2, .int .u64 x2)] ⟨rfl, trivial⟩ ?_
    refine c_ret ?_
    exact x_ret _ rfl _ rfl ⟨x2, rfl, H⟩

theorem ref16_Name_ok : CallOk Go.Proofs.Try.prog 150 := ⟨_, Go.Proofs.Try.func150, by kernel_rfl, by kernel_rfl⟩
theorem ref16_Name_ref (p0 : ByteArray) (k : (Bool) → Heap → Prop) (h : Heap) (H : ref16_Name p0 k h) : CallsH Go.Proofs.Try.prog 150 #[.string p0] h (fun v h' => ∃ r : Bool, v = .bool r ∧ k r h') := by
  refine f_enter (N := 42) Go.Proofs.Try.func150 rfl rfl rfl (fun w0 => ?_)
  unfold ref16_Name at H
  refine c_weak [(0, .string p0)] ⟨rfl, trivial⟩ ?_
  refine c_seq ?_
  refine c_region ?_
  refine w_p tok rfl rfl rfl ?_
  refine w_end ?_
  refine x_seq ?_
  refine c_seq ?_
  refine c_seq ?_
  refine c_region ?_
  refine w_p tok rfl rfl rfl ?_
  refine w_end ?_
  refine x_seq ?_
  refine c_block ?_
  obtain ⟨I1, μ1, H0, HI⟩ := H
  refine c_loop (σ := Int) (fun (s : Int) => [(3, .int .i64 s), (0, .string p0)]) I1 μ1 0 H0 ⟨rfl, rfl, trivial⟩ ?_
  rintro t3_1 h_1 H
  replace H := HI t3_1 h_1 H
  unfold ref16_Name_l1b at H
  refine c_weak [(3, .int .i64 t3_1), (0, .string p0)] ⟨rfl, rfl, trivial⟩ ?_
  refine c_seq ?_
  refine c_seq ?_
  refine c_region ?_
  refine w_p tok rfl rfl rfl ?_
  refine w_p tok rfl rfl rfl ?_
  refine w_p tok rfl rfl rfl ?_
  refine w_p tok rfl rfl rfl ?_
  refine w_end ?_
  refine x_seq ?_
  refine c_if H rfl (fun H => ?_) (fun H => ?_)
  ·
    refine c_skip ?_
    refine x_seq ?_
    refine c_seq ?_
    refine c_block ?_
    refine c_seq ?_
    refine c_region ?_
    refine w_p tok rfl rfl rfl ?_
    refine w_p tok rfl rfl rfl ?_
    obtain ⟨v1, lv1, hv1, H⟩ := H
    refine w_y (y_ixs' tok rfl rfl rfl rfl lv1 hv1) rfl rfl ?_
    refine w_p tok rfl rfl rfl ?_
    refine w_end ?_
    refine x_seq ?_
    refine c_weak [(3, .int .i64 t3_1), (0, .string p0), (4, .int .u8 v1)] ⟨rfl, rfl, rfl, trivial⟩ ?_
    refine c_seq ?_
    refine c_region ?_
    refine w_p tok rfl rfl rfl ?_
    refine w_p tok rfl rfl rfl ?_
    refine w_p tok rfl rfl rfl ?_
    refine w_cutU 3 [(19, .bool ((decide (v1 ≥ 97)) && (decide (v1 ≤ 122)))), (0, .string p0), (3, .int .i64 t3_1), (4, .int .u8 v1)] ?_ ?_
    ·
      refine w_p tok rfl rfl rfl ?_
      refine w_p tok rfl rfl rfl ?_
      refine w_cutU 8 [(29, .bool ((!((decide (v1 ≥ 97)) && (decide (v1 ≤ 122)))) && (!((decide (v1 ≥ 48)) && (decide (v1 ≤ 57)))))), (0, .string p0), (3, .int .i64 t3_1), (4, .int .u8 v1)] ?_ ?_
      ·
        refine w_p tok rfl rfl rfl ?_
        refine w_cutU 3 [(33, .bool (((!((decide (v1 ≥ 97)) && (decide (v1 ≤ 122)))) && (!((decide (v1 ≥ 48)) && (decide (v1 ≤ 57))))) && (v1 != 45))), (0, .string p0), (3, .int .i64 t3_1)] ?_ ?_
        ·
          refine w_end ?_
          refine x_seq ?_
          refine c_if H rfl (fun H => ?_) (fun H => ?_)
          ·
            refine c_seq ?_
            refine c_region ?_
            refine w_p tok rfl rfl rfl ?_
            refine w_end ?_
            refine x_seq ?_
            refine c_ret ?_
            refine x_br ?_
            refine x_tr ?_
            refine x_tr ?_
            refine x_br ?_
            refine x_tr ?_
            exact x_ret _ rfl _ rfl ⟨false, rfl, H⟩
          ·
            refine c_skip ?_
            refine x_blk ?_
            refine x_seq ?_
            refine c_region ?_
            refine w_p tok rfl rfl rfl ?_
            refine w_p tok rfl rfl rfl ?_
            obtain ⟨x2, ex2, H⟩ := H
            refine w_pe tok rfl (congrArg (fun z => (.int .i64 z : Value)) ex2) rfl rfl ?_
            refine w_end ?_
            exact x_join x2 H ⟨rfl, rfl, trivial⟩
        ·
          refine w_gs (d := 30) rfl (fun hb => ?_) (fun hb => ?_)
          ·
            refine w_p tok rfl rfl rfl ?_
            refine w_p tok rfl rfl rfl ?_
            refine w_p tok rfl rfl rfl ?_
            refine w_jn () rfl ⟨?_, rfl, rfl, trivial⟩
            exact congrArg (fun b => some (Value.bool b)) (and_t hb)
          ·
            refine w_skip rfl rfl ?_
            refine w_skip rfl rfl ?_
            refine w_p tok rfl rfl rfl ?_
            refine w_jn () rfl ⟨?_, rfl, rfl, trivial⟩
            exact congrArg (fun b => some (Value.bool b)) (and_f hb)
      ·
        refine w_gs (d := 21) rfl (fun hb => ?_) (fun hb => ?_)
        ·
          refine w_p tok rfl rfl rfl ?_
          refine w_p tok rfl rfl rfl ?_
          refine w_p tok rfl rfl rfl ?_
          refine w_cutU 3 [(27, .bool ((decide (v1 ≥ 48)) && (decide (v1 ≤ 57)))), (0, .string p0), (3, .int .i64 t3_1), (4, .int .u8 v1), (21, .bool true)] ?_ ?_
          ·
            refine w_p tok rfl rfl rfl ?_
            refine w_p tok rfl rfl rfl ?_
            refine w_jn () rfl ⟨?_, rfl, rfl, rfl, trivial⟩
            exact congrArg (fun b => some (Value.bool b)) (and_t hb)
          ·
            refine w_gs (d := 24) rfl (fun hb => ?_) (fun hb => ?_)
            ·
              refine w_p tok rfl rfl rfl ?_
              refine w_p tok rfl rfl rfl ?_
              refine w_p tok rfl rfl rfl ?_
              refine w_jn () rfl ⟨?_, rfl, rfl, rfl, rfl, trivial⟩
              exact congrArg (fun b => some (Value.bool b)) (and_t hb)
            ·
              refine w_skip rfl rfl ?_
              refine w_skip rfl rfl ?_
              refine w_p tok rfl rfl rfl ?_
              refine w_jn () rfl ⟨?_, rfl, rfl, rfl, rfl, trivial⟩
              exact congrArg (fun b => some (Value.bool b)) (and_f hb)
        ·
          refine w_skip rfl rfl ?_
          refine w_skip rfl rfl ?_
          refine w_skip rfl rfl ?_
          refine w_skip rfl rfl ?_
          refine w_skip rfl rfl ?_
          refine w_skip rfl rfl ?_
          refine w_skip rfl rfl ?_
          refine w_p tok rfl rfl rfl ?_
          refine w_jn () rfl ⟨?_, rfl, rfl, rfl, trivial⟩
          exact congrArg (fun b => some (Value.bool b)) (and_f hb)
    ·
      refine w_gs (d := 16) rfl (fun hb => ?_) (fun hb => ?_)
      ·
        refine w_p tok rfl rfl rfl ?_
        refine w_p tok rfl rfl rfl ?_
        refine w_p tok rfl rfl rfl ?_
        refine w_jn () rfl ⟨?_, rfl, rfl, rfl, trivial⟩
        exact congrArg (fun b => some (Value.bool b)) (and_t hb)
      ·
        refine w_skip rfl rfl ?_
        refine w_skip rfl rfl ?_
        refine w_p tok rfl rfl rfl ?_
        refine w_jn () rfl ⟨?_, rfl, rfl, rfl, trivial⟩
        exact congrArg (fun b => some (Value.bool b)) (and_f hb)
  ·
    refine c_exit ?_
    refine x_te ?_
    refine x_te ?_
    refine x_bh ?_
    refine x_seq ?_
    refine c_seq ?_
    refine c_region ?_
    refine w_p tok rfl rfl rfl ?_
    refine w_p tok rfl rfl rfl ?_
    refine w_p tok rfl rfl rfl ?_
    refine w_p tok rfl rfl rfl ?_
    refine w_cutU 4 [(41, .bool ((decide ((p0.size : Int) ≥ 1)) && (decide ((p0.size : Int) ≤ 24))))] ?_ ?_
    ·
      refine w_p tok rfl rfl rfl ?_
      refine w_end ?_
      refine x_seq ?_
      refine c_ret ?_
      exact x_ret _ rfl _ rfl ⟨((decide ((p0.size : Int) ≥ 1)) && (decide ((p0.size : Int) ≤ 24))), rfl, H⟩
    ·
      refine w_gs (d := 37) rfl (fun hb => ?_) (fun hb => ?_)
      ·
        refine w_p tok rfl rfl rfl ?_
        refine w_p tok rfl rfl rfl ?_
        refine w_p tok rfl rfl rfl ?_
        refine w_p tok rfl rfl rfl ?_
        refine w_jn () rfl ⟨?_, trivial⟩
        exact congrArg (fun b => some (Value.bool b)) (and_t hb)
      ·
        refine w_skip rfl rfl ?_
        refine w_skip rfl rfl ?_
        refine w_skip rfl rfl ?_
        refine w_p tok rfl rfl rfl ?_
        refine w_jn () rfl ⟨?_, trivial⟩
        exact congrArg (fun b => some (Value.bool b)) (and_f hb)

theorem ref25_Reg_find_ok : CallOk Go.Proofs.Try.prog 151 := ⟨_, Go.Proofs.Try.func151, by kernel_rfl, by kernel_rfl⟩
theorem ref25_Reg_find_ref (p0 : Option Addr) (p1 : ByteArray) (k : (Int) → Heap → Prop) (h : Heap) (H : ref25_Reg_find p0 p1 k h) : CallsH Go.Proofs.Try.prog 151 #[.pointer p0, .string p1] h (fun v h' => ∃ r : Int, v = .int .i64 r ∧ k r h') := by
  refine f_enter (N := 26) Go.Proofs.Try.func151 rfl rfl rfl (fun w0 => ?_)
  unfold ref25_Reg_find at H
  refine c_weak [(0, .pointer p0), (1, .string p1)] ⟨rfl, rfl, trivial⟩ ?_
  refine c_seq ?_
  refine c_region ?_
  refine w_p tok rfl rfl rfl ?_
  refine w_end ?_
  refine x_seq ?_
  refine c_seq ?_
  refine c_seq ?_
  refine c_region ?_
  refine w_p tok rfl rfl rfl ?_
  refine w_end ?_
  refine x_seq ?_
  refine c_block ?_
  obtain ⟨I1, μ1, H0, HI⟩ := H
  refine c_loop (σ := Int) (fun (s : Int) => [(5, .int .i64 s), (0, .pointer p0), (1, .string p1)]) I1 μ1 0 H0 ⟨rfl, rfl, rfl, trivial⟩ ?_
  rintro t5_1 h_1 H
  replace H := HI t5_1 h_1 H
  unfold ref25_Reg_find_l1b at H
  refine c_weak [(5, .int .i64 t5_1), (0, .pointer p0), (1, .string p1)] ⟨rfl, rfl, rfl, trivial⟩ ?_
  refine c_seq ?_
  refine c_seq ?_
  refine c_region ?_
  refine w_p tok rfl rfl rfl ?_
  refine w_p tok rfl rfl rfl ?_
  obtain ⟨a1, ha1, H⟩ := H
  refine w_y (y_nil' rfl rfl ha1) rfl rfl ?_
  refine w_p tok rfl rfl rfl ?_
  obtain ⟨v2, hv2, H⟩ := H
  refine w_y (y_ld tok rfl rfl rfl rfl hv2) rfl rfl ?_
  refine w_p tok rfl rfl rfl ?_
  refine w_p tok rfl rfl rfl ?_
  refine w_end ?_
  refine x_seq ?_
  refine c_if H rfl (fun H => ?_) (fun H => ?_)
  ·
    refine c_skip ?_
    refine x_seq ?_
    refine c_weak [(5, .int .i64 t5_1), (0, .pointer p0), (1, .string p1)] ⟨rfl, rfl, rfl, trivial⟩ ?_
    refine c_seq ?_
    refine c_block ?_
    refine c_seq ?_
    refine c_region ?_
    refine w_p tok rfl rfl rfl ?_
    refine w_y (y_nil' rfl rfl ha1) rfl rfl ?_
    refine w_p tok rfl rfl rfl ?_
    obtain ⟨v3, hv3, H⟩ := H
    refine w_y (y_ld tok rfl rfl rfl rfl hv3) rfl rfl ?_
    refine w_p tok rfl rfl rfl ?_
    obtain ⟨a4, ha4, la4, ua4, H⟩ := H
    refine w_y (y_ixa' tok rfl rfl ha4 rfl rfl rfl la4 ua4) rfl rfl ?_
    refine w_p tok rfl rfl rfl ?_
    obtain ⟨v5, hv5, H⟩ := H
    refine w_y (y_ld tok rfl rfl rfl rfl hv5) rfl rfl ?_
    refine w_p tok rfl rfl rfl ?_
    refine w_p tok rfl rfl rfl ?_
    refine w_end ?_
    refine x_seq ?_
    refine c_weak [(5, .int .i64 t5_1), (0, .pointer p0), (1, .string p1), (24, .bool (v5.toList == p1.toList))] ⟨rfl, rfl, rfl, rfl, trivial⟩ ?_
    refine c_if H rfl (fun H => ?_) (fun H => ?_)
    ·
      refine c_seq ?_
      refine c_region ?_
      refine w_p tok rfl rfl rfl ?_
      refine w_p tok rfl rfl rfl ?_
      refine w_end ?_
      refine x_seq ?_
      refine c_ret ?_
      refine x_br ?_
      refine x_tr ?_
      refine x_tr ?_
      refine x_br ?_
      refine x_tr ?_
      exact x_ret _ rfl _ rfl ⟨t5_1, rfl, H⟩
    ·
      refine c_skip ?_
      refine x_blk ?_
      refine x_seq ?_
      refine c_region ?_
      refine w_p tok rfl rfl rfl ?_
      refine w_p tok rfl rfl rfl ?_
      obtain ⟨x6, ex6, H⟩ := H
      refine w_pe tok rfl (congrArg (fun z => (.int .i64 z : Value)) ex6) rfl rfl ?_
      refine w_end ?_
      exact x_join x6 H ⟨rfl, rfl, rfl, trivial⟩
  ·
    refine c_exit ?_
    refine x_te ?_
    refine x_te ?_
    refine x_bh ?_
    refine x_seq ?_
    refine c_weak [] trivial ?_
    refine c_seq ?_
    refine c_region ?_
    obtain ⟨x7, ex7, H⟩ := H
    refine w_pe tok rfl (congrArg (fun z => (.int .i64 z : Value)) ex7) rfl rfl ?_
    refine w_end ?_
    refine x_seq ?_
    refine c_ret ?_
    exact x_ret _ rfl _ rfl ⟨x7, rfl, H⟩

theorem ref25_Reg_Epoch_ok : CallOk Go.Proofs.Try.prog 81 := ⟨_, Go.Proofs.Try.func81, by kernel_rfl, by kernel_rfl⟩
theorem ref25_Reg_Epoch_ref (p0 : Option Addr) (p1 : ByteArray) (k : (Int) → Heap → Prop) (h : Heap) (H : ref25_Reg_Epoch p0 p1 k h) : CallsH Go.Proofs.Try.prog 81 #[.pointer p0, .string p1] h (fun v h' => ∃ r : Int, v = .int .u32 r ∧ k r h') := by
  refine f_enter (N := 44) Go.Proofs.Try.func81 rfl rfl rfl (fun w0 => ?_)
  unfold ref25_Reg_Epoch at H
  refine c_weak [(0, .pointer p0), (1, .string p1)] ⟨rfl, rfl, trivial⟩ ?_
  refine c_seq ?_
  refine c_region ?_
  refine w_p tok rfl rfl rfl ?_
  refine w_end ?_
  refine x_seq ?_
  refine c_seq ?_
  refine c_region ?_
  refine w_p tok rfl rfl rfl ?_
  refine w_p tok rfl rfl rfl ?_
  refine w_call ref25_Reg_find_ok (ref25_Reg_find_ref _ _ _ _ H) rfl rfl rfl rfl ?_
  rintro _ h2 ⟨r1, rfl, H⟩
  refine w_p tok rfl rfl rfl ?_
  refine w_end ?_
  refine x_seq ?_
  refine c_seq ?_
  refine c_seq ?_
  refine c_region ?_
  refine w_p tok rfl rfl rfl ?_
  refine w_p tok rfl rfl rfl ?_
  refine w_p tok rfl rfl rfl ?_
  refine w_cut 11 (α := Bool) (fun (s : Bool) => [(22, .bool s), (0, .pointer p0), (5, .int .i64 r1)]) (fun (s : Bool) h => ref25_Reg_Epoch_g1 p0 r1 s k h) ?_ ?_
  ·
    rintro t22_1 h_1 H
    replace H : ref25_Reg_Epoch_g1 p0 r1 t22_1 k h_1 := H
    unfold ref25_Reg_Epoch_g1 at H
    refine w_weak [(22, .bool t22_1), (0, .pointer p0), (5, .int .i64 r1)] ⟨rfl, rfl, rfl, trivial⟩ ?_
    refine w_end ?_
    refine x_seq ?_
    refine c_if H rfl (fun H => ?_) (fun H => ?_)
    ·
      refine c_seq ?_
      refine c_region ?_
      refine w_p tok rfl rfl rfl ?_
      refine w_end ?_
      refine x_seq ?_
      refine c_ret ?_
      refine x_tr ?_
      exact x_ret _ rfl _ rfl ⟨0, rfl, H⟩
    ·
      refine c_skip ?_
      refine x_seq ?_
      refine c_seq ?_
      refine c_draw (by kernel_rfl) (by kernel_rfl) ?_
      refine q_p tok rfl rfl rfl ?_
      obtain ⟨a3, ha3, H⟩ := H
      refine q_y (y_nil' rfl rfl ha3) rfl rfl ?_
      refine q_p tok rfl rfl rfl ?_
      obtain ⟨v4, hv4, H⟩ := H
      refine q_y (y_ld tok rfl rfl rfl rfl hv4) rfl rfl ?_
      refine q_p tok rfl rfl rfl ?_
      obtain ⟨a5, ha5, la5, ua5, H⟩ := H
      refine q_y (y_ixa' tok rfl rfl ha5 rfl rfl rfl la5 ua5) rfl rfl ?_
      refine q_p tok rfl rfl rfl ?_
      obtain ⟨v6, hv6, H⟩ := H
      refine q_y (y_ld tok rfl rfl rfl rfl hv6) rfl rfl ?_
      refine q_p tok rfl rfl rfl ?_
      refine q_y (y_nil' rfl rfl ha3) rfl rfl ?_
      refine q_p tok rfl rfl rfl ?_
      obtain ⟨v7, hv7, H⟩ := H
      refine q_y (y_ld tok rfl rfl rfl rfl hv7) rfl rfl ?_
      refine q_p tok rfl rfl rfl ?_
      obtain ⟨a8, ha8, la8, ua8, H⟩ := H
      refine q_y (y_ixa' tok rfl rfl ha8 rfl rfl rfl la8 ua8) rfl rfl ?_
      refine q_p tok rfl rfl rfl ?_
      obtain ⟨v9, hv9, H⟩ := H
      refine q_y (y_ld tok rfl rfl rfl rfl hv9) rfl rfl ?_
      refine q_p tok rfl rfl rfl ?_
      refine q_p tok rfl rfl rfl ?_
      obtain ⟨a10, ha10, la10, ua10, H⟩ := H
      refine q_y (y_ixa' tok rfl rfl ha10 rfl rfl rfl la10 ua10) rfl rfl ?_
      refine q_p tok rfl rfl rfl ?_
      obtain ⟨v11, hv11, H⟩ := H
      refine q_y (y_ld tok rfl rfl rfl rfl hv11) rfl rfl ?_
      refine q_p tok rfl rfl rfl ?_
      refine q_end ?_
      refine x_seq ?_
      refine c_weak [(4, .int .u32 v11)] ⟨rfl, trivial⟩ ?_
      refine c_ret ?_
      exact x_ret _ rfl _ rfl ⟨v11, rfl, H⟩
  ·
    refine w_gif (d := 11) H rfl (fun H => ?_) (fun H => ?_)
    ·
      refine w_skip rfl rfl ?_
      refine w_skip rfl rfl ?_
      refine w_skip rfl rfl ?_
      refine w_skip rfl rfl ?_
      refine w_skip rfl rfl ?_
      refine w_skip rfl rfl ?_
      refine w_skip rfl rfl ?_
      refine w_skip rfl rfl ?_
      refine w_skip rfl rfl ?_
      refine w_skip rfl rfl ?_
      refine w_p tok rfl rfl rfl ?_
      exact w_jn true H ⟨rfl, rfl, rfl, trivial⟩
    ·
      refine w_p tok rfl rfl rfl ?_
      obtain ⟨a12, ha12, H⟩ := H
      refine w_y (y_nil' rfl rfl ha12) rfl rfl ?_
      refine w_p tok rfl rfl rfl ?_
      obtain ⟨v13, hv13, H⟩ := H
      refine w_y (y_ld tok rfl rfl rfl rfl hv13) rfl rfl ?_
      refine w_p tok rfl rfl rfl ?_
      obtain ⟨a14, ha14, la14, ua14, H⟩ := H
      refine w_y (y_ixa' tok rfl rfl ha14 rfl rfl rfl la14 ua14) rfl rfl ?_
      refine w_p tok rfl rfl rfl ?_
      obtain ⟨v15, hv15, H⟩ := H
      refine w_y (y_ld tok rfl rfl rfl rfl hv15) rfl rfl ?_
      refine w_p tok rfl rfl rfl ?_
      refine w_p tok rfl rfl rfl ?_
      refine w_p tok rfl rfl rfl ?_
      exact w_jn ((v15.len : Int) == 0) H ⟨rfl, rfl, rfl, trivial⟩

theorem ref25_Reg_Apply_ok : CallOk Go.Proofs.Try.prog 80 := ⟨_, Go.Proofs.Try.func80, by kernel_rfl, by kernel_rfl⟩
theorem ref25_Reg_Apply_ref (p0 : Option Addr) (p1 : S_api_Command) (k : (Int) → Heap → Prop) (h : Heap) (H : ref25_Reg_Apply p0 p1 k h) : CallsH Go.Proofs.Try.prog 80 #[.pointer p0, .agg (S_api_Command.cs p1).toArray] h (fun v h' => ∃ r : Int, v = .int .i64 r ∧ k r h') := by
  refine f_enter (N := 226) Go.Proofs.Try.func80 rfl rfl rfl (fun w0 => ?_)
  unfold ref25_Reg_Apply at H
  refine c_weak [(0, .pointer p0), (1, .agg (S_api_Command.cs p1).toArray)] ⟨rfl, rfl, trivial⟩ ?_
  refine c_seq ?_
  refine c_region ?_
  obtain ⟨b1, h2, eb1, eh2, H⟩ := H
  refine w_h (h_box rfl rfl eb1 eh2) rfl rfl ?_
  refine w_p tok rfl rfl rfl ?_
  refine w_end ?_
  refine x_seq ?_
  refine c_seq ?_
  refine c_seq ?_
  refine c_region ?_
  refine w_p tok rfl rfl rfl ?_
  obtain ⟨v3, hv3, H⟩ := H
  refine w_y (y_ld tok rfl rfl rfl rfl hv3) rfl rfl ?_
  refine w_p tok rfl rfl rfl ?_
  refine w_p tok rfl rfl rfl ?_
  refine w_cut 4 (α := Bool) (fun (s : Bool) => [(22, .bool s), (0, .pointer p0), (3, .pointer (some (⟨b1, 0, none⟩ : Addr)))]) (fun (s : Bool) h => ref25_Reg_Apply_g1 p0 (⟨b1, 0, none⟩ : Addr) s k h) ?_ ?_
  ·
    rintro t22_1 h_1 H
    replace H : ref25_Reg_Apply_g1 p0 (⟨b1, 0, none⟩ : Addr) t22_1 k h_1 := H
    unfold ref25_Reg_Apply_g1 at H
    refine w_weak [(22, .bool t22_1), (0, .pointer p0), (3, .pointer (some (⟨b1, 0, none⟩ : Addr)))] ⟨rfl, rfl, rfl, trivial⟩ ?_
    refine w_p tok rfl rfl rfl ?_
    refine w_cut 10 (α := Bool) (fun (s : Bool) => [(33, .bool s), (0, .pointer p0), (3, .pointer (some (⟨b1, 0, none⟩ : Addr)))]) (fun (s : Bool) h => ref25_Reg_Apply_g2 p0 (⟨b1, 0, none⟩ : Addr) s k h) ?_ ?_
    ·
      rintro t33_2 h_2 H
      replace H : ref25_Reg_Apply_g2 p0 (⟨b1, 0, none⟩ : Addr) t33_2 k h_2 := H
      unfold ref25_Reg_Apply_g2 at H
      refine w_weak [(33, .bool t33_2), (0, .pointer p0), (3, .pointer (some (⟨b1, 0, none⟩ : Addr)))] ⟨rfl, rfl, rfl, trivial⟩ ?_
      refine w_p tok rfl rfl rfl ?_
      refine w_cut 15 (α := Bool) (fun (s : Bool) => [(49, .bool s), (0, .pointer p0), (3, .pointer (some (⟨b1, 0, none⟩ : Addr)))]) (fun (s : Bool) h => ref25_Reg_Apply_g3 p0 (⟨b1, 0, none⟩ : Addr) s k h) ?_ ?_
      ·
        rintro t49_3 h_3 H
        replace H : ref25_Reg_Apply_g3 p0 (⟨b1, 0, none⟩ : Addr) t49_3 k h_3 := H
        unfold ref25_Reg_Apply_g3 at H
        refine w_weak [(49, .bool t49_3), (0, .pointer p0), (3, .pointer (some (⟨b1, 0, none⟩ : Addr)))] ⟨rfl, rfl, rfl, trivial⟩ ?_
        refine w_end ?_
        refine x_seq ?_
        refine c_if H rfl (fun H => ?_) (fun H => ?_)
        ·
          refine c_seq ?_
          refine c_region ?_
          refine w_p tok rfl rfl rfl ?_
          refine w_end ?_
          refine x_seq ?_
          refine c_ret ?_
          refine x_tr ?_
          exact x_ret _ rfl _ rfl ⟨1, rfl, H⟩
        ·
          refine c_skip ?_
          refine x_seq ?_
          refine c_seq ?_
          refine c_seq ?_
          refine c_region ?_
          refine w_p tok rfl rfl rfl ?_
          obtain ⟨v4, hv4, H⟩ := H
          refine w_y (y_ld tok rfl rfl rfl rfl hv4) rfl rfl ?_
          refine w_p tok rfl rfl rfl ?_
          refine w_end ?_
          refine x_seq ?_
          refine c_if H rfl (fun H => ?_) (fun H => ?_)
          ·
            refine c_seq ?_
            refine c_region ?_
            refine w_p tok rfl rfl rfl ?_
            refine w_end ?_
            refine x_seq ?_
            refine c_ret ?_
            refine x_tr ?_
            exact x_ret _ rfl _ rfl ⟨0, rfl, H⟩
          ·
            refine c_skip ?_
            refine x_seq ?_
            refine c_seq ?_
            refine c_region ?_
            refine w_p tok rfl rfl rfl ?_
            refine w_p tok rfl rfl rfl ?_
            obtain ⟨v5, hv5, H⟩ := H
            refine w_y (y_ld tok rfl rfl rfl rfl hv5) rfl rfl ?_
            refine w_call ref25_Reg_find_ok (ref25_Reg_find_ref _ _ _ _ H) rfl rfl rfl rfl ?_
            rintro _ h7 ⟨r6, rfl, H⟩
            refine w_p tok rfl rfl rfl ?_
            refine w_end ?_
            refine x_seq ?_
            refine c_weak [(0, .pointer p0), (3, .pointer (some (⟨b1, 0, none⟩ : Addr))), (5, .int .i64 r6)] ⟨rfl, rfl, rfl, trivial⟩ ?_
            refine c_seq ?_
            refine c_region ?_
            refine w_p tok rfl rfl rfl ?_
            refine w_p tok rfl rfl rfl ?_
            obtain ⟨v8, hv8, H⟩ := H
            refine w_y (y_ld tok rfl rfl rfl rfl hv8) rfl rfl ?_
            refine w_call ref25_Reg_Epoch_ok (ref25_Reg_Epoch_ref _ _ _ _ H) rfl rfl rfl rfl ?_
            rintro _ h10 ⟨r9, rfl, H⟩
            refine w_p tok rfl rfl rfl ?_
            refine w_end ?_
            refine x_seq ?_
            refine c_seq ?_
            refine c_region ?_
            refine w_p tok rfl rfl rfl ?_
            obtain ⟨v11, hv11, H⟩ := H
            refine w_y (y_ld tok rfl rfl rfl rfl hv11) rfl rfl ?_
            refine w_p tok rfl rfl rfl ?_
            obtain ⟨v12, hv12, H⟩ := H
            refine w_y (y_lda tok rfl rfl rfl rfl rfl hv12) rfl rfl ?_
            refine w_p tok rfl rfl rfl ?_
            obtain ⟨v13, hv13, H⟩ := H
            refine w_y (y_ld tok rfl rfl rfl rfl hv13) rfl rfl ?_
            refine w_y (y_build tok rfl rfl rfl rfl rfl) rfl rfl ?_
            obtain ⟨b14, h15, eb14, eh15, H⟩ := H
            refine w_h (h_alloc tok rfl rfl eb14 eh15) rfl rfl ?_
            obtain ⟨h16, wh16, eh16, H⟩ := H
            refine w_h (h_sts tok rfl rfl rfl rfl rfl (oneC (by kernel_rfl)) wh16 eh16) rfl rfl ?_
            refine w_end ?_
            refine x_seq ?_
            refine c_weak [(0, .pointer p0), (3, .pointer (some (⟨b1, 0, none⟩ : Addr))), (5, .int .i64 r6), (6, .int .u32 r9), (7, .pointer (some (⟨b14, 0, none⟩ : Addr)))] ⟨rfl, rfl, rfl, rfl, rfl, trivial⟩ ?_
            refine c_seq ?_
            refine c_seq ?_
            refine c_region ?_
            refine w_p tok rfl rfl rfl ?_
            obtain ⟨v17, hv17, H⟩ := H
            refine w_y (y_ld tok rfl rfl rfl rfl hv17) rfl rfl ?_
            refine w_p tok rfl rfl rfl ?_
            refine w_end ?_
            refine x_seq ?_
            refine c_if H rfl (fun H => ?_) (fun H => ?_)
            ·
              refine c_seq ?_
              refine c_seq ?_
              refine c_region ?_
              refine w_p tok rfl rfl rfl ?_
              refine w_p tok rfl rfl rfl ?_
              refine w_end ?_
              refine x_seq ?_
              refine c_if H rfl (fun H => ?_) (fun H => ?_)
              ·
                refine c_seq ?_
                refine c_region ?_
                refine w_p tok rfl rfl rfl ?_
                refine w_end ?_
                refine x_seq ?_
                refine c_weak [(4, .int .i64 7)] ⟨rfl, trivial⟩ ?_
                refine c_ret ?_
                refine x_tr ?_
                refine x_tr ?_
                exact x_ret _ rfl _ rfl ⟨7, rfl, H⟩
              ·
                refine c_skip ?_
                refine x_seq ?_
                refine c_weak [(0, .pointer p0), (3, .pointer (some (⟨b1, 0, none⟩ : Addr))), (7, .pointer (some (⟨b14, 0, none⟩ : Addr)))] ⟨rfl, rfl, rfl, trivial⟩ ?_
                refine c_seq ?_
                refine c_seq ?_
                refine c_region ?_
                refine w_p tok rfl rfl rfl ?_
                obtain ⟨a18, ha18, H⟩ := H
                refine w_y (y_nil' rfl rfl ha18) rfl rfl ?_
                refine w_p tok rfl rfl rfl ?_
                obtain ⟨v19, hv19, H⟩ := H
                refine w_y (y_ld tok rfl rfl rfl rfl hv19) rfl rfl ?_
                refine w_p tok rfl rfl rfl ?_
                refine w_p tok rfl rfl rfl ?_
                refine w_end ?_
                refine x_seq ?_
                refine c_if H rfl (fun H => ?_) (fun H => ?_)
                ·
                  refine c_seq ?_
                  refine c_region ?_
                  refine w_p tok rfl rfl rfl ?_
                  refine w_end ?_
                  refine x_seq ?_
                  refine c_weak [(4, .int .i64 8)] ⟨rfl, trivial⟩ ?_
                  refine c_ret ?_
                  refine x_tr ?_
                  refine x_tr ?_
                  exact x_ret _ rfl _ rfl ⟨8, rfl, H⟩
                ·
                  refine c_skip ?_
                  refine x_seq ?_
                  refine c_seq ?_
                  refine c_seq ?_
                  refine c_region ?_
                  refine w_p tok rfl rfl rfl ?_
                  obtain ⟨v20, hv20, H⟩ := H
                  refine w_y (y_ld tok rfl rfl rfl rfl hv20) rfl rfl ?_
                  refine w_p tok rfl rfl rfl ?_
                  refine w_end ?_
                  refine x_seq ?_
                  refine c_weak [(0, .pointer p0), (3, .pointer (some (⟨b1, 0, none⟩ : Addr))), (7, .pointer (some (⟨b14, 0, none⟩ : Addr))), (81, .bool (v20 != 1))] ⟨rfl, rfl, rfl, rfl, trivial⟩ ?_
                  refine c_if H rfl (fun H => ?_) (fun H => ?_)
                  ·
                    refine c_seq ?_
                    refine c_region ?_
                    refine w_p tok rfl rfl rfl ?_
                    refine w_end ?_
                    refine x_seq ?_
                    refine c_ret ?_
                    refine x_tr ?_
                    refine x_tr ?_
                    exact x_ret _ rfl _ rfl ⟨13, rfl, H⟩
                  ·
                    refine c_skip ?_
                    refine x_seq ?_
                    refine c_seq ?_
                    refine c_region ?_
                    refine w_p tok rfl rfl rfl ?_
                    obtain ⟨v21, hv21, H⟩ := H
                    refine w_y (y_ld tok rfl rfl rfl rfl hv21) rfl rfl ?_
                    obtain ⟨v22, hv22, H⟩ := H
                    refine w_y (y_lda tok rfl rfl rfl rfl rfl hv22) rfl rfl ?_
                    obtain ⟨b23, h24, eb23, eh24, H⟩ := H
                    refine w_h (h_bs tok rfl rfl rfl rfl rfl rfl rfl eb23 eh24) rfl rfl ?_
                    refine w_y (y_build tok rfl rfl rfl rfl rfl) rfl rfl ?_
                    obtain ⟨b25, h26, eb25, eh26, H⟩ := H
                    refine w_h (h_alloc tok rfl rfl eb25 eh26) rfl rfl ?_
                    obtain ⟨h27, wh27, eh27, H⟩ := H
                    refine w_h (h_sts tok rfl rfl rfl rfl rfl (oneC (by kernel_rfl)) wh27 eh27) rfl rfl ?_
                    refine w_end ?_
                    refine x_seq ?_
                    refine c_weak [(0, .pointer p0), (3, .pointer (some (⟨b1, 0, none⟩ : Addr))), (8, .pointer (some (⟨b25, 0, none⟩ : Addr)))] ⟨rfl, rfl, rfl, trivial⟩ ?_
                    refine c_seq ?_
                    refine c_region ?_
                    refine w_p tok rfl rfl rfl ?_
                    refine w_end ?_
                    refine x_seq ?_
                    refine c_seq ?_
                    refine c_seq ?_
                    refine c_region ?_
                    refine w_p tok rfl rfl rfl ?_
                    refine w_end ?_
                    refine x_seq ?_
                    refine c_block ?_
                    obtain ⟨I4, μ4, H0, HI⟩ := H
                    refine c_loop (σ := Slc × Int) (fun (s : Slc × Int) => [(9, Slc.v s.1), (10, .int .i64 s.2), (0, .pointer p0), (3, .pointer (some (⟨b1, 0, none⟩ : Addr))), (8, .pointer (some (⟨b25, 0, none⟩ : Addr)))]) I4 μ4 ((⟨none, 0, 0⟩ : Slc), 0) H0 ⟨rfl, rfl, rfl, rfl, rfl, trivial⟩ ?_
                    rintro ⟨t9_4, t10_4⟩ h_4 H
                    replace H := HI t9_4 t10_4 h_4 H
                    unfold ref25_Reg_Apply_l4b at H
                    refine c_weak [(9, Slc.v t9_4), (10, .int .i64 t10_4), (0, .pointer p0), (3, .pointer (some (⟨b1, 0, none⟩ : Addr))), (8, .pointer (some (⟨b25, 0, none⟩ : Addr)))] ⟨rfl, rfl, rfl, rfl, rfl, trivial⟩ ?_
                    refine c_seq ?_
                    refine c_seq ?_
                    refine c_draw (by kernel_rfl) (by kernel_rfl) ?_
                    refine q_p tok rfl rfl rfl ?_
                    refine q_p tok rfl rfl rfl ?_
                    obtain ⟨a28, ha28, H⟩ := H
                    refine q_y (y_nil' rfl rfl ha28) rfl rfl ?_
                    refine q_p tok rfl rfl rfl ?_
                    obtain ⟨v29, hv29, H⟩ := H
                    refine q_y (y_ld tok rfl rfl rfl rfl hv29) rfl rfl ?_
                    refine q_p tok rfl rfl rfl ?_
                    refine q_p tok rfl rfl rfl ?_
                    refine q_p tok rfl rfl rfl ?_
                    refine q_cut 12 (α := Bool) (fun (s : Bool) => [(106, .bool s), (0, .pointer p0), (3, .pointer (some (⟨b1, 0, none⟩ : Addr))), (8, .pointer (some (⟨b25, 0, none⟩ : Addr))), (9, Slc.v t9_4), (10, .int .i64 t10_4)]) (fun (s : Bool) => ref25_Reg_Apply_g5 p0 (⟨b1, 0, none⟩ : Addr) (⟨b25, 0, none⟩ : Addr) t9_4 t10_4 s k (fun s h' => I4 s h' ∧ μ4 s h' < μ4 (t9_4, t10_4) h_4) h_4) ?_ ?_
                    ·
                      rintro t106_5 H
                      replace H : ref25_Reg_Apply_g5 p0 (⟨b1, 0, none⟩ : Addr) (⟨b25, 0, none⟩ : Addr) t9_4 t10_4 t106_5 k (fun s h' => I4 s h' ∧ μ4 s h' < μ4 (t9_4, t10_4) h_4) h_4 := H
                      unfold ref25_Reg_Apply_g5 at H
                      refine q_weak [(106, .bool t106_5), (0, .pointer p0), (3, .pointer (some (⟨b1, 0, none⟩ : Addr))), (8, .pointer (some (⟨b25, 0, none⟩ : Addr))), (9, Slc.v t9_4), (10, .int .i64 t10_4)] ⟨rfl, rfl, rfl, rfl, rfl, rfl, trivial⟩ ?_
                      refine q_end ?_
                      refine x_seq ?_
                      refine c_if H rfl (fun H => ?_) (fun H => ?_)
                      ·
                        refine c_skip ?_
                        refine x_seq ?_
                        refine c_seq ?_
                        refine c_block ?_
                        refine c_region ?_
                        refine w_p tok rfl rfl rfl ?_
                        refine w_p tok rfl rfl rfl ?_
                        obtain ⟨a30, ha30, H⟩ := H
                        refine w_y (y_nil' rfl rfl ha30) rfl rfl ?_
                        refine w_p tok rfl rfl rfl ?_
                        obtain ⟨v31, hv31, H⟩ := H
                        refine w_y (y_ld tok rfl rfl rfl rfl hv31) rfl rfl ?_
                        refine w_p tok rfl rfl rfl ?_
                        obtain ⟨a32, ha32, la32, ua32, H⟩ := H
                        refine w_y (y_ixa' tok rfl rfl ha32 rfl rfl rfl la32 ua32) rfl rfl ?_
                        obtain ⟨v33, hv33, H⟩ := H
                        refine w_y (y_lda tok rfl rfl rfl rfl rfl hv33) rfl rfl ?_
                        obtain ⟨b34, h35, eb34, eh35, H⟩ := H
                        refine w_h (h_bs tok rfl rfl rfl rfl rfl rfl rfl eb34 eh35) rfl rfl ?_
                        refine w_a (a_app (s := t9_4) (r := (⟨some ⟨b34, 0, none⟩, 1, 1⟩ : Slc)) tok rfl rfl rfl rfl rfl (slcAt_push eb34 eh35) H) rfl rfl ?_
                        rintro _ h37 ⟨s36, rfl, H⟩
                        refine w_p tok rfl rfl rfl ?_
                        refine w_end ?_
                        refine x_blk ?_
                        refine x_seq ?_
                        refine c_weak [(0, .pointer p0), (3, .pointer (some (⟨b1, 0, none⟩ : Addr))), (8, .pointer (some (⟨b25, 0, none⟩ : Addr))), (9, Slc.v s36), (10, .int .i64 t10_4)] ⟨rfl, rfl, rfl, rfl, rfl, trivial⟩ ?_
                        refine c_region ?_
                        refine w_p tok rfl rfl rfl ?_
                        refine w_p tok rfl rfl rfl ?_
                        obtain ⟨x38, ex38, H⟩ := H
                        refine w_pe tok rfl (congrArg (fun z => (.int .i64 z : Value)) ex38) rfl rfl ?_
                        refine w_end ?_
                        exact x_join (s36, x38) H ⟨rfl, rfl, rfl, rfl, rfl, trivial⟩
                      ·
                        refine c_exit ?_
                        refine x_te ?_
                        refine x_te ?_
                        refine x_bh ?_
                        refine x_seq ?_
                        refine c_seq ?_
                        refine c_region ?_
                        refine w_p tok rfl rfl rfl ?_
                        refine w_p tok rfl rfl rfl ?_
                        obtain ⟨x39, ex39, H⟩ := H
                        refine w_pe tok rfl (congrArg (fun z => (.int .i64 z : Value)) ex39) rfl rfl ?_
                        refine w_end ?_
                        refine x_seq ?_
                        refine c_seq ?_
                        refine c_region ?_
                        refine w_p tok rfl rfl rfl ?_
                        obtain ⟨v40, hv40, H⟩ := H
                        refine w_y (y_lda tok rfl rfl rfl rfl rfl hv40) rfl rfl ?_
                        obtain ⟨b41, h42, eb41, eh42, H⟩ := H
                        refine w_h (h_bs tok rfl rfl rfl rfl rfl rfl rfl eb41 eh42) rfl rfl ?_
                        refine w_a (a_app (s := t9_4) (r := (⟨some ⟨b41, 0, none⟩, 1, 1⟩ : Slc)) tok rfl rfl rfl rfl rfl (slcAt_push eb41 eh42) H) rfl rfl ?_
                        rintro _ h44 ⟨s43, rfl, H⟩
                        refine w_p tok rfl rfl rfl ?_
                        refine w_end ?_
                        refine x_seq ?_
                        refine c_weak [(0, .pointer p0), (9, Slc.v s43), (11, .int .i64 x39)] ⟨rfl, rfl, rfl, trivial⟩ ?_
                        refine c_seq ?_
                        refine c_region ?_
                        refine w_p tok rfl rfl rfl ?_
                        refine w_p tok rfl rfl rfl ?_
                        refine w_p tok rfl rfl rfl ?_
                        obtain ⟨a45, ha45, H⟩ := H
                        refine w_y (y_nil' rfl rfl ha45) rfl rfl ?_
                        refine w_p tok rfl rfl rfl ?_
                        obtain ⟨v46, hv46, H⟩ := H
                        refine w_y (y_ld tok rfl rfl rfl rfl hv46) rfl rfl ?_
                        refine w_p tok rfl rfl rfl ?_
                        obtain ⟨s47, ps47, qs47, rs47, ts47, es47, H⟩ := H
                        refine w_ye (y_sl (s := v46) (L := x39) (H := (v46.len : Int)) (M := (v46.cap : Int)) tok rfl rfl rfl rfl rfl rfl rfl (by simp) ps47 qs47 rs47 ts47) (congrArg Slc.v es47) rfl rfl ?_
                        obtain ⟨l50, hl50, H⟩ := H
                        refine w_a (a_app (s := s43) (r := s47) tok rfl rfl rfl rfl rfl hl50 H) rfl rfl ?_
                        rintro _ h49 ⟨s48, rfl, H⟩
                        refine w_y (y_nil' rfl rfl ha45) rfl rfl ?_
                        refine w_p tok rfl rfl rfl ?_
                        obtain ⟨h51, wh51, eh51, H⟩ := H
                        refine w_h (h_st tok rfl rfl rfl rfl rfl rfl wh51 eh51) rfl rfl ?_
                        refine w_end ?_
                        refine x_seq ?_
                        refine c_weak [] trivial ?_
                        refine c_seq ?_
                        refine c_region ?_
                        refine w_p tok rfl rfl rfl ?_
                        refine w_end ?_
                        refine x_seq ?_
                        refine c_ret ?_
                        refine x_tr ?_
                        exact x_ret _ rfl _ rfl ⟨0, rfl, H⟩
                    ·
                      refine q_gif (d := 94) H rfl (fun H => ?_) (fun H => ?_)
                      ·
                        refine q_p tok rfl rfl rfl ?_
                        refine q_y (y_nil' rfl rfl ha28) rfl rfl ?_
                        refine q_p tok rfl rfl rfl ?_
                        obtain ⟨v52, hv52, H⟩ := H
                        refine q_y (y_ld tok rfl rfl rfl rfl hv52) rfl rfl ?_
                        refine q_p tok rfl rfl rfl ?_
                        obtain ⟨a53, ha53, la53, ua53, H⟩ := H
                        refine q_y (y_ixa' tok rfl rfl ha53 rfl rfl rfl la53 ua53) rfl rfl ?_
                        refine q_p tok rfl rfl rfl ?_
                        obtain ⟨v54, hv54, H⟩ := H
                        refine q_y (y_ld tok rfl rfl rfl rfl hv54) rfl rfl ?_
                        refine q_p tok rfl rfl rfl ?_
                        obtain ⟨v55, hv55, H⟩ := H
                        refine q_y (y_ld tok rfl rfl rfl rfl hv55) rfl rfl ?_
                        refine q_p tok rfl rfl rfl ?_
                        refine q_p tok rfl rfl rfl ?_
                        exact q_jn (Op.bytesLess v54.toList v55.toList) H ⟨rfl, rfl, rfl, rfl, rfl, rfl, trivial⟩
                      ·
                        refine q_skip rfl rfl ?_
                        refine q_skip rfl rfl ?_
                        refine q_skip rfl rfl ?_
                        refine q_skip rfl rfl ?_
                        refine q_skip rfl rfl ?_
                        refine q_skip rfl rfl ?_
                        refine q_skip rfl rfl ?_
                        refine q_skip rfl rfl ?_
                        refine q_skip rfl rfl ?_
                        refine q_skip rfl rfl ?_
                        refine q_skip rfl rfl ?_
                        refine q_p tok rfl rfl rfl ?_
                        exact q_jn false H ⟨rfl, rfl, rfl, rfl, rfl, rfl, trivial⟩
            ·
              refine c_skip ?_
              refine x_seq ?_
              refine c_seq ?_
              refine c_seq ?_
              refine c_region ?_
              refine w_p tok rfl rfl rfl ?_
              refine w_p tok rfl rfl rfl ?_
              refine w_end ?_
              refine x_seq ?_
              refine c_if H rfl (fun H => ?_) (fun H => ?_)
              ·
                refine c_seq ?_
                refine c_region ?_
                refine w_p tok rfl rfl rfl ?_
                refine w_end ?_
                refine x_seq ?_
                refine c_weak [(4, .int .i64 16)] ⟨rfl, trivial⟩ ?_
                refine c_ret ?_
                refine x_tr ?_
                exact x_ret _ rfl _ rfl ⟨16, rfl, H⟩
              ·
                refine c_skip ?_
                refine x_seq ?_
                refine c_seq ?_
                refine c_region ?_
                refine w_p tok rfl rfl rfl ?_
                obtain ⟨a56, ha56, H⟩ := H
                refine w_y (y_nil' rfl rfl ha56) rfl rfl ?_
                refine w_p tok rfl rfl rfl ?_
                obtain ⟨v57, hv57, H⟩ := H
                refine w_y (y_ld tok rfl rfl rfl rfl hv57) rfl rfl ?_
                refine w_p tok rfl rfl rfl ?_
                obtain ⟨a58, ha58, la58, ua58, H⟩ := H
                refine w_y (y_ixa' tok rfl rfl ha58 rfl rfl rfl la58 ua58) rfl rfl ?_
                obtain ⟨v59, hv59, H⟩ := H
                refine w_y (y_lda tok rfl rfl rfl rfl rfl hv59) rfl rfl ?_
                obtain ⟨b60, h61, eb60, eh61, H⟩ := H
                refine w_h (h_alloc tok rfl rfl eb60 eh61) rfl rfl ?_
                obtain ⟨h62, wh62, eh62, H⟩ := H
                refine w_h (h_sts tok rfl rfl rfl rfl rfl (oneC (by kernel_rfl)) wh62 eh62) rfl rfl ?_
                refine w_end ?_
                refine x_seq ?_
                refine c_weak [(0, .pointer p0), (3, .pointer (some (⟨b1, 0, none⟩ : Addr))), (5, .int .i64 r6), (6, .int .u32 r9), (7, .pointer (some (⟨b14, 0, none⟩ : Addr))), (12, .pointer (some (⟨b60, 0, none⟩ : Addr)))] ⟨rfl, rfl, rfl, rfl, rfl, rfl, trivial⟩ ?_
                refine c_seq ?_
                refine c_seq ?_
                refine c_region ?_
                refine w_p tok rfl rfl rfl ?_
                obtain ⟨v63, hv63, H⟩ := H
                refine w_y (y_ld tok rfl rfl rfl rfl hv63) rfl rfl ?_
                refine w_p tok rfl rfl rfl ?_
                refine w_cut 4 (α := Bool) (fun (s : Bool) => [(151, .bool s), (0, .pointer p0), (3, .pointer (some (⟨b1, 0, none⟩ : Addr))), (5, .int .i64 r6), (6, .int .u32 r9), (7, .pointer (some (⟨b14, 0, none⟩ : Addr))), (12, .pointer (some (⟨b60, 0, none⟩ : Addr)))]) (fun (s : Bool) h => ref25_Reg_Apply_g6 p0 (⟨b1, 0, none⟩ : Addr) r6 r9 (⟨b14, 0, none⟩ : Addr) (⟨b60, 0, none⟩ : Addr) s k h) ?_ ?_
                ·
                  rintro t151_6 h_6 H
                  replace H : ref25_Reg_Apply_g6 p0 (⟨b1, 0, none⟩ : Addr) r6 r9 (⟨b14, 0, none⟩ : Addr) (⟨b60, 0, none⟩ : Addr) t151_6 k h_6 := H
                  unfold ref25_Reg_Apply_g6 at H
                  refine w_weak [(151, .bool t151_6), (0, .pointer p0), (3, .pointer (some (⟨b1, 0, none⟩ : Addr))), (5, .int .i64 r6), (6, .int .u32 r9), (7, .pointer (some (⟨b14, 0, none⟩ : Addr))), (12, .pointer (some (⟨b60, 0, none⟩ : Addr)))] ⟨rfl, rfl, rfl, rfl, rfl, rfl, rfl, trivial⟩ ?_
                  refine w_end ?_
                  refine x_seq ?_
                  refine c_if H rfl (fun H => ?_) (fun H => ?_)
                  ·
                    refine c_seq ?_
                    refine c_region ?_
                    refine w_p tok rfl rfl rfl ?_
                    refine w_end ?_
                    refine x_seq ?_
                    refine c_weak [(4, .int .i64 17)] ⟨rfl, trivial⟩ ?_
                    refine c_ret ?_
                    refine x_tr ?_
                    exact x_ret _ rfl _ rfl ⟨17, rfl, H⟩
                  ·
                    refine c_skip ?_
                    refine x_seq ?_
                    refine c_seqJ (α := Unit) (fun (s : Unit) => [(0, .pointer p0), (5, .int .i64 r6), (12, .pointer (some (⟨b60, 0, none⟩ : Addr)))]) (fun (s : Unit) h => ref25_Reg_Apply_j7 p0 r6 (⟨b60, 0, none⟩ : Addr) k h) ?_ ?_
                    ·
                      rintro _ h_7 H
                      replace H : ref25_Reg_Apply_j7 p0 r6 (⟨b60, 0, none⟩ : Addr) k h_7 := H
                      unfold ref25_Reg_Apply_j7 at H
                      refine c_weak [(0, .pointer p0), (5, .int .i64 r6), (12, .pointer (some (⟨b60, 0, none⟩ : Addr)))] ⟨rfl, rfl, rfl, trivial⟩ ?_
                      refine c_seq ?_
                      refine c_sim [(0, .pointer p0), (5, .int .i64 r6), (12, .pointer (some (⟨b60, 0, none⟩ : Addr)))] (by kernel_rfl) (by kernel_rfl) ⟨rfl, rfl, rfl, trivial⟩ (fun wf => ?_)
                      refine sim_p 0 (ei := [(0, .pointer p0)]) (d := (some 219)) wf (by kernel_rfl) ⟨rfl, trivial⟩ (by kernel_rfl) (by kernel_rfl) (fun _ => pf_p tok rfl rfl rfl rfl) (fun P_0 => ?_)
                      obtain ⟨a64, ha64, H⟩ := H
                      refine sim_p 1 (ei := [(219, .pointer p0)]) (d := (some 220)) wf (by kernel_rfl) ⟨rfl, trivial⟩ (by kernel_rfl) (by kernel_rfl) (fun _ => pf_y rfl rfl rfl (y_nil' rfl rfl ha64)) (fun P_1 => ?_)
                      refine sim_p 2 (ei := [(220, .pointer (some a64))]) (d := (some 221)) wf (by kernel_rfl) ⟨rfl, trivial⟩ (by kernel_rfl) (by kernel_rfl) (fun _ => pf_p tok rfl rfl rfl rfl) (fun P_2 => ?_)
                      obtain ⟨v65, hv65, H⟩ := H
                      refine sim_l 3 (ei := [(221, .pointer (some a64))]) (d := (some 222)) wf (by kernel_rfl) ⟨rfl, trivial⟩ (by kernel_rfl) (by kernel_rfl) (pf_y rfl rfl rfl (y_ld tok rfl rfl rfl rfl hv65)) (fun P_3 => ?_)
                      refine sim_p 4 (ei := [(5, .int .i64 r6)]) (d := (some 223)) wf (by kernel_rfl) ⟨rfl, trivial⟩ (by kernel_rfl) (by kernel_rfl) (fun _ => pf_p tok rfl rfl rfl rfl) (fun P_4 => ?_)
                      obtain ⟨v66, hv66, H⟩ := H
                      refine sim_l 5 (ei := [(12, .pointer (some (⟨b60, 0, none⟩ : Addr)))]) (d := (some 224)) wf (by kernel_rfl) ⟨rfl, trivial⟩ (by kernel_rfl) (by kernel_rfl) (pf_y rfl rfl rfl (y_lda tok rfl rfl rfl rfl rfl hv66)) (fun P_5 => ?_)
                      obtain ⟨a67, ha67, la67, ua67, H⟩ := H
                      refine sim_p 6 (ei := [(222, Slc.v v65), (223, .int .i64 r6)]) (d := (some 225)) wf (by kernel_rfl) ⟨rfl, rfl, trivial⟩ (by kernel_rfl) (by kernel_rfl) (fun _ => pf_y rfl rfl rfl (y_ixa' tok rfl rfl ha67 rfl rfl rfl la67 ua67)) (fun P_6 => ?_)
                      obtain ⟨h68, wh68, eh68, H⟩ := H
                      refine sim_h 7 [0, 1, 2, 3, 4, 5, 6] [0, 1, 2, 3, 4, 5, 6] (ei := [(224, .agg (S_api_Tenant.cs v66).toArray), (225, .pointer (some (a67.add (r6.toNat * 4))))]) wf ⟨P_6 _, P_5, P_4 _, P_3, P_2 _, P_1 _, P_0 _, trivial⟩ (by kernel_rfl) ⟨rfl, rfl, trivial⟩ (by kernel_rfl) rfl rfl rfl (h_sts tok rfl rfl rfl rfl rfl (oneC (by kernel_rfl)) wh68 eh68) ?_
                      refine sim_end wf ⟨trivial, trivial, trivial, trivial, trivial, trivial, trivial, trivial⟩ (by kernel_rfl) ?_
                      clear wf P_0 P_1 P_2 P_3 P_4 P_5 P_6
                      refine x_seq ?_
                      refine c_weak [] trivial ?_
                      refine c_seq ?_
                      refine c_region ?_
                      refine w_p tok rfl rfl rfl ?_
                      refine w_end ?_
                      refine x_seq ?_
                      refine c_ret ?_
                      exact x_ret _ rfl _ rfl ⟨0, rfl, H⟩
                    ·
                      refine c_seq ?_
                      refine c_region ?_
                      refine w_p tok rfl rfl rfl ?_
                      obtain ⟨v69, hv69, H⟩ := H
                      refine w_y (y_ld tok rfl rfl rfl rfl hv69) rfl rfl ?_
                      refine w_end ?_
                      refine x_seq ?_
                      refine c_block ?_
                      refine c_seq ?_
                      refine c_region ?_
                      refine w_p tok rfl rfl rfl ?_
                      refine w_p tok rfl rfl rfl ?_
                      refine w_end ?_
                      refine x_seq ?_
                      refine c_if H rfl (fun H => ?_) (fun H => ?_)
                      ·
                        refine c_seq ?_
                        refine c_seq ?_
                        refine c_region ?_
                        refine w_p tok rfl rfl rfl ?_
                        refine w_p tok rfl rfl rfl ?_
                        refine w_p tok rfl rfl rfl ?_
                        refine w_cut 6 (α := Bool) (fun (s : Bool) => [(164, .bool s), (0, .pointer p0), (5, .int .i64 r6), (7, .pointer (some (⟨b14, 0, none⟩ : Addr))), (12, .pointer (some (⟨b60, 0, none⟩ : Addr)))]) (fun (s : Bool) h => ref25_Reg_Apply_g8 p0 r6 (⟨b14, 0, none⟩ : Addr) (⟨b60, 0, none⟩ : Addr) s k h) ?_ ?_
                        ·
                          rintro t164_8 h_8 H
                          replace H : ref25_Reg_Apply_g8 p0 r6 (⟨b14, 0, none⟩ : Addr) (⟨b60, 0, none⟩ : Addr) t164_8 k h_8 := H
                          unfold ref25_Reg_Apply_g8 at H
                          refine w_weak [(164, .bool t164_8), (0, .pointer p0), (5, .int .i64 r6), (7, .pointer (some (⟨b14, 0, none⟩ : Addr))), (12, .pointer (some (⟨b60, 0, none⟩ : Addr)))] ⟨rfl, rfl, rfl, rfl, rfl, trivial⟩ ?_
                          refine w_end ?_
                          refine x_seq ?_
                          refine c_if H rfl (fun H => ?_) (fun H => ?_)
                          ·
                            refine c_seq ?_
                            refine c_region ?_
                            refine w_p tok rfl rfl rfl ?_
                            refine w_end ?_
                            refine x_seq ?_
                            refine c_ret ?_
                            refine x_tr ?_
                            refine x_br ?_
                            refine x_tr ?_
                            exact x_ret _ rfl _ rfl ⟨13, rfl, H⟩
                          ·
                            refine c_skip ?_
                            refine x_seq ?_
                            refine c_sim [(0, .pointer p0), (5, .int .i64 r6), (7, .pointer (some (⟨b14, 0, none⟩ : Addr))), (12, .pointer (some (⟨b60, 0, none⟩ : Addr)))] (by kernel_rfl) (by kernel_rfl) ⟨rfl, rfl, rfl, rfl, trivial⟩ (fun wf => ?_)
                            refine sim_p 1 (ei := [(12, .pointer (some (⟨b60, 0, none⟩ : Addr)))]) (d := (some 166)) wf (by kernel_rfl) ⟨rfl, trivial⟩ (by kernel_rfl) (by kernel_rfl) (fun _ => pf_p tok rfl rfl rfl rfl) (fun P_1 => ?_)
                            obtain ⟨v70, hv70, H⟩ := H
                            refine sim_l 2 (ei := [(166, .pointer (some ((⟨b60, 0, none⟩ : Addr).add 1)))]) (d := (some 167)) wf (by kernel_rfl) ⟨rfl, trivial⟩ (by kernel_rfl) (by kernel_rfl) (pf_y rfl rfl rfl (y_ld tok rfl rfl rfl rfl hv70)) (fun P_2 => ?_)
                            obtain ⟨v71, hv71, H⟩ := H
                            refine sim_l 4 (ei := [(7, .pointer (some (⟨b14, 0, none⟩ : Addr)))]) (d := (some 169)) wf (by kernel_rfl) ⟨rfl, trivial⟩ (by kernel_rfl) (by kernel_rfl) (pf_y rfl rfl rfl (y_lda tok rfl rfl rfl rfl rfl hv71)) (fun P_4 => ?_)
                            refine sim_or 0 5 wf ⟨P_4, P_2, P_1 _, trivial⟩ (by kernel_rfl) (by kernel_rfl) H (fun H => ?_) (fun H => ?_)
                            ·
                              obtain ⟨b72, h73, eb72, eh73, H⟩ := H
                              refine sim_hi 0 [] [] (ei := []) wf ⟨P_4, P_2, P_1 _, trivial⟩ (by kernel_rfl) trivial (by kernel_rfl) rfl rfl rfl (h_bs tok rfl rfl rfl rfl rfl rfl rfl eb72 eh73) ?_
                              obtain ⟨hy74, hy75, H⟩ := H
                              refine sim_re (x := ⟨4, .agg (S_api_Wrapped.cs v71).toArray, [(7, .pointer (some (⟨b14, 0, none⟩ : Addr)))]⟩) (pf_y rfl rfl rfl (y_lda tok rfl rfl rfl rfl rfl hy74)) (fun P_4 => ?_)
                              refine sim_re (x := ⟨2, Slc.v v70, [(166, .pointer (some ((⟨b60, 0, none⟩ : Addr).add 1)))]⟩) (pf_y rfl rfl rfl (y_ld tok rfl rfl rfl rfl hy75)) (fun P_2 => ?_)
                              refine sim_or 3 5 wf ⟨P_4, P_2, P_1 _, trivial⟩ (by kernel_rfl) (by kernel_rfl) H (fun H => ?_) (fun H => ?_)
                              ·
                                obtain ⟨l78, hl78, H⟩ := H
                                refine sim_ai 3 [0, 1, 2] [1, 2] (ei := [(165, Slc.v (⟨some ⟨b72, 0, none⟩, 0, 0⟩ : Slc)), (167, Slc.v v70)]) wf ⟨P_4, P_2, P_1 _, trivial⟩ (by kernel_rfl) ⟨rfl, rfl, trivial⟩ (by kernel_rfl) rfl rfl rfl (a_app (s := (⟨some ⟨b72, 0, none⟩, 0, 0⟩ : Slc)) (r := v70) tok rfl rfl rfl rfl rfl hl78 H) ?_
                                rintro _ h77 ⟨s76, rfl, H⟩
                                obtain ⟨hy79, H⟩ := H
                                refine sim_re (x := ⟨4, .agg (S_api_Wrapped.cs v71).toArray, [(7, .pointer (some (⟨b14, 0, none⟩ : Addr)))]⟩) (pf_y rfl rfl rfl (y_lda tok rfl rfl rfl rfl rfl hy79)) (fun P_4 => ?_)
                                obtain ⟨b80, h81, eb80, eh81, H⟩ := H
                                refine sim_h 5 [4] [1, 2, 4] (ei := [(169, .agg (S_api_Wrapped.cs v71).toArray)]) wf ⟨P_4, trivial, trivial, trivial⟩ (by kernel_rfl) ⟨rfl, trivial⟩ (by kernel_rfl) rfl rfl rfl (h_bs tok rfl rfl rfl rfl rfl rfl rfl eb80 eh81) ?_
                                refine sim_a 6 [0, 1, 2, 3, 4, 5] [1, 2, 4] (ei := [(168, Slc.v s76), (170, Slc.v (⟨some ⟨b80, 0, none⟩, 1, 1⟩ : Slc))]) wf ⟨trivial, trivial, trivial, trivial⟩ (by kernel_rfl) ⟨rfl, rfl, trivial⟩ (by kernel_rfl) rfl rfl rfl (a_app (s := s76) (r := (⟨some ⟨b80, 0, none⟩, 1, 1⟩ : Slc)) tok rfl rfl rfl rfl rfl (slcAt_push eb80 eh81) H) ?_
                                rintro _ h83 ⟨s82, rfl, H⟩
                                refine sim_p 7 (ei := [(12, .pointer (some (⟨b60, 0, none⟩ : Addr)))]) (d := (some 172)) wf (by kernel_rfl) ⟨rfl, trivial⟩ (by kernel_rfl) (by kernel_rfl) (fun _ => pf_p tok rfl rfl rfl rfl) (fun P_7 => ?_)
                                obtain ⟨h84, wh84, eh84, H⟩ := H
                                refine sim_h 8 [0, 1, 2, 3, 4, 5, 6, 7] [1, 2, 4, 7] (ei := [(171, Slc.v s82), (172, .pointer (some ((⟨b60, 0, none⟩ : Addr).add 1)))]) wf ⟨P_7 _, trivial, trivial, trivial, trivial⟩ (by kernel_rfl) ⟨rfl, rfl, trivial⟩ (by kernel_rfl) rfl rfl rfl (h_st tok rfl rfl rfl rfl rfl rfl wh84 eh84) ?_
                                refine sim_end wf ⟨trivial, trivial, trivial, trivial, trivial⟩ (by kernel_rfl) ?_
                                clear wf P_1 P_2 P_4 P_7
                                refine x_blk ?_
                                exact x_join () H ⟨rfl, rfl, rfl, trivial⟩
                              ·
                                obtain ⟨b85, h86, eb85, eh86, H⟩ := H
                                refine sim_hi 5 [4] [4] (ei := [(169, .agg (S_api_Wrapped.cs v71).toArray)]) wf ⟨P_4, P_2, P_1 _, trivial⟩ (by kernel_rfl) ⟨rfl, trivial⟩ (by kernel_rfl) rfl rfl rfl (h_bs tok rfl rfl rfl rfl rfl rfl rfl eb85 eh86) ?_
                                obtain ⟨hy87, H⟩ := H
                                refine sim_re (x := ⟨2, Slc.v v70, [(166, .pointer (some ((⟨b60, 0, none⟩ : Addr).add 1)))]⟩) (pf_y rfl rfl rfl (y_ld tok rfl rfl rfl rfl hy87)) (fun P_2 => ?_)
                                obtain ⟨l90, hl90, H⟩ := H
                                refine sim_a 3 [0, 1, 2] [1, 2, 4] (ei := [(165, Slc.v (⟨some ⟨b72, 0, none⟩, 0, 0⟩ : Slc)), (167, Slc.v v70)]) wf ⟨trivial, P_2, P_1 _, trivial⟩ (by kernel_rfl) ⟨rfl, rfl, trivial⟩ (by kernel_rfl) rfl rfl rfl (a_app (s := (⟨some ⟨b72, 0, none⟩, 0, 0⟩ : Slc)) (r := v70) tok rfl rfl rfl rfl rfl hl90 H) ?_
                                rintro _ h89 ⟨s88, rfl, H⟩
                                obtain ⟨l93, hl93, H⟩ := H
                                refine sim_a 6 [0, 1, 2, 3, 4, 5] [1, 2, 4] (ei := [(168, Slc.v s88), (170, Slc.v (⟨some ⟨b85, 0, none⟩, 1, 1⟩ : Slc))]) wf ⟨trivial, trivial, trivial, trivial⟩ (by kernel_rfl) ⟨rfl, rfl, trivial⟩ (by kernel_rfl) rfl rfl rfl (a_app (s := s88) (r := (⟨some ⟨b85, 0, none⟩, 1, 1⟩ : Slc)) tok rfl rfl rfl rfl rfl hl93 H) ?_
                                rintro _ h92 ⟨s91, rfl, H⟩
                                refine sim_p 7 (ei := [(12, .pointer (some (⟨b60, 0, none⟩ : Addr)))]) (d := (some 172)) wf (by kernel_rfl) ⟨rfl, trivial⟩ (by kernel_rfl) (by kernel_rfl) (fun _ => pf_p tok rfl rfl rfl rfl) (fun P_7 => ?_)
                                obtain ⟨h94, wh94, eh94, H⟩ := H
                                refine sim_h 8 [0, 1, 2, 3, 4, 5, 6, 7] [1, 2, 4, 7] (ei := [(171, Slc.v s91), (172, .pointer (some ((⟨b60, 0, none⟩ : Addr).add 1)))]) wf ⟨P_7 _, trivial, trivial, trivial, trivial⟩ (by kernel_rfl) ⟨rfl, rfl, trivial⟩ (by kernel_rfl) rfl rfl rfl (h_st tok rfl rfl rfl rfl rfl rfl wh94 eh94) ?_
                                refine sim_end wf ⟨trivial, trivial, trivial, trivial, trivial⟩ (by kernel_rfl) ?_
                                clear wf P_1 P_2 P_4 P_7
                                refine x_blk ?_
                                exact x_join () H ⟨rfl, rfl, rfl, trivial⟩
                            ·
                              obtain ⟨b95, h96, eb95, eh96, H⟩ := H
                              refine sim_hi 5 [4] [4] (ei := [(169, .agg (S_api_Wrapped.cs v71).toArray)]) wf ⟨P_4, P_2, P_1 _, trivial⟩ (by kernel_rfl) ⟨rfl, trivial⟩ (by kernel_rfl) rfl rfl rfl (h_bs tok rfl rfl rfl rfl rfl rfl rfl eb95 eh96) ?_
                              obtain ⟨hy97, H⟩ := H
                              refine sim_re (x := ⟨2, Slc.v v70, [(166, .pointer (some ((⟨b60, 0, none⟩ : Addr).add 1)))]⟩) (pf_y rfl rfl rfl (y_ld tok rfl rfl rfl rfl hy97)) (fun P_2 => ?_)
                              obtain ⟨b98, h99, eb98, eh99, H⟩ := H
                              refine sim_h 0 [] [4] (ei := []) wf ⟨trivial, P_2, P_1 _, trivial⟩ (by kernel_rfl) trivial (by kernel_rfl) rfl rfl rfl (h_bs tok rfl rfl rfl rfl rfl rfl rfl eb98 eh99) ?_
                              obtain ⟨hy100, H⟩ := H
                              refine sim_re (x := ⟨2, Slc.v v70, [(166, .pointer (some ((⟨b60, 0, none⟩ : Addr).add 1)))]⟩) (pf_y rfl rfl rfl (y_ld tok rfl rfl rfl rfl hy100)) (fun P_2 => ?_)
                              obtain ⟨l103, hl103, H⟩ := H
                              refine sim_a 3 [0, 1, 2] [1, 2, 4] (ei := [(165, Slc.v (⟨some ⟨b98, 0, none⟩, 0, 0⟩ : Slc)), (167, Slc.v v70)]) wf ⟨trivial, P_2, P_1 _, trivial⟩ (by kernel_rfl) ⟨rfl, rfl, trivial⟩ (by kernel_rfl) rfl rfl rfl (a_app (s := (⟨some ⟨b98, 0, none⟩, 0, 0⟩ : Slc)) (r := v70) tok rfl rfl rfl rfl rfl hl103 H) ?_
                              rintro _ h102 ⟨s101, rfl, H⟩
                              obtain ⟨l106, hl106, H⟩ := H
                              refine sim_a 6 [0, 1, 2, 3, 4, 5] [1, 2, 4] (ei := [(168, Slc.v s101), (170, Slc.v (⟨some ⟨b95, 0, none⟩, 1, 1⟩ : Slc))]) wf ⟨trivial, trivial, trivial, trivial⟩ (by kernel_rfl) ⟨rfl, rfl, trivial⟩ (by kernel_rfl) rfl rfl rfl (a_app (s := s101) (r := (⟨some ⟨b95, 0, none⟩, 1, 1⟩ : Slc)) tok rfl rfl rfl rfl rfl hl106 H) ?_
                              rintro _ h105 ⟨s104, rfl, H⟩
                              refine sim_p 7 (ei := [(12, .pointer (some (⟨b60, 0, none⟩ : Addr)))]) (d := (some 172)) wf (by kernel_rfl) ⟨rfl, trivial⟩ (by kernel_rfl) (by kernel_rfl) (fun _ => pf_p tok rfl rfl rfl rfl) (fun P_7 => ?_)
                              obtain ⟨h107, wh107, eh107, H⟩ := H
                              refine sim_h 8 [0, 1, 2, 3, 4, 5, 6, 7] [1, 2, 4, 7] (ei := [(171, Slc.v s104), (172, .pointer (some ((⟨b60, 0, none⟩ : Addr).add 1)))]) wf ⟨P_7 _, trivial, trivial, trivial, trivial⟩ (by kernel_rfl) ⟨rfl, rfl, trivial⟩ (by kernel_rfl) rfl rfl rfl (h_st tok rfl rfl rfl rfl rfl rfl wh107 eh107) ?_
                              refine sim_end wf ⟨trivial, trivial, trivial, trivial, trivial⟩ (by kernel_rfl) ?_
                              clear wf P_1 P_2 P_4 P_7
                              refine x_blk ?_
                              exact x_join () H ⟨rfl, rfl, rfl, trivial⟩
                        ·
                          refine w_gif (d := 158) H rfl (fun H => ?_) (fun H => ?_)
                          ·
                            refine w_skip rfl rfl ?_
                            refine w_skip rfl rfl ?_
                            refine w_skip rfl rfl ?_
                            refine w_skip rfl rfl ?_
                            refine w_skip rfl rfl ?_
                            refine w_p tok rfl rfl rfl ?_
                            exact w_jn true H ⟨rfl, rfl, rfl, rfl, rfl, trivial⟩
                          ·
                            refine w_p tok rfl rfl rfl ?_
                            obtain ⟨v108, hv108, H⟩ := H
                            refine w_y (y_ld tok rfl rfl rfl rfl hv108) rfl rfl ?_
                            refine w_p tok rfl rfl rfl ?_
                            refine w_p tok rfl rfl rfl ?_
                            refine w_p tok rfl rfl rfl ?_
                            refine w_p tok rfl rfl rfl ?_
                            exact w_jn (v108 != (IntKind.u32.wrap (r9 + 1))) H ⟨rfl, rfl, rfl, rfl, rfl, trivial⟩
                      ·
                        refine c_seq ?_
                        refine c_region ?_
                        refine w_p tok rfl rfl rfl ?_
                        refine w_p tok rfl rfl rfl ?_
                        refine w_end ?_
                        refine x_seq ?_
                        refine c_if H rfl (fun H => ?_) (fun H => ?_)
                        ·
                          refine c_seq ?_
                          refine c_seq ?_
                          refine c_region ?_
                          refine w_p tok rfl rfl rfl ?_
                          obtain ⟨v109, hv109, H⟩ := H
                          refine w_y (y_ld tok rfl rfl rfl rfl hv109) rfl rfl ?_
                          refine w_p tok rfl rfl rfl ?_
                          refine w_p tok rfl rfl rfl ?_
                          refine w_end ?_
                          refine x_seq ?_
                          refine c_weak [(0, .pointer p0), (3, .pointer (some (⟨b1, 0, none⟩ : Addr))), (5, .int .i64 r6), (12, .pointer (some (⟨b60, 0, none⟩ : Addr))), (178, .bool (decide (v109 > r9)))] ⟨rfl, rfl, rfl, rfl, rfl, trivial⟩ ?_
                          refine c_if H rfl (fun H => ?_) (fun H => ?_)
                          ·
                            refine c_seq ?_
                            refine c_region ?_
                            refine w_p tok rfl rfl rfl ?_
                            refine w_end ?_
                            refine x_seq ?_
                            refine c_ret ?_
                            refine x_tr ?_
                            refine x_br ?_
                            refine x_tr ?_
                            exact x_ret _ rfl _ rfl ⟨13, rfl, H⟩
                          ·
                            refine c_skip ?_
                            refine x_seq ?_
                            refine c_seq ?_
                            refine c_region ?_
                            refine w_p tok rfl rfl rfl ?_
                            refine w_end ?_
                            refine x_seq ?_
                            refine c_seq ?_
                            refine c_seq ?_
                            refine c_region ?_
                            refine w_p tok rfl rfl rfl ?_
                            refine w_end ?_
                            refine x_seq ?_
                            refine c_block ?_
                            obtain ⟨I9, μ9, H0, HI⟩ := H
                            refine c_loop (σ := Slc × Int) (fun (s : Slc × Int) => [(13, Slc.v s.1), (14, .int .i64 s.2), (0, .pointer p0), (3, .pointer (some (⟨b1, 0, none⟩ : Addr))), (5, .int .i64 r6), (12, .pointer (some (⟨b60, 0, none⟩ : Addr)))]) I9 μ9 ((⟨none, 0, 0⟩ : Slc), 0) H0 ⟨rfl, rfl, rfl, rfl, rfl, rfl, trivial⟩ ?_
                            rintro ⟨t13_9, t14_9⟩ h_9 H
                            replace H := HI t13_9 t14_9 h_9 H
                            unfold ref25_Reg_Apply_l9b at H
                            refine c_weak [(13, Slc.v t13_9), (14, .int .i64 t14_9), (0, .pointer p0), (3, .pointer (some (⟨b1, 0, none⟩ : Addr))), (5, .int .i64 r6), (12, .pointer (some (⟨b60, 0, none⟩ : Addr)))] ⟨rfl, rfl, rfl, rfl, rfl, rfl, trivial⟩ ?_
                            refine c_seq ?_
                            refine c_seq ?_
                            refine c_region ?_
                            refine w_p tok rfl rfl rfl ?_
                            refine w_p tok rfl rfl rfl ?_
                            obtain ⟨v110, hv110, H⟩ := H
                            refine w_y (y_ld tok rfl rfl rfl rfl hv110) rfl rfl ?_
                            refine w_p tok rfl rfl rfl ?_
                            refine w_p tok rfl rfl rfl ?_
                            refine w_end ?_
                            refine x_seq ?_
                            refine c_if H rfl (fun H => ?_) (fun H => ?_)
                            ·
                              refine c_skip ?_
                              refine x_seq ?_
                              refine c_seqJ (α := Slc) (fun (s : Slc) => [(13, Slc.v s), (0, .pointer p0), (3, .pointer (some (⟨b1, 0, none⟩ : Addr))), (5, .int .i64 r6), (12, .pointer (some (⟨b60, 0, none⟩ : Addr))), (14, .int .i64 t14_9)]) (fun (s : Slc) h => ref25_Reg_Apply_j10 p0 (⟨b1, 0, none⟩ : Addr) r6 (⟨b60, 0, none⟩ : Addr) t14_9 s k (fun s h' => I9 s h' ∧ μ9 s h' < μ9 (t13_9, t14_9) h_9) h) ?_ ?_
                              ·
                                rintro t13_10 h_10 H
                                replace H : ref25_Reg_Apply_j10 p0 (⟨b1, 0, none⟩ : Addr) r6 (⟨b60, 0, none⟩ : Addr) t14_9 t13_10 k (fun s h' => I9 s h' ∧ μ9 s h' < μ9 (t13_9, t14_9) h_9) h_10 := H
                                unfold ref25_Reg_Apply_j10 at H
                                refine c_weak [(13, Slc.v t13_10), (0, .pointer p0), (3, .pointer (some (⟨b1, 0, none⟩ : Addr))), (5, .int .i64 r6), (12, .pointer (some (⟨b60, 0, none⟩ : Addr))), (14, .int .i64 t14_9)] ⟨rfl, rfl, rfl, rfl, rfl, rfl, trivial⟩ ?_
                                refine c_region ?_
                                refine w_p tok rfl rfl rfl ?_
                                refine w_p tok rfl rfl rfl ?_
                                obtain ⟨x111, ex111, H⟩ := H
                                refine w_pe tok rfl (congrArg (fun z => (.int .i64 z : Value)) ex111) rfl rfl ?_
                                refine w_end ?_
                                exact x_join (t13_10, x111) H ⟨rfl, rfl, rfl, rfl, rfl, rfl, trivial⟩
                              ·
                                refine c_block ?_
                                refine c_seq ?_
                                refine c_draw (by kernel_rfl) (by kernel_rfl) ?_
                                refine q_p tok rfl rfl rfl ?_
                                obtain ⟨v112, hv112, H⟩ := H
                                refine q_y (y_ld tok rfl rfl rfl rfl hv112) rfl rfl ?_
                                refine q_p tok rfl rfl rfl ?_
                                obtain ⟨a113, ha113, la113, ua113, H⟩ := H
                                refine q_y (y_ixa' tok rfl rfl ha113 rfl rfl rfl la113 ua113) rfl rfl ?_
                                refine q_p tok rfl rfl rfl ?_
                                obtain ⟨v114, hv114, H⟩ := H
                                refine q_y (y_ld tok rfl rfl rfl rfl hv114) rfl rfl ?_
                                refine q_p tok rfl rfl rfl ?_
                                obtain ⟨v115, hv115, H⟩ := H
                                refine q_y (y_ld tok rfl rfl rfl rfl hv115) rfl rfl ?_
                                refine q_p tok rfl rfl rfl ?_
                                refine q_end ?_
                                refine x_seq ?_
                                refine c_weak [(13, Slc.v t13_9), (14, .int .i64 t14_9), (0, .pointer p0), (3, .pointer (some (⟨b1, 0, none⟩ : Addr))), (5, .int .i64 r6), (12, .pointer (some (⟨b60, 0, none⟩ : Addr))), (194, .bool (decide (v114 ≥ v115)))] ⟨rfl, rfl, rfl, rfl, rfl, rfl, rfl, trivial⟩ ?_
                                refine c_if H rfl (fun H => ?_) (fun H => ?_)
                                ·
                                  refine c_region ?_
                                  refine w_p tok rfl rfl rfl ?_
                                  refine w_p tok rfl rfl rfl ?_
                                  obtain ⟨v116, hv116, H⟩ := H
                                  refine w_y (y_ld tok rfl rfl rfl rfl hv116) rfl rfl ?_
                                  refine w_p tok rfl rfl rfl ?_
                                  obtain ⟨a117, ha117, la117, ua117, H⟩ := H
                                  refine w_y (y_ixa' tok rfl rfl ha117 rfl rfl rfl la117 ua117) rfl rfl ?_
                                  obtain ⟨v118, hv118, H⟩ := H
                                  refine w_y (y_lda tok rfl rfl rfl rfl rfl hv118) rfl rfl ?_
                                  obtain ⟨b119, h120, eb119, eh120, H⟩ := H
                                  refine w_h (h_bs tok rfl rfl rfl rfl rfl rfl rfl eb119 eh120) rfl rfl ?_
                                  refine w_a (a_app (s := t13_9) (r := (⟨some ⟨b119, 0, none⟩, 1, 1⟩ : Slc)) tok rfl rfl rfl rfl rfl (slcAt_push eb119 eh120) H) rfl rfl ?_
                                  rintro _ h122 ⟨s121, rfl, H⟩
                                  refine w_p tok rfl rfl rfl ?_
                                  refine w_end ?_
                                  refine x_blk ?_
                                  exact x_join s121 H ⟨rfl, rfl, rfl, rfl, rfl, rfl, trivial⟩
                                ·
                                  refine c_skip ?_
                                  refine x_blk ?_
                                  exact x_join t13_9 H ⟨rfl, rfl, rfl, rfl, rfl, rfl, trivial⟩
                            ·
                              refine c_exit ?_
                              refine x_te ?_
                              refine x_te ?_
                              refine x_bh ?_
                              refine x_seq ?_
                              refine c_weak [(13, Slc.v t13_9), (0, .pointer p0), (5, .int .i64 r6), (12, .pointer (some (⟨b60, 0, none⟩ : Addr)))] ⟨rfl, rfl, rfl, rfl, trivial⟩ ?_
                              refine c_region ?_
                              refine w_p tok rfl rfl rfl ?_
                              refine w_p tok rfl rfl rfl ?_
                              obtain ⟨h123, wh123, eh123, H⟩ := H
                              refine w_h (h_st tok rfl rfl rfl rfl rfl rfl wh123 eh123) rfl rfl ?_
                              refine w_end ?_
                              refine x_blk ?_
                              exact x_join () H ⟨rfl, rfl, rfl, trivial⟩
                        ·
                          refine c_seq ?_
                          refine c_region ?_
                          refine w_p tok rfl rfl rfl ?_
                          refine w_p tok rfl rfl rfl ?_
                          refine w_end ?_
                          refine x_seq ?_
                          refine c_weak [(0, .pointer p0), (3, .pointer (some (⟨b1, 0, none⟩ : Addr))), (5, .int .i64 r6), (12, .pointer (some (⟨b60, 0, none⟩ : Addr))), (153, .int .i64 v69), (205, .bool (v69 == 4))] ⟨rfl, rfl, rfl, rfl, rfl, rfl, trivial⟩ ?_
                          refine c_if H rfl (fun H => ?_) (fun H => ?_)
                          ·
                            refine c_seq ?_
                            refine c_seq ?_
                            refine c_region ?_
                            refine w_p tok rfl rfl rfl ?_
                            obtain ⟨v124, hv124, H⟩ := H
                            refine w_y (y_ld tok rfl rfl rfl rfl hv124) rfl rfl ?_
                            refine w_p tok rfl rfl rfl ?_
                            obtain ⟨v125, hv125, H⟩ := H
                            refine w_y (y_ld tok rfl rfl rfl rfl hv125) rfl rfl ?_
                            refine w_p tok rfl rfl rfl ?_
                            refine w_end ?_
                            refine x_seq ?_
                            refine c_if H rfl (fun H => ?_) (fun H => ?_)
                            ·
                              refine c_seq ?_
                              refine c_region ?_
                              refine w_p tok rfl rfl rfl ?_
                              refine w_end ?_
                              refine x_seq ?_
                              refine c_weak [(4, .int .i64 13)] ⟨rfl, trivial⟩ ?_
                              refine c_ret ?_
                              refine x_tr ?_
                              refine x_br ?_
                              refine x_tr ?_
                              exact x_ret _ rfl _ rfl ⟨13, rfl, H⟩
                            ·
                              refine c_skip ?_
                              refine x_seq ?_
                              refine c_weak [(0, .pointer p0), (3, .pointer (some (⟨b1, 0, none⟩ : Addr))), (5, .int .i64 r6), (12, .pointer (some (⟨b60, 0, none⟩ : Addr)))] ⟨rfl, rfl, rfl, rfl, trivial⟩ ?_
                              refine c_region ?_
                              refine w_p tok rfl rfl rfl ?_
                              obtain ⟨v126, hv126, H⟩ := H
                              refine w_y (y_ld tok rfl rfl rfl rfl hv126) rfl rfl ?_
                              refine w_p tok rfl rfl rfl ?_
                              obtain ⟨h127, wh127, eh127, H⟩ := H
                              refine w_h (h_st tok rfl rfl rfl rfl rfl rfl wh127 eh127) rfl rfl ?_
                              refine w_end ?_
                              refine x_blk ?_
                              exact x_join () H ⟨rfl, rfl, rfl, trivial⟩
                          ·
                            refine c_seq ?_
                            refine c_region ?_
                            refine w_p tok rfl rfl rfl ?_
                            refine w_p tok rfl rfl rfl ?_
                            refine w_end ?_
                            refine x_seq ?_
                            refine c_if H rfl (fun H => ?_) (fun H => ?_)
                            ·
                              refine c_seq ?_
                              refine c_region ?_
                              refine w_p tok rfl rfl rfl ?_
                              obtain ⟨h128, wh128, eh128, H⟩ := H
                              refine w_h (h_st tok rfl rfl rfl rfl rfl rfl wh128 eh128) rfl rfl ?_
                              refine w_end ?_
                              refine x_seq ?_
                              refine c_region ?_
                              refine w_p tok rfl rfl rfl ?_
                              obtain ⟨h129, wh129, eh129, H⟩ := H
                              refine w_h (h_st tok rfl rfl rfl rfl rfl rfl wh129 eh129) rfl rfl ?_
                              refine w_end ?_
                              refine x_blk ?_
                              exact x_join () H ⟨rfl, rfl, rfl, trivial⟩
                            ·
                              refine c_skip ?_
                              refine x_blk ?_
                              exact x_join () H ⟨rfl, rfl, rfl, trivial⟩
                ·
                  refine w_gif (d := 147) H rfl (fun H => ?_) (fun H => ?_)
                  ·
                    refine w_p tok rfl rfl rfl ?_
                    obtain ⟨v130, hv130, H⟩ := H
                    refine w_y (y_ld tok rfl rfl rfl rfl hv130) rfl rfl ?_
                    refine w_p tok rfl rfl rfl ?_
                    refine w_p tok rfl rfl rfl ?_
                    exact w_jn (v130 != 5) H ⟨rfl, rfl, rfl, rfl, rfl, rfl, rfl, trivial⟩
                  ·
                    refine w_skip rfl rfl ?_
                    refine w_skip rfl rfl ?_
                    refine w_skip rfl rfl ?_
                    refine w_p tok rfl rfl rfl ?_
                    exact w_jn false H ⟨rfl, rfl, rfl, rfl, rfl, rfl, rfl, trivial⟩
      ·
        refine w_gif (d := 34) H rfl (fun H => ?_) (fun H => ?_)
        ·
          refine w_skip rfl rfl ?_
          refine w_skip rfl rfl ?_
          refine w_skip rfl rfl ?_
          refine w_skip rfl rfl ?_
          refine w_skip rfl rfl ?_
          refine w_skip rfl rfl ?_
          refine w_skip rfl rfl ?_
          refine w_skip rfl rfl ?_
          refine w_skip rfl rfl ?_
          refine w_skip rfl rfl ?_
          refine w_skip rfl rfl ?_
          refine w_skip rfl rfl ?_
          refine w_skip rfl rfl ?_
          refine w_skip rfl rfl ?_
          refine w_p tok rfl rfl rfl ?_
          exact w_jn true H ⟨rfl, rfl, rfl, trivial⟩
        ·
          refine w_p tok rfl rfl rfl ?_
          obtain ⟨v131, hv131, H⟩ := H
          refine w_y (y_ld tok rfl rfl rfl rfl hv131) rfl rfl ?_
          refine w_p tok rfl rfl rfl ?_
          refine w_p tok rfl rfl rfl ?_
          refine w_cut 4 (α := Bool) (fun (s : Bool) => [(42, .bool s), (0, .pointer p0), (3, .pointer (some (⟨b1, 0, none⟩ : Addr))), (34, .bool false)]) (fun (s : Bool) h => ref25_Reg_Apply_g11 p0 (⟨b1, 0, none⟩ : Addr) false s k h) ?_ ?_
          ·
            rintro t42_11 h_11 H
            replace H : ref25_Reg_Apply_g11 p0 (⟨b1, 0, none⟩ : Addr) false t42_11 k h_11 := H
            unfold ref25_Reg_Apply_g11 at H
            refine w_weak [(42, .bool t42_11), (0, .pointer p0), (3, .pointer (some (⟨b1, 0, none⟩ : Addr))), (34, .bool false)] ⟨rfl, rfl, rfl, rfl, trivial⟩ ?_
            refine w_p tok rfl rfl rfl ?_
            refine w_cut 5 (α := Bool) (fun (s : Bool) => [(48, .bool s), (0, .pointer p0), (3, .pointer (some (⟨b1, 0, none⟩ : Addr))), (34, .bool false)]) (fun (s : Bool) h => ref25_Reg_Apply_g12 p0 (⟨b1, 0, none⟩ : Addr) false s k h) ?_ ?_
            ·
              rintro t48_12 h_12 H
              replace H : ref25_Reg_Apply_g12 p0 (⟨b1, 0, none⟩ : Addr) false t48_12 k h_12 := H
              unfold ref25_Reg_Apply_g12 at H
              refine w_weak [(48, .bool t48_12), (0, .pointer p0), (3, .pointer (some (⟨b1, 0, none⟩ : Addr))), (34, .bool false)] ⟨rfl, rfl, rfl, rfl, trivial⟩ ?_
              refine w_p tok rfl rfl rfl ?_
              exact w_jn t48_12 H ⟨rfl, rfl, rfl, trivial⟩
            ·
              refine w_gif (d := 43) H rfl (fun H => ?_) (fun H => ?_)
              ·
                refine w_p tok rfl rfl rfl ?_
                obtain ⟨v132, hv132, H⟩ := H
                refine w_y (y_ld tok rfl rfl rfl rfl hv132) rfl rfl ?_
                refine w_p tok rfl rfl rfl ?_
                refine w_p tok rfl rfl rfl ?_
                refine w_p tok rfl rfl rfl ?_
                exact w_jn ((v132.len : Int) != 48) H ⟨rfl, rfl, rfl, rfl, trivial⟩
              ·
                refine w_skip rfl rfl ?_
                refine w_skip rfl rfl ?_
                refine w_skip rfl rfl ?_
                refine w_skip rfl rfl ?_
                refine w_p tok rfl rfl rfl ?_
                exact w_jn false H ⟨rfl, rfl, rfl, rfl, trivial⟩
          ·
            refine w_gif (d := 38) H rfl (fun H => ?_) (fun H => ?_)
            ·
              refine w_skip rfl rfl ?_
              refine w_skip rfl rfl ?_
              refine w_skip rfl rfl ?_
              refine w_p tok rfl rfl rfl ?_
              exact w_jn true H ⟨rfl, rfl, rfl, rfl, trivial⟩
            ·
              refine w_p tok rfl rfl rfl ?_
              obtain ⟨v133, hv133, H⟩ := H
              refine w_y (y_ld tok rfl rfl rfl rfl hv133) rfl rfl ?_
              refine w_p tok rfl rfl rfl ?_
              refine w_p tok rfl rfl rfl ?_
              exact w_jn (v133 == 2) H ⟨rfl, rfl, rfl, rfl, trivial⟩
    ·
      refine w_gif (d := 23) H rfl (fun H => ?_) (fun H => ?_)
      ·
        refine w_skip rfl rfl ?_
        refine w_skip rfl rfl ?_
        refine w_skip rfl rfl ?_
        refine w_skip rfl rfl ?_
        refine w_skip rfl rfl ?_
        refine w_skip rfl rfl ?_
        refine w_skip rfl rfl ?_
        refine w_skip rfl rfl ?_
        refine w_skip rfl rfl ?_
        refine w_p tok rfl rfl rfl ?_
        exact w_jn true H ⟨rfl, rfl, rfl, trivial⟩
      ·
        refine w_p tok rfl rfl rfl ?_
        obtain ⟨v134, hv134, H⟩ := H
        refine w_y (y_ld tok rfl rfl rfl rfl hv134) rfl rfl ?_
        refine w_p tok rfl rfl rfl ?_
        refine w_p tok rfl rfl rfl ?_
        refine w_cut 5 (α := Bool) (fun (s : Bool) => [(32, .bool s), (0, .pointer p0), (3, .pointer (some (⟨b1, 0, none⟩ : Addr))), (23, .bool false)]) (fun (s : Bool) h => ref25_Reg_Apply_g13 p0 (⟨b1, 0, none⟩ : Addr) false s k h) ?_ ?_
        ·
          rintro t32_13 h_13 H
          replace H : ref25_Reg_Apply_g13 p0 (⟨b1, 0, none⟩ : Addr) false t32_13 k h_13 := H
          unfold ref25_Reg_Apply_g13 at H
          refine w_weak [(32, .bool t32_13), (0, .pointer p0), (3, .pointer (some (⟨b1, 0, none⟩ : Addr))), (23, .bool false)] ⟨rfl, rfl, rfl, rfl, trivial⟩ ?_
          refine w_p tok rfl rfl rfl ?_
          exact w_jn t32_13 H ⟨rfl, rfl, rfl, trivial⟩
        ·
          refine w_gif (d := 27) H rfl (fun H => ?_) (fun H => ?_)
          ·
            refine w_p tok rfl rfl rfl ?_
            obtain ⟨v135, hv135, H⟩ := H
            refine w_y (y_ld tok rfl rfl rfl rfl hv135) rfl rfl ?_
            refine w_call ref16_Name_ok (ref16_Name_ref _ _ _ H) rfl rfl rfl rfl ?_
            rintro _ h137 ⟨r136, rfl, H⟩
            refine w_p tok rfl rfl rfl ?_
            refine w_p tok rfl rfl rfl ?_
            exact w_jn (!r136) H ⟨rfl, rfl, rfl, rfl, trivial⟩
          ·
            refine w_skip rfl rfl ?_
            refine w_skip rfl rfl ?_
            refine w_skip rfl rfl ?_
            refine w_skip rfl rfl ?_
            refine w_p tok rfl rfl rfl ?_
            exact w_jn false H ⟨rfl, rfl, rfl, rfl, trivial⟩
  ·
    refine w_gif (d := 18) H rfl (fun H => ?_) (fun H => ?_)
    ·
      refine w_skip rfl rfl ?_
      refine w_skip rfl rfl ?_
      refine w_skip rfl rfl ?_
      refine w_p tok rfl rfl rfl ?_
      exact w_jn true H ⟨rfl, rfl, rfl, trivial⟩
    ·
      refine w_p tok rfl rfl rfl ?_
      obtain ⟨v138, hv138, H⟩ := H
      refine w_y (y_ld tok rfl rfl rfl rfl hv138) rfl rfl ?_
      refine w_p tok rfl rfl rfl ?_
      refine w_p tok rfl rfl rfl ?_
      exact w_jn (decide (v138 > 5)) H ⟨rfl, rfl, rfl, trivial⟩

theorem ref25_Reg_Bytes_ok : CallOk Go.Proofs.Try.prog 83 := ⟨_, Go.Proofs.Try.func83, by kernel_rfl, by kernel_rfl⟩
theorem ref25_Reg_Bytes_ref (p0 : Option Addr) (k : (Slc) → Heap → Prop) (h : Heap) (H : ref25_Reg_Bytes p0 k h) : CallsH Go.Proofs.Try.prog 83 #[.pointer p0] h (fun v h' => ∃ r : Slc, v = Slc.v r ∧ k r h') := by
  refine f_enter (N := 96) Go.Proofs.Try.func83 rfl rfl rfl (fun w0 => ?_)
  unfold ref25_Reg_Bytes at H
  refine c_weak [(0, .pointer p0)] ⟨rfl, trivial⟩ ?_
  refine c_seq ?_
  refine c_region ?_
  refine w_p tok rfl rfl rfl ?_
  refine w_end ?_
  refine x_seq ?_
  refine c_seq ?_
  refine c_region ?_
  refine w_p tok rfl rfl rfl ?_
  obtain ⟨a1, ha1, H⟩ := H
  refine w_y (y_nil' rfl rfl ha1) rfl rfl ?_
  refine w_p tok rfl rfl rfl ?_
  obtain ⟨v2, hv2, H⟩ := H
  refine w_y (y_ld tok rfl rfl rfl rfl hv2) rfl rfl ?_
  refine w_p tok rfl rfl rfl ?_
  refine w_p tok rfl rfl rfl ?_
  refine w_call ref01_Short_ok (ref01_Short_ref _ _ _ H) rfl rfl rfl rfl ?_
  rintro _ h4 ⟨r3, rfl, H⟩
  refine w_p tok rfl rfl rfl ?_
  refine w_end ?_
  refine x_seq ?_
  refine c_weak [(0, .pointer p0), (3, Slc.v r3)] ⟨rfl, rfl, trivial⟩ ?_
  refine c_seq ?_
  refine c_seq ?_
  refine c_region ?_
  refine w_p tok rfl rfl rfl ?_
  refine w_end ?_
  refine x_seq ?_
  refine c_block ?_
  obtain ⟨I1, μ1, H0, HI⟩ := H
  refine c_loop (σ := Slc × Int) (fun (s : Slc × Int) => [(3, Slc.v s.1), (4, .int .i64 s.2), (0, .pointer p0)]) I1 μ1 (r3, 0) H0 ⟨rfl, rfl, rfl, trivial⟩ ?_
  rintro ⟨t3_1, t4_1⟩ h_1 H
  replace H := HI t3_1 t4_1 h_1 H
  unfold ref25_Reg_Bytes_l1b at H
  refine c_weak [(3, Slc.v t3_1), (4, .int .i64 t4_1), (0, .pointer p0)] ⟨rfl, rfl, rfl, trivial⟩ ?_
  refine c_seq ?_
  refine c_seq ?_
  refine c_region ?_
  refine w_p tok rfl rfl rfl ?_
  refine w_p tok rfl rfl rfl ?_
  obtain ⟨a5, ha5, H⟩ := H
  refine w_y (y_nil' rfl rfl ha5) rfl rfl ?_
  refine w_p tok rfl rfl rfl ?_
  obtain ⟨v6, hv6, H⟩ := H
  refine w_y (y_ld tok rfl rfl rfl rfl hv6) rfl rfl ?_
  refine w_p tok rfl rfl rfl ?_
  refine w_p tok rfl rfl rfl ?_
  refine w_end ?_
  refine x_seq ?_
  refine c_if H rfl (fun H => ?_) (fun H => ?_)
  ·
    refine c_skip ?_
    refine x_seq ?_
    refine c_weak [(3, Slc.v t3_1), (4, .int .i64 t4_1), (0, .pointer p0)] ⟨rfl, rfl, rfl, trivial⟩ ?_
    refine c_seq ?_
    refine c_block ?_
    refine c_seq ?_
    refine c_region ?_
    refine w_p tok rfl rfl rfl ?_
    refine w_y (y_nil' rfl rfl ha5) rfl rfl ?_
    refine w_p tok rfl rfl rfl ?_
    obtain ⟨v7, hv7, H⟩ := H
    refine w_y (y_ld tok rfl rfl rfl rfl hv7) rfl rfl ?_
    refine w_p tok rfl rfl rfl ?_
    obtain ⟨a8, ha8, la8, ua8, H⟩ := H
    refine w_y (y_ixa' tok rfl rfl ha8 rfl rfl rfl la8 ua8) rfl rfl ?_
    obtain ⟨v9, hv9, H⟩ := H
    refine w_y (y_lda tok rfl rfl rfl rfl rfl hv9) rfl rfl ?_
    obtain ⟨b10, h11, eb10, eh11, H⟩ := H
    refine w_h (h_alloc tok rfl rfl eb10 eh11) rfl rfl ?_
    obtain ⟨h12, wh12, eh12, H⟩ := H
    refine w_h (h_sts tok rfl rfl rfl rfl rfl (oneC (by kernel_rfl)) wh12 eh12) rfl rfl ?_
    refine w_end ?_
    refine x_seq ?_
    refine c_weak [(3, Slc.v t3_1), (4, .int .i64 t4_1), (0, .pointer p0), (5, .pointer (some (⟨b10, 0, none⟩ : Addr)))] ⟨rfl, rfl, rfl, rfl, trivial⟩ ?_
    refine c_seq ?_
    refine c_region ?_
    refine w_p tok rfl rfl rfl ?_
    refine w_p tok rfl rfl rfl ?_
    obtain ⟨v13, hv13, H⟩ := H
    refine w_y (y_ld tok rfl rfl rfl rfl hv13) rfl rfl ?_
    refine w_p tok rfl rfl rfl ?_
    refine w_p tok rfl rfl rfl ?_
    refine w_call ref01_Short_ok (ref01_Short_ref _ _ _ H) rfl rfl rfl rfl ?_
    rintro _ h15 ⟨r14, rfl, H⟩
    obtain ⟨l18, hl18, H⟩ := H
    refine w_a (a_app (s := t3_1) (r := r14) tok rfl rfl rfl rfl rfl hl18 H) rfl rfl ?_
    rintro _ h17 ⟨s16, rfl, H⟩
    refine w_p tok rfl rfl rfl ?_
    refine w_end ?_
    refine x_seq ?_
    refine c_weak [(3, Slc.v s16), (4, .int .i64 t4_1), (0, .pointer p0), (5, .pointer (some (⟨b10, 0, none⟩ : Addr)))] ⟨rfl, rfl, rfl, rfl, trivial⟩ ?_
    refine c_seq ?_
    refine c_region ?_
    refine w_p tok rfl rfl rfl ?_
    refine w_p tok rfl rfl rfl ?_
    obtain ⟨v19, hv19, H⟩ := H
    refine w_y (y_ld tok rfl rfl rfl rfl hv19) rfl rfl ?_
    refine w_a (a_apps (s := s16) (str := v19) tok rfl rfl rfl rfl rfl rfl H) rfl rfl ?_
    rintro _ h21 ⟨s20, rfl, H⟩
    refine w_p tok rfl rfl rfl ?_
    refine w_end ?_
    refine x_seq ?_
    refine c_seqJ (α := Slc) (fun (s : Slc) => [(3, Slc.v s), (0, .pointer p0), (4, .int .i64 t4_1), (5, .pointer (some (⟨b10, 0, none⟩ : Addr)))]) (fun (s : Slc) h => ref25_Reg_Bytes_j2 p0 t4_1 (⟨b10, 0, none⟩ : Addr) s k (fun s h' => I1 s h' ∧ μ1 s h' < μ1 (t3_1, t4_1) h_1) h) ?_ ?_
    ·
      rintro t3_2 h_2 H
      replace H : ref25_Reg_Bytes_j2 p0 t4_1 (⟨b10, 0, none⟩ : Addr) t3_2 k (fun s h' => I1 s h' ∧ μ1 s h' < μ1 (t3_1, t4_1) h_1) h_2 := H
      unfold ref25_Reg_Bytes_j2 at H
      refine c_weak [(3, Slc.v t3_2), (0, .pointer p0), (4, .int .i64 t4_1), (5, .pointer (some (⟨b10, 0, none⟩ : Addr)))] ⟨rfl, rfl, rfl, rfl, trivial⟩ ?_
      refine c_seq ?_
      refine c_region ?_
      refine w_p tok rfl rfl rfl ?_
      refine w_p tok rfl rfl rfl ?_
      obtain ⟨v22, hv22, H⟩ := H
      refine w_y (y_ld tok rfl rfl rfl rfl hv22) rfl rfl ?_
      refine w_call ref01_Zig_ok (ref01_Zig_ref _ _ _ H) rfl rfl rfl rfl ?_
      rintro _ h24 ⟨r23, rfl, H⟩
      refine w_call ref01_Form_ok (ref01_Form_ref _ _ _ _ H) rfl rfl rfl rfl ?_
      rintro _ h26 ⟨r25, rfl, H⟩
      obtain ⟨l29, hl29, H⟩ := H
      refine w_a (a_app (s := t3_2) (r := r25) tok rfl rfl rfl rfl rfl hl29 H) rfl rfl ?_
      rintro _ h28 ⟨s27, rfl, H⟩
      refine w_p tok rfl rfl rfl ?_
      refine w_end ?_
      refine x_seq ?_
      refine c_seq ?_
      refine c_region ?_
      refine w_p tok rfl rfl rfl ?_
      refine w_p tok rfl rfl rfl ?_
      obtain ⟨v30, hv30, H⟩ := H
      refine w_y (y_ld tok rfl rfl rfl rfl hv30) rfl rfl ?_
      refine w_p tok rfl rfl rfl ?_
      refine w_p tok rfl rfl rfl ?_
      refine w_call ref01_Short_ok (ref01_Short_ref _ _ _ H) rfl rfl rfl rfl ?_
      rintro _ h32 ⟨r31, rfl, H⟩
      obtain ⟨l35, hl35, H⟩ := H
      refine w_a (a_app (s := s27) (r := r31) tok rfl rfl rfl rfl rfl hl35 H) rfl rfl ?_
      rintro _ h34 ⟨s33, rfl, H⟩
      refine w_p tok rfl rfl rfl ?_
      refine w_end ?_
      refine x_seq ?_
      refine c_weak [(3, Slc.v s33), (0, .pointer p0), (4, .int .i64 t4_1), (5, .pointer (some (⟨b10, 0, none⟩ : Addr)))] ⟨rfl, rfl, rfl, rfl, trivial⟩ ?_
      refine c_seq ?_
      refine c_region ?_
      refine w_p tok rfl rfl rfl ?_
      refine w_end ?_
      refine x_seq ?_
      refine c_block ?_
      obtain ⟨I3, μ3, H0, HI⟩ := H
      refine c_loop (σ := Slc × Int) (fun (s : Slc × Int) => [(3, Slc.v s.1), (6, .int .i64 s.2), (0, .pointer p0), (4, .int .i64 t4_1), (5, .pointer (some (⟨b10, 0, none⟩ : Addr)))]) I3 μ3 (s33, 0) H0 ⟨rfl, rfl, rfl, rfl, rfl, trivial⟩ ?_
      rintro ⟨t3_3, t6_3⟩ h_3 H
      replace H := HI t3_3 t6_3 h_3 H
      unfold ref25_Reg_Bytes_l3b at H
      refine c_weak [(3, Slc.v t3_3), (6, .int .i64 t6_3), (0, .pointer p0), (4, .int .i64 t4_1), (5, .pointer (some (⟨b10, 0, none⟩ : Addr)))] ⟨rfl, rfl, rfl, rfl, rfl, trivial⟩ ?_
      refine c_seq ?_
      refine c_seq ?_
      refine c_region ?_
      refine w_p tok rfl rfl rfl ?_
      refine w_p tok rfl rfl rfl ?_
      obtain ⟨v36, hv36, H⟩ := H
      refine w_y (y_ld tok rfl rfl rfl rfl hv36) rfl rfl ?_
      refine w_p tok rfl rfl rfl ?_
      refine w_p tok rfl rfl rfl ?_
      refine w_end ?_
      refine x_seq ?_
      refine c_if H rfl (fun H => ?_) (fun H => ?_)
      ·
        refine c_skip ?_
        refine x_seq ?_
        refine c_seq ?_
        refine c_block ?_
        refine c_seq ?_
        refine c_region ?_
        refine w_p tok rfl rfl rfl ?_
        refine w_p tok rfl rfl rfl ?_
        obtain ⟨v37, hv37, H⟩ := H
        refine w_y (y_ld tok rfl rfl rfl rfl hv37) rfl rfl ?_
        refine w_p tok rfl rfl rfl ?_
        obtain ⟨a38, ha38, la38, ua38, H⟩ := H
        refine w_y (y_ixa' tok rfl rfl ha38 rfl rfl rfl la38 ua38) rfl rfl ?_
        refine w_p tok rfl rfl rfl ?_
        obtain ⟨v39, hv39, H⟩ := H
        refine w_y (y_ld tok rfl rfl rfl rfl hv39) rfl rfl ?_
        refine w_p tok rfl rfl rfl ?_
        refine w_call ref01_Form_ok (ref01_Form_ref _ _ _ _ H) rfl rfl rfl rfl ?_
        rintro _ h41 ⟨r40, rfl, H⟩
        obtain ⟨l44, hl44, H⟩ := H
        refine w_a (a_app (s := t3_3) (r := r40) tok rfl rfl rfl rfl rfl hl44 H) rfl rfl ?_
        rintro _ h43 ⟨s42, rfl, H⟩
        refine w_p tok rfl rfl rfl ?_
        refine w_end ?_
        refine x_seq ?_
        refine c_weak [(3, Slc.v s42), (6, .int .i64 t6_3), (0, .pointer p0), (4, .int .i64 t4_1), (5, .pointer (some (⟨b10, 0, none⟩ : Addr)))] ⟨rfl, rfl, rfl, rfl, rfl, trivial⟩ ?_
        refine c_seq ?_
        refine c_region ?_
        refine w_p tok rfl rfl rfl ?_
        refine w_p tok rfl rfl rfl ?_
        obtain ⟨v45, hv45, H⟩ := H
        refine w_y (y_ld tok rfl rfl rfl rfl hv45) rfl rfl ?_
        refine w_p tok rfl rfl rfl ?_
        obtain ⟨a46, ha46, la46, ua46, H⟩ := H
        refine w_y (y_ixa' tok rfl rfl ha46 rfl rfl rfl la46 ua46) rfl rfl ?_
        refine w_p tok rfl rfl rfl ?_
        obtain ⟨s47, ps47, qs47, rs47, es47, H⟩ := H
        refine w_ye (y_sla (L := 0) (H := 12) tok rfl rfl rfl rfl rfl rfl ps47 qs47 rs47) (congrArg Slc.v es47) rfl rfl ?_
        obtain ⟨l50, hl50, H⟩ := H
        refine w_a (a_app (s := s42) (r := s47) tok rfl rfl rfl rfl rfl hl50 H) rfl rfl ?_
        rintro _ h49 ⟨s48, rfl, H⟩
        refine w_p tok rfl rfl rfl ?_
        refine w_end ?_
        refine x_seq ?_
        refine c_weak [(3, Slc.v s48), (6, .int .i64 t6_3), (0, .pointer p0), (4, .int .i64 t4_1), (5, .pointer (some (⟨b10, 0, none⟩ : Addr)))] ⟨rfl, rfl, rfl, rfl, rfl, trivial⟩ ?_
        refine c_region ?_
        refine w_p tok rfl rfl rfl ?_
        refine w_p tok rfl rfl rfl ?_
        obtain ⟨v51, hv51, H⟩ := H
        refine w_y (y_ld tok rfl rfl rfl rfl hv51) rfl rfl ?_
        refine w_p tok rfl rfl rfl ?_
        obtain ⟨a52, ha52, la52, ua52, H⟩ := H
        refine w_y (y_ixa' tok rfl rfl ha52 rfl rfl rfl la52 ua52) rfl rfl ?_
        refine w_p tok rfl rfl rfl ?_
        obtain ⟨v53, hv53, H⟩ := H
        refine w_y (y_ld tok rfl rfl rfl rfl hv53) rfl rfl ?_
        obtain ⟨l56, hl56, H⟩ := H
        refine w_a (a_app (s := s48) (r := v53) tok rfl rfl rfl rfl rfl hl56 H) rfl rfl ?_
        rintro _ h55 ⟨s54, rfl, H⟩
        refine w_p tok rfl rfl rfl ?_
        refine w_end ?_
        refine x_blk ?_
        refine x_seq ?_
        refine c_weak [(3, Slc.v s54), (6, .int .i64 t6_3), (0, .pointer p0), (4, .int .i64 t4_1), (5, .pointer (some (⟨b10, 0, none⟩ : Addr)))] ⟨rfl, rfl, rfl, rfl, rfl, trivial⟩ ?_
        refine c_region ?_
        refine w_p tok rfl rfl rfl ?_
        refine w_p tok rfl rfl rfl ?_
        obtain ⟨x57, ex57, H⟩ := H
        refine w_pe tok rfl (congrArg (fun z => (.int .i64 z : Value)) ex57) rfl rfl ?_
        refine w_end ?_
        exact x_join (s54, x57) H ⟨rfl, rfl, rfl, rfl, rfl, trivial⟩
      ·
        refine c_exit ?_
        refine x_te ?_
        refine x_te ?_
        refine x_bh ?_
        refine x_blk ?_
        refine x_seq ?_
        refine c_weak [(3, Slc.v t3_3), (0, .pointer p0), (4, .int .i64 t4_1)] ⟨rfl, rfl, rfl, trivial⟩ ?_
        refine c_region ?_
        refine w_p tok rfl rfl rfl ?_
        refine w_p tok rfl rfl rfl ?_
        obtain ⟨x58, ex58, H⟩ := H
        refine w_pe tok rfl (congrArg (fun z => (.int .i64 z : Value)) ex58) rfl rfl ?_
        refine w_end ?_
        exact x_join (t3_3, x58) H ⟨rfl, rfl, rfl, trivial⟩
    ·
      refine c_seq ?_
      refine c_region ?_
      refine w_p tok rfl rfl rfl ?_
      obtain ⟨v59, hv59, H⟩ := H
      refine w_y (y_ld tok rfl rfl rfl rfl hv59) rfl rfl ?_
      refine w_end ?_
      refine x_seq ?_
      refine c_if H rfl (fun H => ?_) (fun H => ?_)
      ·
        refine c_region ?_
        refine w_p tok rfl rfl rfl ?_
        obtain ⟨b60, h61, eb60, eh61, H⟩ := H
        refine w_h (h_bs tok rfl rfl rfl rfl rfl rfl rfl eb60 eh61) rfl rfl ?_
        refine w_a (a_app (s := s20) (r := (⟨some ⟨b60, 0, none⟩, 1, 1⟩ : Slc)) tok rfl rfl rfl rfl rfl (slcAt_push eb60 eh61) H) rfl rfl ?_
        rintro _ h63 ⟨s62, rfl, H⟩
        refine w_p tok rfl rfl rfl ?_
        refine w_end ?_
        exact x_join s62 H ⟨rfl, rfl, rfl, rfl, trivial⟩
      ·
        refine c_region ?_
        refine w_p tok rfl rfl rfl ?_
        obtain ⟨b64, h65, eb64, eh65, H⟩ := H
        refine w_h (h_bs tok rfl rfl rfl rfl rfl rfl rfl eb64 eh65) rfl rfl ?_
        refine w_a (a_app (s := s20) (r := (⟨some ⟨b64, 0, none⟩, 1, 1⟩ : Slc)) tok rfl rfl rfl rfl rfl (slcAt_push eb64 eh65) H) rfl rfl ?_
        rintro _ h67 ⟨s66, rfl, H⟩
        refine w_p tok rfl rfl rfl ?_
        refine w_end ?_
        exact x_join s66 H ⟨rfl, rfl, rfl, rfl, trivial⟩
  ·
    refine c_exit ?_
    refine x_te ?_
    refine x_te ?_
    refine x_bh ?_
    refine x_seq ?_
    refine c_weak [(3, Slc.v t3_1)] ⟨rfl, trivial⟩ ?_
    refine c_seq ?_
    refine c_region ?_
    refine w_p tok rfl rfl rfl ?_
    refine w_p tok rfl rfl rfl ?_
    refine w_end ?_
    refine x_seq ?_
    refine c_ret ?_
    exact x_ret _ rfl _ rfl ⟨t3_1, rfl, H⟩

theorem law25_RegPlays_ok : CallOk Go.Proofs.Try.prog 18 := ⟨_, Go.Proofs.Try.func18, by kernel_rfl, by kernel_rfl⟩
theorem law25_RegPlays_ref (p0 : Slc) (p1 : ByteArray) (k : (Bool) → Heap → Prop) (h : Heap) (H : law25_RegPlays p0 p1 k h) : CallsH Go.Proofs.Try.prog 18 #[Slc.v p0, .string p1] h (fun v h' => ∃ r : Bool, v = .bool r ∧ k r h') := by
  refine f_enter (N := 86) Go.Proofs.Try.func18 rfl rfl rfl (fun w0 => ?_)
  unfold law25_RegPlays at H
  refine c_weak [(0, Slc.v p0), (1, .string p1)] ⟨rfl, rfl, trivial⟩ ?_
  refine c_seq ?_
  refine c_region ?_
  refine w_p tok rfl rfl rfl ?_
  refine w_end ?_
  refine x_seq ?_
  refine c_seq ?_
  refine c_seq ?_
  refine c_region ?_
  refine w_p tok rfl rfl rfl ?_
  refine w_call ref25_Great_ok (ref25_Great_ref _ _ _ _ H) rfl rfl rfl rfl ?_
  rintro _ h2 ⟨r1, rfl, H⟩
  refine w_p tok rfl rfl rfl ?_
  refine w_cutU 4 [(17, .bool (r1 || (decide ((p1.size : Int) > 100)))), (0, Slc.v p0), (1, .string p1)] ?_ ?_
  ·
    refine w_end ?_
    refine x_seq ?_
    refine c_if H rfl (fun H => ?_) (fun H => ?_)
    ·
      refine c_seq ?_
      refine c_region ?_
      refine w_call law25_awake_ok (law25_awake_ref  _ _ H) rfl rfl rfl rfl ?_
      rintro _ h4 ⟨r3, rfl, H⟩
      refine w_p tok rfl rfl rfl ?_
      refine w_end ?_
      refine x_seq ?_
      refine c_ret ?_
      refine x_tr ?_
      exact x_ret _ rfl _ rfl ⟨r3, rfl, H⟩
    ·
      refine c_skip ?_
      refine x_seq ?_
      refine c_seq ?_
      refine c_region ?_
      refine w_call reg_New_ok (reg_New_ref  _ _ H) rfl rfl rfl rfl ?_
      rintro _ h6 ⟨r5, rfl, H⟩
      refine w_y (y_build tok rfl rfl rfl rfl rfl) rfl rfl ?_
      obtain ⟨b7, h8, eb7, eh8, H⟩ := H
      refine w_h (h_box rfl rfl eb7 eh8) rfl rfl ?_
      refine w_p tok rfl rfl rfl ?_
      refine w_p tok rfl rfl rfl ?_
      refine w_end ?_
      refine x_seq ?_
      refine c_seq ?_
      refine c_seq ?_
      refine c_region ?_
      refine w_p tok rfl rfl rfl ?_
      refine w_end ?_
      refine x_seq ?_
      refine c_block ?_
      obtain ⟨I1, μ1, H0, HI⟩ := H
      refine c_loop (σ := Int) (fun (s : Int) => [(7, .int .i64 s), (0, Slc.v p0), (1, .string p1), (5, .pointer r5), (6, .pointer (some (⟨b7, 0, none⟩ : Addr)))]) I1 μ1 0 H0 ⟨rfl, rfl, rfl, rfl, rfl, trivial⟩ ?_
      rintro t7_1 h_1 H
      replace H := HI t7_1 h_1 H
      unfold law25_RegPlays_l1b at H
      refine c_weak [(7, .int .i64 t7_1), (0, Slc.v p0), (1, .string p1), (5, .pointer r5), (6, .pointer (some (⟨b7, 0, none⟩ : Addr)))] ⟨rfl, rfl, rfl, rfl, rfl, trivial⟩ ?_
      refine c_seq ?_
      refine c_seq ?_
      refine c_region ?_
      refine w_p tok rfl rfl rfl ?_
      refine w_p tok rfl rfl rfl ?_
      refine w_p tok rfl rfl rfl ?_
      refine w_p tok rfl rfl rfl ?_
      refine w_end ?_
      refine x_seq ?_
      refine c_if H rfl (fun H => ?_) (fun H => ?_)
      ·
        refine c_skip ?_
        refine x_seq ?_
        refine c_seq ?_
        refine c_block ?_
        refine c_seqJ (α := Bool) (fun (s : Bool) => [(59, .bool s), (0, Slc.v p0), (1, .string p1), (5, .pointer r5), (6, .pointer (some (⟨b7, 0, none⟩ : Addr))), (7, .int .i64 t7_1)]) (fun (s : Bool) h => law25_RegPlays_j2 p0 p1 r5 (⟨b7, 0, none⟩ : Addr) t7_1 s k (fun s h' => I1 s h' ∧ μ1 s h' < μ1 t7_1 h_1) h) ?_ ?_
        ·
          rintro t59_2 h_2 H
          replace H : law25_RegPlays_j2 p0 p1 r5 (⟨b7, 0, none⟩ : Addr) t7_1 t59_2 k (fun s h' => I1 s h' ∧ μ1 s h' < μ1 t7_1 h_1) h_2 := H
          unfold law25_RegPlays_j2 at H
          refine c_weak [(59, .bool t59_2), (0, Slc.v p0), (1, .string p1), (5, .pointer r5), (6, .pointer (some (⟨b7, 0, none⟩ : Addr))), (7, .int .i64 t7_1)] ⟨rfl, rfl, rfl, rfl, rfl, rfl, trivial⟩ ?_
          refine c_if H rfl (fun H => ?_) (fun H => ?_)
          ·
            refine c_seq ?_
            refine c_region ?_
            refine w_p tok rfl rfl rfl ?_
            refine w_end ?_
            refine x_seq ?_
            refine c_ret ?_
            refine x_br ?_
            refine x_tr ?_
            refine x_tr ?_
            refine x_br ?_
            refine x_tr ?_
            exact x_ret _ rfl _ rfl ⟨false, rfl, H⟩
          ·
            refine c_skip ?_
            refine x_blk ?_
            refine x_seq ?_
            refine c_region ?_
            refine w_p tok rfl rfl rfl ?_
            refine w_p tok rfl rfl rfl ?_
            obtain ⟨x9, ex9, H⟩ := H
            refine w_pe tok rfl (congrArg (fun z => (.int .i64 z : Value)) ex9) rfl rfl ?_
            refine w_end ?_
            exact x_join x9 H ⟨rfl, rfl, rfl, rfl, rfl, trivial⟩
        ·
          refine c_sim [(0, Slc.v p0), (1, .string p1), (5, .pointer r5), (6, .pointer (some (⟨b7, 0, none⟩ : Addr))), (7, .int .i64 t7_1)] (by kernel_rfl) (by kernel_rfl) ⟨rfl, rfl, rfl, rfl, rfl, trivial⟩ (fun wf => ?_)
          refine sim_p 0 (ei := [(5, .pointer r5)]) (d := (some 28)) wf (by kernel_rfl) ⟨rfl, trivial⟩ (by kernel_rfl) (by kernel_rfl) (fun _ => pf_p tok rfl rfl rfl rfl) (fun P_0 => ?_)
          refine sim_p 1 (ei := [(0, Slc.v p0)]) (d := (some 29)) wf (by kernel_rfl) ⟨rfl, trivial⟩ (by kernel_rfl) (by kernel_rfl) (fun _ => pf_p tok rfl rfl rfl rfl) (fun P_1 => ?_)
          refine sim_p 2 (ei := [(7, .int .i64 t7_1)]) (d := (some 30)) wf (by kernel_rfl) ⟨rfl, trivial⟩ (by kernel_rfl) (by kernel_rfl) (fun _ => pf_p tok rfl rfl rfl rfl) (fun P_2 => ?_)
          obtain ⟨a10, ha10, la10, ua10, H⟩ := H
          refine sim_p 3 (ei := [(29, Slc.v p0), (30, .int .i64 t7_1)]) (d := (some 31)) wf (by kernel_rfl) ⟨rfl, rfl, trivial⟩ (by kernel_rfl) (by kernel_rfl) (fun _ => pf_y rfl rfl rfl (y_ixa' tok rfl rfl ha10 rfl rfl rfl la10 ua10)) (fun P_3 => ?_)
          obtain ⟨v11, hv11, H⟩ := H
          refine sim_l 4 (ei := [(31, .pointer (some (a10.add (t7_1.toNat * 17))))]) (d := (some 32)) wf (by kernel_rfl) ⟨rfl, trivial⟩ (by kernel_rfl) (by kernel_rfl) (pf_y rfl rfl rfl (y_lda tok rfl rfl rfl rfl rfl hv11)) (fun P_4 => ?_)
          refine sim_p 6 (ei := [(6, .pointer (some (⟨b7, 0, none⟩ : Addr)))]) (d := (some 34)) wf (by kernel_rfl) ⟨rfl, trivial⟩ (by kernel_rfl) (by kernel_rfl) (fun _ => pf_p tok rfl rfl rfl rfl) (fun P_6 => ?_)
          refine sim_p 7 (ei := [(0, Slc.v p0)]) (d := (some 35)) wf (by kernel_rfl) ⟨rfl, trivial⟩ (by kernel_rfl) (by kernel_rfl) (fun _ => pf_p tok rfl rfl rfl rfl) (fun P_7 => ?_)
          refine sim_p 8 (ei := [(7, .int .i64 t7_1)]) (d := (some 36)) wf (by kernel_rfl) ⟨rfl, trivial⟩ (by kernel_rfl) (by kernel_rfl) (fun _ => pf_p tok rfl rfl rfl rfl) (fun P_8 => ?_)
          obtain ⟨a12, ha12, la12, ua12, H⟩ := H
          refine sim_p 9 (ei := [(35, Slc.v p0), (36, .int .i64 t7_1)]) (d := (some 37)) wf (by kernel_rfl) ⟨rfl, rfl, trivial⟩ (by kernel_rfl) (by kernel_rfl) (fun _ => pf_y rfl rfl rfl (y_ixa' tok rfl rfl ha12 rfl rfl rfl la12 ua12)) (fun P_9 => ?_)
          obtain ⟨v13, hv13, H⟩ := H
          refine sim_l 10 (ei := [(37, .pointer (some (a12.add (t7_1.toNat * 17))))]) (d := (some 38)) wf (by kernel_rfl) ⟨rfl, trivial⟩ (by kernel_rfl) (by kernel_rfl) (pf_y rfl rfl rfl (y_lda tok rfl rfl rfl rfl rfl hv13)) (fun P_10 => ?_)
          refine sim_c 5 [0, 1, 2, 3, 4] [0, 1, 2, 3, 4] (ei := [(28, .pointer r5), (32, .agg (S_api_Command.cs v11).toArray)]) reg_Reg_Apply_ok (reg_Reg_Apply_ref _ _ _ _ H) wf ⟨P_10, P_9 _, P_8 _, P_7 _, P_6 _, P_4, P_3 _, P_2 _, P_1 _, P_0 _, trivial⟩ (by kernel_rfl) ⟨rfl, rfl, trivial⟩ (by kernel_rfl) rfl rfl rfl rfl rfl ?_
          rintro _ h15 ⟨r14, rfl, H⟩
          obtain ⟨hy16, H⟩ := H
          refine sim_re (x := ⟨10, .agg (S_api_Command.cs v13).toArray, [(37, .pointer (some (a12.add (t7_1.toNat * 17))))]⟩) (pf_y rfl rfl rfl (y_lda tok rfl rfl rfl rfl rfl hy16)) (fun P_10 => ?_)
          refine sim_c 11 [0, 1, 2, 3, 4, 5, 6, 7, 8, 9, 10] [0, 1, 2, 3, 4, 6, 7, 8, 9, 10] (ei := [(34, .pointer (some (⟨b7, 0, none⟩ : Addr))), (38, .agg (S_api_Command.cs v13).toArray)]) ref25_Reg_Apply_ok (ref25_Reg_Apply_ref _ _ _ _ H) wf ⟨P_10, P_9 _, P_8 _, P_7 _, P_6 _, trivial, trivial, trivial, trivial, trivial, trivial⟩ (by kernel_rfl) ⟨rfl, rfl, trivial⟩ (by kernel_rfl) rfl rfl rfl rfl rfl ?_
          rintro _ h18 ⟨r17, rfl, H⟩
          refine sim_p 12 (ei := [(33, .int .i64 r14), (39, .int .i64 r17)]) (d := (some 40)) wf (by kernel_rfl) ⟨rfl, rfl, trivial⟩ (by kernel_rfl) (by kernel_rfl) (fun _ => pf_p tok rfl rfl rfl rfl) (fun P_12 => ?_)
          refine sim_p 13 (ei := [(40, .bool (r14 != r17))]) (d := (some 41)) wf (by kernel_rfl) ⟨rfl, trivial⟩ (by kernel_rfl) (by kernel_rfl) (fun _ => pf_p tok rfl rfl rfl rfl) (fun P_13 => ?_)
          refine sim_gif 41 H rfl (fun hb H => ?_) (fun hb H => ?_)
          ·
            refine sim_p 14 (v := undef) (ei := [(5, .pointer r5), (41, .bool true)]) (d := (some 42)) wf (by kernel_rfl) ⟨rfl, rfl, trivial⟩ (by kernel_rfl) (by kernel_rfl) (fun _ => pf_s rfl rfl rfl) (fun P_14 => ?_)
            refine sim_p 15 (v := undef) (ei := [(41, .bool true), (42, undef)]) (d := (some 43)) wf (by kernel_rfl) ⟨rfl, rfl, trivial⟩ (by kernel_rfl) (by kernel_rfl) (fun _ => pf_s rfl rfl rfl) (fun P_15 => ?_)
            refine sim_p 16 (v := undef) (ei := [(6, .pointer (some (⟨b7, 0, none⟩ : Addr))), (41, .bool true)]) (d := (some 44)) wf (by kernel_rfl) ⟨rfl, rfl, trivial⟩ (by kernel_rfl) (by kernel_rfl) (fun _ => pf_s rfl rfl rfl) (fun P_16 => ?_)
            refine sim_p 17 (v := undef) (ei := [(41, .bool true), (44, undef)]) (d := (some 45)) wf (by kernel_rfl) ⟨rfl, rfl, trivial⟩ (by kernel_rfl) (by kernel_rfl) (fun _ => pf_s rfl rfl rfl) (fun P_17 => ?_)
            refine sim_p 18 (v := undef) (ei := [(41, .bool true), (45, undef)]) (d := (some 46)) wf (by kernel_rfl) ⟨rfl, rfl, trivial⟩ (by kernel_rfl) (by kernel_rfl) (fun _ => pf_s rfl rfl rfl) (fun P_18 => ?_)
            refine sim_p 19 (v := undef) (ei := [(41, .bool true), (46, undef)]) (d := (some 47)) wf (by kernel_rfl) ⟨rfl, rfl, trivial⟩ (by kernel_rfl) (by kernel_rfl) (fun _ => pf_s rfl rfl rfl) (fun P_19 => ?_)
            refine sim_p 20 (v := undef) (ei := [(41, .bool true), (43, undef), (47, undef)]) (d := (some 48)) wf (by kernel_rfl) ⟨rfl, rfl, rfl, trivial⟩ (by kernel_rfl) (by kernel_rfl) (fun _ => pf_s rfl rfl rfl) (fun P_20 => ?_)
            refine sim_p 21 (v := undef) (ei := [(41, .bool true), (48, undef)]) (d := (some 49)) wf (by kernel_rfl) ⟨rfl, rfl, trivial⟩ (by kernel_rfl) (by kernel_rfl) (fun _ => pf_s rfl rfl rfl) (fun P_21 => ?_)
            refine sim_p 22 (ei := [(41, .bool true), (49, undef)]) (d := (some 50)) wf (by kernel_rfl) ⟨rfl, rfl, trivial⟩ (by kernel_rfl) (by kernel_rfl) (fun _ => pf_p tok rfl rfl rfl rfl) (fun P_22 => ?_)
            refine sim_p 23 (ei := [(50, .bool true)]) (d := (some 51)) wf (by kernel_rfl) ⟨rfl, trivial⟩ (by kernel_rfl) (by kernel_rfl) (fun _ => pf_p tok rfl rfl rfl rfl) (fun P_23 => ?_)
            refine sim_gif 51 H rfl (fun hb H => ?_) (fun hb H => ?_)
            ·
              refine sim_p 24 (v := undef) (ei := [(5, .pointer r5), (51, .bool true)]) (d := (some 52)) wf (by kernel_rfl) ⟨rfl, rfl, trivial⟩ (by kernel_rfl) (by kernel_rfl) (fun _ => pf_s rfl rfl rfl) (fun P_24 => ?_)
              refine sim_p 25 (v := undef) (ei := [(1, .string p1), (51, .bool true)]) (d := (some 53)) wf (by kernel_rfl) ⟨rfl, rfl, trivial⟩ (by kernel_rfl) (by kernel_rfl) (fun _ => pf_s rfl rfl rfl) (fun P_25 => ?_)
              refine sim_p 26 (v := undef) (ei := [(51, .bool true), (52, undef), (53, undef)]) (d := (some 54)) wf (by kernel_rfl) ⟨rfl, rfl, rfl, trivial⟩ (by kernel_rfl) (by kernel_rfl) (fun _ => pf_s rfl rfl rfl) (fun P_26 => ?_)
              refine sim_p 27 (v := undef) (ei := [(6, .pointer (some (⟨b7, 0, none⟩ : Addr))), (51, .bool true)]) (d := (some 55)) wf (by kernel_rfl) ⟨rfl, rfl, trivial⟩ (by kernel_rfl) (by kernel_rfl) (fun _ => pf_s rfl rfl rfl) (fun P_27 => ?_)
              refine sim_p 28 (v := undef) (ei := [(1, .string p1), (51, .bool true)]) (d := (some 56)) wf (by kernel_rfl) ⟨rfl, rfl, trivial⟩ (by kernel_rfl) (by kernel_rfl) (fun _ => pf_s rfl rfl rfl) (fun P_28 => ?_)
              refine sim_p 29 (v := undef) (ei := [(51, .bool true), (55, undef), (56, undef)]) (d := (some 57)) wf (by kernel_rfl) ⟨rfl, rfl, rfl, trivial⟩ (by kernel_rfl) (by kernel_rfl) (fun _ => pf_s rfl rfl rfl) (fun P_29 => ?_)
              refine sim_p 30 (v := undef) (ei := [(51, .bool true), (54, undef), (57, undef)]) (d := (some 58)) wf (by kernel_rfl) ⟨rfl, rfl, rfl, trivial⟩ (by kernel_rfl) (by kernel_rfl) (fun _ => pf_s rfl rfl rfl) (fun P_30 => ?_)
              refine sim_p 31 (ei := [(51, .bool true), (58, undef)]) (d := (some 59)) wf (by kernel_rfl) ⟨rfl, rfl, trivial⟩ (by kernel_rfl) (by kernel_rfl) (fun _ => pf_p tok rfl rfl rfl rfl) (fun P_31 => ?_)
              refine sim_end wf ⟨P_31 _, P_30 _, P_29 _, P_28 _, P_27 _, P_26 _, P_25 _, P_24 _, P_23 _, P_22 _, P_21 _, P_20 _, P_19 _, P_18 _, P_17 _, P_16 _, P_15 _, P_14 _, P_13 _, P_12 _, trivial, trivial, trivial, trivial, trivial, trivial, trivial, trivial, trivial, trivial, trivial⟩ (by kernel_rfl) ?_
              clear wf P_0 P_1 P_10 P_12 P_13 P_14 P_15 P_16 P_17 P_18 P_19 P_2 P_20 P_21 P_22 P_23 P_24 P_25 P_26 P_27 P_28 P_29 P_3 P_30 P_31 P_4 P_6 P_7 P_8 P_9
              exact x_join true H ⟨rfl, rfl, rfl, rfl, rfl, rfl, trivial⟩
            ·
              refine sim_p 24 (ei := [(5, .pointer r5), (51, .bool false)]) (d := (some 52)) wf (by kernel_rfl) ⟨rfl, rfl, trivial⟩ (by kernel_rfl) (by kernel_rfl) (fun _ => pf_p tok rfl rfl rfl rfl) (fun P_24 => ?_)
              refine sim_p 25 (ei := [(1, .string p1), (51, .bool false)]) (d := (some 53)) wf (by kernel_rfl) ⟨rfl, rfl, trivial⟩ (by kernel_rfl) (by kernel_rfl) (fun _ => pf_p tok rfl rfl rfl rfl) (fun P_25 => ?_)
              refine sim_p 27 (ei := [(6, .pointer (some (⟨b7, 0, none⟩ : Addr))), (51, .bool false)]) (d := (some 55)) wf (by kernel_rfl) ⟨rfl, rfl, trivial⟩ (by kernel_rfl) (by kernel_rfl) (fun _ => pf_p tok rfl rfl rfl rfl) (fun P_27 => ?_)
              refine sim_p 28 (ei := [(1, .string p1), (51, .bool false)]) (d := (some 56)) wf (by kernel_rfl) ⟨rfl, rfl, trivial⟩ (by kernel_rfl) (by kernel_rfl) (fun _ => pf_p tok rfl rfl rfl rfl) (fun P_28 => ?_)
              refine sim_c 26 [0, 1, 2, 3, 4, 5, 6, 7, 8, 9, 10, 11, 12, 13, 14, 15, 16, 17, 18, 19, 20, 21, 22, 23, 24, 25] [0, 1, 2, 3, 4, 6, 7, 8, 9, 10, 12, 13, 14, 15, 16, 17, 18, 19, 20, 21, 22, 23, 24, 25] (ei := [(51, .bool false), (52, .pointer r5), (53, .string p1)]) reg_Reg_Epoch_ok (reg_Reg_Epoch_ref _ _ _ _ H) wf ⟨P_28 _, P_27 _, P_25 _, P_24 _, P_23 _, P_22 _, P_21 _, P_20 _, P_19 _, P_18 _, P_17 _, P_16 _, P_15 _, P_14 _, P_13 _, P_12 _, trivial, trivial, trivial, trivial, trivial, trivial, trivial, trivial, trivial, trivial, trivial⟩ (by kernel_rfl) ⟨rfl, rfl, rfl, trivial⟩ (by kernel_rfl) rfl rfl rfl rfl rfl ?_
              rintro _ h20 ⟨r19, rfl, H⟩
              refine sim_c 29 [0, 1, 2, 3, 4, 5, 6, 7, 8, 9, 10, 11, 12, 13, 14, 15, 16, 17, 18, 19, 20, 21, 22, 23, 24, 25, 26, 27, 28] [0, 1, 2, 3, 4, 6, 7, 8, 9, 10, 12, 13, 14, 15, 16, 17, 18, 19, 20, 21, 22, 23, 24, 25, 27, 28] (ei := [(51, .bool false), (55, .pointer (some (⟨b7, 0, none⟩ : Addr))), (56, .string p1)]) ref25_Reg_Epoch_ok (ref25_Reg_Epoch_ref _ _ _ _ H) wf ⟨P_28 _, P_27 _, trivial, trivial, trivial, trivial, trivial, trivial, trivial, trivial, trivial, trivial, trivial, trivial, trivial, trivial, trivial, trivial, trivial, trivial, trivial, trivial, trivial, trivial, trivial, trivial, trivial⟩ (by kernel_rfl) ⟨rfl, rfl, rfl, trivial⟩ (by kernel_rfl) rfl rfl rfl rfl rfl ?_
              rintro _ h22 ⟨r21, rfl, H⟩
              refine sim_p 30 (ei := [(51, .bool false), (54, .int .u32 r19), (57, .int .u32 r21)]) (d := (some 58)) wf (by kernel_rfl) ⟨rfl, rfl, rfl, trivial⟩ (by kernel_rfl) (by kernel_rfl) (fun _ => pf_p tok rfl rfl rfl rfl) (fun P_30 => ?_)
              refine sim_p 31 (ei := [(51, .bool false), (58, .bool (r19 != r21))]) (d := (some 59)) wf (by kernel_rfl) ⟨rfl, rfl, trivial⟩ (by kernel_rfl) (by kernel_rfl) (fun _ => pf_p tok rfl rfl rfl rfl) (fun P_31 => ?_)
              refine sim_end wf ⟨P_31 _, P_30 _, trivial, trivial, trivial, trivial, trivial, trivial, trivial, trivial, trivial, trivial, trivial, trivial, trivial, trivial, trivial, trivial, trivial, trivial, trivial, trivial, trivial, trivial, trivial, trivial, trivial, trivial, trivial⟩ (by kernel_rfl) ?_
              clear wf P_0 P_1 P_10 P_12 P_13 P_14 P_15 P_16 P_17 P_18 P_19 P_2 P_20 P_21 P_22 P_23 P_24 P_25 P_27 P_28 P_3 P_30 P_31 P_4 P_6 P_7 P_8 P_9
              exact x_join (r19 != r21) H ⟨rfl, rfl, rfl, rfl, rfl, rfl, trivial⟩
          ·
            refine sim_p 14 (ei := [(5, .pointer r5), (41, .bool false)]) (d := (some 42)) wf (by kernel_rfl) ⟨rfl, rfl, trivial⟩ (by kernel_rfl) (by kernel_rfl) (fun _ => pf_p tok rfl rfl rfl rfl) (fun P_14 => ?_)
            refine sim_p 16 (ei := [(6, .pointer (some (⟨b7, 0, none⟩ : Addr))), (41, .bool false)]) (d := (some 44)) wf (by kernel_rfl) ⟨rfl, rfl, trivial⟩ (by kernel_rfl) (by kernel_rfl) (fun _ => pf_p tok rfl rfl rfl rfl) (fun P_16 => ?_)
            refine sim_p 17 (ei := [(41, .bool false), (44, .pointer (some (⟨b7, 0, none⟩ : Addr)))]) (d := (some 45)) wf (by kernel_rfl) ⟨rfl, rfl, trivial⟩ (by kernel_rfl) (by kernel_rfl) (fun _ => pf_y rfl rfl rfl (y_nil rfl rfl)) (fun P_17 => ?_)
            refine sim_p 18 (ei := [(41, .bool false), (45, .pointer (some (⟨b7, 0, none⟩ : Addr)))]) (d := (some 46)) wf (by kernel_rfl) ⟨rfl, rfl, trivial⟩ (by kernel_rfl) (by kernel_rfl) (fun _ => pf_p tok rfl rfl rfl rfl) (fun P_18 => ?_)
            obtain ⟨v23, hv23, H⟩ := H
            refine sim_l 19 (ei := [(41, .bool false), (46, .pointer (some (⟨b7, 0, none⟩ : Addr)))]) (d := (some 47)) wf (by kernel_rfl) ⟨rfl, rfl, trivial⟩ (by kernel_rfl) (by kernel_rfl) (pf_y rfl rfl rfl (y_ld tok rfl rfl rfl rfl hv23)) (fun P_19 => ?_)
            refine sim_c 15 [0, 1, 2, 3, 4, 5, 6, 7, 8, 9, 10, 11, 12, 13, 14] [0, 1, 2, 3, 4, 6, 7, 8, 9, 10, 12, 13, 14] (ei := [(41, .bool false), (42, .pointer r5)]) reg_Reg_Tenants_ok (reg_Reg_Tenants_ref _ _ _ H) wf ⟨P_19, P_18 _, P_17 _, P_16 _, P_14 _, P_13 _, P_12 _, trivial, trivial, trivial, trivial, trivial, trivial, trivial, trivial, trivial, trivial, trivial⟩ (by kernel_rfl) ⟨rfl, rfl, trivial⟩ (by kernel_rfl) rfl rfl rfl rfl rfl ?_
            rintro _ h25 ⟨r24, rfl, H⟩
            obtain ⟨hy26, H⟩ := H
            refine sim_re (x := ⟨19, Slc.v v23, [(41, .bool false), (46, .pointer (some (⟨b7, 0, none⟩ : Addr)))]⟩) (pf_y rfl rfl rfl (y_ld tok rfl rfl rfl rfl hy26)) (fun P_19 => ?_)
            refine sim_c 20 [0, 1, 2, 3, 4, 5, 6, 7, 8, 9, 10, 11, 12, 13, 14, 15, 16, 17, 18, 19] [0, 1, 2, 3, 4, 6, 7, 8, 9, 10, 12, 13, 14, 16, 17, 18, 19] (ei := [(41, .bool false), (43, Slc.v r24), (47, Slc.v v23)]) ref25_SameTenants_ok (ref25_SameTenants_ref _ _ _ _ H) wf ⟨P_19, P_18 _, P_17 _, P_16 _, trivial, trivial, trivial, trivial, trivial, trivial, trivial, trivial, trivial, trivial, trivial, trivial, trivial, trivial⟩ (by kernel_rfl) ⟨rfl, rfl, rfl, trivial⟩ (by kernel_rfl) rfl rfl rfl rfl rfl ?_
            rintro _ h28 ⟨r27, rfl, H⟩
            refine sim_p 21 (ei := [(41, .bool false), (48, .bool r27)]) (d := (some 49)) wf (by kernel_rfl) ⟨rfl, rfl, trivial⟩ (by kernel_rfl) (by kernel_rfl) (fun _ => pf_p tok rfl rfl rfl rfl) (fun P_21 => ?_)
            refine sim_p 22 (ei := [(41, .bool false), (49, .bool (!r27))]) (d := (some 50)) wf (by kernel_rfl) ⟨rfl, rfl, trivial⟩ (by kernel_rfl) (by kernel_rfl) (fun _ => pf_p tok rfl rfl rfl rfl) (fun P_22 => ?_)
            refine sim_p 23 (ei := [(50, .bool (!r27))]) (d := (some 51)) wf (by kernel_rfl) ⟨rfl, trivial⟩ (by kernel_rfl) (by kernel_rfl) (fun _ => pf_p tok rfl rfl rfl rfl) (fun P_23 => ?_)
            refine sim_gif 51 H rfl (fun hb H => ?_) (fun hb H => ?_)
            ·
              refine sim_p 24 (v := undef) (ei := [(5, .pointer r5), (51, .bool true)]) (d := (some 52)) wf (by kernel_rfl) ⟨rfl, rfl, trivial⟩ (by kernel_rfl) (by kernel_rfl) (fun _ => pf_s rfl rfl rfl) (fun P_24 => ?_)
              refine sim_p 25 (v := undef) (ei := [(1, .string p1), (51, .bool true)]) (d := (some 53)) wf (by kernel_rfl) ⟨rfl, rfl, trivial⟩ (by kernel_rfl) (by kernel_rfl) (fun _ => pf_s rfl rfl rfl) (fun P_25 => ?_)
              refine sim_p 26 (v := undef) (ei := [(51, .bool true), (52, undef), (53, undef)]) (d := (some 54)) wf (by kernel_rfl) ⟨rfl, rfl, rfl, trivial⟩ (by kernel_rfl) (by kernel_rfl) (fun _ => pf_s rfl rfl rfl) (fun P_26 => ?_)
              refine sim_p 27 (v := undef) (ei := [(6, .pointer (some (⟨b7, 0, none⟩ : Addr))), (51, .bool true)]) (d := (some 55)) wf (by kernel_rfl) ⟨rfl, rfl, trivial⟩ (by kernel_rfl) (by kernel_rfl) (fun _ => pf_s rfl rfl rfl) (fun P_27 => ?_)
              refine sim_p 28 (v := undef) (ei := [(1, .string p1), (51, .bool true)]) (d := (some 56)) wf (by kernel_rfl) ⟨rfl, rfl, trivial⟩ (by kernel_rfl) (by kernel_rfl) (fun _ => pf_s rfl rfl rfl) (fun P_28 => ?_)
              refine sim_p 29 (v := undef) (ei := [(51, .bool true), (55, undef), (56, undef)]) (d := (some 57)) wf (by kernel_rfl) ⟨rfl, rfl, rfl, trivial⟩ (by kernel_rfl) (by kernel_rfl) (fun _ => pf_s rfl rfl rfl) (fun P_29 => ?_)
              refine sim_p 30 (v := undef) (ei := [(51, .bool true), (54, undef), (57, undef)]) (d := (some 58)) wf (by kernel_rfl) ⟨rfl, rfl, rfl, trivial⟩ (by kernel_rfl) (by kernel_rfl) (fun _ => pf_s rfl rfl rfl) (fun P_30 => ?_)
              refine sim_p 31 (ei := [(51, .bool true), (58, undef)]) (d := (some 59)) wf (by kernel_rfl) ⟨rfl, rfl, trivial⟩ (by kernel_rfl) (by kernel_rfl) (fun _ => pf_p tok rfl rfl rfl rfl) (fun P_31 => ?_)
              refine sim_end wf ⟨P_31 _, P_30 _, P_29 _, P_28 _, P_27 _, P_26 _, P_25 _, P_24 _, P_23 _, P_22 _, P_21 _, trivial, trivial, trivial, trivial, trivial, trivial, trivial, trivial, trivial, trivial, trivial, trivial, trivial, trivial, trivial, trivial, trivial, trivial⟩ (by kernel_rfl) ?_
              clear wf P_0 P_1 P_10 P_12 P_13 P_14 P_16 P_17 P_18 P_19 P_2 P_21 P_22 P_23 P_24 P_25 P_26 P_27 P_28 P_29 P_3 P_30 P_31 P_4 P_6 P_7 P_8 P_9
              exact x_join true H ⟨rfl, rfl, rfl, rfl, rfl, rfl, trivial⟩
            ·
              refine sim_p 24 (ei := [(5, .pointer r5), (51, .bool false)]) (d := (some 52)) wf (by kernel_rfl) ⟨rfl, rfl, trivial⟩ (by kernel_rfl) (by kernel_rfl) (fun _ => pf_p tok rfl rfl rfl rfl) (fun P_24 => ?_)
              refine sim_p 25 (ei := [(1, .string p1), (51, .bool false)]) (d := (some 53)) wf (by kernel_rfl) ⟨rfl, rfl, trivial⟩ (by kernel_rfl) (by kernel_rfl) (fun _ => pf_p tok rfl rfl rfl rfl) (fun P_25 => ?_)
              refine sim_p 27 (ei := [(6, .pointer (some (⟨b7, 0, none⟩ : Addr))), (51, .bool false)]) (d := (some 55)) wf (by kernel_rfl) ⟨rfl, rfl, trivial⟩ (by kernel_rfl) (by kernel_rfl) (fun _ => pf_p tok rfl rfl rfl rfl) (fun P_27 => ?_)
              refine sim_p 28 (ei := [(1, .string p1), (51, .bool false)]) (d := (some 56)) wf (by kernel_rfl) ⟨rfl, rfl, trivial⟩ (by kernel_rfl) (by kernel_rfl) (fun _ => pf_p tok rfl rfl rfl rfl) (fun P_28 => ?_)
              refine sim_c 26 [0, 1, 2, 3, 4, 5, 6, 7, 8, 9, 10, 11, 12, 13, 14, 15, 16, 17, 18, 19, 20, 21, 22, 23, 24, 25] [0, 1, 2, 3, 4, 6, 7, 8, 9, 10, 12, 13, 14, 16, 17, 18, 19, 21, 22, 23, 24, 25] (ei := [(51, .bool false), (52, .pointer r5), (53, .string p1)]) reg_Reg_Epoch_ok (reg_Reg_Epoch_ref _ _ _ _ H) wf ⟨P_28 _, P_27 _, P_25 _, P_24 _, P_23 _, P_22 _, P_21 _, trivial, trivial, trivial, trivial, trivial, trivial, trivial, trivial, trivial, trivial, trivial, trivial, trivial, trivial, trivial, trivial, trivial, trivial⟩ (by kernel_rfl) ⟨rfl, rfl, rfl, trivial⟩ (by kernel_rfl) rfl rfl rfl rfl rfl ?_
              rintro _ h30 ⟨r29, rfl, H⟩
              refine sim_c 29 [0, 1, 2, 3, 4, 5, 6, 7, 8, 9, 10, 11, 12, 13, 14, 15, 16, 17, 18, 19, 20, 21, 22, 23, 24, 25, 26, 27, 28] [0, 1, 2, 3, 4, 6, 7, 8, 9, 10, 12, 13, 14, 16, 17, 18, 19, 21, 22, 23, 24, 25, 27, 28] (ei := [(51, .bool false), (55, .pointer (some (⟨b7, 0, none⟩ : Addr))), (56, .string p1)]) ref25_Reg_Epoch_ok (ref25_Reg_Epoch_ref _ _ _ _ H) wf ⟨P_28 _, P_27 _, trivial, trivial, trivial, trivial, trivial, trivial, trivial, trivial, trivial, trivial, trivial, trivial, trivial, trivial, trivial, trivial, trivial, trivial, trivial, trivial, trivial, trivial, trivial⟩ (by kernel_rfl) ⟨rfl, rfl, rfl, trivial⟩ (by kernel_rfl) rfl rfl rfl rfl rfl ?_
              rintro _ h32 ⟨r31, rfl, H⟩
              refine sim_p 30 (ei := [(51, .bool false), (54, .int .u32 r29), (57, .int .u32 r31)]) (d := (some 58)) wf (by kernel_rfl) ⟨rfl, rfl, rfl, trivial⟩ (by kernel_rfl) (by kernel_rfl) (fun _ => pf_p tok rfl rfl rfl rfl) (fun P_30 => ?_)
              refine sim_p 31 (ei := [(51, .bool false), (58, .bool (r29 != r31))]) (d := (some 59)) wf (by kernel_rfl) ⟨rfl, rfl, trivial⟩ (by kernel_rfl) (by kernel_rfl) (fun _ => pf_p tok rfl rfl rfl rfl) (fun P_31 => ?_)
              refine sim_end wf ⟨P_31 _, P_30 _, trivial, trivial, trivial, trivial, trivial, trivial, trivial, trivial, trivial, trivial, trivial, trivial, trivial, trivial, trivial, trivial, trivial, trivial, trivial, trivial, trivial, trivial, trivial, trivial, trivial⟩ (by kernel_rfl) ?_
              clear wf P_0 P_1 P_10 P_12 P_13 P_14 P_16 P_17 P_18 P_19 P_2 P_21 P_22 P_23 P_24 P_25 P_27 P_28 P_3 P_30 P_31 P_4 P_6 P_7 P_8 P_9
              exact x_join (r29 != r31) H ⟨rfl, rfl, rfl, rfl, rfl, rfl, trivial⟩
      ·
        refine c_exit ?_
        refine x_te ?_
        refine x_te ?_
        refine x_bh ?_
        refine x_seq ?_
        refine c_weak [(5, .pointer r5), (6, .pointer (some (⟨b7, 0, none⟩ : Addr)))] ⟨rfl, rfl, trivial⟩ ?_
        refine c_seq ?_
        refine c_region ?_
        refine w_p tok rfl rfl rfl ?_
        refine w_call reg_Reg_Bytes_ok (reg_Reg_Bytes_ref _ _ _ H) rfl rfl rfl rfl ?_
        rintro _ h34 ⟨r33, rfl, H⟩
        refine w_p tok rfl rfl rfl ?_
        refine w_end ?_
        refine x_seq ?_
        refine c_seq ?_
        refine c_region ?_
        refine w_p tok rfl rfl rfl ?_
        refine w_call reg_From_ok (reg_From_ref _ _ _ H) rfl rfl rfl rfl ?_
        rintro _ h36 ⟨r35, rfl, H⟩
        refine w_p tok rfl rfl rfl ?_
        refine w_p tok rfl rfl rfl ?_
        refine w_p tok rfl rfl rfl ?_
        refine w_p tok rfl rfl rfl ?_
        refine w_p tok rfl rfl rfl ?_
        refine w_end ?_
        refine x_seq ?_
        refine c_weak [(6, .pointer (some (⟨b7, 0, none⟩ : Addr))), (8, Slc.v r33), (9, .pointer r35.1), (10, .int .i64 r35.2)] ⟨rfl, rfl, rfl, rfl, trivial⟩ ?_
        refine c_seq ?_
        refine c_seq ?_
        refine c_region ?_
        refine w_p tok rfl rfl rfl ?_
        refine w_p tok rfl rfl rfl ?_
        refine w_call ref25_Reg_Bytes_ok (ref25_Reg_Bytes_ref _ _ _ H) rfl rfl rfl rfl ?_
        rintro _ h38 ⟨r37, rfl, H⟩
        refine w_call ref01_Same_ok (ref01_Same_ref _ _ _ _ H) rfl rfl rfl rfl ?_
        rintro _ h40 ⟨r39, rfl, H⟩
        refine w_p tok rfl rfl rfl ?_
        refine w_end ?_
        refine x_seq ?_
        refine c_if H rfl (fun H => ?_) (fun H => ?_)
        ·
          refine c_seq ?_
          refine c_region ?_
          refine w_p tok rfl rfl rfl ?_
          refine w_end ?_
          refine x_seq ?_
          refine c_weak [(4, .bool false)] ⟨rfl, trivial⟩ ?_
          refine c_ret ?_
          refine x_tr ?_
          exact x_ret _ rfl _ rfl ⟨false, rfl, H⟩
        ·
          refine c_skip ?_
          refine x_seq ?_
          refine c_seqJ (α := Bool) (fun (s : Bool) => [(4, .bool s)]) (fun (s : Bool) h => law25_RegPlays_j3 s k (fun s h' => I1 s h' ∧ μ1 s h' < μ1 t7_1 h_1) h) ?_ ?_
          ·
            rintro t4_3 h_3 H
            replace H : law25_RegPlays_j3 t4_3 k (fun s h' => I1 s h' ∧ μ1 s h' < μ1 t7_1 h_1) h_3 := H
            unfold law25_RegPlays_j3 at H
            refine c_weak [(4, .bool t4_3)] ⟨rfl, trivial⟩ ?_
            refine c_ret ?_
            exact x_ret _ rfl _ rfl ⟨t4_3, rfl, H⟩
          ·
            refine c_sim [(6, .pointer (some (⟨b7, 0, none⟩ : Addr))), (9, .pointer r35.1), (10, .int .i64 r35.2)] (by kernel_rfl) (by kernel_rfl) ⟨rfl, rfl, rfl, trivial⟩ (fun wf => ?_)
            refine sim_p 0 (ei := [(10, .int .i64 r35.2)]) (d := (some 72)) wf (by kernel_rfl) ⟨rfl, trivial⟩ (by kernel_rfl) (by kernel_rfl) (fun _ => pf_p tok rfl rfl rfl rfl) (fun P_0 => ?_)
            refine sim_p 1 (ei := [(72, .int .i64 r35.2)]) (d := (some 73)) wf (by kernel_rfl) ⟨rfl, trivial⟩ (by kernel_rfl) (by kernel_rfl) (fun _ => pf_p tok rfl rfl rfl rfl) (fun P_1 => ?_)
            refine sim_p 2 (ei := [(73, .bool (r35.2 == 0))]) (d := (some 74)) wf (by kernel_rfl) ⟨rfl, trivial⟩ (by kernel_rfl) (by kernel_rfl) (fun _ => pf_p tok rfl rfl rfl rfl) (fun P_2 => ?_)
            refine sim_gif 74 H rfl (fun hb H => ?_) (fun hb H => ?_)
            ·
              refine sim_p 3 (ei := [(9, .pointer r35.1), (74, .bool true)]) (d := (some 75)) wf (by kernel_rfl) ⟨rfl, rfl, trivial⟩ (by kernel_rfl) (by kernel_rfl) (fun _ => pf_p tok rfl rfl rfl rfl) (fun P_3 => ?_)
              refine sim_p 5 (ei := [(6, .pointer (some (⟨b7, 0, none⟩ : Addr))), (74, .bool true)]) (d := (some 77)) wf (by kernel_rfl) ⟨rfl, rfl, trivial⟩ (by kernel_rfl) (by kernel_rfl) (fun _ => pf_p tok rfl rfl rfl rfl) (fun P_5 => ?_)
              refine sim_p 6 (ei := [(74, .bool true), (77, .pointer (some (⟨b7, 0, none⟩ : Addr)))]) (d := (some 78)) wf (by kernel_rfl) ⟨rfl, rfl, trivial⟩ (by kernel_rfl) (by kernel_rfl) (fun _ => pf_y rfl rfl rfl (y_nil rfl rfl)) (fun P_6 => ?_)
              refine sim_p 7 (ei := [(74, .bool true), (78, .pointer (some (⟨b7, 0, none⟩ : Addr)))]) (d := (some 79)) wf (by kernel_rfl) ⟨rfl, rfl, trivial⟩ (by kernel_rfl) (by kernel_rfl) (fun _ => pf_p tok rfl rfl rfl rfl) (fun P_7 => ?_)
              obtain ⟨v41, hv41, H⟩ := H
              refine sim_l 8 (ei := [(74, .bool true), (79, .pointer (some (⟨b7, 0, none⟩ : Addr)))]) (d := (some 80)) wf (by kernel_rfl) ⟨rfl, rfl, trivial⟩ (by kernel_rfl) (by kernel_rfl) (pf_y rfl rfl rfl (y_ld tok rfl rfl rfl rfl hv41)) (fun P_8 => ?_)
              refine sim_c 4 [0, 1, 2, 3] [0, 1, 2, 3] (ei := [(74, .bool true), (75, .pointer r35.1)]) reg_Reg_Tenants_ok (reg_Reg_Tenants_ref _ _ _ H) wf ⟨P_8, P_7 _, P_6 _, P_5 _, P_3 _, P_2 _, P_1 _, P_0 _, trivial⟩ (by kernel_rfl) ⟨rfl, rfl, trivial⟩ (by kernel_rfl) rfl rfl rfl rfl rfl ?_
              rintro _ h43 ⟨r42, rfl, H⟩
              obtain ⟨hy44, H⟩ := H
              refine sim_re (x := ⟨8, Slc.v v41, [(74, .bool true), (79, .pointer (some (⟨b7, 0, none⟩ : Addr)))]⟩) (pf_y rfl rfl rfl (y_ld tok rfl rfl rfl rfl hy44)) (fun P_8 => ?_)
              refine sim_c 9 [0, 1, 2, 3, 4, 5, 6, 7, 8] [0, 1, 2, 3, 5, 6, 7, 8] (ei := [(74, .bool true), (76, Slc.v r42), (80, Slc.v v41)]) ref25_SameTenants_ok (ref25_SameTenants_ref _ _ _ _ H) wf ⟨P_8, P_7 _, P_6 _, P_5 _, trivial, trivial, trivial, trivial, trivial⟩ (by kernel_rfl) ⟨rfl, rfl, rfl, trivial⟩ (by kernel_rfl) rfl rfl rfl rfl rfl ?_
              rintro _ h46 ⟨r45, rfl, H⟩
              refine sim_p 10 (ei := [(74, .bool true), (81, .bool r45)]) (d := (some 82)) wf (by kernel_rfl) ⟨rfl, rfl, trivial⟩ (by kernel_rfl) (by kernel_rfl) (fun _ => pf_p tok rfl rfl rfl rfl) (fun P_10 => ?_)
              refine sim_p 11 (ei := [(82, .bool r45)]) (d := (some 83)) wf (by kernel_rfl) ⟨rfl, trivial⟩ (by kernel_rfl) (by kernel_rfl) (fun _ => pf_p tok rfl rfl rfl rfl) (fun P_11 => ?_)
              refine sim_gif 83 H rfl (fun hb H => ?_) (fun hb H => ?_)
              ·
                refine sim_c 12 [0, 1, 2, 3, 4, 5, 6, 7, 8, 9, 10, 11] [0, 1, 2, 3, 5, 6, 7, 8, 10, 11] (ei := [(83, .bool true)]) law25_awake_ok (law25_awake_ref  _ _ H) wf ⟨P_11 _, P_10 _, trivial, trivial, trivial, trivial, trivial, trivial, trivial, trivial, trivial⟩ (by kernel_rfl) ⟨rfl, trivial⟩ (by kernel_rfl) rfl rfl rfl rfl rfl ?_
                rintro _ h48 ⟨r47, rfl, H⟩
                refine sim_p 13 (ei := [(83, .bool true), (84, .bool r47)]) (d := (some 85)) wf (by kernel_rfl) ⟨rfl, rfl, trivial⟩ (by kernel_rfl) (by kernel_rfl) (fun _ => pf_p tok rfl rfl rfl rfl) (fun P_13 => ?_)
                refine sim_p 14 (ei := [(85, .bool r47)]) (d := (some 4)) wf (by kernel_rfl) ⟨rfl, trivial⟩ (by kernel_rfl) (by kernel_rfl) (fun _ => pf_p tok rfl rfl rfl rfl) (fun P_14 => ?_)
                refine sim_end wf ⟨P_14 _, P_13 _, trivial, trivial, trivial, trivial, trivial, trivial, trivial, trivial, trivial, trivial, trivial⟩ (by kernel_rfl) ?_
                clear wf P_0 P_1 P_10 P_11 P_13 P_14 P_2 P_3 P_5 P_6 P_7 P_8
                exact x_join r47 H ⟨rfl, trivial⟩
              ·
                refine sim_p 12 (v := undef) (ei := [(83, .bool false)]) (d := (some 84)) wf (by kernel_rfl) ⟨rfl, trivial⟩ (by kernel_rfl) (by kernel_rfl) (fun _ => pf_s rfl rfl rfl) (fun P_12 => ?_)
                refine sim_p 13 (ei := [(83, .bool false), (84, undef)]) (d := (some 85)) wf (by kernel_rfl) ⟨rfl, rfl, trivial⟩ (by kernel_rfl) (by kernel_rfl) (fun _ => pf_p tok rfl rfl rfl rfl) (fun P_13 => ?_)
                refine sim_p 14 (ei := [(85, .bool false)]) (d := (some 4)) wf (by kernel_rfl) ⟨rfl, trivial⟩ (by kernel_rfl) (by kernel_rfl) (fun _ => pf_p tok rfl rfl rfl rfl) (fun P_14 => ?_)
                refine sim_end wf ⟨P_14 _, P_13 _, P_12 _, P_11 _, P_10 _, trivial, trivial, trivial, trivial, trivial, trivial, trivial, trivial, trivial⟩ (by kernel_rfl) ?_
                clear wf P_0 P_1 P_10 P_11 P_12 P_13 P_14 P_2 P_3 P_5 P_6 P_7 P_8
                exact x_join false H ⟨rfl, trivial⟩
            ·
              refine sim_p 3 (v := undef) (ei := [(9, .pointer r35.1), (74, .bool false)]) (d := (some 75)) wf (by kernel_rfl) ⟨rfl, rfl, trivial⟩ (by kernel_rfl) (by kernel_rfl) (fun _ => pf_s rfl rfl rfl) (fun P_3 => ?_)
              refine sim_p 4 (v := undef) (ei := [(74, .bool false), (75, undef)]) (d := (some 76)) wf (by kernel_rfl) ⟨rfl, rfl, trivial⟩ (by kernel_rfl) (by kernel_rfl) (fun _ => pf_s rfl rfl rfl) (fun P_4 => ?_)
              refine sim_p 5 (v := undef) (ei := [(6, .pointer (some (⟨b7, 0, none⟩ : Addr))), (74, .bool false)]) (d := (some 77)) wf (by kernel_rfl) ⟨rfl, rfl, trivial⟩ (by kernel_rfl) (by kernel_rfl) (fun _ => pf_s rfl rfl rfl) (fun P_5 => ?_)
              refine sim_p 6 (v := undef) (ei := [(74, .bool false), (77, undef)]) (d := (some 78)) wf (by kernel_rfl) ⟨rfl, rfl, trivial⟩ (by kernel_rfl) (by kernel_rfl) (fun _ => pf_s rfl rfl rfl) (fun P_6 => ?_)
              refine sim_p 7 (v := undef) (ei := [(74, .bool false), (78, undef)]) (d := (some 79)) wf (by kernel_rfl) ⟨rfl, rfl, trivial⟩ (by kernel_rfl) (by kernel_rfl) (fun _ => pf_s rfl rfl rfl) (fun P_7 => ?_)
              refine sim_p 8 (v := undef) (ei := [(74, .bool false), (79, undef)]) (d := (some 80)) wf (by kernel_rfl) ⟨rfl, rfl, trivial⟩ (by kernel_rfl) (by kernel_rfl) (fun _ => pf_s rfl rfl rfl) (fun P_8 => ?_)
              refine sim_p 9 (v := undef) (ei := [(74, .bool false), (76, undef), (80, undef)]) (d := (some 81)) wf (by kernel_rfl) ⟨rfl, rfl, rfl, trivial⟩ (by kernel_rfl) (by kernel_rfl) (fun _ => pf_s rfl rfl rfl) (fun P_9 => ?_)
              refine sim_p 10 (ei := [(74, .bool false), (81, undef)]) (d := (some 82)) wf (by kernel_rfl) ⟨rfl, rfl, trivial⟩ (by kernel_rfl) (by kernel_rfl) (fun _ => pf_p tok rfl rfl rfl rfl) (fun P_10 => ?_)
              refine sim_p 11 (ei := [(82, .bool false)]) (d := (some 83)) wf (by kernel_rfl) ⟨rfl, trivial⟩ (by kernel_rfl) (by kernel_rfl) (fun _ => pf_p tok rfl rfl rfl rfl) (fun P_11 => ?_)
              refine sim_gif 83 H rfl (fun hb H => ?_) (fun hb H => ?_)
              ·
                refine sim_c 12 [0, 1, 2, 3, 4, 5, 6, 7, 8, 9, 10, 11] [0, 1, 2, 3, 4, 5, 6, 7, 8, 9, 10, 11] (ei := [(83, .bool true)]) law25_awake_ok (law25_awake_ref  _ _ H) wf ⟨P_11 _, P_10 _, P_9 _, P_8 _, P_7 _, P_6 _, P_5 _, P_4 _, P_3 _, P_2 _, P_1 _, P_0 _, trivial⟩ (by kernel_rfl) ⟨rfl, trivial⟩ (by kernel_rfl) rfl rfl rfl rfl rfl ?_
                rintro _ h50 ⟨r49, rfl, H⟩
                refine sim_p 13 (ei := [(83, .bool true), (84, .bool r49)]) (d := (some 85)) wf (by kernel_rfl) ⟨rfl, rfl, trivial⟩ (by kernel_rfl) (by kernel_rfl) (fun _ => pf_p tok rfl rfl rfl rfl) (fun P_13 => ?_)
                refine sim_p 14 (ei := [(85, .bool r49)]) (d := (some 4)) wf (by kernel_rfl) ⟨rfl, trivial⟩ (by kernel_rfl) (by kernel_rfl) (fun _ => pf_p tok rfl rfl rfl rfl) (fun P_14 => ?_)
                refine sim_end wf ⟨P_14 _, P_13 _, trivial, trivial, trivial, trivial, trivial, trivial, trivial, trivial, trivial, trivial, trivial, trivial, trivial⟩ (by kernel_rfl) ?_
                clear wf P_0 P_1 P_10 P_11 P_13 P_14 P_2 P_3 P_4 P_5 P_6 P_7 P_8 P_9
                exact x_join r49 H ⟨rfl, trivial⟩
              ·
                refine sim_p 12 (v := undef) (ei := [(83, .bool false)]) (d := (some 84)) wf (by kernel_rfl) ⟨rfl, trivial⟩ (by kernel_rfl) (by kernel_rfl) (fun _ => pf_s rfl rfl rfl) (fun P_12 => ?_)
                refine sim_p 13 (ei := [(83, .bool false), (84, undef)]) (d := (some 85)) wf (by kernel_rfl) ⟨rfl, rfl, trivial⟩ (by kernel_rfl) (by kernel_rfl) (fun _ => pf_p tok rfl rfl rfl rfl) (fun P_13 => ?_)
                refine sim_p 14 (ei := [(85, .bool false)]) (d := (some 4)) wf (by kernel_rfl) ⟨rfl, trivial⟩ (by kernel_rfl) (by kernel_rfl) (fun _ => pf_p tok rfl rfl rfl rfl) (fun P_14 => ?_)
                refine sim_end wf ⟨P_14 _, P_13 _, P_12 _, P_11 _, P_10 _, P_9 _, P_8 _, P_7 _, P_6 _, P_5 _, P_4 _, P_3 _, P_2 _, P_1 _, P_0 _, trivial⟩ (by kernel_rfl) ?_
                clear wf P_0 P_1 P_10 P_11 P_12 P_13 P_14 P_2 P_3 P_4 P_5 P_6 P_7 P_8 P_9
                exact x_join false H ⟨rfl, trivial⟩
  ·
    refine w_gs (d := 13) rfl (fun hb => ?_) (fun hb => ?_)
    ·
      refine w_skip rfl rfl ?_
      refine w_skip rfl rfl ?_
      refine w_skip rfl rfl ?_
      refine w_p tok rfl rfl rfl ?_
      refine w_jn () rfl ⟨?_, rfl, rfl, trivial⟩
      exact congrArg (fun b => some (Value.bool b)) (or_t hb)
    ·
      refine w_p tok rfl rfl rfl ?_
      refine w_p tok rfl rfl rfl ?_
      refine w_p tok rfl rfl rfl ?_
      refine w_p tok rfl rfl rfl ?_
      refine w_jn () rfl ⟨?_, rfl, rfl, trivial⟩
      exact congrArg (fun b => some (Value.bool b)) (or_f hb)
end Go.Q.Yb

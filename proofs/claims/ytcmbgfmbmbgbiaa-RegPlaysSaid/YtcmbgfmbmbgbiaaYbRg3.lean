/- A part of the proof of statements of this seat: lemmas, no statement of their own. -/
import Derived.Test.YtcmbgfmbmbgbiaaYbTab
import Derived.Test.YtcmbgfmbmbgbiaaYbRg2
import Derived.Test.YtcmbgfmbmbgbiaaQEnt
set_option linter.unusedVariables false
set_option maxRecDepth 100000
set_option maxHeartbeats 1000000
namespace Go.Q.Yb
/-- quaestor num.GetShort -/
def num_GetShort_l1b (t7_1 : Slc) (t8_1 : Int) (t2_1 : Int) (t9_1 : Int) (k : (Int × Int × Int) → Heap → Prop) (nx1 : (Int × Int) → Heap → Prop) (h_1 : Heap) : Prop :=
  if (decide (t9_1 < t8_1)) then (∃ a1 : Addr, t7_1.a = some a1 ∧ (0 : Int) ≤ t9_1 ∧ t9_1 < (t7_1.len : Int) ∧ (∃ v2 : Int, cellH h_1 (a1.add (t9_1.toNat * 1)) = some (.int .u8 v2) ∧ (if ((t9_1 == 9) && (decide (v2 > 1))) then (k (0, 0, 4) h_1) else ((0 : Int) ≤ (IntKind.u64.wrap (7 * (IntKind.u64.wrap t9_1))) ∧ (∃ x4 : Int, x4 = (bwOr .u64 t2_1 (shl .u64 (IntKind.u64.wrap (bwAnd .u8 v2 127)) (IntKind.u64.wrap (7 * (IntKind.u64.wrap t9_1))).toNat)) ∧ (if (decide (v2 ≥ 128)) then (nx1 (x4, (IntKind.i64.wrap (t9_1 + 1))) h_1) else (if ((v2 == 0) && (decide (t9_1 > 0))) then (k (0, 0, 4) h_1) else (∃ x5 : Int, x5 = (IntKind.i64.wrap (t9_1 + 1)) ∧ (k (x4, x5, 0) h_1))))))))) else (k (0, 0, 2) h_1)
def num_GetShort_l1 (t7_1 : Slc) (t8_1 : Int) (i2 : Int) (i9 : Int) (k : (Int × Int × Int) → Heap → Prop) (h : Heap) : Prop :=
  ∃ (I : (Int × Int) → Heap → Prop) (μ : (Int × Int) → Heap → Nat), I (i2, i9) h ∧ ∀ (t2_1 : Int) (t9_1 : Int) (h : Heap), I (t2_1, t9_1) h → num_GetShort_l1b t7_1 t8_1 t2_1 t9_1 k (fun s h' => I s h' ∧ μ s h' < μ (t2_1, t9_1) h) h
def num_GetShort (p0 : Slc) (k : (Int × Int × Int) → Heap → Prop) (h : Heap) : Prop :=
  num_GetShort_l1 p0 (p0.len : Int) 0 0 k h

/-- quaestor num.Get -/
def num_Get_l1b (t0_1 : Slc) (t6_1 : Int) (t7_1 : Int) (k : (Int × Int) → Heap → Prop) (nx1 : (Int × Int) → Heap → Prop) (h_1 : Heap) : Prop :=
  if (decide (t7_1 ≥ 0)) then (∃ a2 : Addr, t0_1.a = some a2 ∧ (0 : Int) ≤ t7_1 ∧ t7_1 < (t0_1.len : Int) ∧ (∃ v3 : Int, cellH h_1 (a2.add (t7_1.toNat * 1)) = some (.int .u8 v3) ∧ (∃ x4 : Int, x4 = (bwOr .u64 (shl .u64 t6_1 (8 : Int).toNat) (IntKind.u64.wrap v3)) ∧ (∃ x5 : Int, x5 = (IntKind.i64.wrap (t7_1 - 1)) ∧ (nx1 (x4, x5) h_1))))) else (k (t6_1, 0) h_1)
def num_Get_l1 (t0_1 : Slc) (i6 : Int) (i7 : Int) (k : (Int × Int) → Heap → Prop) (h : Heap) : Prop :=
  ∃ (I : (Int × Int) → Heap → Prop) (μ : (Int × Int) → Heap → Nat), I (i6, i7) h ∧ ∀ (t6_1 : Int) (t7_1 : Int) (h : Heap), I (t6_1, t7_1) h → num_Get_l1b t0_1 t6_1 t7_1 k (fun s h' => I s h' ∧ μ s h' < μ (t6_1, t7_1) h) h
def num_Get (p0 : Slc) (p1 : Int) (k : (Int × Int) → Heap → Prop) (h : Heap) : Prop :=
  if ((decide (p1 < 1)) || (decide (p1 > 8))) then (k (0, 1) h) else (if (decide ((p0.len : Int) < p1)) then (k (0, 2) h) else (∃ x1 : Int, x1 = (IntKind.i64.wrap (p1 - 1)) ∧ (num_Get_l1 p0 0 x1 k h)))

/-- (*quaestor reg.reader).bytes -/
def reg_reader_bytes_g1 (t0_1 : Option Addr) (t1_1 : Int) (t19_1 : Bool) (k : (Slc) → Heap → Prop) (h_1 : Heap) : Prop :=
  if t19_1 then (∃ a3 : Addr, t0_1 = some a3 ∧ (∃ h4 : Heap, WrH h_1 (a3.add 1) ∧ h4 = setH h_1 (a3.add 1) (.bool true) ∧ (k (⟨none, 0, 0⟩ : Slc) h4))) else (∃ a5 : Addr, t0_1 = some a5 ∧ (∃ v6 : Slc, cellH h_1 a5 = some (Slc.v v6) ∧ (∃ s7 : Slc, (0 : Int) ≤ 0 ∧ (0 : Int) ≤ t1_1 ∧ (t1_1 : Int) ≤ (v6.cap : Int) ∧ (v6.cap : Int) ≤ (v6.cap : Int) ∧ s7 = subS v6 1 (0 : Int).toNat t1_1.toNat (v6.cap : Int).toNat ∧ (∃ v8 : Slc, cellH h_1 a5 = some (Slc.v v8) ∧ (∃ s9 : Slc, (0 : Int) ≤ t1_1 ∧ (t1_1 : Int) ≤ (v8.len : Int) ∧ ((v8.len : Int) : Int) ≤ (v8.cap : Int) ∧ (v8.cap : Int) ≤ (v8.cap : Int) ∧ s9 = subS v8 1 t1_1.toNat (v8.len : Int).toNat (v8.cap : Int).toNat ∧ (∃ h10 : Heap, WrH h_1 a5 ∧ h10 = setH h_1 a5 (Slc.v s9) ∧ (k s7 h10)))))))
def reg_reader_bytes (p0 : Option Addr) (p1 : Int) (k : (Slc) → Heap → Prop) (h : Heap) : Prop :=
  ∃ a1 : Addr, p0 = some a1 ∧ (∃ v2 : Bool, cellH h (a1.add 1) = some (.bool v2) ∧ (if v2 then (reg_reader_bytes_g1 p0 p1 true k h) else (∃ v11 : Slc, cellH h a1 = some (Slc.v v11) ∧ (reg_reader_bytes_g1 p0 p1 (decide (p1 > (IntKind.u64.wrap (v11.len : Int)))) k h))))

/-- (*quaestor reg.reader).number -/
def reg_reader_number (p0 : Option Addr) (p1 : Int) (k : (Int) → Heap → Prop) (h : Heap) : Prop :=
  reg_reader_bytes p0 (IntKind.u64.wrap p1) (fun (r1 : Slc) h2 => num_Get r1 p1 (fun (r3 : Int × Int) h4 => k r3.1 h4) h2) h

/-- (*quaestor reg.reader).short -/
def reg_reader_short (p0 : Option Addr) (k : (Int) → Heap → Prop) (h : Heap) : Prop :=
  ∃ a1 : Addr, p0 = some a1 ∧ (∃ v2 : Slc, cellH h a1 = some (Slc.v v2) ∧ (num_GetShort v2 (fun (r3 : Int × Int × Int) h4 => ∃ v5 : Bool, cellH h4 (a1.add 1) = some (.bool v5) ∧ (∃ h6 : Heap, WrH h4 (a1.add 1) ∧ h6 = setH h4 (a1.add 1) (.bool (v5 || (r3.2.2 != 0))) ∧ (∃ v7 : Slc, cellH h6 a1 = some (Slc.v v7) ∧ (∃ s8 : Slc, (0 : Int) ≤ r3.2.1 ∧ (r3.2.1 : Int) ≤ (v7.len : Int) ∧ ((v7.len : Int) : Int) ≤ (v7.cap : Int) ∧ (v7.cap : Int) ≤ (v7.cap : Int) ∧ s8 = subS v7 1 r3.2.1.toNat (v7.len : Int).toNat (v7.cap : Int).toNat ∧ (∃ h9 : Heap, WrH h6 a1 ∧ h9 = setH h6 a1 (Slc.v s8) ∧ (k r3.1 h9)))))) h))

/-- (*quaestor reg.reader).text -/
def reg_reader_text (p0 : Option Addr) (k : (ByteArray) → Heap → Prop) (h : Heap) : Prop :=
  reg_reader_short p0 (fun (r1 : Int) h2 => reg_reader_bytes p0 r1 (fun (r3 : Slc) h4 => ∃ l5 : List Int, l5.length = r3.len ∧ SlcAt h4 r3 (b8 l5) ∧ (k (bsOf l5) h4)) h2) h

/-- (*quaestor reg.reader).nonce -/
def reg_reader_nonce (p0 : Option Addr) (k : (List Int) → Heap → Prop) (h : Heap) : Prop :=
  ∃ (b1 : Nat) (h2 : Heap), b1 = h.size ∧ h2 = h.push (.cells (arr 12 .u8 ([] : List Int)).toArray 29) ∧ (∃ (b3 : Nat) (h4 : Heap), b3 = h2.size ∧ h4 = h2.push (.cells (arr 12 .u8 ([] : List Int)).toArray 29) ∧ (∃ s5 : Slc, (0 : Int) ≤ 0 ∧ 0 ≤ (12 : Int) ∧ 12 ≤ (12 : Int) ∧ s5 = subS ⟨some (⟨b3, 0, none⟩ : Addr), 12, 12⟩ 1 (0 : Int).toNat (12 : Int).toNat 12 ∧ (reg_reader_bytes p0 12 (fun (r6 : Slc) h7 => ∃ l8 : List Value, Cpy 1 h7 s5 r6 l8 (fun h9 => ∃ v10 : List Int, CellsAt h9 (⟨b3, 0, none⟩ : Addr) (arr 12 .u8 v10) ∧ (∃ h11 : Heap, WrsAt h9 (⟨b1, 0, none⟩ : Addr) 12 ∧ h11 = setsH h9 (⟨b1, 0, none⟩ : Addr) 0 (arr 12 .u8 v10) ∧ (∃ v12 : List Int, CellsAt h11 (⟨b1, 0, none⟩ : Addr) (arr 12 .u8 v12) ∧ k v12 h11)))) h4)))

/-- quaestor num.Zag -/
def num_Zag (p0 : Int) (k : (Int) → Heap → Prop) (h : Heap) : Prop :=
  ∃ x1 : Int, x1 = (bwXor .i64 (IntKind.i64.wrap (shr .u64 p0 (1 : Int).toNat)) (IntKind.i64.wrap (0 - (IntKind.i64.wrap (bwAnd .u64 p0 1))))) ∧ (k x1 h)

/-- (*quaestor reg.reader).tenant -/
def reg_reader_tenant_j3 (t2_3 : Addr) (t3_3 : Addr) (k : (S_api_Tenant) → Heap → Prop) (h_3 : Heap) : Prop :=
  ∃ v22 : S_api_Tenant, CellsAt h_3 t3_3 (S_api_Tenant.cs v22) ∧ (∃ h23 : Heap, WrsAt h_3 t2_3 4 ∧ h23 = setsH h_3 t2_3 0 (S_api_Tenant.cs v22) ∧ (∃ v24 : S_api_Tenant, CellsAt h23 t2_3 (S_api_Tenant.cs v24) ∧ k v24 h23))
def reg_reader_tenant_j5 (t0_5 : Option Addr) (t2_5 : Addr) (t3_5 : Addr) (t5_5 : Int) (t6_5 : Int) (t7_5 : Addr) (t81_5 : Bool) (k : (S_api_Tenant) → Heap → Prop) (nx4 : (Int) → Heap → Prop) (h_5 : Heap) : Prop :=
  if t81_5 then (∃ a37 : Addr, t0_5 = some a37 ∧ (∃ h38 : Heap, WrH h_5 (a37.add 1) ∧ h38 = setH h_5 (a37.add 1) (.bool true) ∧ (reg_reader_tenant_j3 t2_5 t3_5 k h38))) else (∃ v39 : Slc, cellH h_5 (t3_5.add 1) = some (Slc.v v39) ∧ (∃ v40 : S_api_Wrapped, CellsAt h_5 t7_5 (S_api_Wrapped.cs v40) ∧ (∃ (b41 : Nat) (h42 : Heap), b41 = h_5.size ∧ h42 = h_5.push (.cells ((S_api_Wrapped.cs v40)).toArray 132) ∧ (App 132 14 40 [.int .u32 0, .int .u8 0, .int .u8 0, .int .u8 0, .int .u8 0, .int .u8 0, .int .u8 0, .int .u8 0, .int .u8 0, .int .u8 0, .int .u8 0, .int .u8 0, .int .u8 0, .slice none 0 0] h42 v39 1 ((S_api_Wrapped.cs v40)) (fun s43 h44 => ∃ h45 : Heap, WrH h44 (t3_5.add 1) ∧ h45 = setH h44 (t3_5.add 1) (Slc.v s43) ∧ (∃ x46 : Int, x46 = (IntKind.u64.wrap (t6_5 + 1)) ∧ (nx4 x46 h45)))))))
def reg_reader_tenant_l4b (t0_4 : Option Addr) (t2_4 : Addr) (t3_4 : Addr) (t5_4 : Int) (t6_4 : Int) (k : (S_api_Tenant) → Heap → Prop) (nx4 : (Int) → Heap → Prop) (h_4 : Heap) : Prop :=
  if (decide (t6_4 < t5_4)) then (reg_reader_number t0_4 4 (fun (r25 : Int) h26 => reg_reader_nonce t0_4 (fun (r27 : List Int) h28 => ∃ (b29 : Nat) (h30 : Heap), b29 = h28.size ∧ h30 = h28.push (.cells (S_api_Wrapped.cs (⟨0, ([] : List Int), (⟨none, 0, 0⟩ : Slc)⟩ : S_api_Wrapped)).toArray 132) ∧ (∃ h31 : Heap, WrsAt h30 (⟨b29, 0, none⟩ : Addr) 14 ∧ h31 = setsH h30 (⟨b29, 0, none⟩ : Addr) 0 (S_api_Wrapped.cs (⟨(IntKind.u32.wrap r25), r27, (⟨none, 0, 0⟩ : Slc)⟩ : S_api_Wrapped)) ∧ (reg_reader_bytes t0_4 48 (fun (r32 : Slc) h33 => slices_Clone_byte_byte r32 (fun (r34 : Slc) h35 => ∃ h36 : Heap, WrH h35 ((⟨b29, 0, none⟩ : Addr).add 13) ∧ h36 = setH h35 ((⟨b29, 0, none⟩ : Addr).add 13) (Slc.v r34) ∧ (∃ a47 : Addr, t0_4 = some a47 ∧ (∃ v48 : Bool, cellH h36 (a47.add 1) = some (.bool v48) ∧ (if v48 then (if true then (reg_reader_tenant_j5 t0_4 t2_4 t3_4 t5_4 t6_4 (⟨b29, 0, none⟩ : Addr) true k nx4 h36) else (if (decide (t6_4 > 0)) then (∃ v49 : Int, cellH h36 (⟨b29, 0, none⟩ : Addr) = some (.int .u32 v49) ∧ (∃ v50 : S_api_Tenant, CellsAt h36 t3_4 (S_api_Tenant.cs v50) ∧ (reg_epoch v50 (fun (r51 : Int) h52 => cellH h52 (⟨b29, 0, none⟩ : Addr) = some (.int .u32 v49) ∧ (reg_reader_tenant_j5 t0_4 t2_4 t3_4 t5_4 t6_4 (⟨b29, 0, none⟩ : Addr) (v49 != (IntKind.u32.wrap (r51 + 1))) k nx4 h52)) h36))) else (reg_reader_tenant_j5 t0_4 t2_4 t3_4 t5_4 t6_4 (⟨b29, 0, none⟩ : Addr) false k nx4 h36))) else (∃ v54 : Int, cellH h36 (⟨b29, 0, none⟩ : Addr) = some (.int .u32 v54) ∧ (if (v54 == 0) then (reg_reader_tenant_j5 t0_4 t2_4 t3_4 t5_4 t6_4 (⟨b29, 0, none⟩ : Addr) true k nx4 h36) else (if (decide (t6_4 > 0)) then (∃ v55 : Int, cellH h36 (⟨b29, 0, none⟩ : Addr) = some (.int .u32 v55) ∧ (∃ v56 : S_api_Tenant, CellsAt h36 t3_4 (S_api_Tenant.cs v56) ∧ (reg_epoch v56 (fun (r57 : Int) h58 => cellH h58 (⟨b29, 0, none⟩ : Addr) = some (.int .u32 v55) ∧ (reg_reader_tenant_j5 t0_4 t2_4 t3_4 t5_4 t6_4 (⟨b29, 0, none⟩ : Addr) (v55 != (IntKind.u32.wrap (r57 + 1))) k nx4 h58)) h36))) else (reg_reader_tenant_j5 t0_4 t2_4 t3_4 t5_4 t6_4 (⟨b29, 0, none⟩ : Addr) false k nx4 h36)))))))) h33) h31))) h26) h_4) else (reg_reader_tenant_j3 t2_4 t3_4 k h_4)
def reg_reader_tenant_l4 (t0_4 : Option Addr) (t2_4 : Addr) (t3_4 : Addr) (t5_4 : Int) (i6 : Int) (k : (S_api_Tenant) → Heap → Prop) (h : Heap) : Prop :=
  ∃ (I : Int → Heap → Prop) (μ : Int → Heap → Nat), I i6 h ∧ ∀ (t6_4 : Int) (h : Heap), I t6_4 h → reg_reader_tenant_l4b t0_4 t2_4 t3_4 t5_4 t6_4 k (fun s h' => I s h' ∧ μ s h' < μ t6_4 h) h
def reg_reader_tenant_g2 (t0_2 : Option Addr) (t2_2 : Addr) (t3_2 : Addr) (t5_2 : Int) (t22_2 : Option Addr) (t43_2 : Bool) (k : (S_api_Tenant) → Heap → Prop) (h_2 : Heap) : Prop :=
  ∃ a20 : Addr, t22_2 = some a20 ∧ (∃ h21 : Heap, WrH h_2 (a20.add 1) ∧ h21 = setH h_2 (a20.add 1) (.bool t43_2) ∧ (reg_reader_tenant_l4 t0_2 t2_2 t3_2 t5_2 0 k h21))
def reg_reader_tenant_g1 (t0_1 : Option Addr) (t2_1 : Addr) (t3_1 : Addr) (t5_1 : Int) (t22_1 : Option Addr) (t36_1 : Bool) (k : (S_api_Tenant) → Heap → Prop) (h_1 : Heap) : Prop :=
  if t36_1 then (reg_reader_tenant_g2 t0_1 t2_1 t3_1 t5_1 t22_1 true k h_1) else (∃ v60 : Bool, cellH h_1 (t3_1.add 3) = some (.bool v60) ∧ (reg_reader_tenant_g2 t0_1 t2_1 t3_1 t5_1 t22_1 (!(v60 == (t5_1 == 0))) k h_1))
def reg_reader_tenant (p0 : Option Addr) (k : (S_api_Tenant) → Heap → Prop) (h : Heap) : Prop :=
  ∃ (b1 : Nat) (h2 : Heap), b1 = h.size ∧ h2 = h.push (.cells (S_api_Tenant.cs (⟨ByteArray.empty, (⟨none, 0, 0⟩ : Slc), 0, false⟩ : S_api_Tenant)).toArray 130) ∧ (reg_reader_text p0 (fun (r3 : ByteArray) h4 => ∃ (b5 : Nat) (h6 : Heap), b5 = h4.size ∧ h6 = h4.push (.cells (S_api_Tenant.cs (⟨ByteArray.empty, (⟨none, 0, 0⟩ : Slc), 0, false⟩ : S_api_Tenant)).toArray 130) ∧ (∃ h7 : Heap, WrsAt h6 (⟨b5, 0, none⟩ : Addr) 4 ∧ h7 = setsH h6 (⟨b5, 0, none⟩ : Addr) 0 (S_api_Tenant.cs (⟨r3, (⟨none, 0, 0⟩ : Slc), 0, false⟩ : S_api_Tenant)) ∧ (reg_reader_number p0 1 (fun (r8 : Int) h9 => ∃ h10 : Heap, WrH h9 ((⟨b5, 0, none⟩ : Addr).add 3) ∧ h10 = setH h9 ((⟨b5, 0, none⟩ : Addr).add 3) (.bool (r8 == 1)) ∧ (reg_reader_number p0 8 (fun (r11 : Int) h12 => num_Zag r11 (fun (r13 : Int) h14 => ∃ h15 : Heap, WrH h14 ((⟨b5, 0, none⟩ : Addr).add 2) ∧ h15 = setH h14 ((⟨b5, 0, none⟩ : Addr).add 2) (.int .i64 r13) ∧ (reg_reader_short p0 (fun (r16 : Int) h17 => ∃ a18 : Addr, p0 = some a18 ∧ (∃ v19 : Bool, cellH h17 (a18.add 1) = some (.bool v19) ∧ (if (v19 || (decide (r8 > 1))) then (reg_reader_tenant_g1 p0 (⟨b1, 0, none⟩ : Addr) (⟨b5, 0, none⟩ : Addr) r16 p0 true k h17) else (∃ v61 : ByteArray, cellH h17 (⟨b5, 0, none⟩ : Addr) = some (.string v61) ∧ (box_Name v61 (fun (r62 : Bool) h63 => reg_reader_tenant_g1 p0 (⟨b1, 0, none⟩ : Addr) (⟨b5, 0, none⟩ : Addr) r16 p0 (!r62) k h63) h17))))) h15)) h12) h10)) h7))) h2)

/-- quaestor reg.From -/
def reg_From_g4 (t4_4 : Addr) (t5_4 : Option Addr) (t7_4 : Int) (t8_4 : Addr) (t28_4 : Addr) (t46_4 : Bool) (k : (Option Addr × Int) → Heap → Prop) (nx1 : (ByteArray × Int) → Heap → Prop) (h_4 : Heap) : Prop :=
  ∃ h13 : Heap, WrH h_4 (t28_4.add 1) ∧ h13 = setH h_4 (t28_4.add 1) (.bool t46_4) ∧ (∃ a14 : Addr, t5_4 = some a14 ∧ (∃ v15 : Option Nat, cellH h13 a14 = some (.map v15) ∧ (∃ v16 : ByteArray, cellH h13 t8_4 = some (.string v16) ∧ (∃ v17 : S_api_Tenant, CellsAt h13 t8_4 (S_api_Tenant.cs v17) ∧ (∃ v18 : ByteArray, cellH h13 t8_4 = some (.string v18) ∧ (∃ (r19 : Nat) (l20 : List (ByteArray × S_api_Tenant)) (h21 : Heap), v15 = some r19 ∧ MapAt (K := ByteArray) (V := S_api_Tenant) .string Value.string (fun v : S_api_Tenant => Value.agg (S_api_Tenant.cs v).toArray) h13 (some r19) l20 ∧ h21 = setM h13 r19 (Value.string v16) (.agg (S_api_Tenant.cs ((mget l20 v16).getD (⟨ByteArray.empty, (⟨none, 0, 0⟩ : Slc), 0, false⟩ : S_api_Tenant))).toArray) ∧ (cellH h21 t8_4 = some (.string v18) ∧ CellsAt h21 t8_4 (S_api_Tenant.cs v17) ∧ (∃ (r24 : Nat) (h25 : Heap), v15 = some r24 ∧ StampAt h21 r24 (Value.string v16) (stampOf h13 r19 (Value.string v16)) ∧ h25 = setM h21 r24 (Value.string v16) (.agg (S_api_Tenant.cs v17).toArray) ∧ (cellH h25 t8_4 = some (.string v18) ∧ (∃ x27 : Int, x27 = (IntKind.u64.wrap (t7_4 - 1)) ∧ (nx1 (v18, x27) h25)))))))))))
def reg_From_g3 (t4_3 : Addr) (t5_3 : Option Addr) (t7_3 : Int) (t8_3 : Addr) (t28_3 : Addr) (t38_3 : Bool) (k : (Option Addr × Int) → Heap → Prop) (nx1 : (ByteArray × Int) → Heap → Prop) (h_3 : Heap) : Prop :=
  if t38_3 then (reg_From_g4 t4_3 t5_3 t7_3 t8_3 t28_3 true k nx1 h_3) else (∃ a28 : Addr, t5_3 = some a28 ∧ (∃ v29 : Option Nat, cellH h_3 a28 = some (.map v29) ∧ (∃ l30 : List (ByteArray × S_api_Tenant), MapAt (K := ByteArray) (V := S_api_Tenant) .string Value.string (fun v : S_api_Tenant => Value.agg (S_api_Tenant.cs v).toArray) h_3 v29 l30 ∧ (reg_From_g4 t4_3 t5_3 t7_3 t8_3 t28_3 (decide ((l30.length : Int) ≥ 8)) k nx1 h_3))))
def reg_From_g5 (t5_5 : Option Addr) (t71_5 : Bool) (k : (Option Addr × Int) → Heap → Prop) (nx1 : (ByteArray × Int) → Heap → Prop) (h_5 : Heap) : Prop :=
  if t71_5 then (k (none, 4) h_5) else (k (t5_5, 0) h_5)
def reg_From_g2 (t4_2 : Addr) (t5_2 : Option Addr) (t6_2 : ByteArray) (t7_2 : Int) (t23_2 : Bool) (k : (Option Addr × Int) → Heap → Prop) (nx1 : (ByteArray × Int) → Heap → Prop) (h_2 : Heap) : Prop :=
  if t23_2 then (reg_reader_tenant (some t4_2) (fun (r7 : S_api_Tenant) h8 => ∃ (b9 : Nat) (h10 : Heap), b9 = h8.size ∧ h10 = h8.push (.cells (S_api_Tenant.cs (⟨ByteArray.empty, (⟨none, 0, 0⟩ : Slc), 0, false⟩ : S_api_Tenant)).toArray 130) ∧ (∃ h11 : Heap, WrsAt h10 (⟨b9, 0, none⟩ : Addr) 4 ∧ h11 = setsH h10 (⟨b9, 0, none⟩ : Addr) 0 (S_api_Tenant.cs r7) ∧ (∃ v12 : Bool, cellH h11 (t4_2.add 1) = some (.bool v12) ∧ (if v12 then (reg_From_g3 t4_2 t5_2 t7_2 (⟨b9, 0, none⟩ : Addr) t4_2 true k nx1 h11) else (∃ v31 : ByteArray, cellH h11 (⟨b9, 0, none⟩ : Addr) = some (.string v31) ∧ (reg_From_g3 t4_2 t5_2 t7_2 (⟨b9, 0, none⟩ : Addr) t4_2 (Op.bytesLess v31.toList t6_2.toList || v31.toList == t6_2.toList) k nx1 h11)))))) h_2) else (∃ v32 : Bool, cellH h_2 (t4_2.add 1) = some (.bool v32) ∧ (if v32 then (reg_From_g5 t5_2 true k nx1 h_2) else (∃ v33 : Slc, cellH h_2 t4_2 = some (Slc.v v33) ∧ (reg_From_g5 t5_2 (decide ((v33.len : Int) > 0)) k nx1 h_2))))
def reg_From_l1b (t4_1 : Addr) (t5_1 : Option Addr) (t6_1 : ByteArray) (t7_1 : Int) (k : (Option Addr × Int) → Heap → Prop) (nx1 : (ByteArray × Int) → Heap → Prop) (h_1 : Heap) : Prop :=
  if (decide (t7_1 > 0)) then (∃ v34 : Bool, cellH h_1 (t4_1.add 1) = some (.bool v34) ∧ (reg_From_g2 t4_1 t5_1 t6_1 t7_1 (!v34) k nx1 h_1)) else (reg_From_g2 t4_1 t5_1 t6_1 t7_1 false k nx1 h_1)
def reg_From_l1 (t4_1 : Addr) (t5_1 : Option Addr) (i6 : ByteArray) (i7 : Int) (k : (Option Addr × Int) → Heap → Prop) (h : Heap) : Prop :=
  ∃ (I : (ByteArray × Int) → Heap → Prop) (μ : (ByteArray × Int) → Heap → Nat), I (i6, i7) h ∧ ∀ (t6_1 : ByteArray) (t7_1 : Int) (h : Heap), I (t6_1, t7_1) h → reg_From_l1b t4_1 t5_1 t6_1 t7_1 k (fun s h' => I s h' ∧ μ s h' < μ (t6_1, t7_1) h) h
def reg_From (p0 : Slc) (k : (Option Addr × Int) → Heap → Prop) (h : Heap) : Prop :=
  ∃ (b1 : Nat) (h2 : Heap), b1 = h.size ∧ h2 = h.push (.cells (S_reg_reader.cs (⟨p0, false⟩ : S_reg_reader)).toArray 155) ∧ (reg_New  (fun (r3 : Option Addr) h4 => reg_reader_short (some (⟨b1, 0, none⟩ : Addr)) (fun (r5 : Int) h6 => reg_From_l1 (⟨b1, 0, none⟩ : Addr) r3 (⟨#[]⟩ : ByteArray) r5 k h6) h4) h2)

/-- quaestor quaestorref01.Lent -/
def ref01_Lent_j2 (t0_2 : Slc) (t3_2 : Slc) (t4_2 : Int) (k : (Slc) → Heap → Prop) (nx1 : (Int) → Heap → Prop) (h_2 : Heap) : Prop :=
  ∃ x3 : Int, x3 = (IntKind.i64.wrap (t4_2 + 1)) ∧ (nx1 x3 h_2)
def ref01_Lent_l1b (t0_1 : Slc) (t3_1 : Slc) (t4_1 : Int) (k : (Slc) → Heap → Prop) (nx1 : (Int) → Heap → Prop) (h_1 : Heap) : Prop :=
  if (decide (t4_1 < (t3_1.len : Int))) then (if (decide (t4_1 < (t0_1.len : Int))) then (∃ a4 : Addr, t0_1.a = some a4 ∧ (0 : Int) ≤ t4_1 ∧ t4_1 < (t0_1.len : Int) ∧ (∃ v5 : Int, cellH h_1 (a4.add (t4_1.toNat * 1)) = some (.int .u8 v5) ∧ (∃ a6 : Addr, t3_1.a = some a6 ∧ (0 : Int) ≤ t4_1 ∧ t4_1 < (t3_1.len : Int) ∧ (∃ h7 : Heap, WrH h_1 (a6.add (t4_1.toNat * 1)) ∧ h7 = setH h_1 (a6.add (t4_1.toNat * 1)) (.int .u8 v5) ∧ (ref01_Lent_j2 t0_1 t3_1 t4_1 k nx1 h7))))) else (∃ a8 : Addr, t3_1.a = some a8 ∧ (0 : Int) ≤ t4_1 ∧ t4_1 < (t3_1.len : Int) ∧ (∃ h9 : Heap, WrH h_1 (a8.add (t4_1.toNat * 1)) ∧ h9 = setH h_1 (a8.add (t4_1.toNat * 1)) (.int .u8 165) ∧ (ref01_Lent_j2 t0_1 t3_1 t4_1 k nx1 h9)))) else (∃ s10 : Slc, (0 : Int) ≤ 0 ∧ (0 : Int) ≤ (t0_1.len : Int) ∧ ((t0_1.len : Int) : Int) ≤ (t3_1.cap : Int) ∧ (t3_1.cap : Int) ≤ (t3_1.cap : Int) ∧ s10 = subS t3_1 1 (0 : Int).toNat (t0_1.len : Int).toNat (t3_1.cap : Int).toNat ∧ (k s10 h_1))
def ref01_Lent_l1 (t0_1 : Slc) (t3_1 : Slc) (i4 : Int) (k : (Slc) → Heap → Prop) (h : Heap) : Prop :=
  ∃ (I : Int → Heap → Prop) (μ : Int → Heap → Nat), I i4 h ∧ ∀ (t4_1 : Int) (h : Heap), I t4_1 h → ref01_Lent_l1b t0_1 t3_1 t4_1 k (fun s h' => I s h' ∧ μ s h' < μ t4_1 h) h
def ref01_Lent (p0 : Slc) (k : (Slc) → Heap → Prop) (h : Heap) : Prop :=
  ∃ (b1 : Nat) (h2 : Heap), (0 : Int) ≤ (IntKind.i64.wrap ((p0.len : Int) + 8)) ∧ ((IntKind.i64.wrap ((p0.len : Int) + 8)) : Int) ≤ (IntKind.i64.wrap ((p0.len : Int) + 8)) ∧ ((IntKind.i64.wrap ((p0.len : Int) + 8)) : Int) * 1 ≤ 281474976710656 ∧ ((IntKind.i64.wrap ((p0.len : Int) + 8)) : Int) ≤ 9223372036854775807 ∧ b1 = h.size ∧ h2 = h.push (.cells (zrow [.int .u8 0] (IntKind.i64.wrap ((p0.len : Int) + 8)).toNat).toArray 5) ∧ (ref01_Lent_l1 p0 (⟨some ⟨b1, 0, none⟩, (IntKind.i64.wrap ((p0.len : Int) + 8)).toNat, (IntKind.i64.wrap ((p0.len : Int) + 8)).toNat⟩ : Slc) 0 k h2)

/-- quaestor quaestorref01.Kept -/
def ref01_Kept_l1b (t5_1 : Slc) (t6_1 : Int) (k : (Bool) → Heap → Prop) (nx1 : (Int) → Heap → Prop) (h_1 : Heap) : Prop :=
  if (decide (t6_1 < (t5_1.len : Int))) then (∃ a5 : Addr, t5_1.a = some a5 ∧ (0 : Int) ≤ t6_1 ∧ t6_1 < (t5_1.len : Int) ∧ (∃ v6 : Int, cellH h_1 (a5.add (t6_1.toNat * 1)) = some (.int .u8 v6) ∧ (if (v6 != 165) then (k false h_1) else (∃ x7 : Int, x7 = (IntKind.i64.wrap (t6_1 + 1)) ∧ (nx1 x7 h_1))))) else (k true h_1)
def ref01_Kept_l1 (t5_1 : Slc) (i6 : Int) (k : (Bool) → Heap → Prop) (h : Heap) : Prop :=
  ∃ (I : Int → Heap → Prop) (μ : Int → Heap → Nat), I i6 h ∧ ∀ (t6_1 : Int) (h : Heap), I t6_1 h → ref01_Kept_l1b t5_1 t6_1 k (fun s h' => I s h' ∧ μ s h' < μ t6_1 h) h
def ref01_Kept (p0 : Slc) (p1 : Slc) (k : (Bool) → Heap → Prop) (h : Heap) : Prop :=
  ref01_Same p0 p1 (fun (r1 : Bool) h2 => if (!r1) then (k false h2) else (∃ s3 : Slc, (0 : Int) ≤ 0 ∧ (0 : Int) ≤ (IntKind.i64.wrap ((p0.len : Int) + 8)) ∧ ((IntKind.i64.wrap ((p0.len : Int) + 8)) : Int) ≤ (p0.cap : Int) ∧ (p0.cap : Int) ≤ (p0.cap : Int) ∧ s3 = subS p0 1 (0 : Int).toNat (IntKind.i64.wrap ((p0.len : Int) + 8)).toNat (p0.cap : Int).toNat ∧ (∃ x4 : Int, x4 = (p0.len : Int) ∧ (ref01_Kept_l1 s3 x4 k h2)))) h

/-- quaestor quaestorlaw25.RegReads -/
def law25_RegReads_g1 (t31_1 : Bool) (k : (Bool) → Heap → Prop) (h_1 : Heap) : Prop :=
  k t31_1 h_1
def law25_RegReads_g3 (t44_3 : Bool) (k : (Bool) → Heap → Prop) (h_3 : Heap) : Prop :=
  k t44_3 h_3
def law25_RegReads_g2 (t41_2 : Bool) (k : (Bool) → Heap → Prop) (h_2 : Heap) : Prop :=
  if t41_2 then (law25_awake  (fun (r15 : Bool) h16 => law25_RegReads_g3 r15 k h16) h_2) else (law25_RegReads_g3 false k h_2)
def law25_RegReads (p0 : Slc) (k : (Bool) → Heap → Prop) (h : Heap) : Prop :=
  if (decide ((p0.len : Int) > 1000)) then (law25_awake  (fun (r1 : Bool) h2 => k r1 h2) h) else (ref01_Lent p0 (fun (r3 : Slc) h4 => reg_From r3 (fun (r5 : Option Addr × Int) h6 => ref01_Kept r3 p0 (fun (r7 : Bool) h8 => if (!r7) then (k false h8) else (if (r5.2 != 0) then (if ((r5.1.isNone) && (r5.2 == 4)) then (law25_awake  (fun (r9 : Bool) h10 => law25_RegReads_g1 r9 k h10) h8) else (law25_RegReads_g1 false k h8)) else (reg_Reg_Bytes r5.1 (fun (r11 : Slc) h12 => ref01_Same r11 p0 (fun (r13 : Bool) h14 => if r13 then (reg_Reg_Tenants r5.1 (fun (r17 : Slc) h18 => law25_RegReads_g2 (decide ((r17.len : Int) ≤ 8)) k h18) h14) else (law25_RegReads_g2 false k h14)) h12) h8))) h6) h4) h)

theorem num_GetShort_ok : CallOk Go.Proofs.Try.prog 172 := ⟨_, Go.Proofs.Try.func172, by kernel_rfl, by kernel_rfl⟩
theorem num_GetShort_ref (p0 : Slc) (k : (Int × Int × Int) → Heap → Prop) (h : Heap) (H : num_GetShort p0 k h) : CallsH Go.Proofs.Try.prog 172 #[Slc.v p0] h (fun v h' => ∃ r : Int × Int × Int, v = .tuple #[.int .u64 r.1, .int .i64 r.2.1, .int .i64 r.2.2] ∧ k r h') := by
  refine f_enter (N := 41) Go.Proofs.Try.func172 rfl rfl rfl (fun w0 => ?_)
  unfold num_GetShort at H
  refine c_weak [(0, Slc.v p0)] ⟨rfl, trivial⟩ ?_
  refine c_seq ?_
  refine c_region ?_
  refine w_p tok rfl rfl rfl ?_
  refine w_p tok rfl rfl rfl ?_
  refine w_p tok rfl rfl rfl ?_
  refine w_end ?_
  refine x_seq ?_
  refine c_seq ?_
  refine c_seq ?_
  refine c_region ?_
  refine w_p tok rfl rfl rfl ?_
  refine w_p tok rfl rfl rfl ?_
  refine w_p tok rfl rfl rfl ?_
  refine w_end ?_
  refine x_seq ?_
  refine c_block ?_
  obtain ⟨I1, μ1, H0, HI⟩ := H
  refine c_loop (σ := Int × Int) (fun (s : Int × Int) => [(2, .int .u64 s.1), (9, .int .i64 s.2), (7, Slc.v p0), (8, .int .i64 (p0.len : Int))]) I1 μ1 (0, 0) H0 ⟨rfl, rfl, rfl, rfl, trivial⟩ ?_
  rintro ⟨t2_1, t9_1⟩ h_1 H
  replace H := HI t2_1 t9_1 h_1 H
  unfold num_GetShort_l1b at H
  refine c_weak [(2, .int .u64 t2_1), (9, .int .i64 t9_1), (7, Slc.v p0), (8, .int .i64 (p0.len : Int))] ⟨rfl, rfl, rfl, rfl, trivial⟩ ?_
  refine c_seq ?_
  refine c_region ?_
  refine w_p tok rfl rfl rfl ?_
  refine w_end ?_
  refine x_seq ?_
  refine c_seq ?_
  refine c_if H rfl (fun H => ?_) (fun H => ?_)
  ·
    refine c_skip ?_
    refine x_seq ?_
    refine c_seq ?_
    refine c_block ?_
    refine c_seq ?_
    refine c_region ?_
    refine w_p tok rfl rfl rfl ?_
    obtain ⟨a1, ha1, la1, ua1, H⟩ := H
    refine w_y (y_ixa' tok rfl rfl ha1 rfl rfl rfl la1 ua1) rfl rfl ?_
    obtain ⟨v2, hv2, H⟩ := H
    refine w_y (y_ld tok rfl rfl rfl rfl hv2) rfl rfl ?_
    refine w_p tok rfl rfl rfl ?_
    refine w_p tok rfl rfl rfl ?_
    refine w_end ?_
    refine x_seq ?_
    refine c_seq ?_
    refine c_seq ?_
    refine c_region ?_
    refine w_p tok rfl rfl rfl ?_
    refine w_p tok rfl rfl rfl ?_
    refine w_p tok rfl rfl rfl ?_
    refine w_cutU 3 [(19, .bool ((t9_1 == 9) && (decide (v2 > 1)))), (2, .int .u64 t2_1), (5, .int .i64 t9_1), (6, .int .u8 v2), (7, Slc.v p0), (8, .int .i64 (p0.len : Int)), (9, .int .i64 t9_1)] ?_ ?_
    ·
      refine w_end ?_
      refine x_seq ?_
      refine c_if H rfl (fun H => ?_) (fun H => ?_)
      ·
        refine c_seq ?_
        refine c_region ?_
        refine w_p tok rfl rfl rfl ?_
        refine w_p tok rfl rfl rfl ?_
        refine w_p tok rfl rfl rfl ?_
        refine w_end ?_
        refine x_seq ?_
        refine c_ret ?_
        refine x_tr ?_
        refine x_br ?_
        refine x_tr ?_
        refine x_tr ?_
        refine x_br ?_
        refine x_tr ?_
        exact x_ret _ rfl _ rfl ⟨(0, 0, 4), rfl, H⟩
      ·
        refine c_skip ?_
        refine x_seq ?_
        refine c_seq ?_
        refine c_region ?_
        refine w_p tok rfl rfl rfl ?_
        refine w_p tok rfl rfl rfl ?_
        refine w_p tok rfl rfl rfl ?_
        refine w_p tok rfl rfl rfl ?_
        refine w_p tok rfl rfl rfl ?_
        refine w_p tok rfl rfl rfl ?_
        refine w_p tok rfl rfl rfl ?_
        obtain ⟨z3, H⟩ := H
        refine w_y (y_shl rfl rfl rfl z3) rfl rfl ?_
        refine w_p tok rfl rfl rfl ?_
        obtain ⟨x4, ex4, H⟩ := H
        refine w_pe tok rfl (congrArg (fun z => (.int .u64 z : Value)) ex4) rfl rfl ?_
        refine w_end ?_
        refine x_seq ?_
        refine c_weak [(2, .int .u64 x4), (5, .int .i64 t9_1), (6, .int .u8 v2), (7, Slc.v p0), (8, .int .i64 (p0.len : Int)), (9, .int .i64 t9_1)] ⟨rfl, rfl, rfl, rfl, rfl, rfl, trivial⟩ ?_
        refine c_seq ?_
        refine c_seq ?_
        refine c_region ?_
        refine w_p tok rfl rfl rfl ?_
        refine w_p tok rfl rfl rfl ?_
        refine w_end ?_
        refine x_seq ?_
        refine c_if H rfl (fun H => ?_) (fun H => ?_)
        ·
          refine c_exit ?_
          refine x_te ?_
          refine x_bh ?_
          refine x_seq ?_
          refine c_region ?_
          refine w_p tok rfl rfl rfl ?_
          refine w_p tok rfl rfl rfl ?_
          refine w_end ?_
          exact x_join (x4, (IntKind.i64.wrap (t9_1 + 1))) H ⟨rfl, rfl, rfl, rfl, trivial⟩
        ·
          refine c_skip ?_
          refine x_seq ?_
          refine c_seq ?_
          refine c_seq ?_
          refine c_region ?_
          refine w_p tok rfl rfl rfl ?_
          refine w_p tok rfl rfl rfl ?_
          refine w_p tok rfl rfl rfl ?_
          refine w_cutU 3 [(36, .bool ((v2 == 0) && (decide (t9_1 > 0)))), (2, .int .u64 x4), (5, .int .i64 t9_1)] ?_ ?_
          ·
            refine w_end ?_
            refine x_seq ?_
            refine c_if H rfl (fun H => ?_) (fun H => ?_)
            ·
              refine c_seq ?_
              refine c_region ?_
              refine w_p tok rfl rfl rfl ?_
              refine w_p tok rfl rfl rfl ?_
              refine w_p tok rfl rfl rfl ?_
              refine w_end ?_
              refine x_seq ?_
              refine c_ret ?_
              refine x_tr ?_
              refine x_br ?_
              refine x_tr ?_
              refine x_tr ?_
              refine x_br ?_
              refine x_tr ?_
              exact x_ret _ rfl _ rfl ⟨(0, 0, 4), rfl, H⟩
            ·
              refine c_skip ?_
              refine x_seq ?_
              refine c_seq ?_
              refine c_region ?_
              refine w_p tok rfl rfl rfl ?_
              refine w_p tok rfl rfl rfl ?_
              refine w_p tok rfl rfl rfl ?_
              refine w_p tok rfl rfl rfl ?_
              obtain ⟨x5, ex5, H⟩ := H
              refine w_pe tok rfl (congrArg (fun z => (.int .i64 z : Value)) ex5) rfl rfl ?_
              refine w_p tok rfl rfl rfl ?_
              refine w_end ?_
              refine x_seq ?_
              refine c_ret ?_
              refine x_br ?_
              refine x_tr ?_
              refine x_tr ?_
              refine x_br ?_
              refine x_tr ?_
              exact x_ret _ rfl _ rfl ⟨(x4, x5, 0), rfl, H⟩
          ·
            refine w_gs (d := 33) rfl (fun hb => ?_) (fun hb => ?_)
            ·
              refine w_p tok rfl rfl rfl ?_
              refine w_p tok rfl rfl rfl ?_
              refine w_p tok rfl rfl rfl ?_
              refine w_jn () rfl ⟨?_, rfl, rfl, trivial⟩
              exact congrArg (fun b => some (Value.bool b)) (and_t hb)
            ·
              refine w_skip rfl rfl ?_
              refine w_skip rfl rfl ?_
              refine w_p tok rfl rfl rfl ?_
              refine w_jn () rfl ⟨?_, rfl, rfl, trivial⟩
              exact congrArg (fun b => some (Value.bool b)) (and_f hb)
    ·
      refine w_gs (d := 16) rfl (fun hb => ?_) (fun hb => ?_)
      ·
        refine w_p tok rfl rfl rfl ?_
        refine w_p tok rfl rfl rfl ?_
        refine w_p tok rfl rfl rfl ?_
        refine w_jn () rfl ⟨?_, rfl, rfl, rfl, rfl, rfl, rfl, trivial⟩
        exact congrArg (fun b => some (Value.bool b)) (and_t hb)
      ·
        refine w_skip rfl rfl ?_
        refine w_skip rfl rfl ?_
        refine w_p tok rfl rfl rfl ?_
        refine w_jn () rfl ⟨?_, rfl, rfl, rfl, rfl, rfl, rfl, trivial⟩
        exact congrArg (fun b => some (Value.bool b)) (and_f hb)
  ·
    refine c_exit ?_
    refine x_te ?_
    refine x_te ?_
    refine x_bh ?_
    refine x_seq ?_
    refine c_seq ?_
    refine c_region ?_
    refine w_p tok rfl rfl rfl ?_
    refine w_p tok rfl rfl rfl ?_
    refine w_p tok rfl rfl rfl ?_
    refine w_end ?_
    refine x_seq ?_
    refine c_ret ?_
    exact x_ret _ rfl _ rfl ⟨(0, 0, 2), rfl, H⟩

theorem num_Get_ok : CallOk Go.Proofs.Try.prog 162 := ⟨_, Go.Proofs.Try.func162, by kernel_rfl, by kernel_rfl⟩
theorem num_Get_ref (p0 : Slc) (p1 : Int) (k : (Int × Int) → Heap → Prop) (h : Heap) (H : num_Get p0 p1 k h) : CallsH Go.Proofs.Try.prog 162 #[Slc.v p0, .int .i64 p1] h (fun v h' => ∃ r : Int × Int, v = .tuple #[.int .u64 r.1, .int .i64 r.2] ∧ k r h') := by
  refine f_enter (N := 35) Go.Proofs.Try.func162 rfl rfl rfl (fun w0 => ?_)
  unfold num_Get at H
  refine c_weak [(0, Slc.v p0), (1, .int .i64 p1)] ⟨rfl, rfl, trivial⟩ ?_
  refine c_seq ?_
  refine c_region ?_
  refine w_p tok rfl rfl rfl ?_
  refine w_p tok rfl rfl rfl ?_
  refine w_end ?_
  refine x_seq ?_
  refine c_seq ?_
  refine c_block ?_
  refine c_seq ?_
  refine c_region ?_
  refine w_p tok rfl rfl rfl ?_
  refine w_p tok rfl rfl rfl ?_
  refine w_p tok rfl rfl rfl ?_
  refine w_cutU 3 [(14, .bool ((decide (p1 < 1)) || (decide (p1 > 8)))), (0, Slc.v p0), (1, .int .i64 p1)] ?_ ?_
  ·
    refine w_p tok rfl rfl rfl ?_
    refine w_end ?_
    refine x_seq ?_
    refine c_if H rfl (fun H => ?_) (fun H => ?_)
    ·
      refine c_seq ?_
      refine c_region ?_
      refine w_p tok rfl rfl rfl ?_
      refine w_p tok rfl rfl rfl ?_
      refine w_end ?_
      refine x_seq ?_
      refine c_ret ?_
      refine x_br ?_
      refine x_tr ?_
      exact x_ret _ rfl _ rfl ⟨(0, 1), rfl, H⟩
    ·
      refine c_seq ?_
      refine c_region ?_
      refine w_p tok rfl rfl rfl ?_
      refine w_p tok rfl rfl rfl ?_
      refine w_p tok rfl rfl rfl ?_
      refine w_p tok rfl rfl rfl ?_
      refine w_p tok rfl rfl rfl ?_
      refine w_end ?_
      refine x_seq ?_
      refine c_if H rfl (fun H => ?_) (fun H => ?_)
      ·
        refine c_seq ?_
        refine c_region ?_
        refine w_p tok rfl rfl rfl ?_
        refine w_p tok rfl rfl rfl ?_
        refine w_end ?_
        refine x_seq ?_
        refine c_weak [(4, .int .u64 0), (5, .int .i64 2)] ⟨rfl, rfl, trivial⟩ ?_
        refine c_ret ?_
        refine x_br ?_
        refine x_tr ?_
        exact x_ret _ rfl _ rfl ⟨(0, 2), rfl, H⟩
      ·
        refine c_skip ?_
        refine x_blk ?_
        refine x_seq ?_
        refine c_weak [(0, Slc.v p0), (1, .int .i64 p1)] ⟨rfl, rfl, trivial⟩ ?_
        refine c_seq ?_
        refine c_region ?_
        refine w_p tok rfl rfl rfl ?_
        refine w_end ?_
        refine x_seq ?_
        refine c_seq ?_
        refine c_seq ?_
        refine c_region ?_
        refine w_p tok rfl rfl rfl ?_
        refine w_p tok rfl rfl rfl ?_
        obtain ⟨x1, ex1, H⟩ := H
        refine w_pe tok rfl (congrArg (fun z => (.int .i64 z : Value)) ex1) rfl rfl ?_
        refine w_end ?_
        refine x_seq ?_
        refine c_block ?_
        obtain ⟨I1, μ1, H0, HI⟩ := H
        refine c_loop (σ := Int × Int) (fun (s : Int × Int) => [(6, .int .u64 s.1), (7, .int .i64 s.2), (0, Slc.v p0)]) I1 μ1 (0, x1) H0 ⟨rfl, rfl, rfl, trivial⟩ ?_
        rintro ⟨t6_1, t7_1⟩ h_1 H
        replace H := HI t6_1 t7_1 h_1 H
        unfold num_Get_l1b at H
        refine c_weak [(6, .int .u64 t6_1), (7, .int .i64 t7_1), (0, Slc.v p0)] ⟨rfl, rfl, rfl, trivial⟩ ?_
        refine c_seq ?_
        refine c_seq ?_
        refine c_region ?_
        refine w_p tok rfl rfl rfl ?_
        refine w_p tok rfl rfl rfl ?_
        refine w_end ?_
        refine x_seq ?_
        refine c_if H rfl (fun H => ?_) (fun H => ?_)
        ·
          refine c_skip ?_
          refine x_seq ?_
          refine c_seq ?_
          refine c_block ?_
          refine c_region ?_
          refine w_p tok rfl rfl rfl ?_
          refine w_p tok rfl rfl rfl ?_
          refine w_p tok rfl rfl rfl ?_
          refine w_p tok rfl rfl rfl ?_
          obtain ⟨a2, ha2, la2, ua2, H⟩ := H
          refine w_y (y_ixa' tok rfl rfl ha2 rfl rfl rfl la2 ua2) rfl rfl ?_
          obtain ⟨v3, hv3, H⟩ := H
          refine w_y (y_ld tok rfl rfl rfl rfl hv3) rfl rfl ?_
          refine w_p tok rfl rfl rfl ?_
          refine w_p tok rfl rfl rfl ?_
          obtain ⟨x4, ex4, H⟩ := H
          refine w_pe tok rfl (congrArg (fun z => (.int .u64 z : Value)) ex4) rfl rfl ?_
          refine w_end ?_
          refine x_blk ?_
          refine x_seq ?_
          refine c_weak [(6, .int .u64 x4), (7, .int .i64 t7_1), (0, Slc.v p0)] ⟨rfl, rfl, rfl, trivial⟩ ?_
          refine c_region ?_
          refine w_p tok rfl rfl rfl ?_
          refine w_p tok rfl rfl rfl ?_
          obtain ⟨x5, ex5, H⟩ := H
          refine w_pe tok rfl (congrArg (fun z => (.int .i64 z : Value)) ex5) rfl rfl ?_
          refine w_end ?_
          exact x_join (x4, x5) H ⟨rfl, rfl, rfl, trivial⟩
        ·
          refine c_exit ?_
          refine x_te ?_
          refine x_te ?_
          refine x_bh ?_
          refine x_seq ?_
          refine c_seq ?_
          refine c_region ?_
          refine w_p tok rfl rfl rfl ?_
          refine w_p tok rfl rfl rfl ?_
          refine w_p tok rfl rfl rfl ?_
          refine w_end ?_
          refine x_seq ?_
          refine c_ret ?_
          exact x_ret _ rfl _ rfl ⟨(t6_1, 0), rfl, H⟩
  ·
    refine w_gs (d := 11) rfl (fun hb => ?_) (fun hb => ?_)
    ·
      refine w_skip rfl rfl ?_
      refine w_skip rfl rfl ?_
      refine w_p tok rfl rfl rfl ?_
      refine w_jn () rfl ⟨?_, rfl, rfl, trivial⟩
      exact congrArg (fun b => some (Value.bool b)) (or_t hb)
    ·
      refine w_p tok rfl rfl rfl ?_
      refine w_p tok rfl rfl rfl ?_
      refine w_p tok rfl rfl rfl ?_
      refine w_jn () rfl ⟨?_, rfl, rfl, trivial⟩
      exact congrArg (fun b => some (Value.bool b)) (or_f hb)

theorem reg_reader_bytes_ok : CallOk Go.Proofs.Try.prog 163 := ⟨_, Go.Proofs.Try.func163, by kernel_rfl, by kernel_rfl⟩
theorem reg_reader_bytes_ref (p0 : Option Addr) (p1 : Int) (k : (Slc) → Heap → Prop) (h : Heap) (H : reg_reader_bytes p0 p1 k h) : CallsH Go.Proofs.Try.prog 163 #[.pointer p0, .int .u64 p1] h (fun v h' => ∃ r : Slc, v = Slc.v r ∧ k r h') := by
  refine f_enter (N := 39) Go.Proofs.Try.func163 rfl rfl rfl (fun w0 => ?_)
  unfold reg_reader_bytes at H
  refine c_weak [(0, .pointer p0), (1, .int .u64 p1)] ⟨rfl, rfl, trivial⟩ ?_
  refine c_seq ?_
  refine c_region ?_
  refine w_p tok rfl rfl rfl ?_
  refine w_end ?_
  refine x_seq ?_
  refine c_seq ?_
  refine c_seq ?_
  refine c_region ?_
  refine w_p tok rfl rfl rfl ?_
  obtain ⟨a1, ha1, H⟩ := H
  refine w_y (y_nil' rfl rfl ha1) rfl rfl ?_
  refine w_p tok rfl rfl rfl ?_
  obtain ⟨v2, hv2, H⟩ := H
  refine w_y (y_ld tok rfl rfl rfl rfl hv2) rfl rfl ?_
  refine w_p tok rfl rfl rfl ?_
  refine w_cut 9 (α := Bool) (fun (s : Bool) => [(19, .bool s), (0, .pointer p0), (1, .int .u64 p1)]) (fun (s : Bool) h => reg_reader_bytes_g1 p0 p1 s k h) ?_ ?_
  ·
    rintro t19_1 h_1 H
    replace H : reg_reader_bytes_g1 p0 p1 t19_1 k h_1 := H
    unfold reg_reader_bytes_g1 at H
    refine w_weak [(19, .bool t19_1), (0, .pointer p0), (1, .int .u64 p1)] ⟨rfl, rfl, rfl, trivial⟩ ?_
    refine w_end ?_
    refine x_seq ?_
    refine c_if H rfl (fun H => ?_) (fun H => ?_)
    ·
      refine c_seq ?_
      refine c_region ?_
      refine w_p tok rfl rfl rfl ?_
      obtain ⟨a3, ha3, H⟩ := H
      refine w_y (y_nil' rfl rfl ha3) rfl rfl ?_
      refine w_p tok rfl rfl rfl ?_
      obtain ⟨h4, wh4, eh4, H⟩ := H
      refine w_h (h_st tok rfl rfl rfl rfl rfl rfl wh4 eh4) rfl rfl ?_
      refine w_end ?_
      refine x_seq ?_
      refine c_seq ?_
      refine c_region ?_
      refine w_p tok rfl rfl rfl ?_
      refine w_end ?_
      refine x_seq ?_
      refine c_ret ?_
      refine x_tr ?_
      exact x_ret _ rfl _ rfl ⟨(⟨none, 0, 0⟩ : Slc), rfl, H⟩
    ·
      refine c_skip ?_
      refine x_seq ?_
      refine c_seq ?_
      refine c_region ?_
      refine w_p tok rfl rfl rfl ?_
      obtain ⟨a5, ha5, H⟩ := H
      refine w_y (y_nil' rfl rfl ha5) rfl rfl ?_
      refine w_p tok rfl rfl rfl ?_
      obtain ⟨v6, hv6, H⟩ := H
      refine w_y (y_ld tok rfl rfl rfl rfl hv6) rfl rfl ?_
      refine w_p tok rfl rfl rfl ?_
      obtain ⟨s7, ps7, qs7, rs7, ts7, es7, H⟩ := H
      refine w_ye (y_sl (s := v6) (L := 0) (H := p1) (M := (v6.cap : Int)) tok rfl rfl rfl rfl rfl rfl rfl (by simp) ps7 qs7 rs7 ts7) (congrArg Slc.v es7) rfl rfl ?_
      refine w_p tok rfl rfl rfl ?_
      refine w_end ?_
      refine x_seq ?_
      refine c_weak [(0, .pointer p0), (1, .int .u64 p1), (5, Slc.v s7)] ⟨rfl, rfl, rfl, trivial⟩ ?_
      refine c_seq ?_
      refine c_region ?_
      refine w_p tok rfl rfl rfl ?_
      refine w_p tok rfl rfl rfl ?_
      refine w_y (y_nil' rfl rfl ha5) rfl rfl ?_
      refine w_p tok rfl rfl rfl ?_
      obtain ⟨v8, hv8, H⟩ := H
      refine w_y (y_ld tok rfl rfl rfl rfl hv8) rfl rfl ?_
      refine w_p tok rfl rfl rfl ?_
      obtain ⟨s9, ps9, qs9, rs9, ts9, es9, H⟩ := H
      refine w_ye (y_sl (s := v8) (L := p1) (H := (v8.len : Int)) (M := (v8.cap : Int)) tok rfl rfl rfl rfl rfl rfl rfl (by simp) ps9 qs9 rs9 ts9) (congrArg Slc.v es9) rfl rfl ?_
      refine w_y (y_nil' rfl rfl ha5) rfl rfl ?_
      refine w_p tok rfl rfl rfl ?_
      obtain ⟨h10, wh10, eh10, H⟩ := H
      refine w_h (h_st tok rfl rfl rfl rfl rfl rfl wh10 eh10) rfl rfl ?_
      refine w_end ?_
      refine x_seq ?_
      refine c_weak [(5, Slc.v s7)] ⟨rfl, trivial⟩ ?_
      refine c_seq ?_
      refine c_region ?_
      refine w_p tok rfl rfl rfl ?_
      refine w_p tok rfl rfl rfl ?_
      refine w_end ?_
      refine x_seq ?_
      refine c_ret ?_
      exact x_ret _ rfl _ rfl ⟨s7, rfl, H⟩
  ·
    refine w_gif (d := 10) H rfl (fun H => ?_) (fun H => ?_)
    ·
      refine w_skip rfl rfl ?_
      refine w_skip rfl rfl ?_
      refine w_skip rfl rfl ?_
      refine w_skip rfl rfl ?_
      refine w_skip rfl rfl ?_
      refine w_skip rfl rfl ?_
      refine w_skip rfl rfl ?_
      refine w_skip rfl rfl ?_
      refine w_p tok rfl rfl rfl ?_
      exact w_jn true H ⟨rfl, rfl, rfl, trivial⟩
    ·
      refine w_p tok rfl rfl rfl ?_
      refine w_p tok rfl rfl rfl ?_
      refine w_y (y_nil' rfl rfl ha1) rfl rfl ?_
      refine w_p tok rfl rfl rfl ?_
      obtain ⟨v11, hv11, H⟩ := H
      refine w_y (y_ld tok rfl rfl rfl rfl hv11) rfl rfl ?_
      refine w_p tok rfl rfl rfl ?_
      refine w_p tok rfl rfl rfl ?_
      refine w_p tok rfl rfl rfl ?_
      refine w_p tok rfl rfl rfl ?_
      exact w_jn (decide (p1 > (IntKind.u64.wrap (v11.len : Int)))) H ⟨rfl, rfl, rfl, trivial⟩

theorem reg_reader_number_ok : CallOk Go.Proofs.Try.prog 94 := ⟨_, Go.Proofs.Try.func94, by kernel_rfl, by kernel_rfl⟩
theorem reg_reader_number_ref (p0 : Option Addr) (p1 : Int) (k : (Int) → Heap → Prop) (h : Heap) (H : reg_reader_number p0 p1 k h) : CallsH Go.Proofs.Try.prog 94 #[.pointer p0, .int .i64 p1] h (fun v h' => ∃ r : Int, v = .int .u64 r ∧ k r h') := by
  refine f_enter (N := 17) Go.Proofs.Try.func94 rfl rfl rfl (fun w0 => ?_)
  unfold reg_reader_number at H
  refine c_weak [(0, .pointer p0), (1, .int .i64 p1)] ⟨rfl, rfl, trivial⟩ ?_
  refine c_seq ?_
  refine c_region ?_
  refine w_p tok rfl rfl rfl ?_
  refine w_end ?_
  refine x_seq ?_
  refine c_seq ?_
  refine c_region ?_
  refine w_p tok rfl rfl rfl ?_
  refine w_p tok rfl rfl rfl ?_
  refine w_p tok rfl rfl rfl ?_
  refine w_call reg_reader_bytes_ok (reg_reader_bytes_ref _ _ _ _ H) rfl rfl rfl rfl ?_
  rintro _ h2 ⟨r1, rfl, H⟩
  refine w_p tok rfl rfl rfl ?_
  refine w_call num_Get_ok (num_Get_ref _ _ _ _ H) rfl rfl rfl rfl ?_
  rintro _ h4 ⟨r3, rfl, H⟩
  refine w_p tok rfl rfl rfl ?_
  refine w_p tok rfl rfl rfl ?_
  refine w_p tok rfl rfl rfl ?_
  refine w_p tok rfl rfl rfl ?_
  refine w_p tok rfl rfl rfl ?_
  refine w_end ?_
  refine x_seq ?_
  refine c_weak [(5, .int .u64 r3.1)] ⟨rfl, trivial⟩ ?_
  refine c_seq ?_
  refine c_region ?_
  refine w_p tok rfl rfl rfl ?_
  refine w_p tok rfl rfl rfl ?_
  refine w_end ?_
  refine x_seq ?_
  refine c_ret ?_
  exact x_ret _ rfl _ rfl ⟨r3.1, rfl, H⟩

theorem reg_reader_short_ok : CallOk Go.Proofs.Try.prog 152 := ⟨_, Go.Proofs.Try.func152, by kernel_rfl, by kernel_rfl⟩
theorem reg_reader_short_ref (p0 : Option Addr) (k : (Int) → Heap → Prop) (h : Heap) (H : reg_reader_short p0 k h) : CallsH Go.Proofs.Try.prog 152 #[.pointer p0] h (fun v h' => ∃ r : Int, v = .int .u64 r ∧ k r h') := by
  refine f_enter (N := 36) Go.Proofs.Try.func152 rfl rfl rfl (fun w0 => ?_)
  unfold reg_reader_short at H
  refine c_weak [(0, .pointer p0)] ⟨rfl, trivial⟩ ?_
  refine c_seq ?_
  refine c_region ?_
  refine w_p tok rfl rfl rfl ?_
  refine w_end ?_
  refine x_seq ?_
  refine c_seq ?_
  refine c_region ?_
  refine w_p tok rfl rfl rfl ?_
  obtain ⟨a1, ha1, H⟩ := H
  refine w_y (y_nil' rfl rfl ha1) rfl rfl ?_
  refine w_p tok rfl rfl rfl ?_
  obtain ⟨v2, hv2, H⟩ := H
  refine w_y (y_ld tok rfl rfl rfl rfl hv2) rfl rfl ?_
  refine w_call num_GetShort_ok (num_GetShort_ref _ _ _ H) rfl rfl rfl rfl ?_
  rintro _ h4 ⟨r3, rfl, H⟩
  refine w_p tok rfl rfl rfl ?_
  refine w_p tok rfl rfl rfl ?_
  refine w_p tok rfl rfl rfl ?_
  refine w_p tok rfl rfl rfl ?_
  refine w_p tok rfl rfl rfl ?_
  refine w_p tok rfl rfl rfl ?_
  refine w_p tok rfl rfl rfl ?_
  refine w_end ?_
  refine x_seq ?_
  refine c_weak [(0, .pointer p0), (3, .int .u64 r3.1), (4, .int .i64 r3.2.1), (5, .int .i64 r3.2.2)] ⟨rfl, rfl, rfl, rfl, trivial⟩ ?_
  refine c_seq ?_
  refine c_region ?_
  refine w_p tok rfl rfl rfl ?_
  refine w_p tok rfl rfl rfl ?_
  refine w_y (y_nil' rfl rfl ha1) rfl rfl ?_
  refine w_p tok rfl rfl rfl ?_
  obtain ⟨v5, hv5, H⟩ := H
  refine w_y (y_ld tok rfl rfl rfl rfl hv5) rfl rfl ?_
  refine w_p tok rfl rfl rfl ?_
  refine w_cutU 3 [(23, .bool (v5 || (r3.2.2 != 0))), (0, .pointer p0), (3, .int .u64 r3.1), (4, .int .i64 r3.2.1), (15, .pointer p0)] ?_ ?_
  ·
    refine w_y (y_nil' rfl rfl ha1) rfl rfl ?_
    refine w_p tok rfl rfl rfl ?_
    obtain ⟨h6, wh6, eh6, H⟩ := H
    refine w_h (h_st tok rfl rfl rfl rfl rfl rfl wh6 eh6) rfl rfl ?_
    refine w_end ?_
    refine x_seq ?_
    refine c_seq ?_
    refine c_region ?_
    refine w_p tok rfl rfl rfl ?_
    refine w_p tok rfl rfl rfl ?_
    refine w_y (y_nil' rfl rfl ha1) rfl rfl ?_
    refine w_p tok rfl rfl rfl ?_
    obtain ⟨v7, hv7, H⟩ := H
    refine w_y (y_ld tok rfl rfl rfl rfl hv7) rfl rfl ?_
    refine w_p tok rfl rfl rfl ?_
    obtain ⟨s8, ps8, qs8, rs8, ts8, es8, H⟩ := H
    refine w_ye (y_sl (s := v7) (L := r3.2.1) (H := (v7.len : Int)) (M := (v7.cap : Int)) tok rfl rfl rfl rfl rfl rfl rfl (by simp) ps8 qs8 rs8 ts8) (congrArg Slc.v es8) rfl rfl ?_
    refine w_y (y_nil' rfl rfl ha1) rfl rfl ?_
    refine w_p tok rfl rfl rfl ?_
    obtain ⟨h9, wh9, eh9, H⟩ := H
    refine w_h (h_st tok rfl rfl rfl rfl rfl rfl wh9 eh9) rfl rfl ?_
    refine w_end ?_
    refine x_seq ?_
    refine c_weak [(3, .int .u64 r3.1)] ⟨rfl, trivial⟩ ?_
    refine c_seq ?_
    refine c_region ?_
    refine w_p tok rfl rfl rfl ?_
    refine w_p tok rfl rfl rfl ?_
    refine w_end ?_
    refine x_seq ?_
    refine c_ret ?_
    exact x_ret _ rfl _ rfl ⟨r3.1, rfl, H⟩
  ·
    refine w_gs (d := 20) rfl (fun hb => ?_) (fun hb => ?_)
    ·
      refine w_skip rfl rfl ?_
      refine w_skip rfl rfl ?_
      refine w_p tok rfl rfl rfl ?_
      refine w_jn () rfl ⟨?_, rfl, rfl, rfl, rfl, trivial⟩
      exact congrArg (fun b => some (Value.bool b)) (or_t hb)
    ·
      refine w_p tok rfl rfl rfl ?_
      refine w_p tok rfl rfl rfl ?_
      refine w_p tok rfl rfl rfl ?_
      refine w_jn () rfl ⟨?_, rfl, rfl, rfl, rfl, trivial⟩
      exact congrArg (fun b => some (Value.bool b)) (or_f hb)

theorem reg_reader_text_ok : CallOk Go.Proofs.Try.prog 95 := ⟨_, Go.Proofs.Try.func95, by kernel_rfl, by kernel_rfl⟩
theorem reg_reader_text_ref (p0 : Option Addr) (k : (ByteArray) → Heap → Prop) (h : Heap) (H : reg_reader_text p0 k h) : CallsH Go.Proofs.Try.prog 95 #[.pointer p0] h (fun v h' => ∃ r : ByteArray, v = .string r ∧ k r h') := by
  refine f_enter (N := 8) Go.Proofs.Try.func95 rfl rfl rfl (fun w0 => ?_)
  unfold reg_reader_text at H
  refine c_weak [(0, .pointer p0)] ⟨rfl, trivial⟩ ?_
  refine c_seq ?_
  refine c_region ?_
  refine w_p tok rfl rfl rfl ?_
  refine w_end ?_
  refine x_seq ?_
  refine c_seq ?_
  refine c_region ?_
  refine w_p tok rfl rfl rfl ?_
  refine w_p tok rfl rfl rfl ?_
  refine w_call reg_reader_short_ok (reg_reader_short_ref _ _ _ H) rfl rfl rfl rfl ?_
  rintro _ h2 ⟨r1, rfl, H⟩
  refine w_call reg_reader_bytes_ok (reg_reader_bytes_ref _ _ _ _ H) rfl rfl rfl rfl ?_
  rintro _ h4 ⟨r3, rfl, H⟩
  obtain ⟨l5, ll5, hl5, H⟩ := H
  refine w_y (y_b2s (s := r3) (l := l5) tok rfl rfl rfl rfl rfl ll5 hl5) rfl rfl ?_
  refine w_p tok rfl rfl rfl ?_
  refine w_end ?_
  refine x_seq ?_
  refine c_ret ?_
  exact x_ret _ rfl _ rfl ⟨(bsOf l5), rfl, H⟩

theorem reg_reader_nonce_ok : CallOk Go.Proofs.Try.prog 96 := ⟨_, Go.Proofs.Try.func96, by kernel_rfl, by kernel_rfl⟩
theorem reg_reader_nonce_ref (p0 : Option Addr) (k : (List Int) → Heap → Prop) (h : Heap) (H : reg_reader_nonce p0 k h) : CallsH Go.Proofs.Try.prog 96 #[.pointer p0] h (fun v h' => ∃ r : List Int, v = .agg (arr 12 .u8 r).toArray ∧ k r h') := by
  refine f_enter (N := 9) Go.Proofs.Try.func96 rfl rfl rfl (fun w0 => ?_)
  unfold reg_reader_nonce at H
  refine c_weak [(0, .pointer p0)] ⟨rfl, trivial⟩ ?_
  refine c_seq ?_
  refine c_region ?_
  obtain ⟨b1, h2, eb1, eh2, H⟩ := H
  refine w_h (h_alloc tok rfl rfl eb1 eh2) rfl rfl ?_
  refine w_end ?_
  refine x_seq ?_
  refine c_seq ?_
  refine c_region ?_
  obtain ⟨b3, h4, eb3, eh4, H⟩ := H
  refine w_h (h_alloc tok rfl rfl eb3 eh4) rfl rfl ?_
  refine w_end ?_
  refine x_seq ?_
  refine c_seq ?_
  refine c_sim [(0, .pointer p0), (2, .pointer (some (⟨b1, 0, none⟩ : Addr))), (3, .pointer (some (⟨b3, 0, none⟩ : Addr)))] (by kernel_rfl) (by kernel_rfl) ⟨rfl, rfl, rfl, trivial⟩ (fun wf => ?_)
  obtain ⟨s5, ps5, qs5, rs5, es5, H⟩ := H
  refine sim_p 0 (ei := [(3, .pointer (some (⟨b3, 0, none⟩ : Addr)))]) (d := (some 4)) wf (by kernel_rfl) ⟨rfl, trivial⟩ (by kernel_rfl) (by kernel_rfl) (fun _ => pf_ye rfl rfl rfl (y_sla (L := 0) (H := 12) tok rfl rfl rfl rfl rfl rfl ps5 qs5 rs5) (congrArg Slc.v es5)) (fun P_0 => ?_)
  refine sim_p 1 (ei := [(0, .pointer p0)]) (d := (some 5)) wf (by kernel_rfl) ⟨rfl, trivial⟩ (by kernel_rfl) (by kernel_rfl) (fun _ => pf_p tok rfl rfl rfl rfl) (fun P_1 => ?_)
  refine sim_c 2 [1] [1] (ei := [(5, .pointer p0)]) reg_reader_bytes_ok (reg_reader_bytes_ref _ _ _ _ H) wf ⟨P_1 _, P_0 _, trivial⟩ (by kernel_rfl) ⟨rfl, trivial⟩ (by kernel_rfl) rfl rfl rfl rfl rfl ?_
  rintro _ h7 ⟨r6, rfl, H⟩
  obtain ⟨l8, H⟩ := H
  refine sim_a 3 [0, 1, 2] [0, 1] (ei := [(4, Slc.v s5), (6, Slc.v r6)]) wf ⟨trivial, P_0 _, trivial⟩ (by kernel_rfl) ⟨rfl, rfl, trivial⟩ (by kernel_rfl) rfl rfl rfl (a_cpy (d := s5) (s := r6) tok rfl rfl rfl rfl rfl H) ?_
  rintro _ h9 ⟨rfl, H⟩
  refine sim_end wf ⟨trivial, trivial, trivial⟩ (by kernel_rfl) ?_
  clear wf P_0 P_1
  refine x_seq ?_
  refine c_seq ?_
  refine c_region ?_
  obtain ⟨v10, hv10, H⟩ := H
  refine w_y (y_lda tok rfl rfl rfl rfl rfl hv10) rfl rfl ?_
  obtain ⟨h11, wh11, eh11, H⟩ := H
  refine w_h (h_sts tok rfl rfl rfl rfl rfl (oneC (by kernel_rfl)) wh11 eh11) rfl rfl ?_
  refine w_end ?_
  refine x_seq ?_
  refine c_weak [(2, .pointer (some (⟨b1, 0, none⟩ : Addr)))] ⟨rfl, trivial⟩ ?_
  refine c_ret ?_
  obtain ⟨v12, hv12, H⟩ := H
  exact x_retc tok _ rfl [.agg (arr 12 .u8 v12).toArray] ⟨⟨_, _, rfl, rfl, .inr ⟨rfl, _, rfl, rfl, hv12⟩⟩, trivial⟩ ⟨v12, rfl, H⟩

theorem num_Zag_ok : CallOk Go.Proofs.Try.prog 97 := ⟨_, Go.Proofs.Try.func97, by kernel_rfl, by kernel_rfl⟩
theorem num_Zag_ref (p0 : Int) (k : (Int) → Heap → Prop) (h : Heap) (H : num_Zag p0 k h) : CallsH Go.Proofs.Try.prog 97 #[.int .u64 p0] h (fun v h' => ∃ r : Int, v = .int .i64 r ∧ k r h') := by
  refine f_enter (N := 11) Go.Proofs.Try.func97 rfl rfl rfl (fun w0 => ?_)
  unfold num_Zag at H
  refine c_weak [(0, .int .u64 p0)] ⟨rfl, trivial⟩ ?_
  refine c_seq ?_
  refine c_region ?_
  refine w_p tok rfl rfl rfl ?_
  refine w_end ?_
  refine x_seq ?_
  refine c_seq ?_
  refine c_region ?_
  refine w_p tok rfl rfl rfl ?_
  refine w_p tok rfl rfl rfl ?_
  refine w_p tok rfl rfl rfl ?_
  refine w_p tok rfl rfl rfl ?_
  refine w_p tok rfl rfl rfl ?_
  refine w_p tok rfl rfl rfl ?_
  refine w_p tok rfl rfl rfl ?_
  refine w_p tok rfl rfl rfl ?_
  obtain ⟨x1, ex1, H⟩ := H
  refine w_pe tok rfl (congrArg (fun z => (.int .i64 z : Value)) ex1) rfl rfl ?_
  refine w_end ?_
  refine x_seq ?_
  refine c_weak [(2, .int .i64 x1)] ⟨rfl, trivial⟩ ?_
  refine c_ret ?_
  exact x_ret _ rfl _ rfl ⟨x1, rfl, H⟩

theorem reg_reader_tenant_ok : CallOk Go.Proofs.Try.prog 153 := ⟨_, Go.Proofs.Try.func153, by kernel_rfl, by kernel_rfl⟩
theorem reg_reader_tenant_ref (p0 : Option Addr) (k : (S_api_Tenant) → Heap → Prop) (h : Heap) (H : reg_reader_tenant p0 k h) : CallsH Go.Proofs.Try.prog 153 #[.pointer p0] h (fun v h' => ∃ r : S_api_Tenant, v = .agg (S_api_Tenant.cs r).toArray ∧ k r h') := by
  refine f_enter (N := 92) Go.Proofs.Try.func153 rfl rfl rfl (fun w0 => ?_)
  unfold reg_reader_tenant at H
  refine c_weak [(0, .pointer p0)] ⟨rfl, trivial⟩ ?_
  refine c_seq ?_
  refine c_region ?_
  obtain ⟨b1, h2, eb1, eh2, H⟩ := H
  refine w_h (h_alloc tok rfl rfl eb1 eh2) rfl rfl ?_
  refine w_end ?_
  refine x_seq ?_
  refine c_scope ?_
  refine c_seq ?_
  refine c_region ?_
  refine w_p tok rfl rfl rfl ?_
  refine w_call reg_reader_text_ok (reg_reader_text_ref _ _ _ H) rfl rfl rfl rfl ?_
  rintro _ h4 ⟨r3, rfl, H⟩
  refine w_y (y_build tok rfl rfl rfl rfl rfl) rfl rfl ?_
  obtain ⟨b5, h6, eb5, eh6, H⟩ := H
  refine w_h (h_alloc tok rfl rfl eb5 eh6) rfl rfl ?_
  obtain ⟨h7, wh7, eh7, H⟩ := H
  refine w_h (h_sts tok rfl rfl rfl rfl rfl (oneC (by kernel_rfl)) wh7 eh7) rfl rfl ?_
  refine w_end ?_
  refine x_seq ?_
  refine c_seq ?_
  refine c_region ?_
  refine w_p tok rfl rfl rfl ?_
  refine w_call reg_reader_number_ok (reg_reader_number_ref _ _ _ _ H) rfl rfl rfl rfl ?_
  rintro _ h9 ⟨r8, rfl, H⟩
  refine w_p tok rfl rfl rfl ?_
  refine w_end ?_
  refine x_seq ?_
  refine c_seq ?_
  refine c_region ?_
  refine w_p tok rfl rfl rfl ?_
  refine w_p tok rfl rfl rfl ?_
  refine w_p tok rfl rfl rfl ?_
  obtain ⟨h10, wh10, eh10, H⟩ := H
  refine w_h (h_st tok rfl rfl rfl rfl rfl rfl wh10 eh10) rfl rfl ?_
  refine w_end ?_
  refine x_seq ?_
  refine c_weak [(0, .pointer p0), (2, .pointer (some (⟨b1, 0, none⟩ : Addr))), (3, .pointer (some (⟨b5, 0, none⟩ : Addr))), (4, .int .u64 r8)] ⟨rfl, rfl, rfl, rfl, trivial⟩ ?_
  refine c_seq ?_
  refine c_region ?_
  refine w_p tok rfl rfl rfl ?_
  refine w_call reg_reader_number_ok (reg_reader_number_ref _ _ _ _ H) rfl rfl rfl rfl ?_
  rintro _ h12 ⟨r11, rfl, H⟩
  refine w_call num_Zag_ok (num_Zag_ref _ _ _ H) rfl rfl rfl rfl ?_
  rintro _ h14 ⟨r13, rfl, H⟩
  refine w_p tok rfl rfl rfl ?_
  obtain ⟨h15, wh15, eh15, H⟩ := H
  refine w_h (h_st tok rfl rfl rfl rfl rfl rfl wh15 eh15) rfl rfl ?_
  refine w_end ?_
  refine x_seq ?_
  refine c_seq ?_
  refine c_region ?_
  refine w_p tok rfl rfl rfl ?_
  refine w_call reg_reader_short_ok (reg_reader_short_ref _ _ _ H) rfl rfl rfl rfl ?_
  rintro _ h17 ⟨r16, rfl, H⟩
  refine w_p tok rfl rfl rfl ?_
  refine w_end ?_
  refine x_seq ?_
  refine c_seq ?_
  refine c_region ?_
  refine w_p tok rfl rfl rfl ?_
  refine w_p tok rfl rfl rfl ?_
  obtain ⟨a18, ha18, H⟩ := H
  refine w_y (y_nil' rfl rfl ha18) rfl rfl ?_
  refine w_p tok rfl rfl rfl ?_
  obtain ⟨v19, hv19, H⟩ := H
  refine w_y (y_ld tok rfl rfl rfl rfl hv19) rfl rfl ?_
  refine w_p tok rfl rfl rfl ?_
  refine w_cutU 3 [(30, .bool (v19 || (decide (r8 > 1)))), (0, .pointer p0), (2, .pointer (some (⟨b1, 0, none⟩ : Addr))), (3, .pointer (some (⟨b5, 0, none⟩ : Addr))), (5, .int .u64 r16), (22, .pointer p0)] ?_ ?_
  ·
    refine w_p tok rfl rfl rfl ?_
    refine w_cut 5 (α := Bool) (fun (s : Bool) => [(36, .bool s), (0, .pointer p0), (2, .pointer (some (⟨b1, 0, none⟩ : Addr))), (3, .pointer (some (⟨b5, 0, none⟩ : Addr))), (5, .int .u64 r16), (22, .pointer p0)]) (fun (s : Bool) h => reg_reader_tenant_g1 p0 (⟨b1, 0, none⟩ : Addr) (⟨b5, 0, none⟩ : Addr) r16 p0 s k h) ?_ ?_
    ·
      rintro t36_1 h_1 H
      replace H : reg_reader_tenant_g1 p0 (⟨b1, 0, none⟩ : Addr) (⟨b5, 0, none⟩ : Addr) r16 p0 t36_1 k h_1 := H
      unfold reg_reader_tenant_g1 at H
      refine w_weak [(36, .bool t36_1), (0, .pointer p0), (2, .pointer (some (⟨b1, 0, none⟩ : Addr))), (3, .pointer (some (⟨b5, 0, none⟩ : Addr))), (5, .int .u64 r16), (22, .pointer p0)] ⟨rfl, rfl, rfl, rfl, rfl, rfl, trivial⟩ ?_
      refine w_p tok rfl rfl rfl ?_
      refine w_cut 6 (α := Bool) (fun (s : Bool) => [(43, .bool s), (0, .pointer p0), (2, .pointer (some (⟨b1, 0, none⟩ : Addr))), (3, .pointer (some (⟨b5, 0, none⟩ : Addr))), (5, .int .u64 r16), (22, .pointer p0)]) (fun (s : Bool) h => reg_reader_tenant_g2 p0 (⟨b1, 0, none⟩ : Addr) (⟨b5, 0, none⟩ : Addr) r16 p0 s k h) ?_ ?_
      ·
        rintro t43_2 h_2 H
        replace H : reg_reader_tenant_g2 p0 (⟨b1, 0, none⟩ : Addr) (⟨b5, 0, none⟩ : Addr) r16 p0 t43_2 k h_2 := H
        unfold reg_reader_tenant_g2 at H
        refine w_weak [(43, .bool t43_2), (0, .pointer p0), (2, .pointer (some (⟨b1, 0, none⟩ : Addr))), (3, .pointer (some (⟨b5, 0, none⟩ : Addr))), (5, .int .u64 r16), (22, .pointer p0)] ⟨rfl, rfl, rfl, rfl, rfl, rfl, trivial⟩ ?_
        obtain ⟨a20, ha20, H⟩ := H
        refine w_y (y_nil' rfl rfl ha20) rfl rfl ?_
        refine w_p tok rfl rfl rfl ?_
        obtain ⟨h21, wh21, eh21, H⟩ := H
        refine w_h (h_st tok rfl rfl rfl rfl rfl rfl wh21 eh21) rfl rfl ?_
        refine w_end ?_
        refine x_seq ?_
        refine c_seq ?_
        refine c_label ?_
        refine x_seq ?_
        refine c_seqJ (α := Unit) (fun (s : Unit) => [(2, .pointer (some (⟨b1, 0, none⟩ : Addr))), (3, .pointer (some (⟨b5, 0, none⟩ : Addr)))]) (fun (s : Unit) h => reg_reader_tenant_j3 (⟨b1, 0, none⟩ : Addr) (⟨b5, 0, none⟩ : Addr) k h) ?_ ?_
        ·
          rintro _ h_3 H
          replace H : reg_reader_tenant_j3 (⟨b1, 0, none⟩ : Addr) (⟨b5, 0, none⟩ : Addr) k h_3 := H
          unfold reg_reader_tenant_j3 at H
          refine c_weak [(2, .pointer (some (⟨b1, 0, none⟩ : Addr))), (3, .pointer (some (⟨b5, 0, none⟩ : Addr)))] ⟨rfl, rfl, trivial⟩ ?_
          refine c_seq ?_
          refine c_region ?_
          obtain ⟨v22, hv22, H⟩ := H
          refine w_y (y_lda tok rfl rfl rfl rfl rfl hv22) rfl rfl ?_
          obtain ⟨h23, wh23, eh23, H⟩ := H
          refine w_h (h_sts tok rfl rfl rfl rfl rfl (oneC (by kernel_rfl)) wh23 eh23) rfl rfl ?_
          refine w_end ?_
          refine x_seq ?_
          refine c_ret ?_
          refine x_sr ?_
          obtain ⟨v24, hv24, H⟩ := H
          exact x_retc tok _ rfl [.agg (S_api_Tenant.cs v24).toArray] ⟨⟨_, _, rfl, rfl, .inr ⟨rfl, _, rfl, rfl, hv24⟩⟩, trivial⟩ ⟨v24, rfl, H⟩
        ·
          refine c_seq ?_
          refine c_region ?_
          refine w_p tok rfl rfl rfl ?_
          refine w_end ?_
          refine x_seq ?_
          refine c_block ?_
          obtain ⟨I4, μ4, H0, HI⟩ := H
          refine c_loop (σ := Int) (fun (s : Int) => [(6, .int .u64 s), (0, .pointer p0), (2, .pointer (some (⟨b1, 0, none⟩ : Addr))), (3, .pointer (some (⟨b5, 0, none⟩ : Addr))), (5, .int .u64 r16)]) I4 μ4 0 H0 ⟨rfl, rfl, rfl, rfl, rfl, trivial⟩ ?_
          rintro t6_4 h_4 H
          replace H := HI t6_4 h_4 H
          unfold reg_reader_tenant_l4b at H
          refine c_weak [(6, .int .u64 t6_4), (0, .pointer p0), (2, .pointer (some (⟨b1, 0, none⟩ : Addr))), (3, .pointer (some (⟨b5, 0, none⟩ : Addr))), (5, .int .u64 r16)] ⟨rfl, rfl, rfl, rfl, rfl, trivial⟩ ?_
          refine c_seq ?_
          refine c_seq ?_
          refine c_region ?_
          refine w_p tok rfl rfl rfl ?_
          refine w_p tok rfl rfl rfl ?_
          refine w_p tok rfl rfl rfl ?_
          refine w_end ?_
          refine x_seq ?_
          refine c_if H rfl (fun H => ?_) (fun H => ?_)
          ·
            refine c_skip ?_
            refine x_seq ?_
            refine c_seq ?_
            refine c_block ?_
            refine c_seq ?_
            refine c_region ?_
            refine w_p tok rfl rfl rfl ?_
            refine w_call reg_reader_number_ok (reg_reader_number_ref _ _ _ _ H) rfl rfl rfl rfl ?_
            rintro _ h26 ⟨r25, rfl, H⟩
            refine w_p tok rfl rfl rfl ?_
            refine w_p tok rfl rfl rfl ?_
            refine w_call reg_reader_nonce_ok (reg_reader_nonce_ref _ _ _ H) rfl rfl rfl rfl ?_
            rintro _ h28 ⟨r27, rfl, H⟩
            refine w_y (y_build tok rfl rfl rfl rfl rfl) rfl rfl ?_
            obtain ⟨b29, h30, eb29, eh30, H⟩ := H
            refine w_h (h_alloc tok rfl rfl eb29 eh30) rfl rfl ?_
            obtain ⟨h31, wh31, eh31, H⟩ := H
            refine w_h (h_sts tok rfl rfl rfl rfl rfl (oneC (by kernel_rfl)) wh31 eh31) rfl rfl ?_
            refine w_end ?_
            refine x_seq ?_
            refine c_weak [(6, .int .u64 t6_4), (0, .pointer p0), (2, .pointer (some (⟨b1, 0, none⟩ : Addr))), (3, .pointer (some (⟨b5, 0, none⟩ : Addr))), (5, .int .u64 r16), (7, .pointer (some (⟨b29, 0, none⟩ : Addr)))] ⟨rfl, rfl, rfl, rfl, rfl, rfl, trivial⟩ ?_
            refine c_seq ?_
            refine c_region ?_
            refine w_p tok rfl rfl rfl ?_
            refine w_call reg_reader_bytes_ok (reg_reader_bytes_ref _ _ _ _ H) rfl rfl rfl rfl ?_
            rintro _ h33 ⟨r32, rfl, H⟩
            refine w_call slices_Clone_byte_byte_ok (slices_Clone_byte_byte_ref _ _ _ H) rfl rfl rfl rfl ?_
            rintro _ h35 ⟨r34, rfl, H⟩
            refine w_p tok rfl rfl rfl ?_
            obtain ⟨h36, wh36, eh36, H⟩ := H
            refine w_h (h_st tok rfl rfl rfl rfl rfl rfl wh36 eh36) rfl rfl ?_
            refine w_end ?_
            refine x_seq ?_
            refine c_seq ?_
            refine c_seqJ (α := Bool) (fun (s : Bool) => [(81, .bool s), (0, .pointer p0), (2, .pointer (some (⟨b1, 0, none⟩ : Addr))), (3, .pointer (some (⟨b5, 0, none⟩ : Addr))), (5, .int .u64 r16), (6, .int .u64 t6_4), (7, .pointer (some (⟨b29, 0, none⟩ : Addr)))]) (fun (s : Bool) h => reg_reader_tenant_j5 p0 (⟨b1, 0, none⟩ : Addr) (⟨b5, 0, none⟩ : Addr) r16 t6_4 (⟨b29, 0, none⟩ : Addr) s k (fun s h' => I4 s h' ∧ μ4 s h' < μ4 t6_4 h_4) h) ?_ ?_
            ·
              rintro t81_5 h_5 H
              replace H : reg_reader_tenant_j5 p0 (⟨b1, 0, none⟩ : Addr) (⟨b5, 0, none⟩ : Addr) r16 t6_4 (⟨b29, 0, none⟩ : Addr) t81_5 k (fun s h' => I4 s h' ∧ μ4 s h' < μ4 t6_4 h_4) h_5 := H
              unfold reg_reader_tenant_j5 at H
              refine c_weak [(81, .bool t81_5), (0, .pointer p0), (2, .pointer (some (⟨b1, 0, none⟩ : Addr))), (3, .pointer (some (⟨b5, 0, none⟩ : Addr))), (5, .int .u64 r16), (6, .int .u64 t6_4), (7, .pointer (some (⟨b29, 0, none⟩ : Addr)))] ⟨rfl, rfl, rfl, rfl, rfl, rfl, rfl, trivial⟩ ?_
              refine c_if H rfl (fun H => ?_) (fun H => ?_)
              ·
                refine c_seq ?_
                refine c_region ?_
                refine w_p tok rfl rfl rfl ?_
                obtain ⟨a37, ha37, H⟩ := H
                refine w_y (y_nil' rfl rfl ha37) rfl rfl ?_
                refine w_p tok rfl rfl rfl ?_
                obtain ⟨h38, wh38, eh38, H⟩ := H
                refine w_h (h_st tok rfl rfl rfl rfl rfl rfl wh38 eh38) rfl rfl ?_
                refine w_end ?_
                refine x_seq ?_
                refine c_weak [(2, .pointer (some (⟨b1, 0, none⟩ : Addr))), (3, .pointer (some (⟨b5, 0, none⟩ : Addr)))] ⟨rfl, rfl, trivial⟩ ?_
                refine c_exit ?_
                refine x_te ?_
                refine x_bm rfl ?_
                refine x_te ?_
                refine x_te ?_
                refine x_bh ?_
                exact x_join () H ⟨rfl, rfl, trivial⟩
              ·
                refine c_skip ?_
                refine x_seq ?_
                refine c_region ?_
                refine w_p tok rfl rfl rfl ?_
                obtain ⟨v39, hv39, H⟩ := H
                refine w_y (y_ld tok rfl rfl rfl rfl hv39) rfl rfl ?_
                obtain ⟨v40, hv40, H⟩ := H
                refine w_y (y_lda tok rfl rfl rfl rfl rfl hv40) rfl rfl ?_
                obtain ⟨b41, h42, eb41, eh42, H⟩ := H
                refine w_h (h_bs tok rfl rfl rfl rfl rfl rfl rfl eb41 eh42) rfl rfl ?_
                refine w_a (a_app (s := v39) (r := (⟨some ⟨b41, 0, none⟩, 1, 1⟩ : Slc)) tok rfl rfl rfl rfl rfl (slcAt_push eb41 eh42) H) rfl rfl ?_
                rintro _ h44 ⟨s43, rfl, H⟩
                refine w_p tok rfl rfl rfl ?_
                obtain ⟨h45, wh45, eh45, H⟩ := H
                refine w_h (h_st tok rfl rfl rfl rfl rfl rfl wh45 eh45) rfl rfl ?_
                refine w_end ?_
                refine x_blk ?_
                refine x_seq ?_
                refine c_weak [(0, .pointer p0), (2, .pointer (some (⟨b1, 0, none⟩ : Addr))), (3, .pointer (some (⟨b5, 0, none⟩ : Addr))), (5, .int .u64 r16), (6, .int .u64 t6_4)] ⟨rfl, rfl, rfl, rfl, rfl, trivial⟩ ?_
                refine c_region ?_
                refine w_p tok rfl rfl rfl ?_
                refine w_p tok rfl rfl rfl ?_
                obtain ⟨x46, ex46, H⟩ := H
                refine w_pe tok rfl (congrArg (fun z => (.int .u64 z : Value)) ex46) rfl rfl ?_
                refine w_end ?_
                exact x_join x46 H ⟨rfl, rfl, rfl, rfl, rfl, trivial⟩
            ·
              refine c_sim [(0, .pointer p0), (2, .pointer (some (⟨b1, 0, none⟩ : Addr))), (3, .pointer (some (⟨b5, 0, none⟩ : Addr))), (5, .int .u64 r16), (6, .int .u64 t6_4), (7, .pointer (some (⟨b29, 0, none⟩ : Addr)))] (by kernel_rfl) (by kernel_rfl) ⟨rfl, rfl, rfl, rfl, rfl, rfl, trivial⟩ (fun wf => ?_)
              refine sim_p 0 (ei := [(0, .pointer p0)]) (d := (some 61)) wf (by kernel_rfl) ⟨rfl, trivial⟩ (by kernel_rfl) (by kernel_rfl) (fun _ => pf_p tok rfl rfl rfl rfl) (fun P_0 => ?_)
              obtain ⟨a47, ha47, H⟩ := H
              refine sim_p 1 (ei := [(61, .pointer p0)]) (d := (some 62)) wf (by kernel_rfl) ⟨rfl, trivial⟩ (by kernel_rfl) (by kernel_rfl) (fun _ => pf_y rfl rfl rfl (y_nil' rfl rfl ha47)) (fun P_1 => ?_)
              refine sim_p 2 (ei := [(62, .pointer (some a47))]) (d := (some 63)) wf (by kernel_rfl) ⟨rfl, trivial⟩ (by kernel_rfl) (by kernel_rfl) (fun _ => pf_p tok rfl rfl rfl rfl) (fun P_2 => ?_)
              obtain ⟨v48, hv48, H⟩ := H
              refine sim_l 3 (ei := [(63, .pointer (some (a47.add 1)))]) (d := (some 64)) wf (by kernel_rfl) ⟨rfl, trivial⟩ (by kernel_rfl) (by kernel_rfl) (pf_y rfl rfl rfl (y_ld tok rfl rfl rfl rfl hv48)) (fun P_3 => ?_)
              refine sim_p 4 (ei := [(64, .bool v48)]) (d := (some 65)) wf (by kernel_rfl) ⟨rfl, trivial⟩ (by kernel_rfl) (by kernel_rfl) (fun _ => pf_p tok rfl rfl rfl rfl) (fun P_4 => ?_)
              refine sim_gif 65 H rfl (fun hb H => ?_) (fun hb H => ?_)
              ·
                refine sim_p 5 (v := undef) (ei := [(7, .pointer (some (⟨b29, 0, none⟩ : Addr))), (65, .bool true)]) (d := (some 66)) wf (by kernel_rfl) ⟨rfl, rfl, trivial⟩ (by kernel_rfl) (by kernel_rfl) (fun _ => pf_s rfl rfl rfl) (fun P_5 => ?_)
                refine sim_p 6 (v := undef) (ei := [(65, .bool true), (66, undef)]) (d := (some 67)) wf (by kernel_rfl) ⟨rfl, rfl, trivial⟩ (by kernel_rfl) (by kernel_rfl) (fun _ => pf_s rfl rfl rfl) (fun P_6 => ?_)
                refine sim_p 7 (v := undef) (ei := [(65, .bool true), (67, undef)]) (d := (some 68)) wf (by kernel_rfl) ⟨rfl, rfl, trivial⟩ (by kernel_rfl) (by kernel_rfl) (fun _ => pf_s rfl rfl rfl) (fun P_7 => ?_)
                refine sim_p 8 (ei := [(65, .bool true), (68, undef)]) (d := (some 69)) wf (by kernel_rfl) ⟨rfl, rfl, trivial⟩ (by kernel_rfl) (by kernel_rfl) (fun _ => pf_p tok rfl rfl rfl rfl) (fun P_8 => ?_)
                refine sim_p 9 (ei := [(69, .bool true)]) (d := (some 70)) wf (by kernel_rfl) ⟨rfl, trivial⟩ (by kernel_rfl) (by kernel_rfl) (fun _ => pf_p tok rfl rfl rfl rfl) (fun P_9 => ?_)
                refine sim_gif 70 H rfl (fun hb H => ?_) (fun hb H => ?_)
                ·
                  refine sim_p 10 (v := undef) (ei := [(6, .int .u64 t6_4), (70, .bool true)]) (d := (some 71)) wf (by kernel_rfl) ⟨rfl, rfl, trivial⟩ (by kernel_rfl) (by kernel_rfl) (fun _ => pf_s rfl rfl rfl) (fun P_10 => ?_)
                  refine sim_p 11 (v := undef) (ei := [(70, .bool true), (71, undef)]) (d := (some 72)) wf (by kernel_rfl) ⟨rfl, rfl, trivial⟩ (by kernel_rfl) (by kernel_rfl) (fun _ => pf_s rfl rfl rfl) (fun P_11 => ?_)
                  refine sim_p 12 (v := undef) (ei := [(70, .bool true), (72, undef)]) (d := (some 73)) wf (by kernel_rfl) ⟨rfl, rfl, trivial⟩ (by kernel_rfl) (by kernel_rfl) (fun _ => pf_s rfl rfl rfl) (fun P_12 => ?_)
                  refine sim_p 13 (v := undef) (ei := [(7, .pointer (some (⟨b29, 0, none⟩ : Addr))), (73, undef)]) (d := (some 74)) wf (by kernel_rfl) ⟨rfl, rfl, trivial⟩ (by kernel_rfl) (by kernel_rfl) (fun _ => pf_s rfl rfl rfl) (fun P_13 => ?_)
                  refine sim_p 14 (v := undef) (ei := [(73, undef), (74, undef)]) (d := (some 75)) wf (by kernel_rfl) ⟨rfl, rfl, trivial⟩ (by kernel_rfl) (by kernel_rfl) (fun _ => pf_s rfl rfl rfl) (fun P_14 => ?_)
                  refine sim_p 15 (v := undef) (ei := [(3, .pointer (some (⟨b5, 0, none⟩ : Addr))), (73, undef)]) (d := (some 76)) wf (by kernel_rfl) ⟨rfl, rfl, trivial⟩ (by kernel_rfl) (by kernel_rfl) (fun _ => pf_s rfl rfl rfl) (fun P_15 => ?_)
                  refine sim_p 16 (v := undef) (ei := [(73, undef), (76, undef)]) (d := (some 77)) wf (by kernel_rfl) ⟨rfl, rfl, trivial⟩ (by kernel_rfl) (by kernel_rfl) (fun _ => pf_s rfl rfl rfl) (fun P_16 => ?_)
                  refine sim_p 17 (v := undef) (ei := [(73, undef), (77, undef)]) (d := (some 78)) wf (by kernel_rfl) ⟨rfl, rfl, trivial⟩ (by kernel_rfl) (by kernel_rfl) (fun _ => pf_s rfl rfl rfl) (fun P_17 => ?_)
                  refine sim_p 18 (v := undef) (ei := [(73, undef), (75, undef), (78, undef)]) (d := (some 79)) wf (by kernel_rfl) ⟨rfl, rfl, rfl, trivial⟩ (by kernel_rfl) (by kernel_rfl) (fun _ => pf_s rfl rfl rfl) (fun P_18 => ?_)
                  refine sim_p 19 (v := undef) (ei := [(70, .bool true), (73, undef), (79, undef)]) (d := (some 80)) wf (by kernel_rfl) ⟨rfl, rfl, rfl, trivial⟩ (by kernel_rfl) (by kernel_rfl) (fun _ => pf_s rfl rfl rfl) (fun P_19 => ?_)
                  refine sim_p 20 (ei := [(70, .bool true), (80, undef)]) (d := (some 81)) wf (by kernel_rfl) ⟨rfl, rfl, trivial⟩ (by kernel_rfl) (by kernel_rfl) (fun _ => pf_p tok rfl rfl rfl rfl) (fun P_20 => ?_)
                  refine sim_end wf ⟨P_20 _, P_19 _, P_18 _, P_17 _, P_16 _, P_15 _, P_14 _, P_13 _, P_12 _, P_11 _, P_10 _, P_9 _, P_8 _, P_7 _, P_6 _, P_5 _, P_4 _, P_3, P_2 _, P_1 _, P_0 _, trivial⟩ (by kernel_rfl) ?_
                  clear wf P_0 P_1 P_10 P_11 P_12 P_13 P_14 P_15 P_16 P_17 P_18 P_19 P_2 P_20 P_3 P_4 P_5 P_6 P_7 P_8 P_9
                  exact x_join true H ⟨rfl, rfl, rfl, rfl, rfl, rfl, rfl, trivial⟩
                ·
                  refine sim_p 10 (ei := [(6, .int .u64 t6_4), (70, .bool false)]) (d := (some 71)) wf (by kernel_rfl) ⟨rfl, rfl, trivial⟩ (by kernel_rfl) (by kernel_rfl) (fun _ => pf_p tok rfl rfl rfl rfl) (fun P_10 => ?_)
                  refine sim_p 11 (ei := [(70, .bool false), (71, .int .u64 t6_4)]) (d := (some 72)) wf (by kernel_rfl) ⟨rfl, rfl, trivial⟩ (by kernel_rfl) (by kernel_rfl) (fun _ => pf_p tok rfl rfl rfl rfl) (fun P_11 => ?_)
                  refine sim_p 12 (ei := [(70, .bool false), (72, .bool (decide (t6_4 > 0)))]) (d := (some 73)) wf (by kernel_rfl) ⟨rfl, rfl, trivial⟩ (by kernel_rfl) (by kernel_rfl) (fun _ => pf_p tok rfl rfl rfl rfl) (fun P_12 => ?_)
                  refine sim_gif 73 H rfl (fun hb H => ?_) (fun hb H => ?_)
                  ·
                    refine sim_p 13 (ei := [(7, .pointer (some (⟨b29, 0, none⟩ : Addr))), (73, .bool true)]) (d := (some 74)) wf (by kernel_rfl) ⟨rfl, rfl, trivial⟩ (by kernel_rfl) (by kernel_rfl) (fun _ => pf_p tok rfl rfl rfl rfl) (fun P_13 => ?_)
                    obtain ⟨v49, hv49, H⟩ := H
                    refine sim_l 14 (ei := [(73, .bool true), (74, .pointer (some (⟨b29, 0, none⟩ : Addr)))]) (d := (some 75)) wf (by kernel_rfl) ⟨rfl, rfl, trivial⟩ (by kernel_rfl) (by kernel_rfl) (pf_y rfl rfl rfl (y_ld tok rfl rfl rfl rfl hv49)) (fun P_14 => ?_)
                    obtain ⟨v50, hv50, H⟩ := H
                    refine sim_l 15 (ei := [(3, .pointer (some (⟨b5, 0, none⟩ : Addr))), (73, .bool true)]) (d := (some 76)) wf (by kernel_rfl) ⟨rfl, rfl, trivial⟩ (by kernel_rfl) (by kernel_rfl) (pf_y rfl rfl rfl (y_lda tok rfl rfl rfl rfl rfl hv50)) (fun P_15 => ?_)
                    refine sim_c 16 [0, 1, 2, 3, 4, 5, 6, 7, 8, 9, 10, 11, 12, 15] [0, 1, 2, 3, 4, 5, 6, 7, 8, 9, 10, 11, 12, 15] (ei := [(73, .bool true), (76, .agg (S_api_Tenant.cs v50).toArray)]) reg_epoch_ok (reg_epoch_ref _ _ _ H) wf ⟨P_15, P_14, P_13 _, P_12 _, P_11 _, P_10 _, P_9 _, P_8 _, P_7 _, P_6 _, P_5 _, P_4 _, P_3, P_2 _, P_1 _, P_0 _, trivial⟩ (by kernel_rfl) ⟨rfl, rfl, trivial⟩ (by kernel_rfl) rfl rfl rfl rfl rfl ?_
                    rintro _ h52 ⟨r51, rfl, H⟩
                    obtain ⟨hy53, H⟩ := H
                    refine sim_re (x := ⟨14, .int .u32 v49, [(73, .bool true), (74, .pointer (some (⟨b29, 0, none⟩ : Addr)))]⟩) (pf_y rfl rfl rfl (y_ld tok rfl rfl rfl rfl hy53)) (fun P_14 => ?_)
                    refine sim_p 17 (ei := [(73, .bool true), (77, .int .u32 r51)]) (d := (some 78)) wf (by kernel_rfl) ⟨rfl, rfl, trivial⟩ (by kernel_rfl) (by kernel_rfl) (fun _ => pf_p tok rfl rfl rfl rfl) (fun P_17 => ?_)
                    refine sim_p 18 (ei := [(73, .bool true), (75, .int .u32 v49), (78, .int .u32 (IntKind.u32.wrap (r51 + 1)))]) (d := (some 79)) wf (by kernel_rfl) ⟨rfl, rfl, rfl, trivial⟩ (by kernel_rfl) (by kernel_rfl) (fun _ => pf_p tok rfl rfl rfl rfl) (fun P_18 => ?_)
                    refine sim_p 19 (ei := [(70, .bool false), (73, .bool true), (79, .bool (v49 != (IntKind.u32.wrap (r51 + 1))))]) (d := (some 80)) wf (by kernel_rfl) ⟨rfl, rfl, rfl, trivial⟩ (by kernel_rfl) (by kernel_rfl) (fun _ => pf_p tok rfl rfl rfl rfl) (fun P_19 => ?_)
                    refine sim_p 20 (ei := [(70, .bool false), (80, .bool (v49 != (IntKind.u32.wrap (r51 + 1))))]) (d := (some 81)) wf (by kernel_rfl) ⟨rfl, rfl, trivial⟩ (by kernel_rfl) (by kernel_rfl) (fun _ => pf_p tok rfl rfl rfl rfl) (fun P_20 => ?_)
                    refine sim_end wf ⟨P_20 _, P_19 _, P_18 _, P_17 _, trivial, P_14, P_13 _, trivial, trivial, trivial, trivial, trivial, trivial, trivial, trivial, trivial, trivial, trivial, trivial, trivial, trivial⟩ (by kernel_rfl) ?_
                    clear wf P_0 P_1 P_10 P_11 P_12 P_13 P_14 P_15 P_17 P_18 P_19 P_2 P_20 P_3 P_4 P_5 P_6 P_7 P_8 P_9
                    exact x_join (v49 != (IntKind.u32.wrap (r51 + 1))) H ⟨rfl, rfl, rfl, rfl, rfl, rfl, rfl, trivial⟩
                  ·
                    refine sim_p 13 (v := undef) (ei := [(7, .pointer (some (⟨b29, 0, none⟩ : Addr))), (73, .bool false)]) (d := (some 74)) wf (by kernel_rfl) ⟨rfl, rfl, trivial⟩ (by kernel_rfl) (by kernel_rfl) (fun _ => pf_s rfl rfl rfl) (fun P_13 => ?_)
                    refine sim_p 14 (v := undef) (ei := [(73, .bool false), (74, undef)]) (d := (some 75)) wf (by kernel_rfl) ⟨rfl, rfl, trivial⟩ (by kernel_rfl) (by kernel_rfl) (fun _ => pf_s rfl rfl rfl) (fun P_14 => ?_)
                    refine sim_p 15 (v := undef) (ei := [(3, .pointer (some (⟨b5, 0, none⟩ : Addr))), (73, .bool false)]) (d := (some 76)) wf (by kernel_rfl) ⟨rfl, rfl, trivial⟩ (by kernel_rfl) (by kernel_rfl) (fun _ => pf_s rfl rfl rfl) (fun P_15 => ?_)
                    refine sim_p 16 (v := undef) (ei := [(73, .bool false), (76, undef)]) (d := (some 77)) wf (by kernel_rfl) ⟨rfl, rfl, trivial⟩ (by kernel_rfl) (by kernel_rfl) (fun _ => pf_s rfl rfl rfl) (fun P_16 => ?_)
                    refine sim_p 17 (v := undef) (ei := [(73, .bool false), (77, undef)]) (d := (some 78)) wf (by kernel_rfl) ⟨rfl, rfl, trivial⟩ (by kernel_rfl) (by kernel_rfl) (fun _ => pf_s rfl rfl rfl) (fun P_17 => ?_)
                    refine sim_p 18 (v := undef) (ei := [(73, .bool false), (75, undef), (78, undef)]) (d := (some 79)) wf (by kernel_rfl) ⟨rfl, rfl, rfl, trivial⟩ (by kernel_rfl) (by kernel_rfl) (fun _ => pf_s rfl rfl rfl) (fun P_18 => ?_)
                    refine sim_p 19 (ei := [(70, .bool false), (73, .bool false), (79, undef)]) (d := (some 80)) wf (by kernel_rfl) ⟨rfl, rfl, rfl, trivial⟩ (by kernel_rfl) (by kernel_rfl) (fun _ => pf_p tok rfl rfl rfl rfl) (fun P_19 => ?_)
                    refine sim_p 20 (ei := [(70, .bool false), (80, .bool false)]) (d := (some 81)) wf (by kernel_rfl) ⟨rfl, rfl, trivial⟩ (by kernel_rfl) (by kernel_rfl) (fun _ => pf_p tok rfl rfl rfl rfl) (fun P_20 => ?_)
                    refine sim_end wf ⟨P_20 _, P_19 _, P_18 _, P_17 _, P_16 _, P_15 _, P_14 _, P_13 _, P_12 _, P_11 _, P_10 _, P_9 _, P_8 _, P_7 _, P_6 _, P_5 _, P_4 _, P_3, P_2 _, P_1 _, P_0 _, trivial⟩ (by kernel_rfl) ?_
                    clear wf P_0 P_1 P_10 P_11 P_12 P_13 P_14 P_15 P_16 P_17 P_18 P_19 P_2 P_20 P_3 P_4 P_5 P_6 P_7 P_8 P_9
                    exact x_join false H ⟨rfl, rfl, rfl, rfl, rfl, rfl, rfl, trivial⟩
              ·
                refine sim_p 5 (ei := [(7, .pointer (some (⟨b29, 0, none⟩ : Addr))), (65, .bool false)]) (d := (some 66)) wf (by kernel_rfl) ⟨rfl, rfl, trivial⟩ (by kernel_rfl) (by kernel_rfl) (fun _ => pf_p tok rfl rfl rfl rfl) (fun P_5 => ?_)
                obtain ⟨v54, hv54, H⟩ := H
                refine sim_l 6 (ei := [(65, .bool false), (66, .pointer (some (⟨b29, 0, none⟩ : Addr)))]) (d := (some 67)) wf (by kernel_rfl) ⟨rfl, rfl, trivial⟩ (by kernel_rfl) (by kernel_rfl) (pf_y rfl rfl rfl (y_ld tok rfl rfl rfl rfl hv54)) (fun P_6 => ?_)
                refine sim_p 7 (ei := [(65, .bool false), (67, .int .u32 v54)]) (d := (some 68)) wf (by kernel_rfl) ⟨rfl, rfl, trivial⟩ (by kernel_rfl) (by kernel_rfl) (fun _ => pf_p tok rfl rfl rfl rfl) (fun P_7 => ?_)
                refine sim_p 8 (ei := [(65, .bool false), (68, .bool (v54 == 0))]) (d := (some 69)) wf (by kernel_rfl) ⟨rfl, rfl, trivial⟩ (by kernel_rfl) (by kernel_rfl) (fun _ => pf_p tok rfl rfl rfl rfl) (fun P_8 => ?_)
                refine sim_p 9 (ei := [(69, .bool (v54 == 0))]) (d := (some 70)) wf (by kernel_rfl) ⟨rfl, trivial⟩ (by kernel_rfl) (by kernel_rfl) (fun _ => pf_p tok rfl rfl rfl rfl) (fun P_9 => ?_)
                refine sim_gif 70 H rfl (fun hb H => ?_) (fun hb H => ?_)
                ·
                  refine sim_p 10 (v := undef) (ei := [(6, .int .u64 t6_4), (70, .bool true)]) (d := (some 71)) wf (by kernel_rfl) ⟨rfl, rfl, trivial⟩ (by kernel_rfl) (by kernel_rfl) (fun _ => pf_s rfl rfl rfl) (fun P_10 => ?_)
                  refine sim_p 11 (v := undef) (ei := [(70, .bool true), (71, undef)]) (d := (some 72)) wf (by kernel_rfl) ⟨rfl, rfl, trivial⟩ (by kernel_rfl) (by kernel_rfl) (fun _ => pf_s rfl rfl rfl) (fun P_11 => ?_)
                  refine sim_p 12 (v := undef) (ei := [(70, .bool true), (72, undef)]) (d := (some 73)) wf (by kernel_rfl) ⟨rfl, rfl, trivial⟩ (by kernel_rfl) (by kernel_rfl) (fun _ => pf_s rfl rfl rfl) (fun P_12 => ?_)
                  refine sim_p 13 (v := undef) (ei := [(7, .pointer (some (⟨b29, 0, none⟩ : Addr))), (73, undef)]) (d := (some 74)) wf (by kernel_rfl) ⟨rfl, rfl, trivial⟩ (by kernel_rfl) (by kernel_rfl) (fun _ => pf_s rfl rfl rfl) (fun P_13 => ?_)
                  refine sim_p 14 (v := undef) (ei := [(73, undef), (74, undef)]) (d := (some 75)) wf (by kernel_rfl) ⟨rfl, rfl, trivial⟩ (by kernel_rfl) (by kernel_rfl) (fun _ => pf_s rfl rfl rfl) (fun P_14 => ?_)
                  refine sim_p 15 (v := undef) (ei := [(3, .pointer (some (⟨b5, 0, none⟩ : Addr))), (73, undef)]) (d := (some 76)) wf (by kernel_rfl) ⟨rfl, rfl, trivial⟩ (by kernel_rfl) (by kernel_rfl) (fun _ => pf_s rfl rfl rfl) (fun P_15 => ?_)
                  refine sim_p 16 (v := undef) (ei := [(73, undef), (76, undef)]) (d := (some 77)) wf (by kernel_rfl) ⟨rfl, rfl, trivial⟩ (by kernel_rfl) (by kernel_rfl) (fun _ => pf_s rfl rfl rfl) (fun P_16 => ?_)
                  refine sim_p 17 (v := undef) (ei := [(73, undef), (77, undef)]) (d := (some 78)) wf (by kernel_rfl) ⟨rfl, rfl, trivial⟩ (by kernel_rfl) (by kernel_rfl) (fun _ => pf_s rfl rfl rfl) (fun P_17 => ?_)
                  refine sim_p 18 (v := undef) (ei := [(73, undef), (75, undef), (78, undef)]) (d := (some 79)) wf (by kernel_rfl) ⟨rfl, rfl, rfl, trivial⟩ (by kernel_rfl) (by kernel_rfl) (fun _ => pf_s rfl rfl rfl) (fun P_18 => ?_)
                  refine sim_p 19 (v := undef) (ei := [(70, .bool true), (73, undef), (79, undef)]) (d := (some 80)) wf (by kernel_rfl) ⟨rfl, rfl, rfl, trivial⟩ (by kernel_rfl) (by kernel_rfl) (fun _ => pf_s rfl rfl rfl) (fun P_19 => ?_)
                  refine sim_p 20 (ei := [(70, .bool true), (80, undef)]) (d := (some 81)) wf (by kernel_rfl) ⟨rfl, rfl, trivial⟩ (by kernel_rfl) (by kernel_rfl) (fun _ => pf_p tok rfl rfl rfl rfl) (fun P_20 => ?_)
                  refine sim_end wf ⟨P_20 _, P_19 _, P_18 _, P_17 _, P_16 _, P_15 _, P_14 _, P_13 _, P_12 _, P_11 _, P_10 _, P_9 _, P_8 _, P_7 _, P_6, P_5 _, P_4 _, P_3, P_2 _, P_1 _, P_0 _, trivial⟩ (by kernel_rfl) ?_
                  clear wf P_0 P_1 P_10 P_11 P_12 P_13 P_14 P_15 P_16 P_17 P_18 P_19 P_2 P_20 P_3 P_4 P_5 P_6 P_7 P_8 P_9
                  exact x_join true H ⟨rfl, rfl, rfl, rfl, rfl, rfl, rfl, trivial⟩
                ·
                  refine sim_p 10 (ei := [(6, .int .u64 t6_4), (70, .bool false)]) (d := (some 71)) wf (by kernel_rfl) ⟨rfl, rfl, trivial⟩ (by kernel_rfl) (by kernel_rfl) (fun _ => pf_p tok rfl rfl rfl rfl) (fun P_10 => ?_)
                  refine sim_p 11 (ei := [(70, .bool false), (71, .int .u64 t6_4)]) (d := (some 72)) wf (by kernel_rfl) ⟨rfl, rfl, trivial⟩ (by kernel_rfl) (by kernel_rfl) (fun _ => pf_p tok rfl rfl rfl rfl) (fun P_11 => ?_)
                  refine sim_p 12 (ei := [(70, .bool false), (72, .bool (decide (t6_4 > 0)))]) (d := (some 73)) wf (by kernel_rfl) ⟨rfl, rfl, trivial⟩ (by kernel_rfl) (by kernel_rfl) (fun _ => pf_p tok rfl rfl rfl rfl) (fun P_12 => ?_)
                  refine sim_gif 73 H rfl (fun hb H => ?_) (fun hb H => ?_)
                  ·
                    refine sim_p 13 (ei := [(7, .pointer (some (⟨b29, 0, none⟩ : Addr))), (73, .bool true)]) (d := (some 74)) wf (by kernel_rfl) ⟨rfl, rfl, trivial⟩ (by kernel_rfl) (by kernel_rfl) (fun _ => pf_p tok rfl rfl rfl rfl) (fun P_13 => ?_)
                    obtain ⟨v55, hv55, H⟩ := H
                    refine sim_l 14 (ei := [(73, .bool true), (74, .pointer (some (⟨b29, 0, none⟩ : Addr)))]) (d := (some 75)) wf (by kernel_rfl) ⟨rfl, rfl, trivial⟩ (by kernel_rfl) (by kernel_rfl) (pf_y rfl rfl rfl (y_ld tok rfl rfl rfl rfl hv55)) (fun P_14 => ?_)
                    obtain ⟨v56, hv56, H⟩ := H
                    refine sim_l 15 (ei := [(3, .pointer (some (⟨b5, 0, none⟩ : Addr))), (73, .bool true)]) (d := (some 76)) wf (by kernel_rfl) ⟨rfl, rfl, trivial⟩ (by kernel_rfl) (by kernel_rfl) (pf_y rfl rfl rfl (y_lda tok rfl rfl rfl rfl rfl hv56)) (fun P_15 => ?_)
                    refine sim_c 16 [0, 1, 2, 3, 4, 5, 6, 7, 8, 9, 10, 11, 12, 15] [0, 1, 2, 3, 4, 5, 6, 7, 8, 9, 10, 11, 12, 15] (ei := [(73, .bool true), (76, .agg (S_api_Tenant.cs v56).toArray)]) reg_epoch_ok (reg_epoch_ref _ _ _ H) wf ⟨P_15, P_14, P_13 _, P_12 _, P_11 _, P_10 _, P_9 _, P_8 _, P_7 _, P_6, P_5 _, P_4 _, P_3, P_2 _, P_1 _, P_0 _, trivial⟩ (by kernel_rfl) ⟨rfl, rfl, trivial⟩ (by kernel_rfl) rfl rfl rfl rfl rfl ?_
                    rintro _ h58 ⟨r57, rfl, H⟩
                    obtain ⟨hy59, H⟩ := H
                    refine sim_re (x := ⟨14, .int .u32 v55, [(73, .bool true), (74, .pointer (some (⟨b29, 0, none⟩ : Addr)))]⟩) (pf_y rfl rfl rfl (y_ld tok rfl rfl rfl rfl hy59)) (fun P_14 => ?_)
                    refine sim_p 17 (ei := [(73, .bool true), (77, .int .u32 r57)]) (d := (some 78)) wf (by kernel_rfl) ⟨rfl, rfl, trivial⟩ (by kernel_rfl) (by kernel_rfl) (fun _ => pf_p tok rfl rfl rfl rfl) (fun P_17 => ?_)
                    refine sim_p 18 (ei := [(73, .bool true), (75, .int .u32 v55), (78, .int .u32 (IntKind.u32.wrap (r57 + 1)))]) (d := (some 79)) wf (by kernel_rfl) ⟨rfl, rfl, rfl, trivial⟩ (by kernel_rfl) (by kernel_rfl) (fun _ => pf_p tok rfl rfl rfl rfl) (fun P_18 => ?_)
                    refine sim_p 19 (ei := [(70, .bool false), (73, .bool true), (79, .bool (v55 != (IntKind.u32.wrap (r57 + 1))))]) (d := (some 80)) wf (by kernel_rfl) ⟨rfl, rfl, rfl, trivial⟩ (by kernel_rfl) (by kernel_rfl) (fun _ => pf_p tok rfl rfl rfl rfl) (fun P_19 => ?_)
                    refine sim_p 20 (ei := [(70, .bool false), (80, .bool (v55 != (IntKind.u32.wrap (r57 + 1))))]) (d := (some 81)) wf (by kernel_rfl) ⟨rfl, rfl, trivial⟩ (by kernel_rfl) (by kernel_rfl) (fun _ => pf_p tok rfl rfl rfl rfl) (fun P_20 => ?_)
                    refine sim_end wf ⟨P_20 _, P_19 _, P_18 _, P_17 _, trivial, P_14, P_13 _, trivial, trivial, trivial, trivial, trivial, trivial, trivial, trivial, trivial, trivial, trivial, trivial, trivial, trivial⟩ (by kernel_rfl) ?_
                    clear wf P_0 P_1 P_10 P_11 P_12 P_13 P_14 P_15 P_17 P_18 P_19 P_2 P_20 P_3 P_4 P_5 P_6 P_7 P_8 P_9
                    exact x_join (v55 != (IntKind.u32.wrap (r57 + 1))) H ⟨rfl, rfl, rfl, rfl, rfl, rfl, rfl, trivial⟩
                  ·
                    refine sim_p 13 (v := undef) (ei := [(7, .pointer (some (⟨b29, 0, none⟩ : Addr))), (73, .bool false)]) (d := (some 74)) wf (by kernel_rfl) ⟨rfl, rfl, trivial⟩ (by kernel_rfl) (by kernel_rfl) (fun _ => pf_s rfl rfl rfl) (fun P_13 => ?_)
                    refine sim_p 14 (v := undef) (ei := [(73, .bool false), (74, undef)]) (d := (some 75)) wf (by kernel_rfl) ⟨rfl, rfl, trivial⟩ (by kernel_rfl) (by kernel_rfl) (fun _ => pf_s rfl rfl rfl) (fun P_14 => ?_)
                    refine sim_p 15 (v := undef) (ei := [(3, .pointer (some (⟨b5, 0, none⟩ : Addr))), (73, .bool false)]) (d := (some 76)) wf (by kernel_rfl) ⟨rfl, rfl, trivial⟩ (by kernel_rfl) (by kernel_rfl) (fun _ => pf_s rfl rfl rfl) (fun P_15 => ?_)
                    refine sim_p 16 (v := undef) (ei := [(73, .bool false), (76, undef)]) (d := (some 77)) wf (by kernel_rfl) ⟨rfl, rfl, trivial⟩ (by kernel_rfl) (by kernel_rfl) (fun _ => pf_s rfl rfl rfl) (fun P_16 => ?_)
                    refine sim_p 17 (v := undef) (ei := [(73, .bool false), (77, undef)]) (d := (some 78)) wf (by kernel_rfl) ⟨rfl, rfl, trivial⟩ (by kernel_rfl) (by kernel_rfl) (fun _ => pf_s rfl rfl rfl) (fun P_17 => ?_)
                    refine sim_p 18 (v := undef) (ei := [(73, .bool false), (75, undef), (78, undef)]) (d := (some 79)) wf (by kernel_rfl) ⟨rfl, rfl, rfl, trivial⟩ (by kernel_rfl) (by kernel_rfl) (fun _ => pf_s rfl rfl rfl) (fun P_18 => ?_)
                    refine sim_p 19 (ei := [(70, .bool false), (73, .bool false), (79, undef)]) (d := (some 80)) wf (by kernel_rfl) ⟨rfl, rfl, rfl, trivial⟩ (by kernel_rfl) (by kernel_rfl) (fun _ => pf_p tok rfl rfl rfl rfl) (fun P_19 => ?_)
                    refine sim_p 20 (ei := [(70, .bool false), (80, .bool false)]) (d := (some 81)) wf (by kernel_rfl) ⟨rfl, rfl, trivial⟩ (by kernel_rfl) (by kernel_rfl) (fun _ => pf_p tok rfl rfl rfl rfl) (fun P_20 => ?_)
                    refine sim_end wf ⟨P_20 _, P_19 _, P_18 _, P_17 _, P_16 _, P_15 _, P_14 _, P_13 _, P_12 _, P_11 _, P_10 _, P_9 _, P_8 _, P_7 _, P_6, P_5 _, P_4 _, P_3, P_2 _, P_1 _, P_0 _, trivial⟩ (by kernel_rfl) ?_
                    clear wf P_0 P_1 P_10 P_11 P_12 P_13 P_14 P_15 P_16 P_17 P_18 P_19 P_2 P_20 P_3 P_4 P_5 P_6 P_7 P_8 P_9
                    exact x_join false H ⟨rfl, rfl, rfl, rfl, rfl, rfl, rfl, trivial⟩
          ·
            refine c_exit ?_
            refine x_te ?_
            refine x_te ?_
            refine x_bh ?_
            exact x_join () H ⟨rfl, rfl, trivial⟩
      ·
        refine w_gif (d := 37) H rfl (fun H => ?_) (fun H => ?_)
        ·
          refine w_skip rfl rfl ?_
          refine w_skip rfl rfl ?_
          refine w_skip rfl rfl ?_
          refine w_skip rfl rfl ?_
          refine w_skip rfl rfl ?_
          refine w_p tok rfl rfl rfl ?_
          exact w_jn true H ⟨rfl, rfl, rfl, rfl, rfl, rfl, trivial⟩
        ·
          refine w_p tok rfl rfl rfl ?_
          obtain ⟨v60, hv60, H⟩ := H
          refine w_y (y_ld tok rfl rfl rfl rfl hv60) rfl rfl ?_
          refine w_p tok rfl rfl rfl ?_
          refine w_p tok rfl rfl rfl ?_
          refine w_p tok rfl rfl rfl ?_
          refine w_p tok rfl rfl rfl ?_
          exact w_jn (!(v60 == (r16 == 0))) H ⟨rfl, rfl, rfl, rfl, rfl, rfl, trivial⟩
    ·
      refine w_gif (d := 31) H rfl (fun H => ?_) (fun H => ?_)
      ·
        refine w_skip rfl rfl ?_
        refine w_skip rfl rfl ?_
        refine w_skip rfl rfl ?_
        refine w_skip rfl rfl ?_
        refine w_p tok rfl rfl rfl ?_
        exact w_jn true H ⟨rfl, rfl, rfl, rfl, rfl, rfl, trivial⟩
      ·
        refine w_p tok rfl rfl rfl ?_
        obtain ⟨v61, hv61, H⟩ := H
        refine w_y (y_ld tok rfl rfl rfl rfl hv61) rfl rfl ?_
        refine w_call box_Name_ok (box_Name_ref _ _ _ H) rfl rfl rfl rfl ?_
        rintro _ h63 ⟨r62, rfl, H⟩
        refine w_p tok rfl rfl rfl ?_
        refine w_p tok rfl rfl rfl ?_
        exact w_jn (!r62) H ⟨rfl, rfl, rfl, rfl, rfl, rfl, trivial⟩
  ·
    refine w_gs (d := 27) rfl (fun hb => ?_) (fun hb => ?_)
    ·
      refine w_skip rfl rfl ?_
      refine w_skip rfl rfl ?_
      refine w_p tok rfl rfl rfl ?_
      refine w_jn () rfl ⟨?_, rfl, rfl, rfl, rfl, rfl, trivial⟩
      exact congrArg (fun b => some (Value.bool b)) (or_t hb)
    ·
      refine w_p tok rfl rfl rfl ?_
      refine w_p tok rfl rfl rfl ?_
      refine w_p tok rfl rfl rfl ?_
      refine w_jn () rfl ⟨?_, rfl, rfl, rfl, rfl, rfl, trivial⟩
      exact congrArg (fun b => some (Value.bool b)) (or_f hb)

theorem reg_From_ok : CallOk Go.Proofs.Try.prog 82 := ⟨_, Go.Proofs.Try.func82, by kernel_rfl, by kernel_rfl⟩
theorem reg_From_ref (p0 : Slc) (k : (Option Addr × Int) → Heap → Prop) (h : Heap) (H : reg_From p0 k h) : CallsH Go.Proofs.Try.prog 82 #[Slc.v p0] h (fun v h' => ∃ r : Option Addr × Int, v = .tuple #[.pointer r.1, .int .i64 r.2] ∧ k r h') := by
  refine f_enter (N := 73) Go.Proofs.Try.func82 rfl rfl rfl (fun w0 => ?_)
  unfold reg_From at H
  refine c_weak [(0, Slc.v p0)] ⟨rfl, trivial⟩ ?_
  refine c_seq ?_
  refine c_region ?_
  refine w_p tok rfl rfl rfl ?_
  refine w_p tok rfl rfl rfl ?_
  refine w_end ?_
  refine x_seq ?_
  refine c_seq ?_
  refine c_region ?_
  refine w_p tok rfl rfl rfl ?_
  refine w_y (y_build tok rfl rfl rfl rfl rfl) rfl rfl ?_
  obtain ⟨b1, h2, eb1, eh2, H⟩ := H
  refine w_h (h_box rfl rfl eb1 eh2) rfl rfl ?_
  refine w_p tok rfl rfl rfl ?_
  refine w_end ?_
  refine x_seq ?_
  refine c_seq ?_
  refine c_region ?_
  refine w_call reg_New_ok (reg_New_ref  _ _ H) rfl rfl rfl rfl ?_
  rintro _ h4 ⟨r3, rfl, H⟩
  refine w_p tok rfl rfl rfl ?_
  refine w_end ?_
  refine x_seq ?_
  refine c_weak [(4, .pointer (some (⟨b1, 0, none⟩ : Addr))), (5, .pointer r3)] ⟨rfl, rfl, trivial⟩ ?_
  refine c_seq ?_
  refine c_region ?_
  refine w_p tok rfl rfl rfl ?_
  refine w_end ?_
  refine x_seq ?_
  refine c_seq ?_
  refine c_seq ?_
  refine c_region ?_
  refine w_p tok rfl rfl rfl ?_
  refine w_call reg_reader_short_ok (reg_reader_short_ref _ _ _ H) rfl rfl rfl rfl ?_
  rintro _ h6 ⟨r5, rfl, H⟩
  refine w_p tok rfl rfl rfl ?_
  refine w_end ?_
  refine x_seq ?_
  refine c_block ?_
  obtain ⟨I1, μ1, H0, HI⟩ := H
  refine c_loop (σ := ByteArray × Int) (fun (s : ByteArray × Int) => [(6, .string s.1), (7, .int .u64 s.2), (4, .pointer (some (⟨b1, 0, none⟩ : Addr))), (5, .pointer r3)]) I1 μ1 ((⟨#[]⟩ : ByteArray), r5) H0 ⟨rfl, rfl, rfl, rfl, trivial⟩ ?_
  rintro ⟨t6_1, t7_1⟩ h_1 H
  replace H := HI t6_1 t7_1 h_1 H
  unfold reg_From_l1b at H
  refine c_weak [(6, .string t6_1), (7, .int .u64 t7_1), (4, .pointer (some (⟨b1, 0, none⟩ : Addr))), (5, .pointer r3)] ⟨rfl, rfl, rfl, rfl, trivial⟩ ?_
  refine c_seq ?_
  refine c_seq ?_
  refine c_region ?_
  refine w_p tok rfl rfl rfl ?_
  refine w_p tok rfl rfl rfl ?_
  refine w_p tok rfl rfl rfl ?_
  refine w_cut 6 (α := Bool) (fun (s : Bool) => [(23, .bool s), (4, .pointer (some (⟨b1, 0, none⟩ : Addr))), (5, .pointer r3), (6, .string t6_1), (7, .int .u64 t7_1)]) (fun (s : Bool) h => reg_From_g2 (⟨b1, 0, none⟩ : Addr) r3 t6_1 t7_1 s k (fun s h' => I1 s h' ∧ μ1 s h' < μ1 (t6_1, t7_1) h_1) h) ?_ ?_
  ·
    rintro t23_2 h_2 H
    replace H : reg_From_g2 (⟨b1, 0, none⟩ : Addr) r3 t6_1 t7_1 t23_2 k (fun s h' => I1 s h' ∧ μ1 s h' < μ1 (t6_1, t7_1) h_1) h_2 := H
    unfold reg_From_g2 at H
    refine w_weak [(23, .bool t23_2), (4, .pointer (some (⟨b1, 0, none⟩ : Addr))), (5, .pointer r3), (6, .string t6_1), (7, .int .u64 t7_1)] ⟨rfl, rfl, rfl, rfl, rfl, trivial⟩ ?_
    refine w_end ?_
    refine x_seq ?_
    refine c_if H rfl (fun H => ?_) (fun H => ?_)
    ·
      refine c_skip ?_
      refine x_seq ?_
      refine c_seq ?_
      refine c_block ?_
      refine c_seq ?_
      refine c_region ?_
      refine w_p tok rfl rfl rfl ?_
      refine w_call reg_reader_tenant_ok (reg_reader_tenant_ref _ _ _ H) rfl rfl rfl rfl ?_
      rintro _ h8 ⟨r7, rfl, H⟩
      obtain ⟨b9, h10, eb9, eh10, H⟩ := H
      refine w_h (h_alloc tok rfl rfl eb9 eh10) rfl rfl ?_
      obtain ⟨h11, wh11, eh11, H⟩ := H
      refine w_h (h_sts tok rfl rfl rfl rfl rfl (oneC (by kernel_rfl)) wh11 eh11) rfl rfl ?_
      refine w_end ?_
      refine x_seq ?_
      refine c_seq ?_
      refine c_region ?_
      refine w_p tok rfl rfl rfl ?_
      refine w_p tok rfl rfl rfl ?_
      refine w_y (y_nil rfl rfl) rfl rfl ?_
      refine w_p tok rfl rfl rfl ?_
      obtain ⟨v12, hv12, H⟩ := H
      refine w_y (y_ld tok rfl rfl rfl rfl hv12) rfl rfl ?_
      refine w_p tok rfl rfl rfl ?_
      refine w_cut 5 (α := Bool) (fun (s : Bool) => [(38, .bool s), (4, .pointer (some (⟨b1, 0, none⟩ : Addr))), (5, .pointer r3), (7, .int .u64 t7_1), (8, .pointer (some (⟨b9, 0, none⟩ : Addr))), (28, .pointer (some (⟨b1, 0, none⟩ : Addr)))]) (fun (s : Bool) h => reg_From_g3 (⟨b1, 0, none⟩ : Addr) r3 t7_1 (⟨b9, 0, none⟩ : Addr) (⟨b1, 0, none⟩ : Addr) s k (fun s h' => I1 s h' ∧ μ1 s h' < μ1 (t6_1, t7_1) h_1) h) ?_ ?_
      ·
        rintro t38_3 h_3 H
        replace H : reg_From_g3 (⟨b1, 0, none⟩ : Addr) r3 t7_1 (⟨b9, 0, none⟩ : Addr) (⟨b1, 0, none⟩ : Addr) t38_3 k (fun s h' => I1 s h' ∧ μ1 s h' < μ1 (t6_1, t7_1) h_1) h_3 := H
        unfold reg_From_g3 at H
        refine w_weak [(38, .bool t38_3), (4, .pointer (some (⟨b1, 0, none⟩ : Addr))), (5, .pointer r3), (7, .int .u64 t7_1), (8, .pointer (some (⟨b9, 0, none⟩ : Addr))), (28, .pointer (some (⟨b1, 0, none⟩ : Addr)))] ⟨rfl, rfl, rfl, rfl, rfl, rfl, trivial⟩ ?_
        refine w_p tok rfl rfl rfl ?_
        refine w_cut 7 (α := Bool) (fun (s : Bool) => [(46, .bool s), (4, .pointer (some (⟨b1, 0, none⟩ : Addr))), (5, .pointer r3), (7, .int .u64 t7_1), (8, .pointer (some (⟨b9, 0, none⟩ : Addr))), (28, .pointer (some (⟨b1, 0, none⟩ : Addr)))]) (fun (s : Bool) h => reg_From_g4 (⟨b1, 0, none⟩ : Addr) r3 t7_1 (⟨b9, 0, none⟩ : Addr) (⟨b1, 0, none⟩ : Addr) s k (fun s h' => I1 s h' ∧ μ1 s h' < μ1 (t6_1, t7_1) h_1) h) ?_ ?_
        ·
          rintro t46_4 h_4 H
          replace H : reg_From_g4 (⟨b1, 0, none⟩ : Addr) r3 t7_1 (⟨b9, 0, none⟩ : Addr) (⟨b1, 0, none⟩ : Addr) t46_4 k (fun s h' => I1 s h' ∧ μ1 s h' < μ1 (t6_1, t7_1) h_1) h_4 := H
          unfold reg_From_g4 at H
          refine w_weak [(46, .bool t46_4), (4, .pointer (some (⟨b1, 0, none⟩ : Addr))), (5, .pointer r3), (7, .int .u64 t7_1), (8, .pointer (some (⟨b9, 0, none⟩ : Addr))), (28, .pointer (some (⟨b1, 0, none⟩ : Addr)))] ⟨rfl, rfl, rfl, rfl, rfl, rfl, trivial⟩ ?_
          refine w_y (y_nil rfl rfl) rfl rfl ?_
          refine w_p tok rfl rfl rfl ?_
          obtain ⟨h13, wh13, eh13, H⟩ := H
          refine w_h (h_st tok rfl rfl rfl rfl rfl rfl wh13 eh13) rfl rfl ?_
          refine w_end ?_
          refine x_seq ?_
          refine c_sim [(4, .pointer (some (⟨b1, 0, none⟩ : Addr))), (5, .pointer r3), (7, .int .u64 t7_1), (8, .pointer (some (⟨b9, 0, none⟩ : Addr)))] (by kernel_rfl) (by kernel_rfl) ⟨rfl, rfl, rfl, rfl, trivial⟩ (fun wf => ?_)
          refine sim_p 0 (ei := [(5, .pointer r3)]) (d := (some 49)) wf (by kernel_rfl) ⟨rfl, trivial⟩ (by kernel_rfl) (by kernel_rfl) (fun _ => pf_p tok rfl rfl rfl rfl) (fun P_0 => ?_)
          obtain ⟨a14, ha14, H⟩ := H
          refine sim_p 1 (ei := [(49, .pointer r3)]) (d := (some 50)) wf (by kernel_rfl) ⟨rfl, trivial⟩ (by kernel_rfl) (by kernel_rfl) (fun _ => pf_y rfl rfl rfl (y_nil' rfl rfl ha14)) (fun P_1 => ?_)
          refine sim_p 2 (ei := [(50, .pointer (some a14))]) (d := (some 51)) wf (by kernel_rfl) ⟨rfl, trivial⟩ (by kernel_rfl) (by kernel_rfl) (fun _ => pf_p tok rfl rfl rfl rfl) (fun P_2 => ?_)
          obtain ⟨v15, hv15, H⟩ := H
          refine sim_l 3 (ei := [(51, .pointer (some a14))]) (d := (some 52)) wf (by kernel_rfl) ⟨rfl, trivial⟩ (by kernel_rfl) (by kernel_rfl) (pf_y rfl rfl rfl (y_ld tok rfl rfl rfl rfl hv15)) (fun P_3 => ?_)
          refine sim_p 4 (ei := [(8, .pointer (some (⟨b9, 0, none⟩ : Addr)))]) (d := (some 53)) wf (by kernel_rfl) ⟨rfl, trivial⟩ (by kernel_rfl) (by kernel_rfl) (fun _ => pf_p tok rfl rfl rfl rfl) (fun P_4 => ?_)
          obtain ⟨v16, hv16, H⟩ := H
          refine sim_l 5 (ei := [(53, .pointer (some (⟨b9, 0, none⟩ : Addr)))]) (d := (some 54)) wf (by kernel_rfl) ⟨rfl, trivial⟩ (by kernel_rfl) (by kernel_rfl) (pf_y rfl rfl rfl (y_ld tok rfl rfl rfl rfl hv16)) (fun P_5 => ?_)
          obtain ⟨v17, hv17, H⟩ := H
          refine sim_l 6 (ei := [(8, .pointer (some (⟨b9, 0, none⟩ : Addr)))]) (d := (some 55)) wf (by kernel_rfl) ⟨rfl, trivial⟩ (by kernel_rfl) (by kernel_rfl) (pf_y rfl rfl rfl (y_lda tok rfl rfl rfl rfl rfl hv17)) (fun P_6 => ?_)
          refine sim_p 7 (ei := [(8, .pointer (some (⟨b9, 0, none⟩ : Addr)))]) (d := (some 56)) wf (by kernel_rfl) ⟨rfl, trivial⟩ (by kernel_rfl) (by kernel_rfl) (fun _ => pf_p tok rfl rfl rfl rfl) (fun P_7 => ?_)
          obtain ⟨v18, hv18, H⟩ := H
          refine sim_l 8 (ei := [(56, .pointer (some (⟨b9, 0, none⟩ : Addr)))]) (d := (some 57)) wf (by kernel_rfl) ⟨rfl, trivial⟩ (by kernel_rfl) (by kernel_rfl) (pf_y rfl rfl rfl (y_ld tok rfl rfl rfl rfl hv18)) (fun P_8 => ?_)
          obtain ⟨r19, l20, h21, er19, hl20, eh21, H⟩ := H
          refine sim_h 9 [0, 1, 2, 3, 4, 5] [0, 1, 2, 3, 4, 5] (ei := [(52, .map v15), (54, .string v16)]) wf ⟨P_8, P_7 _, P_6, P_5, P_4 _, P_3, P_2 _, P_1 _, P_0 _, trivial⟩ (by kernel_rfl) ⟨rfl, rfl, trivial⟩ (by kernel_rfl) rfl rfl rfl (h_me (K := ByteArray) (V := S_api_Tenant) (d := .string) (kf := Value.string) (vf := (fun v : S_api_Tenant => Value.agg (S_api_Tenant.cs v).toArray)) (kt := 9) (et := 130) (k := v16) (z := (⟨ByteArray.empty, (⟨none, 0, 0⟩ : Slc), 0, false⟩ : S_api_Tenant)) (m := v15) (l := l20) rfl rfl rfl (by kernel_rfl) (by kernel_rfl) kStr (zero_a tok (T := tab) rfl rfl rfl) er19 hl20 eh21) ?_
          obtain ⟨hy22, hy23, H⟩ := H
          refine sim_re (x := ⟨8, .string v18, [(56, .pointer (some (⟨b9, 0, none⟩ : Addr)))]⟩) (pf_y rfl rfl rfl (y_ld tok rfl rfl rfl rfl hy22)) (fun P_8 => ?_)
          refine sim_re (x := ⟨6, .agg (S_api_Tenant.cs v17).toArray, [(8, .pointer (some (⟨b9, 0, none⟩ : Addr)))]⟩) (pf_y rfl rfl rfl (y_lda tok rfl rfl rfl rfl rfl hy23)) (fun P_6 => ?_)
          refine sim_p 10 (ei := [(58, (.tuple #[.agg (S_api_Tenant.cs ((mget l20 v16).getD (⟨ByteArray.empty, (⟨none, 0, 0⟩ : Slc), 0, false⟩ : S_api_Tenant))).toArray, .int .i64 (stampOf h13 r19 (Value.string v16))]))]) (d := (some 59)) wf (by kernel_rfl) ⟨rfl, trivial⟩ (by kernel_rfl) (by kernel_rfl) (fun _ => pf_p tok rfl rfl rfl rfl) (fun P_10 => ?_)
          obtain ⟨r24, h25, er24, Sr24, eh25, H⟩ := H
          refine sim_h 11 [0, 1, 2, 3, 4, 5, 6, 9, 10] [0, 1, 2, 3, 4, 5, 6, 10] (ei := [(52, .map v15), (55, .agg (S_api_Tenant.cs v17).toArray), (59, .int .i64 (stampOf h13 r19 (Value.string v16)))]) wf ⟨P_10 _, P_8, P_7 _, P_6, trivial, trivial, trivial, trivial, trivial, trivial, trivial⟩ (by kernel_rfl) ⟨rfl, rfl, rfl, trivial⟩ (by kernel_rfl) rfl rfl rfl (h_es (m := v15) (key := (Value.string v16)) (v := .agg (S_api_Tenant.cs v17).toArray) (n := (stampOf h13 r19 (Value.string v16))) rfl rfl rfl rfl er24 Sr24 eh25) ?_
          obtain ⟨hy26, H⟩ := H
          refine sim_re (x := ⟨8, .string v18, [(56, .pointer (some (⟨b9, 0, none⟩ : Addr)))]⟩) (pf_y rfl rfl rfl (y_ld tok rfl rfl rfl rfl hy26)) (fun P_8 => ?_)
          refine sim_p 12 (ei := [(57, .string v18)]) (d := (some 6)) wf (by kernel_rfl) ⟨rfl, trivial⟩ (by kernel_rfl) (by kernel_rfl) (fun _ => pf_p tok rfl rfl rfl rfl) (fun P_12 => ?_)
          refine sim_end wf ⟨P_12 _, trivial, P_8, P_7 _, trivial, trivial, trivial, trivial, trivial, trivial, trivial, trivial⟩ (by kernel_rfl) ?_
          clear wf P_0 P_1 P_10 P_12 P_2 P_3 P_4 P_5 P_6 P_7 P_8
          refine x_blk ?_
          refine x_seq ?_
          refine c_weak [(4, .pointer (some (⟨b1, 0, none⟩ : Addr))), (5, .pointer r3), (7, .int .u64 t7_1), (6, .string v18)] ⟨rfl, rfl, rfl, rfl, trivial⟩ ?_
          refine c_region ?_
          refine w_p tok rfl rfl rfl ?_
          refine w_p tok rfl rfl rfl ?_
          obtain ⟨x27, ex27, H⟩ := H
          refine w_pe tok rfl (congrArg (fun z => (.int .u64 z : Value)) ex27) rfl rfl ?_
          refine w_end ?_
          exact x_join (v18, x27) H ⟨rfl, rfl, rfl, rfl, trivial⟩
        ·
          refine w_gif (d := 39) H rfl (fun H => ?_) (fun H => ?_)
          ·
            refine w_skip rfl rfl ?_
            refine w_skip rfl rfl ?_
            refine w_skip rfl rfl ?_
            refine w_skip rfl rfl ?_
            refine w_skip rfl rfl ?_
            refine w_skip rfl rfl ?_
            refine w_p tok rfl rfl rfl ?_
            exact w_jn true H ⟨rfl, rfl, rfl, rfl, rfl, rfl, trivial⟩
          ·
            refine w_p tok rfl rfl rfl ?_
            obtain ⟨a28, ha28, H⟩ := H
            refine w_y (y_nil' rfl rfl ha28) rfl rfl ?_
            refine w_p tok rfl rfl rfl ?_
            obtain ⟨v29, hv29, H⟩ := H
            refine w_y (y_ld tok rfl rfl rfl rfl hv29) rfl rfl ?_
            obtain ⟨l30, hl30, H⟩ := H
            refine w_y (y_lenm tok (K := ByteArray) (V := S_api_Tenant) (d := .string) (kf := Value.string) (vf := (fun v : S_api_Tenant => Value.agg (S_api_Tenant.cs v).toArray)) (kt := 9) (et := 130) (m := v29) (l := l30) rfl rfl (by kernel_rfl) hl30) rfl rfl ?_
            refine w_p tok rfl rfl rfl ?_
            refine w_p tok rfl rfl rfl ?_
            exact w_jn (decide ((l30.length : Int) ≥ 8)) H ⟨rfl, rfl, rfl, rfl, rfl, rfl, trivial⟩
      ·
        refine w_gif (d := 33) H rfl (fun H => ?_) (fun H => ?_)
        ·
          refine w_skip rfl rfl ?_
          refine w_skip rfl rfl ?_
          refine w_skip rfl rfl ?_
          refine w_skip rfl rfl ?_
          refine w_p tok rfl rfl rfl ?_
          exact w_jn true H ⟨rfl, rfl, rfl, rfl, rfl, rfl, trivial⟩
        ·
          refine w_p tok rfl rfl rfl ?_
          obtain ⟨v31, hv31, H⟩ := H
          refine w_y (y_ld tok rfl rfl rfl rfl hv31) rfl rfl ?_
          refine w_p tok rfl rfl rfl ?_
          refine w_p tok rfl rfl rfl ?_
          refine w_p tok rfl rfl rfl ?_
          exact w_jn (Op.bytesLess v31.toList t6_1.toList || v31.toList == t6_1.toList) H ⟨rfl, rfl, rfl, rfl, rfl, rfl, trivial⟩
    ·
      refine c_exit ?_
      refine x_te ?_
      refine x_te ?_
      refine x_bh ?_
      refine x_seq ?_
      refine c_seq ?_
      refine c_seq ?_
      refine c_region ?_
      refine w_p tok rfl rfl rfl ?_
      refine w_y (y_nil rfl rfl) rfl rfl ?_
      refine w_p tok rfl rfl rfl ?_
      obtain ⟨v32, hv32, H⟩ := H
      refine w_y (y_ld tok rfl rfl rfl rfl hv32) rfl rfl ?_
      refine w_p tok rfl rfl rfl ?_
      refine w_cut 7 (α := Bool) (fun (s : Bool) => [(71, .bool s), (5, .pointer r3)]) (fun (s : Bool) h => reg_From_g5 r3 s k (fun s h' => I1 s h' ∧ μ1 s h' < μ1 (t6_1, t7_1) h_1) h) ?_ ?_
      ·
        rintro t71_5 h_5 H
        replace H : reg_From_g5 r3 t71_5 k (fun s h' => I1 s h' ∧ μ1 s h' < μ1 (t6_1, t7_1) h_1) h_5 := H
        unfold reg_From_g5 at H
        refine w_weak [(71, .bool t71_5), (5, .pointer r3)] ⟨rfl, rfl, trivial⟩ ?_
        refine w_end ?_
        refine x_seq ?_
        refine c_if H rfl (fun H => ?_) (fun H => ?_)
        ·
          refine c_seq ?_
          refine c_region ?_
          refine w_p tok rfl rfl rfl ?_
          refine w_p tok rfl rfl rfl ?_
          refine w_end ?_
          refine x_seq ?_
          refine c_ret ?_
          refine x_tr ?_
          exact x_ret _ rfl _ rfl ⟨(none, 4), rfl, H⟩
        ·
          refine c_skip ?_
          refine x_seq ?_
          refine c_seq ?_
          refine c_region ?_
          refine w_p tok rfl rfl rfl ?_
          refine w_p tok rfl rfl rfl ?_
          refine w_p tok rfl rfl rfl ?_
          refine w_end ?_
          refine x_seq ?_
          refine c_ret ?_
          exact x_ret _ rfl _ rfl ⟨(r3, 0), rfl, H⟩
      ·
        refine w_gif (d := 64) H rfl (fun H => ?_) (fun H => ?_)
        ·
          refine w_skip rfl rfl ?_
          refine w_skip rfl rfl ?_
          refine w_skip rfl rfl ?_
          refine w_skip rfl rfl ?_
          refine w_skip rfl rfl ?_
          refine w_skip rfl rfl ?_
          refine w_p tok rfl rfl rfl ?_
          exact w_jn true H ⟨rfl, rfl, trivial⟩
        ·
          refine w_p tok rfl rfl rfl ?_
          refine w_y (y_nil rfl rfl) rfl rfl ?_
          refine w_p tok rfl rfl rfl ?_
          obtain ⟨v33, hv33, H⟩ := H
          refine w_y (y_ld tok rfl rfl rfl rfl hv33) rfl rfl ?_
          refine w_p tok rfl rfl rfl ?_
          refine w_p tok rfl rfl rfl ?_
          refine w_p tok rfl rfl rfl ?_
          exact w_jn (decide ((v33.len : Int) > 0)) H ⟨rfl, rfl, trivial⟩
  ·
    refine w_gif (d := 17) H rfl (fun H => ?_) (fun H => ?_)
    ·
      refine w_p tok rfl rfl rfl ?_
      refine w_y (y_nil rfl rfl) rfl rfl ?_
      refine w_p tok rfl rfl rfl ?_
      obtain ⟨v34, hv34, H⟩ := H
      refine w_y (y_ld tok rfl rfl rfl rfl hv34) rfl rfl ?_
      refine w_p tok rfl rfl rfl ?_
      refine w_p tok rfl rfl rfl ?_
      exact w_jn (!v34) H ⟨rfl, rfl, rfl, rfl, rfl, trivial⟩
    ·
      refine w_skip rfl rfl ?_
      refine w_skip rfl rfl ?_
      refine w_skip rfl rfl ?_
      refine w_skip rfl rfl ?_
      refine w_skip rfl rfl ?_
      refine w_p tok rfl rfl rfl ?_
      exact w_jn false H ⟨rfl, rfl, rfl, rfl, rfl, trivial⟩

theorem ref01_Lent_ok : CallOk Go.Proofs.Try.prog 34 := ⟨_, Go.Proofs.Try.func34, by kernel_rfl, by kernel_rfl⟩
theorem ref01_Lent_ref (p0 : Slc) (k : (Slc) → Heap → Prop) (h : Heap) (H : ref01_Lent p0 k h) : CallsH Go.Proofs.Try.prog 34 #[Slc.v p0] h (fun v h' => ∃ r : Slc, v = Slc.v r ∧ k r h') := by
  refine f_enter (N := 33) Go.Proofs.Try.func34 rfl rfl rfl (fun w0 => ?_)
  unfold ref01_Lent at H
  refine c_weak [(0, Slc.v p0)] ⟨rfl, trivial⟩ ?_
  refine c_seq ?_
  refine c_region ?_
  refine w_p tok rfl rfl rfl ?_
  refine w_end ?_
  refine x_seq ?_
  refine c_seq ?_
  refine c_region ?_
  refine w_p tok rfl rfl rfl ?_
  refine w_p tok rfl rfl rfl ?_
  refine w_p tok rfl rfl rfl ?_
  obtain ⟨b1, h2, ph2, qh2, rh2, th2, eb1, eh2, H⟩ := H
  refine w_h (h_mk tok rfl rfl rfl rfl rfl rfl ph2 qh2 rh2 th2 eb1 eh2) rfl rfl ?_
  refine w_p tok rfl rfl rfl ?_
  refine w_end ?_
  refine x_seq ?_
  refine c_seq ?_
  refine c_seq ?_
  refine c_region ?_
  refine w_p tok rfl rfl rfl ?_
  refine w_end ?_
  refine x_seq ?_
  refine c_block ?_
  obtain ⟨I1, μ1, H0, HI⟩ := H
  refine c_loop (σ := Int) (fun (s : Int) => [(4, .int .i64 s), (0, Slc.v p0), (3, Slc.v (⟨some ⟨b1, 0, none⟩, (IntKind.i64.wrap ((p0.len : Int) + 8)).toNat, (IntKind.i64.wrap ((p0.len : Int) + 8)).toNat⟩ : Slc))]) I1 μ1 0 H0 ⟨rfl, rfl, rfl, trivial⟩ ?_
  rintro t4_1 h_1 H
  replace H := HI t4_1 h_1 H
  unfold ref01_Lent_l1b at H
  refine c_weak [(4, .int .i64 t4_1), (0, Slc.v p0), (3, Slc.v (⟨some ⟨b1, 0, none⟩, (IntKind.i64.wrap ((p0.len : Int) + 8)).toNat, (IntKind.i64.wrap ((p0.len : Int) + 8)).toNat⟩ : Slc))] ⟨rfl, rfl, rfl, trivial⟩ ?_
  refine c_seq ?_
  refine c_seq ?_
  refine c_region ?_
  refine w_p tok rfl rfl rfl ?_
  refine w_p tok rfl rfl rfl ?_
  refine w_p tok rfl rfl rfl ?_
  refine w_p tok rfl rfl rfl ?_
  refine w_end ?_
  refine x_seq ?_
  refine c_if H rfl (fun H => ?_) (fun H => ?_)
  ·
    refine c_skip ?_
    refine x_seq ?_
    refine c_seqJ (α := Unit) (fun (s : Unit) => [(0, Slc.v p0), (3, Slc.v (⟨some ⟨b1, 0, none⟩, (IntKind.i64.wrap ((p0.len : Int) + 8)).toNat, (IntKind.i64.wrap ((p0.len : Int) + 8)).toNat⟩ : Slc)), (4, .int .i64 t4_1)]) (fun (s : Unit) h => ref01_Lent_j2 p0 (⟨some ⟨b1, 0, none⟩, (IntKind.i64.wrap ((p0.len : Int) + 8)).toNat, (IntKind.i64.wrap ((p0.len : Int) + 8)).toNat⟩ : Slc) t4_1 k (fun s h' => I1 s h' ∧ μ1 s h' < μ1 t4_1 h_1) h) ?_ ?_
    ·
      rintro _ h_2 H
      replace H : ref01_Lent_j2 p0 (⟨some ⟨b1, 0, none⟩, (IntKind.i64.wrap ((p0.len : Int) + 8)).toNat, (IntKind.i64.wrap ((p0.len : Int) + 8)).toNat⟩ : Slc) t4_1 k (fun s h' => I1 s h' ∧ μ1 s h' < μ1 t4_1 h_1) h_2 := H
      unfold ref01_Lent_j2 at H
      refine c_weak [(0, Slc.v p0), (3, Slc.v (⟨some ⟨b1, 0, none⟩, (IntKind.i64.wrap ((p0.len : Int) + 8)).toNat, (IntKind.i64.wrap ((p0.len : Int) + 8)).toNat⟩ : Slc)), (4, .int .i64 t4_1)] ⟨rfl, rfl, rfl, trivial⟩ ?_
      refine c_region ?_
      refine w_p tok rfl rfl rfl ?_
      refine w_p tok rfl rfl rfl ?_
      obtain ⟨x3, ex3, H⟩ := H
      refine w_pe tok rfl (congrArg (fun z => (.int .i64 z : Value)) ex3) rfl rfl ?_
      refine w_end ?_
      exact x_join x3 H ⟨rfl, rfl, rfl, trivial⟩
    ·
      refine c_block ?_
      refine c_seq ?_
      refine c_region ?_
      refine w_p tok rfl rfl rfl ?_
      refine w_p tok rfl rfl rfl ?_
      refine w_p tok rfl rfl rfl ?_
      refine w_p tok rfl rfl rfl ?_
      refine w_end ?_
      refine x_seq ?_
      refine c_weak [(4, .int .i64 t4_1), (0, Slc.v p0), (3, Slc.v (⟨some ⟨b1, 0, none⟩, (IntKind.i64.wrap ((p0.len : Int) + 8)).toNat, (IntKind.i64.wrap ((p0.len : Int) + 8)).toNat⟩ : Slc)), (18, .bool (decide (t4_1 < (p0.len : Int))))] ⟨rfl, rfl, rfl, rfl, trivial⟩ ?_
      refine c_if H rfl (fun H => ?_) (fun H => ?_)
      ·
        refine c_region ?_
        refine w_p tok rfl rfl rfl ?_
        refine w_p tok rfl rfl rfl ?_
        refine w_p tok rfl rfl rfl ?_
        refine w_p tok rfl rfl rfl ?_
        obtain ⟨a4, ha4, la4, ua4, H⟩ := H
        refine w_y (y_ixa' tok rfl rfl ha4 rfl rfl rfl la4 ua4) rfl rfl ?_
        obtain ⟨v5, hv5, H⟩ := H
        refine w_y (y_ld tok rfl rfl rfl rfl hv5) rfl rfl ?_
        obtain ⟨a6, ha6, la6, ua6, H⟩ := H
        refine w_y (y_ixa' tok rfl rfl ha6 rfl rfl rfl la6 ua6) rfl rfl ?_
        obtain ⟨h7, wh7, eh7, H⟩ := H
        refine w_h (h_st tok rfl rfl rfl rfl rfl rfl wh7 eh7) rfl rfl ?_
        refine w_end ?_
        refine x_blk ?_
        exact x_join () H ⟨rfl, rfl, rfl, trivial⟩
      ·
        refine c_region ?_
        refine w_p tok rfl rfl rfl ?_
        refine w_p tok rfl rfl rfl ?_
        obtain ⟨a8, ha8, la8, ua8, H⟩ := H
        refine w_y (y_ixa' tok rfl rfl ha8 rfl rfl rfl la8 ua8) rfl rfl ?_
        obtain ⟨h9, wh9, eh9, H⟩ := H
        refine w_h (h_st tok rfl rfl rfl rfl rfl rfl wh9 eh9) rfl rfl ?_
        refine w_end ?_
        refine x_blk ?_
        exact x_join () H ⟨rfl, rfl, rfl, trivial⟩
  ·
    refine c_exit ?_
    refine x_te ?_
    refine x_te ?_
    refine x_bh ?_
    refine x_seq ?_
    refine c_seq ?_
    refine c_region ?_
    refine w_p tok rfl rfl rfl ?_
    refine w_p tok rfl rfl rfl ?_
    refine w_p tok rfl rfl rfl ?_
    obtain ⟨s10, ps10, qs10, rs10, ts10, es10, H⟩ := H
    refine w_ye (y_sl (s := (⟨some ⟨b1, 0, none⟩, (IntKind.i64.wrap ((p0.len : Int) + 8)).toNat, (IntKind.i64.wrap ((p0.len : Int) + 8)).toNat⟩ : Slc)) (L := 0) (H := (p0.len : Int)) (M := ((⟨some ⟨b1, 0, none⟩, (IntKind.i64.wrap ((p0.len : Int) + 8)).toNat, (IntKind.i64.wrap ((p0.len : Int) + 8)).toNat⟩ : Slc).cap : Int)) tok rfl rfl rfl rfl rfl rfl rfl (by simp) ps10 qs10 rs10 ts10) (congrArg Slc.v es10) rfl rfl ?_
    refine w_p tok rfl rfl rfl ?_
    refine w_end ?_
    refine x_seq ?_
    refine c_weak [(2, Slc.v s10)] ⟨rfl, trivial⟩ ?_
    refine c_ret ?_
    exact x_ret _ rfl _ rfl ⟨s10, rfl, H⟩

theorem ref01_Kept_ok : CallOk Go.Proofs.Try.prog 36 := ⟨_, Go.Proofs.Try.func36, by kernel_rfl, by kernel_rfl⟩
theorem ref01_Kept_ref (p0 : Slc) (p1 : Slc) (k : (Bool) → Heap → Prop) (h : Heap) (H : ref01_Kept p0 p1 k h) : CallsH Go.Proofs.Try.prog 36 #[Slc.v p0, Slc.v p1] h (fun v h' => ∃ r : Bool, v = .bool r ∧ k r h') := by
  refine f_enter (N := 29) Go.Proofs.Try.func36 rfl rfl rfl (fun w0 => ?_)
  unfold ref01_Kept at H
  refine c_weak [(0, Slc.v p0), (1, Slc.v p1)] ⟨rfl, rfl, trivial⟩ ?_
  refine c_seq ?_
  refine c_region ?_
  refine w_p tok rfl rfl rfl ?_
  refine w_end ?_
  refine x_seq ?_
  refine c_seq ?_
  refine c_seq ?_
  refine c_region ?_
  refine w_p tok rfl rfl rfl ?_
  refine w_p tok rfl rfl rfl ?_
  refine w_call ref01_Same_ok (ref01_Same_ref _ _ _ _ H) rfl rfl rfl rfl ?_
  rintro _ h2 ⟨r1, rfl, H⟩
  refine w_p tok rfl rfl rfl ?_
  refine w_end ?_
  refine x_seq ?_
  refine c_if H rfl (fun H => ?_) (fun H => ?_)
  ·
    refine c_seq ?_
    refine c_region ?_
    refine w_p tok rfl rfl rfl ?_
    refine w_end ?_
    refine x_seq ?_
    refine c_ret ?_
    refine x_tr ?_
    exact x_ret _ rfl _ rfl ⟨false, rfl, H⟩
  ·
    refine c_skip ?_
    refine x_seq ?_
    refine c_seq ?_
    refine c_region ?_
    refine w_p tok rfl rfl rfl ?_
    refine w_p tok rfl rfl rfl ?_
    refine w_p tok rfl rfl rfl ?_
    refine w_p tok rfl rfl rfl ?_
    obtain ⟨s3, ps3, qs3, rs3, ts3, es3, H⟩ := H
    refine w_ye (y_sl (s := p0) (L := 0) (H := (IntKind.i64.wrap ((p0.len : Int) + 8))) (M := (p0.cap : Int)) tok rfl rfl rfl rfl rfl rfl rfl (by simp) ps3 qs3 rs3 ts3) (congrArg Slc.v es3) rfl rfl ?_
    refine w_p tok rfl rfl rfl ?_
    refine w_end ?_
    refine x_seq ?_
    refine c_weak [(0, Slc.v p0), (5, Slc.v s3)] ⟨rfl, rfl, trivial⟩ ?_
    refine c_seq ?_
    refine c_seq ?_
    refine c_region ?_
    refine w_p tok rfl rfl rfl ?_
    refine w_p tok rfl rfl rfl ?_
    obtain ⟨x4, ex4, H⟩ := H
    refine w_pe tok rfl (congrArg (fun z => (.int .i64 z : Value)) ex4) rfl rfl ?_
    refine w_end ?_
    refine x_seq ?_
    refine c_block ?_
    obtain ⟨I1, μ1, H0, HI⟩ := H
    refine c_loop (σ := Int) (fun (s : Int) => [(6, .int .i64 s), (5, Slc.v s3)]) I1 μ1 x4 H0 ⟨rfl, rfl, trivial⟩ ?_
    rintro t6_1 h_1 H
    replace H := HI t6_1 h_1 H
    unfold ref01_Kept_l1b at H
    refine c_weak [(6, .int .i64 t6_1), (5, Slc.v s3)] ⟨rfl, rfl, trivial⟩ ?_
    refine c_seq ?_
    refine c_seq ?_
    refine c_region ?_
    refine w_p tok rfl rfl rfl ?_
    refine w_p tok rfl rfl rfl ?_
    refine w_p tok rfl rfl rfl ?_
    refine w_p tok rfl rfl rfl ?_
    refine w_end ?_
    refine x_seq ?_
    refine c_if H rfl (fun H => ?_) (fun H => ?_)
    ·
      refine c_skip ?_
      refine x_seq ?_
      refine c_seq ?_
      refine c_block ?_
      refine c_seq ?_
      refine c_region ?_
      refine w_p tok rfl rfl rfl ?_
      refine w_p tok rfl rfl rfl ?_
      obtain ⟨a5, ha5, la5, ua5, H⟩ := H
      refine w_y (y_ixa' tok rfl rfl ha5 rfl rfl rfl la5 ua5) rfl rfl ?_
      obtain ⟨v6, hv6, H⟩ := H
      refine w_y (y_ld tok rfl rfl rfl rfl hv6) rfl rfl ?_
      refine w_p tok rfl rfl rfl ?_
      refine w_end ?_
      refine x_seq ?_
      refine c_weak [(6, .int .i64 t6_1), (5, Slc.v s3), (28, .bool (v6 != 165))] ⟨rfl, rfl, rfl, trivial⟩ ?_
      refine c_if H rfl (fun H => ?_) (fun H => ?_)
      ·
        refine c_seq ?_
        refine c_region ?_
        refine w_p tok rfl rfl rfl ?_
        refine w_end ?_
        refine x_seq ?_
        refine c_ret ?_
        refine x_br ?_
        refine x_tr ?_
        refine x_tr ?_
        refine x_br ?_
        refine x_tr ?_
        exact x_ret _ rfl _ rfl ⟨false, rfl, H⟩
      ·
        refine c_skip ?_
        refine x_blk ?_
        refine x_seq ?_
        refine c_region ?_
        refine w_p tok rfl rfl rfl ?_
        refine w_p tok rfl rfl rfl ?_
        obtain ⟨x7, ex7, H⟩ := H
        refine w_pe tok rfl (congrArg (fun z => (.int .i64 z : Value)) ex7) rfl rfl ?_
        refine w_end ?_
        exact x_join x7 H ⟨rfl, rfl, trivial⟩
    ·
      refine c_exit ?_
      refine x_te ?_
      refine x_te ?_
      refine x_bh ?_
      refine x_seq ?_
      refine c_seq ?_
      refine c_region ?_
      refine w_p tok rfl rfl rfl ?_
      refine w_end ?_
      refine x_seq ?_
      refine c_ret ?_
      exact x_ret _ rfl _ rfl ⟨true, rfl, H⟩

theorem law25_RegReads_ok : CallOk Go.Proofs.Try.prog 19 := ⟨_, Go.Proofs.Try.func19, by kernel_rfl, by kernel_rfl⟩
theorem law25_RegReads_ref (p0 : Slc) (k : (Bool) → Heap → Prop) (h : Heap) (H : law25_RegReads p0 k h) : CallsH Go.Proofs.Try.prog 19 #[Slc.v p0] h (fun v h' => ∃ r : Bool, v = .bool r ∧ k r h') := by
  refine f_enter (N := 45) Go.Proofs.Try.func19 rfl rfl rfl (fun w0 => ?_)
  unfold law25_RegReads at H
  refine c_weak [(0, Slc.v p0)] ⟨rfl, trivial⟩ ?_
  refine c_seq ?_
  refine c_region ?_
  refine w_p tok rfl rfl rfl ?_
  refine w_end ?_
  refine x_seq ?_
  refine c_seq ?_
  refine c_seq ?_
  refine c_region ?_
  refine w_p tok rfl rfl rfl ?_
  refine w_p tok rfl rfl rfl ?_
  refine w_p tok rfl rfl rfl ?_
  refine w_end ?_
  refine x_seq ?_
  refine c_if H rfl (fun H => ?_) (fun H => ?_)
  ·
    refine c_seq ?_
    refine c_region ?_
    refine w_call law25_awake_ok (law25_awake_ref  _ _ H) rfl rfl rfl rfl ?_
    rintro _ h2 ⟨r1, rfl, H⟩
    refine w_p tok rfl rfl rfl ?_
    refine w_end ?_
    refine x_seq ?_
    refine c_ret ?_
    refine x_tr ?_
    exact x_ret _ rfl _ rfl ⟨r1, rfl, H⟩
  ·
    refine c_skip ?_
    refine x_seq ?_
    refine c_seq ?_
    refine c_region ?_
    refine w_p tok rfl rfl rfl ?_
    refine w_call ref01_Lent_ok (ref01_Lent_ref _ _ _ H) rfl rfl rfl rfl ?_
    rintro _ h4 ⟨r3, rfl, H⟩
    refine w_p tok rfl rfl rfl ?_
    refine w_end ?_
    refine x_seq ?_
    refine c_seq ?_
    refine c_region ?_
    refine w_p tok rfl rfl rfl ?_
    refine w_call reg_From_ok (reg_From_ref _ _ _ H) rfl rfl rfl rfl ?_
    rintro _ h6 ⟨r5, rfl, H⟩
    refine w_p tok rfl rfl rfl ?_
    refine w_p tok rfl rfl rfl ?_
    refine w_p tok rfl rfl rfl ?_
    refine w_p tok rfl rfl rfl ?_
    refine w_p tok rfl rfl rfl ?_
    refine w_end ?_
    refine x_seq ?_
    refine c_weak [(0, Slc.v p0), (3, Slc.v r3), (4, .pointer r5.1), (5, .int .i64 r5.2)] ⟨rfl, rfl, rfl, rfl, trivial⟩ ?_
    refine c_seq ?_
    refine c_seq ?_
    refine c_region ?_
    refine w_p tok rfl rfl rfl ?_
    refine w_p tok rfl rfl rfl ?_
    refine w_call ref01_Kept_ok (ref01_Kept_ref _ _ _ _ H) rfl rfl rfl rfl ?_
    rintro _ h8 ⟨r7, rfl, H⟩
    refine w_p tok rfl rfl rfl ?_
    refine w_end ?_
    refine x_seq ?_
    refine c_if H rfl (fun H => ?_) (fun H => ?_)
    ·
      refine c_seq ?_
      refine c_region ?_
      refine w_p tok rfl rfl rfl ?_
      refine w_end ?_
      refine x_seq ?_
      refine c_weak [(2, .bool false)] ⟨rfl, trivial⟩ ?_
      refine c_ret ?_
      refine x_tr ?_
      exact x_ret _ rfl _ rfl ⟨false, rfl, H⟩
    ·
      refine c_skip ?_
      refine x_seq ?_
      refine c_seq ?_
      refine c_seq ?_
      refine c_region ?_
      refine w_p tok rfl rfl rfl ?_
      refine w_p tok rfl rfl rfl ?_
      refine w_end ?_
      refine x_seq ?_
      refine c_if H rfl (fun H => ?_) (fun H => ?_)
      ·
        refine c_seq ?_
        refine c_region ?_
        refine w_p tok rfl rfl rfl ?_
        refine w_p tok rfl rfl rfl ?_
        refine w_p tok rfl rfl rfl ?_
        refine w_cutU 3 [(28, .bool ((r5.1.isNone) && (r5.2 == 4)))] ?_ ?_
        ·
          refine w_p tok rfl rfl rfl ?_
          refine w_cut 2 (α := Bool) (fun (s : Bool) => [(31, .bool s)]) (fun (s : Bool) h => law25_RegReads_g1 s k h) ?_ ?_
          ·
            rintro t31_1 h_1 H
            replace H : law25_RegReads_g1 t31_1 k h_1 := H
            unfold law25_RegReads_g1 at H
            refine w_weak [(31, .bool t31_1)] ⟨rfl, trivial⟩ ?_
            refine w_p tok rfl rfl rfl ?_
            refine w_end ?_
            refine x_seq ?_
            refine c_ret ?_
            refine x_tr ?_
            exact x_ret _ rfl _ rfl ⟨t31_1, rfl, H⟩
          ·
            refine w_gif (d := 29) H rfl (fun H => ?_) (fun H => ?_)
            ·
              refine w_call law25_awake_ok (law25_awake_ref  _ _ H) rfl rfl rfl rfl ?_
              rintro _ h10 ⟨r9, rfl, H⟩
              refine w_p tok rfl rfl rfl ?_
              exact w_jn r9 H ⟨rfl, trivial⟩
            ·
              refine w_skip rfl rfl ?_
              refine w_p tok rfl rfl rfl ?_
              exact w_jn false H ⟨rfl, trivial⟩
        ·
          refine w_gs (d := 25) rfl (fun hb => ?_) (fun hb => ?_)
          ·
            refine w_p tok rfl rfl rfl ?_
            refine w_p tok rfl rfl rfl ?_
            refine w_p tok rfl rfl rfl ?_
            refine w_jn () rfl ⟨?_, trivial⟩
            exact congrArg (fun b => some (Value.bool b)) (and_t hb)
          ·
            refine w_skip rfl rfl ?_
            refine w_skip rfl rfl ?_
            refine w_p tok rfl rfl rfl ?_
            refine w_jn () rfl ⟨?_, trivial⟩
            exact congrArg (fun b => some (Value.bool b)) (and_f hb)
      ·
        refine c_skip ?_
        refine x_seq ?_
        refine c_weak [(0, Slc.v p0), (4, .pointer r5.1)] ⟨rfl, rfl, trivial⟩ ?_
        refine c_seq ?_
        refine c_region ?_
        refine w_p tok rfl rfl rfl ?_
        refine w_call reg_Reg_Bytes_ok (reg_Reg_Bytes_ref _ _ _ H) rfl rfl rfl rfl ?_
        rintro _ h12 ⟨r11, rfl, H⟩
        refine w_p tok rfl rfl rfl ?_
        refine w_call ref01_Same_ok (ref01_Same_ref _ _ _ _ H) rfl rfl rfl rfl ?_
        rintro _ h14 ⟨r13, rfl, H⟩
        refine w_p tok rfl rfl rfl ?_
        refine w_cut 5 (α := Bool) (fun (s : Bool) => [(41, .bool s)]) (fun (s : Bool) h => law25_RegReads_g2 s k h) ?_ ?_
        ·
          rintro t41_2 h_2 H
          replace H : law25_RegReads_g2 t41_2 k h_2 := H
          unfold law25_RegReads_g2 at H
          refine w_weak [(41, .bool t41_2)] ⟨rfl, trivial⟩ ?_
          refine w_p tok rfl rfl rfl ?_
          refine w_cut 2 (α := Bool) (fun (s : Bool) => [(44, .bool s)]) (fun (s : Bool) h => law25_RegReads_g3 s k h) ?_ ?_
          ·
            rintro t44_3 h_3 H
            replace H : law25_RegReads_g3 t44_3 k h_3 := H
            unfold law25_RegReads_g3 at H
            refine w_weak [(44, .bool t44_3)] ⟨rfl, trivial⟩ ?_
            refine w_p tok rfl rfl rfl ?_
            refine w_end ?_
            refine x_seq ?_
            refine c_ret ?_
            exact x_ret _ rfl _ rfl ⟨t44_3, rfl, H⟩
          ·
            refine w_gif (d := 42) H rfl (fun H => ?_) (fun H => ?_)
            ·
              refine w_call law25_awake_ok (law25_awake_ref  _ _ H) rfl rfl rfl rfl ?_
              rintro _ h16 ⟨r15, rfl, H⟩
              refine w_p tok rfl rfl rfl ?_
              exact w_jn r15 H ⟨rfl, trivial⟩
            ·
              refine w_skip rfl rfl ?_
              refine w_p tok rfl rfl rfl ?_
              exact w_jn false H ⟨rfl, trivial⟩
        ·
          refine w_gif (d := 36) H rfl (fun H => ?_) (fun H => ?_)
          ·
            refine w_p tok rfl rfl rfl ?_
            refine w_call reg_Reg_Tenants_ok (reg_Reg_Tenants_ref _ _ _ H) rfl rfl rfl rfl ?_
            rintro _ h18 ⟨r17, rfl, H⟩
            refine w_p tok rfl rfl rfl ?_
            refine w_p tok rfl rfl rfl ?_
            refine w_p tok rfl rfl rfl ?_
            exact w_jn (decide ((r17.len : Int) ≤ 8)) H ⟨rfl, trivial⟩
          ·
            refine w_skip rfl rfl ?_
            refine w_skip rfl rfl ?_
            refine w_skip rfl rfl ?_
            refine w_skip rfl rfl ?_
            refine w_p tok rfl rfl rfl ?_
            exact w_jn false H ⟨rfl, trivial⟩
end Go.Q.Yb

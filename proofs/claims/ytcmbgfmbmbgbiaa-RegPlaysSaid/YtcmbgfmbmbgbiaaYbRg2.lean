/- A part of the proof of statements of this seat: lemmas, no statement of their own. -/
import Derived.Test.YtcmbgfmbmbgbiaaYbTab
import Derived.Test.YtcmbgfmbmbgbiaaYbRg
import Derived.Test.YtcmbgfmbmbgbiaaYbKeysS
set_option linter.unusedVariables false
set_option maxRecDepth 100000
set_option maxHeartbeats 1000000
namespace Go.Q.Yb
/-- (*quaestor reg.Reg).Tenants -/
def reg_Reg_Tenants_l1b (t0_1 : Option Addr) (t13_1 : Slc) (t14_1 : Int) (t3_1 : Slc) (t15_1 : Int) (k : (Slc) → Heap → Prop) (nx1 : (Slc × Int) → Heap → Prop) (h_1 : Heap) : Prop :=
  if (decide (t15_1 < t14_1)) then (∃ a7 : Addr, t13_1.a = some a7 ∧ (0 : Int) ≤ t15_1 ∧ t15_1 < (t13_1.len : Int) ∧ (∃ v8 : ByteArray, cellH h_1 (a7.add (t15_1.toNat * 1)) = some (.string v8) ∧ (∃ a9 : Addr, t0_1 = some a9 ∧ (∃ v10 : Option Nat, cellH h_1 a9 = some (.map v10) ∧ (∃ l11 : List (ByteArray × S_api_Tenant), MapAt (K := ByteArray) (V := S_api_Tenant) .string Value.string (fun v : S_api_Tenant => Value.agg (S_api_Tenant.cs v).toArray) h_1 v10 l11 ∧ (reg_copied ((mget l11 v8).getD (⟨ByteArray.empty, (⟨none, 0, 0⟩ : Slc), 0, false⟩ : S_api_Tenant)) (fun (r12 : S_api_Tenant) h13 => ∃ (b14 : Nat) (h15 : Heap), b14 = h13.size ∧ h15 = h13.push (.cells ((S_api_Tenant.cs r12)).toArray 130) ∧ (App 130 4 56 [.string ByteArray.empty, .slice none 0 0, .int .i64 0, .bool false] h15 t3_1 1 ((S_api_Tenant.cs r12)) (fun s16 h17 => nx1 (s16, (IntKind.i64.wrap (t15_1 + 1))) h17))) h_1)))))) else (k t3_1 h_1)
def reg_Reg_Tenants_l1 (t0_1 : Option Addr) (t13_1 : Slc) (t14_1 : Int) (i3 : Slc) (i15 : Int) (k : (Slc) → Heap → Prop) (h : Heap) : Prop :=
  ∃ (I : (Slc × Int) → Heap → Prop) (μ : (Slc × Int) → Heap → Nat), I (i3, i15) h ∧ ∀ (t3_1 : Slc) (t15_1 : Int) (h : Heap), I (t3_1, t15_1) h → reg_Reg_Tenants_l1b t0_1 t13_1 t14_1 t3_1 t15_1 k (fun s h' => I s h' ∧ μ s h' < μ (t3_1, t15_1) h) h
def reg_Reg_Tenants (p0 : Option Addr) (k : (Slc) → Heap → Prop) (h : Heap) : Prop :=
  if (p0.isNone) then (k (⟨none, 0, 0⟩ : Slc) h) else (∃ a1 : Addr, p0 = some a1 ∧ (∃ v2 : Option Nat, cellH h a1 = some (.map v2) ∧ (maps_Keys_map_string_api_Tenant_string_api_Tenant v2 (fun (r3 : Value) h4 => slices_Sorted_string r3 (fun (r5 : Slc) h6 => reg_Reg_Tenants_l1 p0 r5 (r5.len : Int) (⟨none, 0, 0⟩ : Slc) 0 k h6) h4) h)))

/-- quaestor quaestorref25.SameTenant -/
def ref25_SameTenant_j5 (t2_5 : Addr) (t3_5 : Addr) (t5_5 : Int) (t84_5 : Bool) (k : (Bool) → Heap → Prop) (nx4 : (Int) → Heap → Prop) (h_5 : Heap) : Prop :=
  if t84_5 then (k false h_5) else (∃ x8 : Int, x8 = (IntKind.i64.wrap (t5_5 + 1)) ∧ (nx4 x8 h_5))
def ref25_SameTenant_l4b (t2_4 : Addr) (t3_4 : Addr) (t5_4 : Int) (k : (Bool) → Heap → Prop) (nx4 : (Int) → Heap → Prop) (h_4 : Heap) : Prop :=
  ∃ v7 : Slc, cellH h_4 (t2_4.add 1) = some (Slc.v v7) ∧ (if (decide (t5_4 < (v7.len : Int))) then (∃ v9 : Slc, cellH h_4 (t2_4.add 1) = some (Slc.v v9) ∧ (∃ a10 : Addr, v9.a = some a10 ∧ (0 : Int) ≤ t5_4 ∧ t5_4 < (v9.len : Int) ∧ (∃ v11 : Int, cellH h_4 (a10.add (t5_4.toNat * 14)) = some (.int .u32 v11) ∧ (∃ v12 : Slc, cellH h_4 (t3_4.add 1) = some (Slc.v v12) ∧ (∃ a13 : Addr, v12.a = some a13 ∧ (0 : Int) ≤ t5_4 ∧ t5_4 < (v12.len : Int) ∧ (∃ v14 : Int, cellH h_4 (a13.add (t5_4.toNat * 14)) = some (.int .u32 v14) ∧ (if (v11 != v14) then (if true then (ref25_SameTenant_j5 t2_4 t3_4 t5_4 true k nx4 h_4) else (∃ v15 : Slc, cellH h_4 (t2_4.add 1) = some (Slc.v v15) ∧ (∃ a16 : Addr, v15.a = some a16 ∧ (0 : Int) ≤ t5_4 ∧ t5_4 < (v15.len : Int) ∧ (∃ v17 : Slc, cellH h_4 ((a16.add (t5_4.toNat * 14)).add 13) = some (Slc.v v17) ∧ (∃ v18 : Slc, cellH h_4 (t3_4.add 1) = some (Slc.v v18) ∧ (∃ a19 : Addr, v18.a = some a19 ∧ (0 : Int) ≤ t5_4 ∧ t5_4 < (v18.len : Int) ∧ (∃ v20 : Slc, cellH h_4 ((a19.add (t5_4.toNat * 14)).add 13) = some (Slc.v v20) ∧ (ref01_Same v17 v20 (fun (r21 : Bool) h22 => ref25_SameTenant_j5 t2_4 t3_4 t5_4 (!r21) k nx4 h22) h_4)))))))) else (∃ v23 : Slc, cellH h_4 (t2_4.add 1) = some (Slc.v v23) ∧ (∃ a24 : Addr, v23.a = some a24 ∧ (0 : Int) ≤ t5_4 ∧ t5_4 < (v23.len : Int) ∧ (∃ v25 : List Int, CellsAt h_4 ((a24.add (t5_4.toNat * 14)).add 1) (arr 12 .u8 v25) ∧ (∃ v26 : Slc, cellH h_4 (t3_4.add 1) = some (Slc.v v26) ∧ (∃ a27 : Addr, v26.a = some a27 ∧ (0 : Int) ≤ t5_4 ∧ t5_4 < (v26.len : Int) ∧ (∃ v28 : List Int, CellsAt h_4 ((a27.add (t5_4.toNat * 14)).add 1) (arr 12 .u8 v28) ∧ (if (if BinOp.neq = .eql then (nrm 12 v25 == nrm 12 v28) else !(nrm 12 v25 == nrm 12 v28)) then (ref25_SameTenant_j5 t2_4 t3_4 t5_4 true k nx4 h_4) else (∃ v30 : Slc, cellH h_4 (t2_4.add 1) = some (Slc.v v30) ∧ (∃ a31 : Addr, v30.a = some a31 ∧ (0 : Int) ≤ t5_4 ∧ t5_4 < (v30.len : Int) ∧ (∃ v32 : Slc, cellH h_4 ((a31.add (t5_4.toNat * 14)).add 13) = some (Slc.v v32) ∧ (∃ v33 : Slc, cellH h_4 (t3_4.add 1) = some (Slc.v v33) ∧ (∃ a34 : Addr, v33.a = some a34 ∧ (0 : Int) ≤ t5_4 ∧ t5_4 < (v33.len : Int) ∧ (∃ v35 : Slc, cellH h_4 ((a34.add (t5_4.toNat * 14)).add 13) = some (Slc.v v35) ∧ (ref01_Same v32 v35 (fun (r36 : Bool) h37 => ref25_SameTenant_j5 t2_4 t3_4 t5_4 (!r36) k nx4 h37) h_4))))))))))))))))))))) else (k true h_4))
def ref25_SameTenant_l4 (t2_4 : Addr) (t3_4 : Addr) (i5 : Int) (k : (Bool) → Heap → Prop) (h : Heap) : Prop :=
  ∃ (I : Int → Heap → Prop) (μ : Int → Heap → Nat), I i5 h ∧ ∀ (t5_4 : Int) (h : Heap), I t5_4 h → ref25_SameTenant_l4b t2_4 t3_4 t5_4 k (fun s h' => I s h' ∧ μ s h' < μ t5_4 h) h
def ref25_SameTenant_g3 (t2_3 : Addr) (t3_3 : Addr) (t33_3 : Bool) (k : (Bool) → Heap → Prop) (h_3 : Heap) : Prop :=
  if t33_3 then (k false h_3) else (ref25_SameTenant_l4 t2_3 t3_3 0 k h_3)
def ref25_SameTenant_g2 (t2_2 : Addr) (t3_2 : Addr) (t24_2 : Bool) (k : (Bool) → Heap → Prop) (h_2 : Heap) : Prop :=
  if t24_2 then (ref25_SameTenant_g3 t2_2 t3_2 true k h_2) else (∃ v38 : Slc, cellH h_2 (t2_2.add 1) = some (Slc.v v38) ∧ (∃ v39 : Slc, cellH h_2 (t3_2.add 1) = some (Slc.v v39) ∧ (ref25_SameTenant_g3 t2_2 t3_2 ((v38.len : Int) != (v39.len : Int)) k h_2)))
def ref25_SameTenant_g1 (t2_1 : Addr) (t3_1 : Addr) (t17_1 : Bool) (k : (Bool) → Heap → Prop) (h_1 : Heap) : Prop :=
  if t17_1 then (ref25_SameTenant_g2 t2_1 t3_1 true k h_1) else (∃ v40 : Bool, cellH h_1 (t2_1.add 3) = some (.bool v40) ∧ (∃ v41 : Bool, cellH h_1 (t3_1.add 3) = some (.bool v41) ∧ (ref25_SameTenant_g2 t2_1 t3_1 (!(v40 == v41)) k h_1)))
def ref25_SameTenant (p0 : S_api_Tenant) (p1 : S_api_Tenant) (k : (Bool) → Heap → Prop) (h : Heap) : Prop :=
  ∃ (b1 : Nat) (h2 : Heap), b1 = h.size ∧ h2 = h.push (.cells (S_api_Tenant.cs p0).toArray 130) ∧ (∃ (b3 : Nat) (h4 : Heap), b3 = h2.size ∧ h4 = h2.push (.cells (S_api_Tenant.cs p1).toArray 130) ∧ (∃ v5 : ByteArray, cellH h4 (⟨b1, 0, none⟩ : Addr) = some (.string v5) ∧ (∃ v6 : ByteArray, cellH h4 (⟨b3, 0, none⟩ : Addr) = some (.string v6) ∧ (if (!(v5.toList == v6.toList)) then (ref25_SameTenant_g1 (⟨b1, 0, none⟩ : Addr) (⟨b3, 0, none⟩ : Addr) true k h4) else (∃ v42 : Int, cellH h4 ((⟨b1, 0, none⟩ : Addr).add 2) = some (.int .i64 v42) ∧ (∃ v43 : Int, cellH h4 ((⟨b3, 0, none⟩ : Addr).add 2) = some (.int .i64 v43) ∧ (ref25_SameTenant_g1 (⟨b1, 0, none⟩ : Addr) (⟨b3, 0, none⟩ : Addr) (v42 != v43) k h4)))))))

/-- quaestor quaestorref25.SameTenants -/
def ref25_SameTenants_l1b (t0_1 : Slc) (t1_1 : Slc) (t5_1 : Int) (k : (Bool) → Heap → Prop) (nx1 : (Int) → Heap → Prop) (h_1 : Heap) : Prop :=
  if (decide (t5_1 < (t0_1.len : Int))) then (∃ a1 : Addr, t0_1.a = some a1 ∧ (0 : Int) ≤ t5_1 ∧ t5_1 < (t0_1.len : Int) ∧ (∃ v2 : S_api_Tenant, CellsAt h_1 (a1.add (t5_1.toNat * 4)) (S_api_Tenant.cs v2) ∧ (∃ a3 : Addr, t1_1.a = some a3 ∧ (0 : Int) ≤ t5_1 ∧ t5_1 < (t1_1.len : Int) ∧ (∃ v4 : S_api_Tenant, CellsAt h_1 (a3.add (t5_1.toNat * 4)) (S_api_Tenant.cs v4) ∧ (ref25_SameTenant v2 v4 (fun (r5 : Bool) h6 => if (!r5) then (k false h6) else (∃ x7 : Int, x7 = (IntKind.i64.wrap (t5_1 + 1)) ∧ (nx1 x7 h6))) h_1))))) else (k true h_1)
def ref25_SameTenants_l1 (t0_1 : Slc) (t1_1 : Slc) (i5 : Int) (k : (Bool) → Heap → Prop) (h : Heap) : Prop :=
  ∃ (I : Int → Heap → Prop) (μ : Int → Heap → Nat), I i5 h ∧ ∀ (t5_1 : Int) (h : Heap), I t5_1 h → ref25_SameTenants_l1b t0_1 t1_1 t5_1 k (fun s h' => I s h' ∧ μ s h' < μ t5_1 h) h
def ref25_SameTenants (p0 : Slc) (p1 : Slc) (k : (Bool) → Heap → Prop) (h : Heap) : Prop :=
  if ((p0.len : Int) != (p1.len : Int)) then (k false h) else (ref25_SameTenants_l1 p0 p1 0 k h)

/-- (*quaestor reg.Reg).Copy -/
def reg_Reg_Copy (p0 : Option Addr) (k : (Option Addr) → Heap → Prop) (h : Heap) : Prop :=
  if (p0.isNone) then (k none h) else (∃ a1 : Addr, p0 = some a1 ∧ (∃ v2 : Option Nat, cellH h a1 = some (.map v2) ∧ (maps_Clone_map_string_api_Tenant_string_api_Tenant v2 (fun (r3 : Option Nat) h4 => ∃ (b5 : Nat) (h6 : Heap), b5 = h4.size ∧ h6 = h4.push (.cells (S_reg_Reg.cs (⟨r3⟩ : S_reg_Reg)).toArray 212) ∧ (k (some (⟨b5, 0, none⟩ : Addr)) h6)) h)))

/-- (*quaestor reg.Reg).Bytes -/
def reg_Reg_Bytes_l3b (t15_3 : Slc) (t16_3 : Int) (t17_3 : Int) (t46_3 : Slc) (t47_3 : Int) (t4_3 : Slc) (t48_3 : Int) (k : (Slc) → Heap → Prop) (nx1 : (Slc × Int) → Heap → Prop) (nx3 : (Slc × Int) → Heap → Prop) (h_3 : Heap) : Prop :=
  if (decide (t48_3 < t47_3)) then (∃ a26 : Addr, t46_3.a = some a26 ∧ (0 : Int) ≤ t48_3 ∧ t48_3 < (t46_3.len : Int) ∧ (∃ v27 : S_api_Wrapped, CellsAt h_3 (a26.add (t48_3.toNat * 14)) (S_api_Wrapped.cs v27) ∧ (∃ (b28 : Nat) (h29 : Heap), b28 = h_3.size ∧ h29 = h_3.push (.cells (S_api_Wrapped.cs (⟨0, ([] : List Int), (⟨none, 0, 0⟩ : Slc)⟩ : S_api_Wrapped)).toArray 132) ∧ (∃ h30 : Heap, WrsAt h29 (⟨b28, 0, none⟩ : Addr) 14 ∧ h30 = setsH h29 (⟨b28, 0, none⟩ : Addr) 0 (S_api_Wrapped.cs v27) ∧ (∃ v31 : Int, cellH h30 (⟨b28, 0, none⟩ : Addr) = some (.int .u32 v31) ∧ (∃ s32 : Slc, (0 : Int) ≤ 0 ∧ 0 ≤ (12 : Int) ∧ 12 ≤ (12 : Int) ∧ s32 = subS ⟨some ((⟨b28, 0, none⟩ : Addr).add 1), 12, 12⟩ 1 (0 : Int).toNat (12 : Int).toNat 12 ∧ (∃ v33 : Slc, cellH h30 ((⟨b28, 0, none⟩ : Addr).add 13) = some (Slc.v v33) ∧ (num_Put t4_3 (IntKind.u64.wrap v31) 4 (fun (r34 : Slc) h35 => cellH h35 ((⟨b28, 0, none⟩ : Addr).add 13) = some (Slc.v v33) ∧ (∃ l39 : List Value, SlcAt h35 s32 l39 ∧ App 5 1 1 [.int .u8 0] h35 r34 s32.len l39 (fun s37 h38 => cellH h38 ((⟨b28, 0, none⟩ : Addr).add 13) = some (Slc.v v33) ∧ (∃ l43 : List Value, SlcAt h38 v33 l43 ∧ App 5 1 1 [.int .u8 0] h38 s37 v33.len l43 (fun s41 h42 => nx3 (s41, (IntKind.i64.wrap (t48_3 + 1))) h42))))) h30)))))))) else (nx1 (t4_3, (IntKind.i64.wrap (t17_3 + 1))) h_3)
def reg_Reg_Bytes_l3 (t15_3 : Slc) (t16_3 : Int) (t17_3 : Int) (t46_3 : Slc) (t47_3 : Int) (i4 : Slc) (i48 : Int) (k : (Slc) → Heap → Prop) (nx1 : (Slc × Int) → Heap → Prop) (h : Heap) : Prop :=
  ∃ (I : (Slc × Int) → Heap → Prop) (μ : (Slc × Int) → Heap → Nat), I (i4, i48) h ∧ ∀ (t4_3 : Slc) (t48_3 : Int) (h : Heap), I (t4_3, t48_3) h → reg_Reg_Bytes_l3b t15_3 t16_3 t17_3 t46_3 t47_3 t4_3 t48_3 k nx1 (fun s h' => I s h' ∧ μ s h' < μ (t4_3, t48_3) h) h
def reg_Reg_Bytes_j2 (t4_2 : Slc) (t6_2 : Addr) (t15_2 : Slc) (t16_2 : Int) (t17_2 : Int) (k : (Slc) → Heap → Prop) (nx1 : (Slc × Int) → Heap → Prop) (h_2 : Heap) : Prop :=
  ∃ v17 : Int, cellH h_2 (t6_2.add 2) = some (.int .i64 v17) ∧ (num_Zig v17 (fun (r18 : Int) h19 => num_Put t4_2 r18 8 (fun (r20 : Slc) h21 => ∃ v22 : Slc, cellH h21 (t6_2.add 1) = some (Slc.v v22) ∧ (num_PutShort r20 (IntKind.u64.wrap (v22.len : Int)) (fun (r23 : Slc) h24 => ∃ v25 : Slc, cellH h24 (t6_2.add 1) = some (Slc.v v25) ∧ (reg_Reg_Bytes_l3 t15_2 t16_2 t17_2 v25 (v25.len : Int) r23 0 k nx1 h24)) h21)) h19) h_2)
def reg_Reg_Bytes_l1b (t15_1 : Slc) (t16_1 : Int) (t4_1 : Slc) (t17_1 : Int) (k : (Slc) → Heap → Prop) (nx1 : (Slc × Int) → Heap → Prop) (h_1 : Heap) : Prop :=
  if (decide (t17_1 < t16_1)) then (∃ a5 : Addr, t15_1.a = some a5 ∧ (0 : Int) ≤ t17_1 ∧ t17_1 < (t15_1.len : Int) ∧ (∃ v6 : S_api_Tenant, CellsAt h_1 (a5.add (t17_1.toNat * 4)) (S_api_Tenant.cs v6) ∧ (∃ (b7 : Nat) (h8 : Heap), b7 = h_1.size ∧ h8 = h_1.push (.cells (S_api_Tenant.cs (⟨ByteArray.empty, (⟨none, 0, 0⟩ : Slc), 0, false⟩ : S_api_Tenant)).toArray 130) ∧ (∃ h9 : Heap, WrsAt h8 (⟨b7, 0, none⟩ : Addr) 4 ∧ h9 = setsH h8 (⟨b7, 0, none⟩ : Addr) 0 (S_api_Tenant.cs v6) ∧ (∃ v10 : ByteArray, cellH h9 (⟨b7, 0, none⟩ : Addr) = some (.string v10) ∧ (reg_text t4_1 v10 (fun (r11 : Slc) h12 => ∃ (b13 : Nat) (h14 : Heap), b13 = h12.size ∧ h14 = h12.push (.cells ([.int .u8 0]).toArray 5) ∧ (App 5 1 1 [.int .u8 0] h14 r11 1 ([.int .u8 0]) (fun s15 h16 => ∃ v44 : Bool, cellH h16 ((⟨b7, 0, none⟩ : Addr).add 3) = some (.bool v44) ∧ (if v44 then (∃ a45 : Addr, s15.a = some a45 ∧ (0 : Int) ≤ (IntKind.i64.wrap ((s15.len : Int) - 1)) ∧ (IntKind.i64.wrap ((s15.len : Int) - 1)) < (s15.len : Int) ∧ (∃ h46 : Heap, WrH h16 (a45.add ((IntKind.i64.wrap ((s15.len : Int) - 1)).toNat * 1)) ∧ h46 = setH h16 (a45.add ((IntKind.i64.wrap ((s15.len : Int) - 1)).toNat * 1)) (.int .u8 1) ∧ (reg_Reg_Bytes_j2 s15 (⟨b7, 0, none⟩ : Addr) t15_1 t16_1 t17_1 k nx1 h46))) else (reg_Reg_Bytes_j2 s15 (⟨b7, 0, none⟩ : Addr) t15_1 t16_1 t17_1 k nx1 h16))))) h9)))))) else (k t4_1 h_1)
def reg_Reg_Bytes_l1 (t15_1 : Slc) (t16_1 : Int) (i4 : Slc) (i17 : Int) (k : (Slc) → Heap → Prop) (h : Heap) : Prop :=
  ∃ (I : (Slc × Int) → Heap → Prop) (μ : (Slc × Int) → Heap → Nat), I (i4, i17) h ∧ ∀ (t4_1 : Slc) (t17_1 : Int) (h : Heap), I (t4_1, t17_1) h → reg_Reg_Bytes_l1b t15_1 t16_1 t4_1 t17_1 k (fun s h' => I s h' ∧ μ s h' < μ (t4_1, t17_1) h) h
def reg_Reg_Bytes (p0 : Option Addr) (k : (Slc) → Heap → Prop) (h : Heap) : Prop :=
  reg_Reg_Tenants p0 (fun (r1 : Slc) h2 => num_PutShort (⟨none, 0, 0⟩ : Slc) (IntKind.u64.wrap (r1.len : Int)) (fun (r3 : Slc) h4 => reg_Reg_Bytes_l1 r1 (r1.len : Int) r3 0 k h4) h2) h

/-- quaestor quaestorlaw25.RegApart -/
def law25_RegApart_g5 (t84_5 : Bool) (k : (Bool) → Heap → Prop) (nx3 : (Int) → Heap → Prop) (h_5 : Heap) : Prop :=
  k t84_5 h_5
def law25_RegApart_g4 (t81_4 : Bool) (k : (Bool) → Heap → Prop) (nx3 : (Int) → Heap → Prop) (h_4 : Heap) : Prop :=
  if t81_4 then (law25_awake  (fun (r40 : Bool) h41 => law25_RegApart_g5 r40 k nx3 h41) h_4) else (law25_RegApart_g5 false k nx3 h_4)
def law25_RegApart_l3b (t0_3 : Slc) (t4_3 : Addr) (t5_3 : Addr) (t7_3 : Option Addr) (t8_3 : Option Addr) (t9_3 : Int) (k : (Bool) → Heap → Prop) (nx3 : (Int) → Heap → Prop) (h_3 : Heap) : Prop :=
  if (decide (t9_3 < (t0_3.len : Int))) then (∃ a13 : Addr, t0_3.a = some a13 ∧ (0 : Int) ≤ t9_3 ∧ t9_3 < (t0_3.len : Int) ∧ (∃ v14 : S_api_Command, CellsAt h_3 (a13.add (t9_3.toNat * 17)) (S_api_Command.cs v14) ∧ (reg_Reg_Apply t7_3 v14 (fun (r15 : Int) h16 => ∃ a17 : Addr, t0_3.a = some a17 ∧ (0 : Int) ≤ t9_3 ∧ t9_3 < (t0_3.len : Int) ∧ (∃ v18 : S_api_Command, CellsAt h16 (a17.add (t9_3.toNat * 17)) (S_api_Command.cs v18) ∧ (reg_Reg_Apply t8_3 v18 (fun (r19 : Int) h20 => ∃ x21 : Int, x21 = (IntKind.i64.wrap (t9_3 + 1)) ∧ (nx3 x21 h20)) h16))) h_3))) else (reg_Reg_Tenants t7_3 (fun (r22 : Slc) h23 => if (decide ((r22.len : Int) > 6)) then (law25_awake  (fun (r24 : Bool) h25 => k r24 h25) h23) else (∃ v26 : S_api_Command, CellsAt h23 t4_3 (S_api_Command.cs v26) ∧ (∃ v27 : S_api_Command, CellsAt h23 t5_3 (S_api_Command.cs v27) ∧ (reg_Reg_Apply t7_3 v26 (fun (r28 : Int) h29 => CellsAt h29 t5_3 (S_api_Command.cs v27) ∧ (reg_Reg_Apply t7_3 v27 (fun (r31 : Int) h32 => ∃ v33 : S_api_Command, CellsAt h32 t5_3 (S_api_Command.cs v33) ∧ (∃ v34 : S_api_Command, CellsAt h32 t4_3 (S_api_Command.cs v34) ∧ (reg_Reg_Apply t8_3 v33 (fun (r35 : Int) h36 => CellsAt h36 t4_3 (S_api_Command.cs v34) ∧ (reg_Reg_Apply t8_3 v34 (fun (r38 : Int) h39 => if ((r28 == r38) && (r31 == r35)) then (reg_Reg_Tenants t7_3 (fun (r42 : Slc) h43 => reg_Reg_Tenants t8_3 (fun (r44 : Slc) h45 => ref25_SameTenants r42 r44 (fun (r46 : Bool) h47 => law25_RegApart_g4 r46 k nx3 h47) h45) h43) h39) else (law25_RegApart_g4 false k nx3 h39)) h36)) h32))) h29)) h23)))) h_3)
def law25_RegApart_l3 (t0_3 : Slc) (t4_3 : Addr) (t5_3 : Addr) (t7_3 : Option Addr) (t8_3 : Option Addr) (i9 : Int) (k : (Bool) → Heap → Prop) (h : Heap) : Prop :=
  ∃ (I : Int → Heap → Prop) (μ : Int → Heap → Nat), I i9 h ∧ ∀ (t9_3 : Int) (h : Heap), I t9_3 h → law25_RegApart_l3b t0_3 t4_3 t5_3 t7_3 t8_3 t9_3 k (fun s h' => I s h' ∧ μ s h' < μ t9_3 h) h
def law25_RegApart_g2 (t0_2 : Slc) (t4_2 : Addr) (t5_2 : Addr) (t28_2 : Bool) (k : (Bool) → Heap → Prop) (h_2 : Heap) : Prop :=
  if t28_2 then (law25_awake  (fun (r7 : Bool) h8 => k r7 h8) h_2) else (reg_New  (fun (r9 : Option Addr) h10 => reg_New  (fun (r11 : Option Addr) h12 => law25_RegApart_l3 t0_2 t4_2 t5_2 r9 r11 0 k h12) h10) h_2)
def law25_RegApart_g1 (t0_1 : Slc) (t4_1 : Addr) (t5_1 : Addr) (t21_1 : Bool) (k : (Bool) → Heap → Prop) (h_1 : Heap) : Prop :=
  if t21_1 then (law25_RegApart_g2 t0_1 t4_1 t5_1 true k h_1) else (∃ v48 : ByteArray, cellH h_1 (t4_1.add 1) = some (.string v48) ∧ (∃ v49 : ByteArray, cellH h_1 (t5_1.add 1) = some (.string v49) ∧ (law25_RegApart_g2 t0_1 t4_1 t5_1 (v48.toList == v49.toList) k h_1)))
def law25_RegApart (p0 : Slc) (p1 : S_api_Command) (p2 : S_api_Command) (k : (Bool) → Heap → Prop) (h : Heap) : Prop :=
  ∃ (b1 : Nat) (h2 : Heap), b1 = h.size ∧ h2 = h.push (.cells (S_api_Command.cs p1).toArray 32) ∧ (∃ (b3 : Nat) (h4 : Heap), b3 = h2.size ∧ h4 = h2.push (.cells (S_api_Command.cs p2).toArray 32) ∧ (ref25_Great p0 20 (fun (r5 : Bool) h6 => if r5 then (law25_RegApart_g1 p0 (⟨b1, 0, none⟩ : Addr) (⟨b3, 0, none⟩ : Addr) true k h6) else (∃ v50 : S_api_Command, CellsAt h6 (⟨b1, 0, none⟩ : Addr) (S_api_Command.cs v50) ∧ (∃ v51 : S_api_Command, CellsAt h6 (⟨b3, 0, none⟩ : Addr) (S_api_Command.cs v51) ∧ (∃ (b52 : Nat) (h53 : Heap), b52 = h6.size ∧ h53 = h6.push (.cells ((S_api_Command.cs v50) ++ (S_api_Command.cs v51)).toArray 32) ∧ (ref25_Great (⟨some ⟨b52, 0, none⟩, 2, 2⟩ : Slc) 2 (fun (r54 : Bool) h55 => law25_RegApart_g1 p0 (⟨b1, 0, none⟩ : Addr) (⟨b3, 0, none⟩ : Addr) r54 k h55) h53))))) h4))

/-- quaestor quaestorlaw25.RegKeeps -/
def law25_RegKeeps_j4 (t0_4 : Slc) (t3_4 : Option Addr) (t4_4 : Int) (t5_4 : Slc) (t7_4 : Slc) (t8_4 : Int) (t10_4 : Int) (t9_4 : Bool) (k : (Bool) → Heap → Prop) (nx1 : (Int) → Heap → Prop) (nx2 : (Int) → Heap → Prop) (nx3 : (Bool × Int) → Heap → Prop) (h_4 : Heap) : Prop :=
  ∃ x21 : Int, x21 = (IntKind.i64.wrap (t10_4 + 1)) ∧ (nx3 (t9_4, x21) h_4)
def law25_RegKeeps_g5 (t0_5 : Slc) (t3_5 : Option Addr) (t4_5 : Int) (t5_5 : Slc) (t7_5 : Slc) (t8_5 : Int) (t9_5 : Bool) (t10_5 : Int) (t87_5 : Bool) (k : (Bool) → Heap → Prop) (nx1 : (Int) → Heap → Prop) (nx2 : (Int) → Heap → Prop) (nx3 : (Bool × Int) → Heap → Prop) (h_5 : Heap) : Prop :=
  if t87_5 then (k false h_5) else (law25_RegKeeps_j4 t0_5 t3_5 t4_5 t5_5 t7_5 t8_5 t10_5 t9_5 k nx1 nx2 nx3 h_5)
def law25_RegKeeps_g6 (t0_6 : Slc) (t3_6 : Option Addr) (t4_6 : Int) (t5_6 : Slc) (t7_6 : Slc) (t8_6 : Int) (t9_6 : Bool) (t10_6 : Int) (t76_6 : Bool) (t86_6 : Bool) (k : (Bool) → Heap → Prop) (nx1 : (Int) → Heap → Prop) (nx2 : (Int) → Heap → Prop) (nx3 : (Bool × Int) → Heap → Prop) (h_6 : Heap) : Prop :=
  law25_RegKeeps_g5 t0_6 t3_6 t4_6 t5_6 t7_6 t8_6 t9_6 t10_6 t86_6 k nx1 nx2 nx3 h_6
def law25_RegKeeps_l3b (t0_3 : Slc) (t3_3 : Option Addr) (t4_3 : Int) (t5_3 : Slc) (t7_3 : Slc) (t8_3 : Int) (t9_3 : Bool) (t10_3 : Int) (k : (Bool) → Heap → Prop) (nx1 : (Int) → Heap → Prop) (nx2 : (Int) → Heap → Prop) (nx3 : (Bool × Int) → Heap → Prop) (h_3 : Heap) : Prop :=
  if (decide (t10_3 < (t7_3.len : Int))) then (∃ a22 : Addr, t7_3.a = some a22 ∧ (0 : Int) ≤ t10_3 ∧ t10_3 < (t7_3.len : Int) ∧ (∃ v23 : S_api_Tenant, CellsAt h_3 (a22.add (t10_3.toNat * 4)) (S_api_Tenant.cs v23) ∧ (∃ (b24 : Nat) (h25 : Heap), b24 = h_3.size ∧ h25 = h_3.push (.cells (S_api_Tenant.cs (⟨ByteArray.empty, (⟨none, 0, 0⟩ : Slc), 0, false⟩ : S_api_Tenant)).toArray 130) ∧ (∃ h26 : Heap, WrsAt h25 (⟨b24, 0, none⟩ : Addr) 4 ∧ h26 = setsH h25 (⟨b24, 0, none⟩ : Addr) 0 (S_api_Tenant.cs v23) ∧ (∃ v27 : ByteArray, cellH h26 (⟨b24, 0, none⟩ : Addr) = some (.string v27) ∧ (∃ a28 : Addr, t5_3.a = some a28 ∧ (0 : Int) ≤ t8_3 ∧ t8_3 < (t5_3.len : Int) ∧ (∃ v29 : ByteArray, cellH h26 (a28.add (t8_3.toNat * 4)) = some (.string v29) ∧ (if (!(v27.toList == v29.toList)) then (law25_RegKeeps_j4 t0_3 t3_3 t4_3 t5_3 t7_3 t8_3 t10_3 t9_3 k nx1 nx2 nx3 h26) else (∃ v30 : Int, cellH h26 ((⟨b24, 0, none⟩ : Addr).add 2) = some (.int .i64 v30) ∧ (∃ a31 : Addr, t5_3.a = some a31 ∧ (0 : Int) ≤ t8_3 ∧ t8_3 < (t5_3.len : Int) ∧ (∃ v32 : Int, cellH h26 ((a31.add (t8_3.toNat * 4)).add 2) = some (.int .i64 v32) ∧ (if (decide (v30 < v32)) then (law25_RegKeeps_g5 t0_3 t3_3 t4_3 t5_3 t7_3 t8_3 true t10_3 true k nx1 nx2 nx3 h26) else (∃ a33 : Addr, t5_3.a = some a33 ∧ (0 : Int) ≤ t8_3 ∧ t8_3 < (t5_3.len : Int) ∧ (∃ v34 : Bool, cellH h26 ((a33.add (t8_3.toNat * 4)).add 3) = some (.bool v34) ∧ (if v34 then (∃ v35 : Bool, cellH h26 ((⟨b24, 0, none⟩ : Addr).add 3) = some (.bool v35) ∧ (law25_RegKeeps_g6 t0_3 t3_3 t4_3 t5_3 t7_3 t8_3 true t10_3 false (!v35) k nx1 nx2 nx3 h26)) else (law25_RegKeeps_g6 t0_3 t3_3 t4_3 t5_3 t7_3 t8_3 true t10_3 false false k nx1 nx2 nx3 h26)))))))))))))))) else (if (!t9_3) then (k false h_3) else (∃ x36 : Int, x36 = (IntKind.i64.wrap (t8_3 + 1)) ∧ (nx2 x36 h_3)))
def law25_RegKeeps_l3 (t0_3 : Slc) (t3_3 : Option Addr) (t4_3 : Int) (t5_3 : Slc) (t7_3 : Slc) (t8_3 : Int) (i9 : Bool) (i10 : Int) (k : (Bool) → Heap → Prop) (nx1 : (Int) → Heap → Prop) (nx2 : (Int) → Heap → Prop) (h : Heap) : Prop :=
  ∃ (I : (Bool × Int) → Heap → Prop) (μ : (Bool × Int) → Heap → Nat), I (i9, i10) h ∧ ∀ (t9_3 : Bool) (t10_3 : Int) (h : Heap), I (t9_3, t10_3) h → law25_RegKeeps_l3b t0_3 t3_3 t4_3 t5_3 t7_3 t8_3 t9_3 t10_3 k nx1 nx2 (fun s h' => I s h' ∧ μ s h' < μ (t9_3, t10_3) h) h
def law25_RegKeeps_l8b (t0_8 : Slc) (t3_8 : Option Addr) (t4_8 : Int) (t7_8 : Slc) (t12_8 : Int) (t13_8 : Int) (k : (Bool) → Heap → Prop) (nx1 : (Int) → Heap → Prop) (nx2 : (Int) → Heap → Prop) (nx7 : (Int) → Heap → Prop) (nx8 : (Int) → Heap → Prop) (h_8 : Heap) : Prop :=
  ∃ a41 : Addr, t7_8.a = some a41 ∧ (0 : Int) ≤ t12_8 ∧ t12_8 < (t7_8.len : Int) ∧ (∃ v42 : Slc, cellH h_8 ((a41.add (t12_8.toNat * 4)).add 1) = some (Slc.v v42) ∧ (if (decide (t13_8 < (v42.len : Int))) then (∃ a43 : Addr, t7_8.a = some a43 ∧ (0 : Int) ≤ t12_8 ∧ t12_8 < (t7_8.len : Int) ∧ (∃ v44 : Slc, cellH h_8 ((a43.add (t12_8.toNat * 4)).add 1) = some (Slc.v v44) ∧ (∃ a45 : Addr, v44.a = some a45 ∧ (0 : Int) ≤ t13_8 ∧ t13_8 < (v44.len : Int) ∧ (∃ v46 : Int, cellH h_8 (a45.add (t13_8.toNat * 14)) = some (.int .u32 v46) ∧ (∃ a47 : Addr, t7_8.a = some a47 ∧ (0 : Int) ≤ t12_8 ∧ t12_8 < (t7_8.len : Int) ∧ (∃ v48 : Slc, cellH h_8 ((a47.add (t12_8.toNat * 4)).add 1) = some (Slc.v v48) ∧ (∃ a49 : Addr, v48.a = some a49 ∧ (0 : Int) ≤ (IntKind.i64.wrap (t13_8 - 1)) ∧ (IntKind.i64.wrap (t13_8 - 1)) < (v48.len : Int) ∧ (∃ v50 : Int, cellH h_8 (a49.add ((IntKind.i64.wrap (t13_8 - 1)).toNat * 14)) = some (.int .u32 v50) ∧ (if (v46 != (IntKind.u32.wrap (v50 + 1))) then (k false h_8) else (∃ x51 : Int, x51 = (IntKind.i64.wrap (t13_8 + 1)) ∧ (nx8 x51 h_8))))))))))) else (∃ x52 : Int, x52 = (IntKind.i64.wrap (t12_8 + 1)) ∧ (nx7 x52 h_8))))
def law25_RegKeeps_l8 (t0_8 : Slc) (t3_8 : Option Addr) (t4_8 : Int) (t7_8 : Slc) (t12_8 : Int) (i13 : Int) (k : (Bool) → Heap → Prop) (nx1 : (Int) → Heap → Prop) (nx2 : (Int) → Heap → Prop) (nx7 : (Int) → Heap → Prop) (h : Heap) : Prop :=
  ∃ (I : Int → Heap → Prop) (μ : Int → Heap → Nat), I i13 h ∧ ∀ (t13_8 : Int) (h : Heap), I t13_8 h → law25_RegKeeps_l8b t0_8 t3_8 t4_8 t7_8 t12_8 t13_8 k nx1 nx2 nx7 (fun s h' => I s h' ∧ μ s h' < μ t13_8 h) h
def law25_RegKeeps_l7b (t0_7 : Slc) (t3_7 : Option Addr) (t4_7 : Int) (t7_7 : Slc) (t12_7 : Int) (k : (Bool) → Heap → Prop) (nx1 : (Int) → Heap → Prop) (nx2 : (Int) → Heap → Prop) (nx7 : (Int) → Heap → Prop) (h_7 : Heap) : Prop :=
  if (decide (t12_7 < (t7_7.len : Int))) then (∃ a37 : Addr, t7_7.a = some a37 ∧ (0 : Int) ≤ t12_7 ∧ t12_7 < (t7_7.len : Int) ∧ (∃ v38 : Bool, cellH h_7 ((a37.add (t12_7.toNat * 4)).add 3) = some (.bool v38) ∧ (∃ a39 : Addr, t7_7.a = some a39 ∧ (0 : Int) ≤ t12_7 ∧ t12_7 < (t7_7.len : Int) ∧ (∃ v40 : Slc, cellH h_7 ((a39.add (t12_7.toNat * 4)).add 1) = some (Slc.v v40) ∧ (if (!(v38 == ((v40.len : Int) == 0))) then (k false h_7) else (law25_RegKeeps_l8 t0_7 t3_7 t4_7 t7_7 t12_7 1 k nx1 nx2 nx7 h_7)))))) else (∃ x53 : Int, x53 = (IntKind.i64.wrap (t4_7 + 1)) ∧ (nx1 x53 h_7))
def law25_RegKeeps_l7 (t0_7 : Slc) (t3_7 : Option Addr) (t4_7 : Int) (t7_7 : Slc) (i12 : Int) (k : (Bool) → Heap → Prop) (nx1 : (Int) → Heap → Prop) (nx2 : (Int) → Heap → Prop) (h : Heap) : Prop :=
  ∃ (I : Int → Heap → Prop) (μ : Int → Heap → Nat), I i12 h ∧ ∀ (t12_7 : Int) (h : Heap), I t12_7 h → law25_RegKeeps_l7b t0_7 t3_7 t4_7 t7_7 t12_7 k nx1 nx2 (fun s h' => I s h' ∧ μ s h' < μ t12_7 h) h
def law25_RegKeeps_l2b (t0_2 : Slc) (t3_2 : Option Addr) (t4_2 : Int) (t5_2 : Slc) (t7_2 : Slc) (t8_2 : Int) (k : (Bool) → Heap → Prop) (nx1 : (Int) → Heap → Prop) (nx2 : (Int) → Heap → Prop) (h_2 : Heap) : Prop :=
  if (decide (t8_2 < (t5_2.len : Int))) then (law25_RegKeeps_l3 t0_2 t3_2 t4_2 t5_2 t7_2 t8_2 false 0 k nx1 nx2 h_2) else (law25_RegKeeps_l7 t0_2 t3_2 t4_2 t7_2 0 k nx1 nx2 h_2)
def law25_RegKeeps_l2 (t0_2 : Slc) (t3_2 : Option Addr) (t4_2 : Int) (t5_2 : Slc) (t7_2 : Slc) (i8 : Int) (k : (Bool) → Heap → Prop) (nx1 : (Int) → Heap → Prop) (h : Heap) : Prop :=
  ∃ (I : Int → Heap → Prop) (μ : Int → Heap → Nat), I i8 h ∧ ∀ (t8_2 : Int) (h : Heap), I t8_2 h → law25_RegKeeps_l2b t0_2 t3_2 t4_2 t5_2 t7_2 t8_2 k nx1 (fun s h' => I s h' ∧ μ s h' < μ t8_2 h) h
def law25_RegKeeps_g13 (t177_13 : Bool) (k : (Bool) → Heap → Prop) (nx1 : (Int) → Heap → Prop) (h_13 : Heap) : Prop :=
  k t177_13 h_13
def law25_RegKeeps_g12 (t174_12 : Bool) (k : (Bool) → Heap → Prop) (nx1 : (Int) → Heap → Prop) (h_12 : Heap) : Prop :=
  if t174_12 then (law25_awake  (fun (r61 : Bool) h62 => law25_RegKeeps_g13 r61 k nx1 h62) h_12) else (law25_RegKeeps_g13 false k nx1 h_12)
def law25_RegKeeps_g11 (t14_11 : Option Addr) (t168_11 : Bool) (k : (Bool) → Heap → Prop) (nx1 : (Int) → Heap → Prop) (h_11 : Heap) : Prop :=
  if t168_11 then (reg_Reg_Bytes t14_11 (fun (r63 : Slc) h64 => ∃ (b65 : Nat) (h66 : Heap), b65 = h64.size ∧ h66 = h64.push (.cells ([.int .u8 0]).toArray 5) ∧ (ref01_Same r63 (⟨some ⟨b65, 0, none⟩, 1, 1⟩ : Slc) (fun (r67 : Bool) h68 => law25_RegKeeps_g12 r67 k nx1 h68) h66)) h_11) else (law25_RegKeeps_g12 false k nx1 h_11)
def law25_RegKeeps_g10 (t14_10 : Option Addr) (t163_10 : Bool) (k : (Bool) → Heap → Prop) (nx1 : (Int) → Heap → Prop) (h_10 : Heap) : Prop :=
  if t163_10 then (reg_Reg_Copy t14_10 (fun (r69 : Option Addr) h70 => law25_RegKeeps_g11 t14_10 (r69.isNone) k nx1 h70) h_10) else (law25_RegKeeps_g11 t14_10 false k nx1 h_10)
def law25_RegKeeps_g9 (t14_9 : Option Addr) (t16_9 : Int) (t154_9 : Bool) (k : (Bool) → Heap → Prop) (nx1 : (Int) → Heap → Prop) (h_9 : Heap) : Prop :=
  if (t154_9 && (t16_9 == 16)) then (reg_Reg_Epoch t14_9 (⟨#[116]⟩ : ByteArray) (fun (r71 : Int) h72 => law25_RegKeeps_g10 t14_9 (r71 == 0) k nx1 h72) h_9) else (law25_RegKeeps_g10 t14_9 false k nx1 h_9)
def law25_RegKeeps_l1b (t0_1 : Slc) (t3_1 : Option Addr) (t4_1 : Int) (k : (Bool) → Heap → Prop) (nx1 : (Int) → Heap → Prop) (h_1 : Heap) : Prop :=
  if (decide (t4_1 < (t0_1.len : Int))) then (reg_Reg_Tenants t3_1 (fun (r7 : Slc) h8 => reg_Reg_Copy t3_1 (fun (r9 : Option Addr) h10 => ∃ a11 : Addr, t0_1.a = some a11 ∧ (0 : Int) ≤ t4_1 ∧ t4_1 < (t0_1.len : Int) ∧ (∃ v12 : S_api_Command, CellsAt h10 (a11.add (t4_1.toNat * 17)) (S_api_Command.cs v12) ∧ (reg_Reg_Apply t3_1 v12 (fun (r13 : Int) h14 => reg_Reg_Tenants r9 (fun (r15 : Slc) h16 => ref25_SameTenants r15 r7 (fun (r17 : Bool) h18 => if (!r17) then (k false h18) else (reg_Reg_Tenants t3_1 (fun (r19 : Slc) h20 => law25_RegKeeps_l2 t0_1 t3_1 t4_1 r7 r19 0 k nx1 h20) h18)) h16) h14) h10))) h8) h_1) else (reg_Reg_Tenant none (⟨#[116]⟩ : ByteArray) (fun (r54 : S_api_Tenant × Int) h55 => ∃ (b56 : Nat) (h57 : Heap), b56 = h55.size ∧ h57 = h55.push (.cells (S_api_Tenant.cs (⟨ByteArray.empty, (⟨none, 0, 0⟩ : Slc), 0, false⟩ : S_api_Tenant)).toArray 130) ∧ (∃ h58 : Heap, WrsAt h57 (⟨b56, 0, none⟩ : Addr) 4 ∧ h58 = setsH h57 (⟨b56, 0, none⟩ : Addr) 0 (S_api_Tenant.cs r54.1) ∧ (reg_Reg_Apply none (⟨0, ByteArray.empty, 0, ([] : List Int), (⟨none, 0, 0⟩ : Slc), 0⟩ : S_api_Command) (fun (r59 : Int) h60 => if (r59 == 1) then (reg_Reg_Tenants none (fun (r73 : Slc) h74 => law25_RegKeeps_g9 none r54.2 ((r73.len : Int) == 0) k nx1 h74) h60) else (law25_RegKeeps_g9 none r54.2 false k nx1 h60)) h58))) h_1)
def law25_RegKeeps_l1 (t0_1 : Slc) (t3_1 : Option Addr) (i4 : Int) (k : (Bool) → Heap → Prop) (h : Heap) : Prop :=
  ∃ (I : Int → Heap → Prop) (μ : Int → Heap → Nat), I i4 h ∧ ∀ (t4_1 : Int) (h : Heap), I t4_1 h → law25_RegKeeps_l1b t0_1 t3_1 t4_1 k (fun s h' => I s h' ∧ μ s h' < μ t4_1 h) h
def law25_RegKeeps (p0 : Slc) (k : (Bool) → Heap → Prop) (h : Heap) : Prop :=
  ref25_Great p0 30 (fun (r1 : Bool) h2 => if r1 then (law25_awake  (fun (r3 : Bool) h4 => k r3 h4) h2) else (reg_New  (fun (r5 : Option Addr) h6 => law25_RegKeeps_l1 p0 r5 0 k h6) h2)) h

theorem reg_Reg_Tenants_ok : CallOk Go.Proofs.Try.prog 74 := ⟨_, Go.Proofs.Try.func74, by kernel_rfl, by kernel_rfl⟩
theorem reg_Reg_Tenants_ref (p0 : Option Addr) (k : (Slc) → Heap → Prop) (h : Heap) (H : reg_Reg_Tenants p0 k h) : CallsH Go.Proofs.Try.prog 74 #[.pointer p0] h (fun v h' => ∃ r : Slc, v = Slc.v r ∧ k r h') := by
  refine f_enter (N := 31) Go.Proofs.Try.func74 rfl rfl rfl (fun w0 => ?_)
  unfold reg_Reg_Tenants at H
  refine c_weak [(0, .pointer p0)] ⟨rfl, trivial⟩ ?_
  refine c_seq ?_
  refine c_region ?_
  refine w_p tok rfl rfl rfl ?_
  refine w_end ?_
  refine x_seq ?_
  refine c_seq ?_
  refine c_seq ?_
  refine c_region ?_
  refine w_p tok rfl rfl rfl ?_
  refine w_p tok rfl rfl rfl ?_
  refine w_end ?_
  refine x_seq ?_
  refine c_if H rfl (fun H => ?_) (fun H => ?_)
  ·
    refine c_seq ?_
    refine c_region ?_
    refine w_p tok rfl rfl rfl ?_
    refine w_end ?_
    refine x_seq ?_
    refine c_ret ?_
    refine x_tr ?_
    exact x_ret _ rfl _ rfl ⟨(⟨none, 0, 0⟩ : Slc), rfl, H⟩
  ·
    refine c_skip ?_
    refine x_seq ?_
    refine c_seq ?_
    refine c_region ?_
    refine w_p tok rfl rfl rfl ?_
    refine w_end ?_
    refine x_seq ?_
    refine c_seq ?_
    refine c_seq ?_
    refine c_region ?_
    refine w_p tok rfl rfl rfl ?_
    obtain ⟨a1, ha1, H⟩ := H
    refine w_y (y_nil' rfl rfl ha1) rfl rfl ?_
    refine w_p tok rfl rfl rfl ?_
    obtain ⟨v2, hv2, H⟩ := H
    refine w_y (y_ld tok rfl rfl rfl rfl hv2) rfl rfl ?_
    refine w_call maps_Keys_map_string_api_Tenant_string_api_Tenant_ok (maps_Keys_map_string_api_Tenant_string_api_Tenant_ref _ _ _ H) rfl rfl rfl rfl ?_
    rintro _ h4 ⟨r3, rfl, H⟩
    refine w_call slices_Sorted_string_ok (slices_Sorted_string_ref _ _ _ H) rfl rfl rfl rfl ?_
    rintro _ h6 ⟨r5, rfl, H⟩
    refine w_p tok rfl rfl rfl ?_
    refine w_p tok rfl rfl rfl ?_
    refine w_end ?_
    refine x_seq ?_
    refine c_weak [(0, .pointer p0), (3, Slc.v (⟨none, 0, 0⟩ : Slc)), (13, Slc.v r5), (14, .int .i64 (r5.len : Int)), (15, .int .i64 0)] ⟨rfl, rfl, rfl, rfl, rfl, trivial⟩ ?_
    refine c_block ?_
    obtain ⟨I1, μ1, H0, HI⟩ := H
    refine c_loop (σ := Slc × Int) (fun (s : Slc × Int) => [(3, Slc.v s.1), (15, .int .i64 s.2), (0, .pointer p0), (13, Slc.v r5), (14, .int .i64 (r5.len : Int))]) I1 μ1 ((⟨none, 0, 0⟩ : Slc), 0) H0 ⟨rfl, rfl, rfl, rfl, rfl, trivial⟩ ?_
    rintro ⟨t3_1, t15_1⟩ h_1 H
    replace H := HI t3_1 t15_1 h_1 H
    unfold reg_Reg_Tenants_l1b at H
    refine c_weak [(3, Slc.v t3_1), (15, .int .i64 t15_1), (0, .pointer p0), (13, Slc.v r5), (14, .int .i64 (r5.len : Int))] ⟨rfl, rfl, rfl, rfl, rfl, trivial⟩ ?_
    refine c_seq ?_
    refine c_region ?_
    refine w_p tok rfl rfl rfl ?_
    refine w_end ?_
    refine x_seq ?_
    refine c_seq ?_
    refine c_if H rfl (fun H => ?_) (fun H => ?_)
    ·
      refine c_skip ?_
      refine x_seq ?_
      refine c_seq ?_
      refine c_block ?_
      refine c_seq ?_
      refine c_region ?_
      obtain ⟨a7, ha7, la7, ua7, H⟩ := H
      refine w_y (y_ixa' tok rfl rfl ha7 rfl rfl rfl la7 ua7) rfl rfl ?_
      obtain ⟨v8, hv8, H⟩ := H
      refine w_y (y_ld tok rfl rfl rfl rfl hv8) rfl rfl ?_
      refine w_p tok rfl rfl rfl ?_
      refine w_end ?_
      refine x_seq ?_
      refine c_region ?_
      refine w_p tok rfl rfl rfl ?_
      refine w_p tok rfl rfl rfl ?_
      obtain ⟨a9, ha9, H⟩ := H
      refine w_y (y_nil' rfl rfl ha9) rfl rfl ?_
      refine w_p tok rfl rfl rfl ?_
      obtain ⟨v10, hv10, H⟩ := H
      refine w_y (y_ld tok rfl rfl rfl rfl hv10) rfl rfl ?_
      refine w_p tok rfl rfl rfl ?_
      obtain ⟨l11, hl11, H⟩ := H
      refine w_y (y_lk (K := ByteArray) (V := S_api_Tenant) (d := .string) (kf := Value.string) (vf := (fun v : S_api_Tenant => Value.agg (S_api_Tenant.cs v).toArray)) (kt := 9) (et := 130) (k := v8) (z := (⟨ByteArray.empty, (⟨none, 0, 0⟩ : Slc), 0, false⟩ : S_api_Tenant)) (m := v10) (l := l11) rfl rfl rfl (by kernel_rfl) (by kernel_rfl) kStr (zero_a tok (T := tab) rfl rfl rfl) hl11) rfl rfl ?_
      refine w_call reg_copied_ok (reg_copied_ref _ _ _ H) rfl rfl rfl rfl ?_
      rintro _ h13 ⟨r12, rfl, H⟩
      obtain ⟨b14, h15, eb14, eh15, H⟩ := H
      refine w_h (h_bs tok rfl rfl rfl rfl rfl rfl rfl eb14 eh15) rfl rfl ?_
      refine w_a (a_app (s := t3_1) (r := (⟨some ⟨b14, 0, none⟩, 1, 1⟩ : Slc)) tok rfl rfl rfl rfl rfl (slcAt_push eb14 eh15) H) rfl rfl ?_
      rintro _ h17 ⟨s16, rfl, H⟩
      refine w_p tok rfl rfl rfl ?_
      refine w_end ?_
      refine x_blk ?_
      refine x_seq ?_
      refine c_weak [(3, Slc.v s16), (15, .int .i64 t15_1), (0, .pointer p0), (13, Slc.v r5), (14, .int .i64 (r5.len : Int))] ⟨rfl, rfl, rfl, rfl, rfl, trivial⟩ ?_
      refine c_region ?_
      refine w_p tok rfl rfl rfl ?_
      refine w_p tok rfl rfl rfl ?_
      refine w_end ?_
      exact x_join (s16, (IntKind.i64.wrap (t15_1 + 1))) H ⟨rfl, rfl, rfl, rfl, rfl, trivial⟩
    ·
      refine c_exit ?_
      refine x_te ?_
      refine x_te ?_
      refine x_bh ?_
      refine x_seq ?_
      refine c_seq ?_
      refine c_region ?_
      refine w_p tok rfl rfl rfl ?_
      refine w_p tok rfl rfl rfl ?_
      refine w_end ?_
      refine x_seq ?_
      refine c_weak [(2, Slc.v t3_1)] ⟨rfl, trivial⟩ ?_
      refine c_ret ?_
      exact x_ret _ rfl _ rfl ⟨t3_1, rfl, H⟩

theorem ref25_SameTenant_ok : CallOk Go.Proofs.Try.prog 146 := ⟨_, Go.Proofs.Try.func146, by kernel_rfl, by kernel_rfl⟩
theorem ref25_SameTenant_ref (p0 : S_api_Tenant) (p1 : S_api_Tenant) (k : (Bool) → Heap → Prop) (h : Heap) (H : ref25_SameTenant p0 p1 k h) : CallsH Go.Proofs.Try.prog 146 #[.agg (S_api_Tenant.cs p0).toArray, .agg (S_api_Tenant.cs p1).toArray] h (fun v h' => ∃ r : Bool, v = .bool r ∧ k r h') := by
  refine f_enter (N := 85) Go.Proofs.Try.func146 rfl rfl rfl (fun w0 => ?_)
  unfold ref25_SameTenant at H
  refine c_weak [(0, .agg (S_api_Tenant.cs p0).toArray), (1, .agg (S_api_Tenant.cs p1).toArray)] ⟨rfl, rfl, trivial⟩ ?_
  refine c_seq ?_
  refine c_region ?_
  obtain ⟨b1, h2, eb1, eh2, H⟩ := H
  refine w_h (h_box rfl rfl eb1 eh2) rfl rfl ?_
  obtain ⟨b3, h4, eb3, eh4, H⟩ := H
  refine w_h (h_box rfl rfl eb3 eh4) rfl rfl ?_
  refine w_p tok rfl rfl rfl ?_
  refine w_end ?_
  refine x_seq ?_
  refine c_seq ?_
  refine c_seq ?_
  refine c_region ?_
  refine w_p tok rfl rfl rfl ?_
  obtain ⟨v5, hv5, H⟩ := H
  refine w_y (y_ld tok rfl rfl rfl rfl hv5) rfl rfl ?_
  refine w_p tok rfl rfl rfl ?_
  obtain ⟨v6, hv6, H⟩ := H
  refine w_y (y_ld tok rfl rfl rfl rfl hv6) rfl rfl ?_
  refine w_p tok rfl rfl rfl ?_
  refine w_p tok rfl rfl rfl ?_
  refine w_cut 6 (α := Bool) (fun (s : Bool) => [(17, .bool s), (2, .pointer (some (⟨b1, 0, none⟩ : Addr))), (3, .pointer (some (⟨b3, 0, none⟩ : Addr)))]) (fun (s : Bool) h => ref25_SameTenant_g1 (⟨b1, 0, none⟩ : Addr) (⟨b3, 0, none⟩ : Addr) s k h) ?_ ?_
  ·
    rintro t17_1 h_1 H
    replace H : ref25_SameTenant_g1 (⟨b1, 0, none⟩ : Addr) (⟨b3, 0, none⟩ : Addr) t17_1 k h_1 := H
    unfold ref25_SameTenant_g1 at H
    refine w_weak [(17, .bool t17_1), (2, .pointer (some (⟨b1, 0, none⟩ : Addr))), (3, .pointer (some (⟨b3, 0, none⟩ : Addr)))] ⟨rfl, rfl, rfl, trivial⟩ ?_
    refine w_p tok rfl rfl rfl ?_
    refine w_cut 6 (α := Bool) (fun (s : Bool) => [(24, .bool s), (2, .pointer (some (⟨b1, 0, none⟩ : Addr))), (3, .pointer (some (⟨b3, 0, none⟩ : Addr)))]) (fun (s : Bool) h => ref25_SameTenant_g2 (⟨b1, 0, none⟩ : Addr) (⟨b3, 0, none⟩ : Addr) s k h) ?_ ?_
    ·
      rintro t24_2 h_2 H
      replace H : ref25_SameTenant_g2 (⟨b1, 0, none⟩ : Addr) (⟨b3, 0, none⟩ : Addr) t24_2 k h_2 := H
      unfold ref25_SameTenant_g2 at H
      refine w_weak [(24, .bool t24_2), (2, .pointer (some (⟨b1, 0, none⟩ : Addr))), (3, .pointer (some (⟨b3, 0, none⟩ : Addr)))] ⟨rfl, rfl, rfl, trivial⟩ ?_
      refine w_p tok rfl rfl rfl ?_
      refine w_cut 8 (α := Bool) (fun (s : Bool) => [(33, .bool s), (2, .pointer (some (⟨b1, 0, none⟩ : Addr))), (3, .pointer (some (⟨b3, 0, none⟩ : Addr)))]) (fun (s : Bool) h => ref25_SameTenant_g3 (⟨b1, 0, none⟩ : Addr) (⟨b3, 0, none⟩ : Addr) s k h) ?_ ?_
      ·
        rintro t33_3 h_3 H
        replace H : ref25_SameTenant_g3 (⟨b1, 0, none⟩ : Addr) (⟨b3, 0, none⟩ : Addr) t33_3 k h_3 := H
        unfold ref25_SameTenant_g3 at H
        refine w_weak [(33, .bool t33_3), (2, .pointer (some (⟨b1, 0, none⟩ : Addr))), (3, .pointer (some (⟨b3, 0, none⟩ : Addr)))] ⟨rfl, rfl, rfl, trivial⟩ ?_
        refine w_end ?_
        refine x_seq ?_
        refine c_if H rfl (fun H => ?_) (fun H => ?_)
        ·
          refine c_seq ?_
          refine c_region ?_
          refine w_p tok rfl rfl rfl ?_
          refine w_end ?_
          refine x_seq ?_
          refine c_ret ?_
          refine x_tr ?_
          exact x_ret _ rfl _ rfl ⟨false, rfl, H⟩
        ·
          refine c_skip ?_
          refine x_seq ?_
          refine c_seq ?_
          refine c_seq ?_
          refine c_region ?_
          refine w_p tok rfl rfl rfl ?_
          refine w_end ?_
          refine x_seq ?_
          refine c_block ?_
          obtain ⟨I4, μ4, H0, HI⟩ := H
          refine c_loop (σ := Int) (fun (s : Int) => [(5, .int .i64 s), (2, .pointer (some (⟨b1, 0, none⟩ : Addr))), (3, .pointer (some (⟨b3, 0, none⟩ : Addr)))]) I4 μ4 0 H0 ⟨rfl, rfl, rfl, trivial⟩ ?_
          rintro t5_4 h_4 H
          replace H := HI t5_4 h_4 H
          unfold ref25_SameTenant_l4b at H
          refine c_weak [(5, .int .i64 t5_4), (2, .pointer (some (⟨b1, 0, none⟩ : Addr))), (3, .pointer (some (⟨b3, 0, none⟩ : Addr)))] ⟨rfl, rfl, rfl, trivial⟩ ?_
          refine c_seq ?_
          refine c_seq ?_
          refine c_region ?_
          refine w_p tok rfl rfl rfl ?_
          refine w_p tok rfl rfl rfl ?_
          obtain ⟨v7, hv7, H⟩ := H
          refine w_y (y_ld tok rfl rfl rfl rfl hv7) rfl rfl ?_
          refine w_p tok rfl rfl rfl ?_
          refine w_p tok rfl rfl rfl ?_
          refine w_end ?_
          refine x_seq ?_
          refine c_if H rfl (fun H => ?_) (fun H => ?_)
          ·
            refine c_skip ?_
            refine x_seq ?_
            refine c_seq ?_
            refine c_block ?_
            refine c_seqJ (α := Bool) (fun (s : Bool) => [(84, .bool s), (2, .pointer (some (⟨b1, 0, none⟩ : Addr))), (3, .pointer (some (⟨b3, 0, none⟩ : Addr))), (5, .int .i64 t5_4)]) (fun (s : Bool) h => ref25_SameTenant_j5 (⟨b1, 0, none⟩ : Addr) (⟨b3, 0, none⟩ : Addr) t5_4 s k (fun s h' => I4 s h' ∧ μ4 s h' < μ4 t5_4 h_4) h) ?_ ?_
            ·
              rintro t84_5 h_5 H
              replace H : ref25_SameTenant_j5 (⟨b1, 0, none⟩ : Addr) (⟨b3, 0, none⟩ : Addr) t5_4 t84_5 k (fun s h' => I4 s h' ∧ μ4 s h' < μ4 t5_4 h_4) h_5 := H
              unfold ref25_SameTenant_j5 at H
              refine c_weak [(84, .bool t84_5), (2, .pointer (some (⟨b1, 0, none⟩ : Addr))), (3, .pointer (some (⟨b3, 0, none⟩ : Addr))), (5, .int .i64 t5_4)] ⟨rfl, rfl, rfl, rfl, trivial⟩ ?_
              refine c_if H rfl (fun H => ?_) (fun H => ?_)
              ·
                refine c_seq ?_
                refine c_region ?_
                refine w_p tok rfl rfl rfl ?_
                refine w_end ?_
                refine x_seq ?_
                refine c_ret ?_
                refine x_br ?_
                refine x_tr ?_
                refine x_tr ?_
                refine x_br ?_
                refine x_tr ?_
                exact x_ret _ rfl _ rfl ⟨false, rfl, H⟩
              ·
                refine c_skip ?_
                refine x_blk ?_
                refine x_seq ?_
                refine c_region ?_
                refine w_p tok rfl rfl rfl ?_
                refine w_p tok rfl rfl rfl ?_
                obtain ⟨x8, ex8, H⟩ := H
                refine w_pe tok rfl (congrArg (fun z => (.int .i64 z : Value)) ex8) rfl rfl ?_
                refine w_end ?_
                exact x_join x8 H ⟨rfl, rfl, rfl, trivial⟩
            ·
              refine c_sim [(2, .pointer (some (⟨b1, 0, none⟩ : Addr))), (3, .pointer (some (⟨b3, 0, none⟩ : Addr))), (5, .int .i64 t5_4)] (by kernel_rfl) (by kernel_rfl) ⟨rfl, rfl, rfl, trivial⟩ (fun wf => ?_)
              refine sim_p 0 (ei := [(2, .pointer (some (⟨b1, 0, none⟩ : Addr)))]) (d := (some 41)) wf (by kernel_rfl) ⟨rfl, trivial⟩ (by kernel_rfl) (by kernel_rfl) (fun _ => pf_p tok rfl rfl rfl rfl) (fun P_0 => ?_)
              obtain ⟨v9, hv9, H⟩ := H
              refine sim_l 1 (ei := [(41, .pointer (some ((⟨b1, 0, none⟩ : Addr).add 1)))]) (d := (some 42)) wf (by kernel_rfl) ⟨rfl, trivial⟩ (by kernel_rfl) (by kernel_rfl) (pf_y rfl rfl rfl (y_ld tok rfl rfl rfl rfl hv9)) (fun P_1 => ?_)
              refine sim_p 2 (ei := [(5, .int .i64 t5_4)]) (d := (some 43)) wf (by kernel_rfl) ⟨rfl, trivial⟩ (by kernel_rfl) (by kernel_rfl) (fun _ => pf_p tok rfl rfl rfl rfl) (fun P_2 => ?_)
              obtain ⟨a10, ha10, la10, ua10, H⟩ := H
              refine sim_p 3 (ei := [(42, Slc.v v9), (43, .int .i64 t5_4)]) (d := (some 44)) wf (by kernel_rfl) ⟨rfl, rfl, trivial⟩ (by kernel_rfl) (by kernel_rfl) (fun _ => pf_y rfl rfl rfl (y_ixa' tok rfl rfl ha10 rfl rfl rfl la10 ua10)) (fun P_3 => ?_)
              refine sim_p 4 (ei := [(44, .pointer (some (a10.add (t5_4.toNat * 14))))]) (d := (some 45)) wf (by kernel_rfl) ⟨rfl, trivial⟩ (by kernel_rfl) (by kernel_rfl) (fun _ => pf_p tok rfl rfl rfl rfl) (fun P_4 => ?_)
              obtain ⟨v11, hv11, H⟩ := H
              refine sim_l 5 (ei := [(45, .pointer (some (a10.add (t5_4.toNat * 14))))]) (d := (some 46)) wf (by kernel_rfl) ⟨rfl, trivial⟩ (by kernel_rfl) (by kernel_rfl) (pf_y rfl rfl rfl (y_ld tok rfl rfl rfl rfl hv11)) (fun P_5 => ?_)
              refine sim_p 6 (ei := [(3, .pointer (some (⟨b3, 0, none⟩ : Addr)))]) (d := (some 47)) wf (by kernel_rfl) ⟨rfl, trivial⟩ (by kernel_rfl) (by kernel_rfl) (fun _ => pf_p tok rfl rfl rfl rfl) (fun P_6 => ?_)
              obtain ⟨v12, hv12, H⟩ := H
              refine sim_l 7 (ei := [(47, .pointer (some ((⟨b3, 0, none⟩ : Addr).add 1)))]) (d := (some 48)) wf (by kernel_rfl) ⟨rfl, trivial⟩ (by kernel_rfl) (by kernel_rfl) (pf_y rfl rfl rfl (y_ld tok rfl rfl rfl rfl hv12)) (fun P_7 => ?_)
              refine sim_p 8 (ei := [(5, .int .i64 t5_4)]) (d := (some 49)) wf (by kernel_rfl) ⟨rfl, trivial⟩ (by kernel_rfl) (by kernel_rfl) (fun _ => pf_p tok rfl rfl rfl rfl) (fun P_8 => ?_)
              obtain ⟨a13, ha13, la13, ua13, H⟩ := H
              refine sim_p 9 (ei := [(48, Slc.v v12), (49, .int .i64 t5_4)]) (d := (some 50)) wf (by kernel_rfl) ⟨rfl, rfl, trivial⟩ (by kernel_rfl) (by kernel_rfl) (fun _ => pf_y rfl rfl rfl (y_ixa' tok rfl rfl ha13 rfl rfl rfl la13 ua13)) (fun P_9 => ?_)
              refine sim_p 10 (ei := [(50, .pointer (some (a13.add (t5_4.toNat * 14))))]) (d := (some 51)) wf (by kernel_rfl) ⟨rfl, trivial⟩ (by kernel_rfl) (by kernel_rfl) (fun _ => pf_p tok rfl rfl rfl rfl) (fun P_10 => ?_)
              obtain ⟨v14, hv14, H⟩ := H
              refine sim_l 11 (ei := [(51, .pointer (some (a13.add (t5_4.toNat * 14))))]) (d := (some 52)) wf (by kernel_rfl) ⟨rfl, trivial⟩ (by kernel_rfl) (by kernel_rfl) (pf_y rfl rfl rfl (y_ld tok rfl rfl rfl rfl hv14)) (fun P_11 => ?_)
              refine sim_p 12 (ei := [(46, .int .u32 v11), (52, .int .u32 v14)]) (d := (some 53)) wf (by kernel_rfl) ⟨rfl, rfl, trivial⟩ (by kernel_rfl) (by kernel_rfl) (fun _ => pf_p tok rfl rfl rfl rfl) (fun P_12 => ?_)
              refine sim_p 13 (ei := [(53, .bool (v11 != v14))]) (d := (some 54)) wf (by kernel_rfl) ⟨rfl, trivial⟩ (by kernel_rfl) (by kernel_rfl) (fun _ => pf_p tok rfl rfl rfl rfl) (fun P_13 => ?_)
              refine sim_gif 54 H rfl (fun hb H => ?_) (fun hb H => ?_)
              ·
                refine sim_p 14 (v := undef) (ei := [(2, .pointer (some (⟨b1, 0, none⟩ : Addr))), (54, .bool true)]) (d := (some 55)) wf (by kernel_rfl) ⟨rfl, rfl, trivial⟩ (by kernel_rfl) (by kernel_rfl) (fun _ => pf_s rfl rfl rfl) (fun P_14 => ?_)
                refine sim_p 15 (v := undef) (ei := [(54, .bool true), (55, undef)]) (d := (some 56)) wf (by kernel_rfl) ⟨rfl, rfl, trivial⟩ (by kernel_rfl) (by kernel_rfl) (fun _ => pf_s rfl rfl rfl) (fun P_15 => ?_)
                refine sim_p 16 (v := undef) (ei := [(5, .int .i64 t5_4), (54, .bool true)]) (d := (some 57)) wf (by kernel_rfl) ⟨rfl, rfl, trivial⟩ (by kernel_rfl) (by kernel_rfl) (fun _ => pf_s rfl rfl rfl) (fun P_16 => ?_)
                refine sim_p 17 (v := undef) (ei := [(54, .bool true), (56, undef), (57, undef)]) (d := (some 58)) wf (by kernel_rfl) ⟨rfl, rfl, rfl, trivial⟩ (by kernel_rfl) (by kernel_rfl) (fun _ => pf_s rfl rfl rfl) (fun P_17 => ?_)
                refine sim_p 18 (v := undef) (ei := [(54, .bool true), (58, undef)]) (d := (some 59)) wf (by kernel_rfl) ⟨rfl, rfl, trivial⟩ (by kernel_rfl) (by kernel_rfl) (fun _ => pf_s rfl rfl rfl) (fun P_18 => ?_)
                refine sim_p 19 (v := undef) (ei := [(54, .bool true), (59, undef)]) (d := (some 60)) wf (by kernel_rfl) ⟨rfl, rfl, trivial⟩ (by kernel_rfl) (by kernel_rfl) (fun _ => pf_s rfl rfl rfl) (fun P_19 => ?_)
                refine sim_p 20 (v := undef) (ei := [(3, .pointer (some (⟨b3, 0, none⟩ : Addr))), (54, .bool true)]) (d := (some 61)) wf (by kernel_rfl) ⟨rfl, rfl, trivial⟩ (by kernel_rfl) (by kernel_rfl) (fun _ => pf_s rfl rfl rfl) (fun P_20 => ?_)
                refine sim_p 21 (v := undef) (ei := [(54, .bool true), (61, undef)]) (d := (some 62)) wf (by kernel_rfl) ⟨rfl, rfl, trivial⟩ (by kernel_rfl) (by kernel_rfl) (fun _ => pf_s rfl rfl rfl) (fun P_21 => ?_)
                refine sim_p 22 (v := undef) (ei := [(5, .int .i64 t5_4), (54, .bool true)]) (d := (some 63)) wf (by kernel_rfl) ⟨rfl, rfl, trivial⟩ (by kernel_rfl) (by kernel_rfl) (fun _ => pf_s rfl rfl rfl) (fun P_22 => ?_)
                refine sim_p 23 (v := undef) (ei := [(54, .bool true), (62, undef), (63, undef)]) (d := (some 64)) wf (by kernel_rfl) ⟨rfl, rfl, rfl, trivial⟩ (by kernel_rfl) (by kernel_rfl) (fun _ => pf_s rfl rfl rfl) (fun P_23 => ?_)
                refine sim_p 24 (v := undef) (ei := [(54, .bool true), (64, undef)]) (d := (some 65)) wf (by kernel_rfl) ⟨rfl, rfl, trivial⟩ (by kernel_rfl) (by kernel_rfl) (fun _ => pf_s rfl rfl rfl) (fun P_24 => ?_)
                refine sim_p 25 (v := undef) (ei := [(54, .bool true), (65, undef)]) (d := (some 66)) wf (by kernel_rfl) ⟨rfl, rfl, trivial⟩ (by kernel_rfl) (by kernel_rfl) (fun _ => pf_s rfl rfl rfl) (fun P_25 => ?_)
                refine sim_p 26 (v := undef) (ei := [(54, .bool true), (60, undef), (66, undef)]) (d := (some 67)) wf (by kernel_rfl) ⟨rfl, rfl, rfl, trivial⟩ (by kernel_rfl) (by kernel_rfl) (fun _ => pf_s rfl rfl rfl) (fun P_26 => ?_)
                refine sim_p 27 (ei := [(54, .bool true), (67, undef)]) (d := (some 68)) wf (by kernel_rfl) ⟨rfl, rfl, trivial⟩ (by kernel_rfl) (by kernel_rfl) (fun _ => pf_p tok rfl rfl rfl rfl) (fun P_27 => ?_)
                refine sim_p 28 (ei := [(68, .bool true)]) (d := (some 69)) wf (by kernel_rfl) ⟨rfl, trivial⟩ (by kernel_rfl) (by kernel_rfl) (fun _ => pf_p tok rfl rfl rfl rfl) (fun P_28 => ?_)
                refine sim_gif 69 H rfl (fun hb H => ?_) (fun hb H => ?_)
                ·
                  refine sim_p 29 (v := undef) (ei := [(2, .pointer (some (⟨b1, 0, none⟩ : Addr))), (69, .bool true)]) (d := (some 70)) wf (by kernel_rfl) ⟨rfl, rfl, trivial⟩ (by kernel_rfl) (by kernel_rfl) (fun _ => pf_s rfl rfl rfl) (fun P_29 => ?_)
                  refine sim_p 30 (v := undef) (ei := [(69, .bool true), (70, undef)]) (d := (some 71)) wf (by kernel_rfl) ⟨rfl, rfl, trivial⟩ (by kernel_rfl) (by kernel_rfl) (fun _ => pf_s rfl rfl rfl) (fun P_30 => ?_)
                  refine sim_p 31 (v := undef) (ei := [(5, .int .i64 t5_4), (69, .bool true)]) (d := (some 72)) wf (by kernel_rfl) ⟨rfl, rfl, trivial⟩ (by kernel_rfl) (by kernel_rfl) (fun _ => pf_s rfl rfl rfl) (fun P_31 => ?_)
                  refine sim_p 32 (v := undef) (ei := [(69, .bool true), (71, undef), (72, undef)]) (d := (some 73)) wf (by kernel_rfl) ⟨rfl, rfl, rfl, trivial⟩ (by kernel_rfl) (by kernel_rfl) (fun _ => pf_s rfl rfl rfl) (fun P_32 => ?_)
                  refine sim_p 33 (v := undef) (ei := [(69, .bool true), (73, undef)]) (d := (some 74)) wf (by kernel_rfl) ⟨rfl, rfl, trivial⟩ (by kernel_rfl) (by kernel_rfl) (fun _ => pf_s rfl rfl rfl) (fun P_33 => ?_)
                  refine sim_p 34 (v := undef) (ei := [(69, .bool true), (74, undef)]) (d := (some 75)) wf (by kernel_rfl) ⟨rfl, rfl, trivial⟩ (by kernel_rfl) (by kernel_rfl) (fun _ => pf_s rfl rfl rfl) (fun P_34 => ?_)
                  refine sim_p 35 (v := undef) (ei := [(3, .pointer (some (⟨b3, 0, none⟩ : Addr))), (69, .bool true)]) (d := (some 76)) wf (by kernel_rfl) ⟨rfl, rfl, trivial⟩ (by kernel_rfl) (by kernel_rfl) (fun _ => pf_s rfl rfl rfl) (fun P_35 => ?_)
                  refine sim_p 36 (v := undef) (ei := [(69, .bool true), (76, undef)]) (d := (some 77)) wf (by kernel_rfl) ⟨rfl, rfl, trivial⟩ (by kernel_rfl) (by kernel_rfl) (fun _ => pf_s rfl rfl rfl) (fun P_36 => ?_)
                  refine sim_p 37 (v := undef) (ei := [(5, .int .i64 t5_4), (69, .bool true)]) (d := (some 78)) wf (by kernel_rfl) ⟨rfl, rfl, trivial⟩ (by kernel_rfl) (by kernel_rfl) (fun _ => pf_s rfl rfl rfl) (fun P_37 => ?_)
                  refine sim_p 38 (v := undef) (ei := [(69, .bool true), (77, undef), (78, undef)]) (d := (some 79)) wf (by kernel_rfl) ⟨rfl, rfl, rfl, trivial⟩ (by kernel_rfl) (by kernel_rfl) (fun _ => pf_s rfl rfl rfl) (fun P_38 => ?_)
                  refine sim_p 39 (v := undef) (ei := [(69, .bool true), (79, undef)]) (d := (some 80)) wf (by kernel_rfl) ⟨rfl, rfl, trivial⟩ (by kernel_rfl) (by kernel_rfl) (fun _ => pf_s rfl rfl rfl) (fun P_39 => ?_)
                  refine sim_p 40 (v := undef) (ei := [(69, .bool true), (80, undef)]) (d := (some 81)) wf (by kernel_rfl) ⟨rfl, rfl, trivial⟩ (by kernel_rfl) (by kernel_rfl) (fun _ => pf_s rfl rfl rfl) (fun P_40 => ?_)
                  refine sim_p 41 (v := undef) (ei := [(69, .bool true), (75, undef), (81, undef)]) (d := (some 82)) wf (by kernel_rfl) ⟨rfl, rfl, rfl, trivial⟩ (by kernel_rfl) (by kernel_rfl) (fun _ => pf_s rfl rfl rfl) (fun P_41 => ?_)
                  refine sim_p 42 (v := undef) (ei := [(69, .bool true), (82, undef)]) (d := (some 83)) wf (by kernel_rfl) ⟨rfl, rfl, trivial⟩ (by kernel_rfl) (by kernel_rfl) (fun _ => pf_s rfl rfl rfl) (fun P_42 => ?_)
                  refine sim_p 43 (ei := [(69, .bool true), (83, undef)]) (d := (some 84)) wf (by kernel_rfl) ⟨rfl, rfl, trivial⟩ (by kernel_rfl) (by kernel_rfl) (fun _ => pf_p tok rfl rfl rfl rfl) (fun P_43 => ?_)
                  refine sim_end wf ⟨P_43 _, P_42 _, P_41 _, P_40 _, P_39 _, P_38 _, P_37 _, P_36 _, P_35 _, P_34 _, P_33 _, P_32 _, P_31 _, P_30 _, P_29 _, P_28 _, P_27 _, P_26 _, P_25 _, P_24 _, P_23 _, P_22 _, P_21 _, P_20 _, P_19 _, P_18 _, P_17 _, P_16 _, P_15 _, P_14 _, P_13 _, P_12 _, P_11, P_10 _, P_9 _, P_8 _, P_7, P_6 _, P_5, P_4 _, P_3 _, P_2 _, P_1, P_0 _, trivial⟩ (by kernel_rfl) ?_
                  clear wf P_0 P_1 P_10 P_11 P_12 P_13 P_14 P_15 P_16 P_17 P_18 P_19 P_2 P_20 P_21 P_22 P_23 P_24 P_25 P_26 P_27 P_28 P_29 P_3 P_30 P_31 P_32 P_33 P_34 P_35 P_36 P_37 P_38 P_39 P_4 P_40 P_41 P_42 P_43 P_5 P_6 P_7 P_8 P_9
                  exact x_join true H ⟨rfl, rfl, rfl, rfl, trivial⟩
                ·
                  refine sim_p 29 (ei := [(2, .pointer (some (⟨b1, 0, none⟩ : Addr))), (69, .bool false)]) (d := (some 70)) wf (by kernel_rfl) ⟨rfl, rfl, trivial⟩ (by kernel_rfl) (by kernel_rfl) (fun _ => pf_p tok rfl rfl rfl rfl) (fun P_29 => ?_)
                  obtain ⟨v15, hv15, H⟩ := H
                  refine sim_l 30 (ei := [(69, .bool false), (70, .pointer (some ((⟨b1, 0, none⟩ : Addr).add 1)))]) (d := (some 71)) wf (by kernel_rfl) ⟨rfl, rfl, trivial⟩ (by kernel_rfl) (by kernel_rfl) (pf_y rfl rfl rfl (y_ld tok rfl rfl rfl rfl hv15)) (fun P_30 => ?_)
                  refine sim_p 31 (ei := [(5, .int .i64 t5_4), (69, .bool false)]) (d := (some 72)) wf (by kernel_rfl) ⟨rfl, rfl, trivial⟩ (by kernel_rfl) (by kernel_rfl) (fun _ => pf_p tok rfl rfl rfl rfl) (fun P_31 => ?_)
                  obtain ⟨a16, ha16, la16, ua16, H⟩ := H
                  refine sim_p 32 (ei := [(69, .bool false), (71, Slc.v v15), (72, .int .i64 t5_4)]) (d := (some 73)) wf (by kernel_rfl) ⟨rfl, rfl, rfl, trivial⟩ (by kernel_rfl) (by kernel_rfl) (fun _ => pf_y rfl rfl rfl (y_ixa' tok rfl rfl ha16 rfl rfl rfl la16 ua16)) (fun P_32 => ?_)
                  refine sim_p 33 (ei := [(69, .bool false), (73, .pointer (some (a16.add (t5_4.toNat * 14))))]) (d := (some 74)) wf (by kernel_rfl) ⟨rfl, rfl, trivial⟩ (by kernel_rfl) (by kernel_rfl) (fun _ => pf_p tok rfl rfl rfl rfl) (fun P_33 => ?_)
                  obtain ⟨v17, hv17, H⟩ := H
                  refine sim_l 34 (ei := [(69, .bool false), (74, .pointer (some ((a16.add (t5_4.toNat * 14)).add 13)))]) (d := (some 75)) wf (by kernel_rfl) ⟨rfl, rfl, trivial⟩ (by kernel_rfl) (by kernel_rfl) (pf_y rfl rfl rfl (y_ld tok rfl rfl rfl rfl hv17)) (fun P_34 => ?_)
                  refine sim_p 35 (ei := [(3, .pointer (some (⟨b3, 0, none⟩ : Addr))), (69, .bool false)]) (d := (some 76)) wf (by kernel_rfl) ⟨rfl, rfl, trivial⟩ (by kernel_rfl) (by kernel_rfl) (fun _ => pf_p tok rfl rfl rfl rfl) (fun P_35 => ?_)
                  obtain ⟨v18, hv18, H⟩ := H
                  refine sim_l 36 (ei := [(69, .bool false), (76, .pointer (some ((⟨b3, 0, none⟩ : Addr).add 1)))]) (d := (some 77)) wf (by kernel_rfl) ⟨rfl, rfl, trivial⟩ (by kernel_rfl) (by kernel_rfl) (pf_y rfl rfl rfl (y_ld tok rfl rfl rfl rfl hv18)) (fun P_36 => ?_)
                  refine sim_p 37 (ei := [(5, .int .i64 t5_4), (69, .bool false)]) (d := (some 78)) wf (by kernel_rfl) ⟨rfl, rfl, trivial⟩ (by kernel_rfl) (by kernel_rfl) (fun _ => pf_p tok rfl rfl rfl rfl) (fun P_37 => ?_)
                  obtain ⟨a19, ha19, la19, ua19, H⟩ := H
                  refine sim_p 38 (ei := [(69, .bool false), (77, Slc.v v18), (78, .int .i64 t5_4)]) (d := (some 79)) wf (by kernel_rfl) ⟨rfl, rfl, rfl, trivial⟩ (by kernel_rfl) (by kernel_rfl) (fun _ => pf_y rfl rfl rfl (y_ixa' tok rfl rfl ha19 rfl rfl rfl la19 ua19)) (fun P_38 => ?_)
                  refine sim_p 39 (ei := [(69, .bool false), (79, .pointer (some (a19.add (t5_4.toNat * 14))))]) (d := (some 80)) wf (by kernel_rfl) ⟨rfl, rfl, trivial⟩ (by kernel_rfl) (by kernel_rfl) (fun _ => pf_p tok rfl rfl rfl rfl) (fun P_39 => ?_)
                  obtain ⟨v20, hv20, H⟩ := H
                  refine sim_l 40 (ei := [(69, .bool false), (80, .pointer (some ((a19.add (t5_4.toNat * 14)).add 13)))]) (d := (some 81)) wf (by kernel_rfl) ⟨rfl, rfl, trivial⟩ (by kernel_rfl) (by kernel_rfl) (pf_y rfl rfl rfl (y_ld tok rfl rfl rfl rfl hv20)) (fun P_40 => ?_)
                  refine sim_c 41 [0, 1, 2, 3, 4, 5, 6, 7, 8, 9, 10, 11, 12, 13, 14, 15, 16, 17, 18, 19, 20, 21, 22, 23, 24, 25, 26, 27, 28, 29, 30, 31, 32, 33, 34, 35, 36, 37, 38, 39, 40] [0, 1, 2, 3, 4, 5, 6, 7, 8, 9, 10, 11, 12, 13, 14, 15, 16, 17, 18, 19, 20, 21, 22, 23, 24, 25, 26, 27, 28, 29, 30, 31, 32, 33, 34, 35, 36, 37, 38, 39, 40] (ei := [(69, .bool false), (75, Slc.v v17), (81, Slc.v v20)]) ref01_Same_ok (ref01_Same_ref _ _ _ _ H) wf ⟨P_40, P_39 _, P_38 _, P_37 _, P_36, P_35 _, P_34, P_33 _, P_32 _, P_31 _, P_30, P_29 _, P_28 _, P_27 _, P_26 _, P_25 _, P_24 _, P_23 _, P_22 _, P_21 _, P_20 _, P_19 _, P_18 _, P_17 _, P_16 _, P_15 _, P_14 _, P_13 _, P_12 _, P_11, P_10 _, P_9 _, P_8 _, P_7, P_6 _, P_5, P_4 _, P_3 _, P_2 _, P_1, P_0 _, trivial⟩ (by kernel_rfl) ⟨rfl, rfl, rfl, trivial⟩ (by kernel_rfl) rfl rfl rfl rfl rfl ?_
                  rintro _ h22 ⟨r21, rfl, H⟩
                  refine sim_p 42 (ei := [(69, .bool false), (82, .bool r21)]) (d := (some 83)) wf (by kernel_rfl) ⟨rfl, rfl, trivial⟩ (by kernel_rfl) (by kernel_rfl) (fun _ => pf_p tok rfl rfl rfl rfl) (fun P_42 => ?_)
                  refine sim_p 43 (ei := [(69, .bool false), (83, .bool (!r21))]) (d := (some 84)) wf (by kernel_rfl) ⟨rfl, rfl, trivial⟩ (by kernel_rfl) (by kernel_rfl) (fun _ => pf_p tok rfl rfl rfl rfl) (fun P_43 => ?_)
                  refine sim_end wf ⟨P_43 _, P_42 _, trivial, trivial, trivial, trivial, trivial, trivial, trivial, trivial, trivial, trivial, trivial, trivial, trivial, trivial, trivial, trivial, trivial, trivial, trivial, trivial, trivial, trivial, trivial, trivial, trivial, trivial, trivial, trivial, trivial, trivial, trivial, trivial, trivial, trivial, trivial, trivial, trivial, trivial, trivial, trivial, trivial, trivial⟩ (by kernel_rfl) ?_
                  clear wf P_0 P_1 P_10 P_11 P_12 P_13 P_14 P_15 P_16 P_17 P_18 P_19 P_2 P_20 P_21 P_22 P_23 P_24 P_25 P_26 P_27 P_28 P_29 P_3 P_30 P_31 P_32 P_33 P_34 P_35 P_36 P_37 P_38 P_39 P_4 P_40 P_42 P_43 P_5 P_6 P_7 P_8 P_9
                  exact x_join (!r21) H ⟨rfl, rfl, rfl, rfl, trivial⟩
              ·
                refine sim_p 14 (ei := [(2, .pointer (some (⟨b1, 0, none⟩ : Addr))), (54, .bool false)]) (d := (some 55)) wf (by kernel_rfl) ⟨rfl, rfl, trivial⟩ (by kernel_rfl) (by kernel_rfl) (fun _ => pf_p tok rfl rfl rfl rfl) (fun P_14 => ?_)
                obtain ⟨v23, hv23, H⟩ := H
                refine sim_l 15 (ei := [(54, .bool false), (55, .pointer (some ((⟨b1, 0, none⟩ : Addr).add 1)))]) (d := (some 56)) wf (by kernel_rfl) ⟨rfl, rfl, trivial⟩ (by kernel_rfl) (by kernel_rfl) (pf_y rfl rfl rfl (y_ld tok rfl rfl rfl rfl hv23)) (fun P_15 => ?_)
                refine sim_p 16 (ei := [(5, .int .i64 t5_4), (54, .bool false)]) (d := (some 57)) wf (by kernel_rfl) ⟨rfl, rfl, trivial⟩ (by kernel_rfl) (by kernel_rfl) (fun _ => pf_p tok rfl rfl rfl rfl) (fun P_16 => ?_)
                obtain ⟨a24, ha24, la24, ua24, H⟩ := H
                refine sim_p 17 (ei := [(54, .bool false), (56, Slc.v v23), (57, .int .i64 t5_4)]) (d := (some 58)) wf (by kernel_rfl) ⟨rfl, rfl, rfl, trivial⟩ (by kernel_rfl) (by kernel_rfl) (fun _ => pf_y rfl rfl rfl (y_ixa' tok rfl rfl ha24 rfl rfl rfl la24 ua24)) (fun P_17 => ?_)
                refine sim_p 18 (ei := [(54, .bool false), (58, .pointer (some (a24.add (t5_4.toNat * 14))))]) (d := (some 59)) wf (by kernel_rfl) ⟨rfl, rfl, trivial⟩ (by kernel_rfl) (by kernel_rfl) (fun _ => pf_p tok rfl rfl rfl rfl) (fun P_18 => ?_)
                obtain ⟨v25, hv25, H⟩ := H
                refine sim_l 19 (ei := [(54, .bool false), (59, .pointer (some ((a24.add (t5_4.toNat * 14)).add 1)))]) (d := (some 60)) wf (by kernel_rfl) ⟨rfl, rfl, trivial⟩ (by kernel_rfl) (by kernel_rfl) (pf_y rfl rfl rfl (y_lda tok rfl rfl rfl rfl rfl hv25)) (fun P_19 => ?_)
                refine sim_p 20 (ei := [(3, .pointer (some (⟨b3, 0, none⟩ : Addr))), (54, .bool false)]) (d := (some 61)) wf (by kernel_rfl) ⟨rfl, rfl, trivial⟩ (by kernel_rfl) (by kernel_rfl) (fun _ => pf_p tok rfl rfl rfl rfl) (fun P_20 => ?_)
                obtain ⟨v26, hv26, H⟩ := H
                refine sim_l 21 (ei := [(54, .bool false), (61, .pointer (some ((⟨b3, 0, none⟩ : Addr).add 1)))]) (d := (some 62)) wf (by kernel_rfl) ⟨rfl, rfl, trivial⟩ (by kernel_rfl) (by kernel_rfl) (pf_y rfl rfl rfl (y_ld tok rfl rfl rfl rfl hv26)) (fun P_21 => ?_)
                refine sim_p 22 (ei := [(5, .int .i64 t5_4), (54, .bool false)]) (d := (some 63)) wf (by kernel_rfl) ⟨rfl, rfl, trivial⟩ (by kernel_rfl) (by kernel_rfl) (fun _ => pf_p tok rfl rfl rfl rfl) (fun P_22 => ?_)
                obtain ⟨a27, ha27, la27, ua27, H⟩ := H
                refine sim_p 23 (ei := [(54, .bool false), (62, Slc.v v26), (63, .int .i64 t5_4)]) (d := (some 64)) wf (by kernel_rfl) ⟨rfl, rfl, rfl, trivial⟩ (by kernel_rfl) (by kernel_rfl) (fun _ => pf_y rfl rfl rfl (y_ixa' tok rfl rfl ha27 rfl rfl rfl la27 ua27)) (fun P_23 => ?_)
                refine sim_p 24 (ei := [(54, .bool false), (64, .pointer (some (a27.add (t5_4.toNat * 14))))]) (d := (some 65)) wf (by kernel_rfl) ⟨rfl, rfl, trivial⟩ (by kernel_rfl) (by kernel_rfl) (fun _ => pf_p tok rfl rfl rfl rfl) (fun P_24 => ?_)
                obtain ⟨v28, hv28, H⟩ := H
                refine sim_l 25 (ei := [(54, .bool false), (65, .pointer (some ((a27.add (t5_4.toNat * 14)).add 1)))]) (d := (some 66)) wf (by kernel_rfl) ⟨rfl, rfl, trivial⟩ (by kernel_rfl) (by kernel_rfl) (pf_y rfl rfl rfl (y_lda tok rfl rfl rfl rfl rfl hv28)) (fun P_25 => ?_)
                refine sim_p 26 (ei := [(54, .bool false), (60, .agg (arr 12 .u8 v25).toArray), (66, .agg (arr 12 .u8 v28).toArray)]) (d := (some 67)) wf (by kernel_rfl) ⟨rfl, rfl, rfl, trivial⟩ (by kernel_rfl) (by kernel_rfl) (fun _ => pf_y rfl rfl rfl (y_eqr (xs := v25) (ys := v28) tok (.inr rfl) rfl rfl rfl rfl rfl rfl (by kernel_rfl))) (fun P_26 => ?_)
                refine sim_p 27 (ei := [(54, .bool false), (67, .bool (if BinOp.neq = .eql then (nrm 12 v25 == nrm 12 v28) else !(nrm 12 v25 == nrm 12 v28)))]) (d := (some 68)) wf (by kernel_rfl) ⟨rfl, rfl, trivial⟩ (by kernel_rfl) (by kernel_rfl) (fun _ => pf_p tok rfl rfl rfl rfl) (fun P_27 => ?_)
                refine sim_p 28 (ei := [(68, .bool (if BinOp.neq = .eql then (nrm 12 v25 == nrm 12 v28) else !(nrm 12 v25 == nrm 12 v28)))]) (d := (some 69)) wf (by kernel_rfl) ⟨rfl, trivial⟩ (by kernel_rfl) (by kernel_rfl) (fun _ => pf_p tok rfl rfl rfl rfl) (fun P_28 => ?_)
                refine sim_gif 69 H rfl (fun hb H => ?_) (fun hb H => ?_)
                ·
                  refine sim_p 29 (v := undef) (ei := [(2, .pointer (some (⟨b1, 0, none⟩ : Addr))), (69, .bool true)]) (d := (some 70)) wf (by kernel_rfl) ⟨rfl, rfl, trivial⟩ (by kernel_rfl) (by kernel_rfl) (fun _ => pf_s rfl rfl rfl) (fun P_29 => ?_)
                  refine sim_p 30 (v := undef) (ei := [(69, .bool true), (70, undef)]) (d := (some 71)) wf (by kernel_rfl) ⟨rfl, rfl, trivial⟩ (by kernel_rfl) (by kernel_rfl) (fun _ => pf_s rfl rfl rfl) (fun P_30 => ?_)
                  refine sim_p 31 (v := undef) (ei := [(5, .int .i64 t5_4), (69, .bool true)]) (d := (some 72)) wf (by kernel_rfl) ⟨rfl, rfl, trivial⟩ (by kernel_rfl) (by kernel_rfl) (fun _ => pf_s rfl rfl rfl) (fun P_31 => ?_)
                  refine sim_p 32 (v := undef) (ei := [(69, .bool true), (71, undef), (72, undef)]) (d := (some 73)) wf (by kernel_rfl) ⟨rfl, rfl, rfl, trivial⟩ (by kernel_rfl) (by kernel_rfl) (fun _ => pf_s rfl rfl rfl) (fun P_32 => ?_)
                  refine sim_p 33 (v := undef) (ei := [(69, .bool true), (73, undef)]) (d := (some 74)) wf (by kernel_rfl) ⟨rfl, rfl, trivial⟩ (by kernel_rfl) (by kernel_rfl) (fun _ => pf_s rfl rfl rfl) (fun P_33 => ?_)
                  refine sim_p 34 (v := undef) (ei := [(69, .bool true), (74, undef)]) (d := (some 75)) wf (by kernel_rfl) ⟨rfl, rfl, trivial⟩ (by kernel_rfl) (by kernel_rfl) (fun _ => pf_s rfl rfl rfl) (fun P_34 => ?_)
                  refine sim_p 35 (v := undef) (ei := [(3, .pointer (some (⟨b3, 0, none⟩ : Addr))), (69, .bool true)]) (d := (some 76)) wf (by kernel_rfl) ⟨rfl, rfl, trivial⟩ (by kernel_rfl) (by kernel_rfl) (fun _ => pf_s rfl rfl rfl) (fun P_35 => ?_)
                  refine sim_p 36 (v := undef) (ei := [(69, .bool true), (76, undef)]) (d := (some 77)) wf (by kernel_rfl) ⟨rfl, rfl, trivial⟩ (by kernel_rfl) (by kernel_rfl) (fun _ => pf_s rfl rfl rfl) (fun P_36 => ?_)
                  refine sim_p 37 (v := undef) (ei := [(5, .int .i64 t5_4), (69, .bool true)]) (d := (some 78)) wf (by kernel_rfl) ⟨rfl, rfl, trivial⟩ (by kernel_rfl) (by kernel_rfl) (fun _ => pf_s rfl rfl rfl) (fun P_37 => ?_)
                  refine sim_p 38 (v := undef) (ei := [(69, .bool true), (77, undef), (78, undef)]) (d := (some 79)) wf (by kernel_rfl) ⟨rfl, rfl, rfl, trivial⟩ (by kernel_rfl) (by kernel_rfl) (fun _ => pf_s rfl rfl rfl) (fun P_38 => ?_)
                  refine sim_p 39 (v := undef) (ei := [(69, .bool true), (79, undef)]) (d := (some 80)) wf (by kernel_rfl) ⟨rfl, rfl, trivial⟩ (by kernel_rfl) (by kernel_rfl) (fun _ => pf_s rfl rfl rfl) (fun P_39 => ?_)
                  refine sim_p 40 (v := undef) (ei := [(69, .bool true), (80, undef)]) (d := (some 81)) wf (by kernel_rfl) ⟨rfl, rfl, trivial⟩ (by kernel_rfl) (by kernel_rfl) (fun _ => pf_s rfl rfl rfl) (fun P_40 => ?_)
                  refine sim_p 41 (v := undef) (ei := [(69, .bool true), (75, undef), (81, undef)]) (d := (some 82)) wf (by kernel_rfl) ⟨rfl, rfl, rfl, trivial⟩ (by kernel_rfl) (by kernel_rfl) (fun _ => pf_s rfl rfl rfl) (fun P_41 => ?_)
                  refine sim_p 42 (v := undef) (ei := [(69, .bool true), (82, undef)]) (d := (some 83)) wf (by kernel_rfl) ⟨rfl, rfl, trivial⟩ (by kernel_rfl) (by kernel_rfl) (fun _ => pf_s rfl rfl rfl) (fun P_42 => ?_)
                  refine sim_p 43 (ei := [(69, .bool true), (83, undef)]) (d := (some 84)) wf (by kernel_rfl) ⟨rfl, rfl, trivial⟩ (by kernel_rfl) (by kernel_rfl) (fun _ => pf_p tok rfl rfl rfl rfl) (fun P_43 => ?_)
                  refine sim_end wf ⟨P_43 _, P_42 _, P_41 _, P_40 _, P_39 _, P_38 _, P_37 _, P_36 _, P_35 _, P_34 _, P_33 _, P_32 _, P_31 _, P_30 _, P_29 _, P_28 _, P_27 _, P_26 _, P_25, P_24 _, P_23 _, P_22 _, P_21, P_20 _, P_19, P_18 _, P_17 _, P_16 _, P_15, P_14 _, P_13 _, P_12 _, P_11, P_10 _, P_9 _, P_8 _, P_7, P_6 _, P_5, P_4 _, P_3 _, P_2 _, P_1, P_0 _, trivial⟩ (by kernel_rfl) ?_
                  clear wf P_0 P_1 P_10 P_11 P_12 P_13 P_14 P_15 P_16 P_17 P_18 P_19 P_2 P_20 P_21 P_22 P_23 P_24 P_25 P_26 P_27 P_28 P_29 P_3 P_30 P_31 P_32 P_33 P_34 P_35 P_36 P_37 P_38 P_39 P_4 P_40 P_41 P_42 P_43 P_5 P_6 P_7 P_8 P_9
                  exact x_join true H ⟨rfl, rfl, rfl, rfl, trivial⟩
                ·
                  refine sim_p 29 (ei := [(2, .pointer (some (⟨b1, 0, none⟩ : Addr))), (69, .bool false)]) (d := (some 70)) wf (by kernel_rfl) ⟨rfl, rfl, trivial⟩ (by kernel_rfl) (by kernel_rfl) (fun _ => pf_p tok rfl rfl rfl rfl) (fun P_29 => ?_)
                  obtain ⟨v30, hv30, H⟩ := H
                  refine sim_l 30 (ei := [(69, .bool false), (70, .pointer (some ((⟨b1, 0, none⟩ : Addr).add 1)))]) (d := (some 71)) wf (by kernel_rfl) ⟨rfl, rfl, trivial⟩ (by kernel_rfl) (by kernel_rfl) (pf_y rfl rfl rfl (y_ld tok rfl rfl rfl rfl hv30)) (fun P_30 => ?_)
                  refine sim_p 31 (ei := [(5, .int .i64 t5_4), (69, .bool false)]) (d := (some 72)) wf (by kernel_rfl) ⟨rfl, rfl, trivial⟩ (by kernel_rfl) (by kernel_rfl) (fun _ => pf_p tok rfl rfl rfl rfl) (fun P_31 => ?_)
                  obtain ⟨a31, ha31, la31, ua31, H⟩ := H
                  refine sim_p 32 (ei := [(69, .bool false), (71, Slc.v v30), (72, .int .i64 t5_4)]) (d := (some 73)) wf (by kernel_rfl) ⟨rfl, rfl, rfl, trivial⟩ (by kernel_rfl) (by kernel_rfl) (fun _ => pf_y rfl rfl rfl (y_ixa' tok rfl rfl ha31 rfl rfl rfl la31 ua31)) (fun P_32 => ?_)
                  refine sim_p 33 (ei := [(69, .bool false), (73, .pointer (some (a31.add (t5_4.toNat * 14))))]) (d := (some 74)) wf (by kernel_rfl) ⟨rfl, rfl, trivial⟩ (by kernel_rfl) (by kernel_rfl) (fun _ => pf_p tok rfl rfl rfl rfl) (fun P_33 => ?_)
                  obtain ⟨v32, hv32, H⟩ := H
                  refine sim_l 34 (ei := [(69, .bool false), (74, .pointer (some ((a31.add (t5_4.toNat * 14)).add 13)))]) (d := (some 75)) wf (by kernel_rfl) ⟨rfl, rfl, trivial⟩ (by kernel_rfl) (by kernel_rfl) (pf_y rfl rfl rfl (y_ld tok rfl rfl rfl rfl hv32)) (fun P_34 => ?_)
                  refine sim_p 35 (ei := [(3, .pointer (some (⟨b3, 0, none⟩ : Addr))), (69, .bool false)]) (d := (some 76)) wf (by kernel_rfl) ⟨rfl, rfl, trivial⟩ (by kernel_rfl) (by kernel_rfl) (fun _ => pf_p tok rfl rfl rfl rfl) (fun P_35 => ?_)
                  obtain ⟨v33, hv33, H⟩ := H
                  refine sim_l 36 (ei := [(69, .bool false), (76, .pointer (some ((⟨b3, 0, none⟩ : Addr).add 1)))]) (d := (some 77)) wf (by kernel_rfl) ⟨rfl, rfl, trivial⟩ (by kernel_rfl) (by kernel_rfl) (pf_y rfl rfl rfl (y_ld tok rfl rfl rfl rfl hv33)) (fun P_36 => ?_)
                  refine sim_p 37 (ei := [(5, .int .i64 t5_4), (69, .bool false)]) (d := (some 78)) wf (by kernel_rfl) ⟨rfl, rfl, trivial⟩ (by kernel_rfl) (by kernel_rfl) (fun _ => pf_p tok rfl rfl rfl rfl) (fun P_37 => ?_)
                  obtain ⟨a34, ha34, la34, ua34, H⟩ := H
                  refine sim_p 38 (ei := [(69, .bool false), (77, Slc.v v33), (78, .int .i64 t5_4)]) (d := (some 79)) wf (by kernel_rfl) ⟨rfl, rfl, rfl, trivial⟩ (by kernel_rfl) (by kernel_rfl) (fun _ => pf_y rfl rfl rfl (y_ixa' tok rfl rfl ha34 rfl rfl rfl la34 ua34)) (fun P_38 => ?_)
                  refine sim_p 39 (ei := [(69, .bool false), (79, .pointer (some (a34.add (t5_4.toNat * 14))))]) (d := (some 80)) wf (by kernel_rfl) ⟨rfl, rfl, trivial⟩ (by kernel_rfl) (by kernel_rfl) (fun _ => pf_p tok rfl rfl rfl rfl) (fun P_39 => ?_)
                  obtain ⟨v35, hv35, H⟩ := H
                  refine sim_l 40 (ei := [(69, .bool false), (80, .pointer (some ((a34.add (t5_4.toNat * 14)).add 13)))]) (d := (some 81)) wf (by kernel_rfl) ⟨rfl, rfl, trivial⟩ (by kernel_rfl) (by kernel_rfl) (pf_y rfl rfl rfl (y_ld tok rfl rfl rfl rfl hv35)) (fun P_40 => ?_)
                  refine sim_c 41 [0, 1, 2, 3, 4, 5, 6, 7, 8, 9, 10, 11, 12, 13, 14, 15, 16, 17, 18, 19, 20, 21, 22, 23, 24, 25, 26, 27, 28, 29, 30, 31, 32, 33, 34, 35, 36, 37, 38, 39, 40] [0, 1, 2, 3, 4, 5, 6, 7, 8, 9, 10, 11, 12, 13, 14, 15, 16, 17, 18, 19, 20, 21, 22, 23, 24, 25, 26, 27, 28, 29, 30, 31, 32, 33, 34, 35, 36, 37, 38, 39, 40] (ei := [(69, .bool false), (75, Slc.v v32), (81, Slc.v v35)]) ref01_Same_ok (ref01_Same_ref _ _ _ _ H) wf ⟨P_40, P_39 _, P_38 _, P_37 _, P_36, P_35 _, P_34, P_33 _, P_32 _, P_31 _, P_30, P_29 _, P_28 _, P_27 _, P_26 _, P_25, P_24 _, P_23 _, P_22 _, P_21, P_20 _, P_19, P_18 _, P_17 _, P_16 _, P_15, P_14 _, P_13 _, P_12 _, P_11, P_10 _, P_9 _, P_8 _, P_7, P_6 _, P_5, P_4 _, P_3 _, P_2 _, P_1, P_0 _, trivial⟩ (by kernel_rfl) ⟨rfl, rfl, rfl, trivial⟩ (by kernel_rfl) rfl rfl rfl rfl rfl ?_
                  rintro _ h37 ⟨r36, rfl, H⟩
                  refine sim_p 42 (ei := [(69, .bool false), (82, .bool r36)]) (d := (some 83)) wf (by kernel_rfl) ⟨rfl, rfl, trivial⟩ (by kernel_rfl) (by kernel_rfl) (fun _ => pf_p tok rfl rfl rfl rfl) (fun P_42 => ?_)
                  refine sim_p 43 (ei := [(69, .bool false), (83, .bool (!r36))]) (d := (some 84)) wf (by kernel_rfl) ⟨rfl, rfl, trivial⟩ (by kernel_rfl) (by kernel_rfl) (fun _ => pf_p tok rfl rfl rfl rfl) (fun P_43 => ?_)
                  refine sim_end wf ⟨P_43 _, P_42 _, trivial, trivial, trivial, trivial, trivial, trivial, trivial, trivial, trivial, trivial, trivial, trivial, trivial, trivial, trivial, trivial, trivial, trivial, trivial, trivial, trivial, trivial, trivial, trivial, trivial, trivial, trivial, trivial, trivial, trivial, trivial, trivial, trivial, trivial, trivial, trivial, trivial, trivial, trivial, trivial, trivial, trivial⟩ (by kernel_rfl) ?_
                  clear wf P_0 P_1 P_10 P_11 P_12 P_13 P_14 P_15 P_16 P_17 P_18 P_19 P_2 P_20 P_21 P_22 P_23 P_24 P_25 P_26 P_27 P_28 P_29 P_3 P_30 P_31 P_32 P_33 P_34 P_35 P_36 P_37 P_38 P_39 P_4 P_40 P_42 P_43 P_5 P_6 P_7 P_8 P_9
                  exact x_join (!r36) H ⟨rfl, rfl, rfl, rfl, trivial⟩
          ·
            refine c_exit ?_
            refine x_te ?_
            refine x_te ?_
            refine x_bh ?_
            refine x_seq ?_
            refine c_weak [] trivial ?_
            refine c_seq ?_
            refine c_region ?_
            refine w_p tok rfl rfl rfl ?_
            refine w_end ?_
            refine x_seq ?_
            refine c_ret ?_
            exact x_ret _ rfl _ rfl ⟨true, rfl, H⟩
      ·
        refine w_gif (d := 25) H rfl (fun H => ?_) (fun H => ?_)
        ·
          refine w_skip rfl rfl ?_
          refine w_skip rfl rfl ?_
          refine w_skip rfl rfl ?_
          refine w_skip rfl rfl ?_
          refine w_skip rfl rfl ?_
          refine w_skip rfl rfl ?_
          refine w_skip rfl rfl ?_
          refine w_p tok rfl rfl rfl ?_
          exact w_jn true H ⟨rfl, rfl, rfl, trivial⟩
        ·
          refine w_p tok rfl rfl rfl ?_
          obtain ⟨v38, hv38, H⟩ := H
          refine w_y (y_ld tok rfl rfl rfl rfl hv38) rfl rfl ?_
          refine w_p tok rfl rfl rfl ?_
          refine w_p tok rfl rfl rfl ?_
          obtain ⟨v39, hv39, H⟩ := H
          refine w_y (y_ld tok rfl rfl rfl rfl hv39) rfl rfl ?_
          refine w_p tok rfl rfl rfl ?_
          refine w_p tok rfl rfl rfl ?_
          refine w_p tok rfl rfl rfl ?_
          exact w_jn ((v38.len : Int) != (v39.len : Int)) H ⟨rfl, rfl, rfl, trivial⟩
    ·
      refine w_gif (d := 18) H rfl (fun H => ?_) (fun H => ?_)
      ·
        refine w_skip rfl rfl ?_
        refine w_skip rfl rfl ?_
        refine w_skip rfl rfl ?_
        refine w_skip rfl rfl ?_
        refine w_skip rfl rfl ?_
        refine w_p tok rfl rfl rfl ?_
        exact w_jn true H ⟨rfl, rfl, rfl, trivial⟩
      ·
        refine w_p tok rfl rfl rfl ?_
        obtain ⟨v40, hv40, H⟩ := H
        refine w_y (y_ld tok rfl rfl rfl rfl hv40) rfl rfl ?_
        refine w_p tok rfl rfl rfl ?_
        obtain ⟨v41, hv41, H⟩ := H
        refine w_y (y_ld tok rfl rfl rfl rfl hv41) rfl rfl ?_
        refine w_p tok rfl rfl rfl ?_
        refine w_p tok rfl rfl rfl ?_
        exact w_jn (!(v40 == v41)) H ⟨rfl, rfl, rfl, trivial⟩
  ·
    refine w_gif (d := 11) H rfl (fun H => ?_) (fun H => ?_)
    ·
      refine w_skip rfl rfl ?_
      refine w_skip rfl rfl ?_
      refine w_skip rfl rfl ?_
      refine w_skip rfl rfl ?_
      refine w_skip rfl rfl ?_
      refine w_p tok rfl rfl rfl ?_
      exact w_jn true H ⟨rfl, rfl, rfl, trivial⟩
    ·
      refine w_p tok rfl rfl rfl ?_
      obtain ⟨v42, hv42, H⟩ := H
      refine w_y (y_ld tok rfl rfl rfl rfl hv42) rfl rfl ?_
      refine w_p tok rfl rfl rfl ?_
      obtain ⟨v43, hv43, H⟩ := H
      refine w_y (y_ld tok rfl rfl rfl rfl hv43) rfl rfl ?_
      refine w_p tok rfl rfl rfl ?_
      refine w_p tok rfl rfl rfl ?_
      exact w_jn (v42 != v43) H ⟨rfl, rfl, rfl, trivial⟩

theorem ref25_SameTenants_ok : CallOk Go.Proofs.Try.prog 75 := ⟨_, Go.Proofs.Try.func75, by kernel_rfl, by kernel_rfl⟩
theorem ref25_SameTenants_ref (p0 : Slc) (p1 : Slc) (k : (Bool) → Heap → Prop) (h : Heap) (H : ref25_SameTenants p0 p1 k h) : CallsH Go.Proofs.Try.prog 75 #[Slc.v p0, Slc.v p1] h (fun v h' => ∃ r : Bool, v = .bool r ∧ k r h') := by
  refine f_enter (N := 27) Go.Proofs.Try.func75 rfl rfl rfl (fun w0 => ?_)
  unfold ref25_SameTenants at H
  refine c_weak [(0, Slc.v p0), (1, Slc.v p1)] ⟨rfl, rfl, trivial⟩ ?_
  refine c_seq ?_
  refine c_region ?_
  refine w_p tok rfl rfl rfl ?_
  refine w_end ?_
  refine x_seq ?_
  refine c_seq ?_
  refine c_seq ?_
  refine c_region ?_
  refine w_p tok rfl rfl rfl ?_
  refine w_p tok rfl rfl rfl ?_
  refine w_p tok rfl rfl rfl ?_
  refine w_p tok rfl rfl rfl ?_
  refine w_p tok rfl rfl rfl ?_
  refine w_end ?_
  refine x_seq ?_
  refine c_if H rfl (fun H => ?_) (fun H => ?_)
  ·
    refine c_seq ?_
    refine c_region ?_
    refine w_p tok rfl rfl rfl ?_
    refine w_end ?_
    refine x_seq ?_
    refine c_weak [(4, .bool false)] ⟨rfl, trivial⟩ ?_
    refine c_ret ?_
    refine x_tr ?_
    exact x_ret _ rfl _ rfl ⟨false, rfl, H⟩
  ·
    refine c_skip ?_
    refine x_seq ?_
    refine c_seq ?_
    refine c_seq ?_
    refine c_region ?_
    refine w_p tok rfl rfl rfl ?_
    refine w_end ?_
    refine x_seq ?_
    refine c_block ?_
    obtain ⟨I1, μ1, H0, HI⟩ := H
    refine c_loop (σ := Int) (fun (s : Int) => [(5, .int .i64 s), (0, Slc.v p0), (1, Slc.v p1)]) I1 μ1 0 H0 ⟨rfl, rfl, rfl, trivial⟩ ?_
    rintro t5_1 h_1 H
    replace H := HI t5_1 h_1 H
    unfold ref25_SameTenants_l1b at H
    refine c_weak [(5, .int .i64 t5_1), (0, Slc.v p0), (1, Slc.v p1)] ⟨rfl, rfl, rfl, trivial⟩ ?_
    refine c_seq ?_
    refine c_seq ?_
    refine c_region ?_
    refine w_p tok rfl rfl rfl ?_
    refine w_p tok rfl rfl rfl ?_
    refine w_p tok rfl rfl rfl ?_
    refine w_p tok rfl rfl rfl ?_
    refine w_end ?_
    refine x_seq ?_
    refine c_if H rfl (fun H => ?_) (fun H => ?_)
    ·
      refine c_skip ?_
      refine x_seq ?_
      refine c_seq ?_
      refine c_block ?_
      refine c_seq ?_
      refine c_sim [(0, Slc.v p0), (1, Slc.v p1), (5, .int .i64 t5_1)] (by kernel_rfl) (by kernel_rfl) ⟨rfl, rfl, rfl, trivial⟩ (fun wf => ?_)
      refine sim_p 0 (ei := [(0, Slc.v p0)]) (d := (some 17)) wf (by kernel_rfl) ⟨rfl, trivial⟩ (by kernel_rfl) (by kernel_rfl) (fun _ => pf_p tok rfl rfl rfl rfl) (fun P_0 => ?_)
      refine sim_p 1 (ei := [(5, .int .i64 t5_1)]) (d := (some 18)) wf (by kernel_rfl) ⟨rfl, trivial⟩ (by kernel_rfl) (by kernel_rfl) (fun _ => pf_p tok rfl rfl rfl rfl) (fun P_1 => ?_)
      obtain ⟨a1, ha1, la1, ua1, H⟩ := H
      refine sim_p 2 (ei := [(17, Slc.v p0), (18, .int .i64 t5_1)]) (d := (some 19)) wf (by kernel_rfl) ⟨rfl, rfl, trivial⟩ (by kernel_rfl) (by kernel_rfl) (fun _ => pf_y rfl rfl rfl (y_ixa' tok rfl rfl ha1 rfl rfl rfl la1 ua1)) (fun P_2 => ?_)
      obtain ⟨v2, hv2, H⟩ := H
      refine sim_l 3 (ei := [(19, .pointer (some (a1.add (t5_1.toNat * 4))))]) (d := (some 20)) wf (by kernel_rfl) ⟨rfl, trivial⟩ (by kernel_rfl) (by kernel_rfl) (pf_y rfl rfl rfl (y_lda tok rfl rfl rfl rfl rfl hv2)) (fun P_3 => ?_)
      refine sim_p 4 (ei := [(1, Slc.v p1)]) (d := (some 21)) wf (by kernel_rfl) ⟨rfl, trivial⟩ (by kernel_rfl) (by kernel_rfl) (fun _ => pf_p tok rfl rfl rfl rfl) (fun P_4 => ?_)
      refine sim_p 5 (ei := [(5, .int .i64 t5_1)]) (d := (some 22)) wf (by kernel_rfl) ⟨rfl, trivial⟩ (by kernel_rfl) (by kernel_rfl) (fun _ => pf_p tok rfl rfl rfl rfl) (fun P_5 => ?_)
      obtain ⟨a3, ha3, la3, ua3, H⟩ := H
      refine sim_p 6 (ei := [(21, Slc.v p1), (22, .int .i64 t5_1)]) (d := (some 23)) wf (by kernel_rfl) ⟨rfl, rfl, trivial⟩ (by kernel_rfl) (by kernel_rfl) (fun _ => pf_y rfl rfl rfl (y_ixa' tok rfl rfl ha3 rfl rfl rfl la3 ua3)) (fun P_6 => ?_)
      obtain ⟨v4, hv4, H⟩ := H
      refine sim_l 7 (ei := [(23, .pointer (some (a3.add (t5_1.toNat * 4))))]) (d := (some 24)) wf (by kernel_rfl) ⟨rfl, trivial⟩ (by kernel_rfl) (by kernel_rfl) (pf_y rfl rfl rfl (y_lda tok rfl rfl rfl rfl rfl hv4)) (fun P_7 => ?_)
      refine sim_c 8 [0, 1, 2, 3, 4, 5, 6, 7] [0, 1, 2, 3, 4, 5, 6, 7] (ei := [(20, .agg (S_api_Tenant.cs v2).toArray), (24, .agg (S_api_Tenant.cs v4).toArray)]) ref25_SameTenant_ok (ref25_SameTenant_ref _ _ _ _ H) wf ⟨P_7, P_6 _, P_5 _, P_4 _, P_3, P_2 _, P_1 _, P_0 _, trivial⟩ (by kernel_rfl) ⟨rfl, rfl, trivial⟩ (by kernel_rfl) rfl rfl rfl rfl rfl ?_
      rintro _ h6 ⟨r5, rfl, H⟩
      refine sim_p 9 (ei := [(25, .bool r5)]) (d := (some 26)) wf (by kernel_rfl) ⟨rfl, trivial⟩ (by kernel_rfl) (by kernel_rfl) (fun _ => pf_p tok rfl rfl rfl rfl) (fun P_9 => ?_)
      refine sim_end wf ⟨P_9 _, trivial, trivial, trivial, trivial, trivial, trivial, trivial, trivial, trivial⟩ (by kernel_rfl) ?_
      clear wf P_0 P_1 P_2 P_3 P_4 P_5 P_6 P_7 P_9
      refine x_seq ?_
      refine c_weak [(0, Slc.v p0), (1, Slc.v p1), (5, .int .i64 t5_1), (26, .bool (!r5))] ⟨rfl, rfl, rfl, rfl, trivial⟩ ?_
      refine c_if H rfl (fun H => ?_) (fun H => ?_)
      ·
        refine c_seq ?_
        refine c_region ?_
        refine w_p tok rfl rfl rfl ?_
        refine w_end ?_
        refine x_seq ?_
        refine c_ret ?_
        refine x_br ?_
        refine x_tr ?_
        refine x_tr ?_
        refine x_br ?_
        refine x_tr ?_
        exact x_ret _ rfl _ rfl ⟨false, rfl, H⟩
      ·
        refine c_skip ?_
        refine x_blk ?_
        refine x_seq ?_
        refine c_region ?_
        refine w_p tok rfl rfl rfl ?_
        refine w_p tok rfl rfl rfl ?_
        obtain ⟨x7, ex7, H⟩ := H
        refine w_pe tok rfl (congrArg (fun z => (.int .i64 z : Value)) ex7) rfl rfl ?_
        refine w_end ?_
        exact x_join x7 H ⟨rfl, rfl, rfl, trivial⟩
    ·
      refine c_exit ?_
      refine x_te ?_
      refine x_te ?_
      refine x_bh ?_
      refine x_seq ?_
      refine c_weak [] trivial ?_
      refine c_seq ?_
      refine c_region ?_
      refine w_p tok rfl rfl rfl ?_
      refine w_end ?_
      refine x_seq ?_
      refine c_ret ?_
      exact x_ret _ rfl _ rfl ⟨true, rfl, H⟩

theorem reg_Reg_Copy_ok : CallOk Go.Proofs.Try.prog 76 := ⟨_, Go.Proofs.Try.func76, by kernel_rfl, by kernel_rfl⟩
theorem reg_Reg_Copy_ref (p0 : Option Addr) (k : (Option Addr) → Heap → Prop) (h : Heap) (H : reg_Reg_Copy p0 k h) : CallsH Go.Proofs.Try.prog 76 #[.pointer p0] h (fun v h' => ∃ r : Option Addr, v = .pointer r ∧ k r h') := by
  refine f_enter (N := 12) Go.Proofs.Try.func76 rfl rfl rfl (fun w0 => ?_)
  unfold reg_Reg_Copy at H
  refine c_weak [(0, .pointer p0)] ⟨rfl, trivial⟩ ?_
  refine c_seq ?_
  refine c_region ?_
  refine w_p tok rfl rfl rfl ?_
  refine w_end ?_
  refine x_seq ?_
  refine c_seq ?_
  refine c_seq ?_
  refine c_region ?_
  refine w_p tok rfl rfl rfl ?_
  refine w_p tok rfl rfl rfl ?_
  refine w_end ?_
  refine x_seq ?_
  refine c_if H rfl (fun H => ?_) (fun H => ?_)
  ·
    refine c_seq ?_
    refine c_region ?_
    refine w_p tok rfl rfl rfl ?_
    refine w_end ?_
    refine x_seq ?_
    refine c_ret ?_
    refine x_tr ?_
    exact x_ret _ rfl _ rfl ⟨none, rfl, H⟩
  ·
    refine c_skip ?_
    refine x_seq ?_
    refine c_seq ?_
    refine c_region ?_
    refine w_p tok rfl rfl rfl ?_
    obtain ⟨a1, ha1, H⟩ := H
    refine w_y (y_nil' rfl rfl ha1) rfl rfl ?_
    refine w_p tok rfl rfl rfl ?_
    obtain ⟨v2, hv2, H⟩ := H
    refine w_y (y_ld tok rfl rfl rfl rfl hv2) rfl rfl ?_
    refine w_call maps_Clone_map_string_api_Tenant_string_api_Tenant_ok (maps_Clone_map_string_api_Tenant_string_api_Tenant_ref _ _ _ H) rfl rfl rfl rfl ?_
    rintro _ h4 ⟨r3, rfl, H⟩
    refine w_y (y_build tok rfl rfl rfl rfl rfl) rfl rfl ?_
    obtain ⟨b5, h6, eb5, eh6, H⟩ := H
    refine w_h (h_box rfl rfl eb5 eh6) rfl rfl ?_
    refine w_p tok rfl rfl rfl ?_
    refine w_end ?_
    refine x_seq ?_
    refine c_weak [(2, .pointer (some (⟨b5, 0, none⟩ : Addr)))] ⟨rfl, trivial⟩ ?_
    refine c_ret ?_
    exact x_ret _ rfl _ rfl ⟨(some (⟨b5, 0, none⟩ : Addr)), rfl, H⟩

theorem reg_Reg_Bytes_ok : CallOk Go.Proofs.Try.prog 79 := ⟨_, Go.Proofs.Try.func79, by kernel_rfl, by kernel_rfl⟩
theorem reg_Reg_Bytes_ref (p0 : Option Addr) (k : (Slc) → Heap → Prop) (h : Heap) (H : reg_Reg_Bytes p0 k h) : CallsH Go.Proofs.Try.prog 79 #[.pointer p0] h (fun v h' => ∃ r : Slc, v = Slc.v r ∧ k r h') := by
  refine f_enter (N := 66) Go.Proofs.Try.func79 rfl rfl rfl (fun w0 => ?_)
  unfold reg_Reg_Bytes at H
  refine c_weak [(0, .pointer p0)] ⟨rfl, trivial⟩ ?_
  refine c_seq ?_
  refine c_region ?_
  refine w_p tok rfl rfl rfl ?_
  refine w_end ?_
  refine x_seq ?_
  refine c_seq ?_
  refine c_region ?_
  refine w_p tok rfl rfl rfl ?_
  refine w_call reg_Reg_Tenants_ok (reg_Reg_Tenants_ref _ _ _ H) rfl rfl rfl rfl ?_
  rintro _ h2 ⟨r1, rfl, H⟩
  refine w_p tok rfl rfl rfl ?_
  refine w_end ?_
  refine x_seq ?_
  refine c_seq ?_
  refine c_region ?_
  refine w_p tok rfl rfl rfl ?_
  refine w_p tok rfl rfl rfl ?_
  refine w_p tok rfl rfl rfl ?_
  refine w_call num_PutShort_ok (num_PutShort_ref _ _ _ _ H) rfl rfl rfl rfl ?_
  rintro _ h4 ⟨r3, rfl, H⟩
  refine w_p tok rfl rfl rfl ?_
  refine w_end ?_
  refine x_seq ?_
  refine c_weak [(3, Slc.v r1), (4, Slc.v r3)] ⟨rfl, rfl, trivial⟩ ?_
  refine c_seq ?_
  refine c_seq ?_
  refine c_region ?_
  refine w_p tok rfl rfl rfl ?_
  refine w_p tok rfl rfl rfl ?_
  refine w_p tok rfl rfl rfl ?_
  refine w_end ?_
  refine x_seq ?_
  refine c_block ?_
  obtain ⟨I1, μ1, H0, HI⟩ := H
  refine c_loop (σ := Slc × Int) (fun (s : Slc × Int) => [(4, Slc.v s.1), (17, .int .i64 s.2), (15, Slc.v r1), (16, .int .i64 (r1.len : Int))]) I1 μ1 (r3, 0) H0 ⟨rfl, rfl, rfl, rfl, trivial⟩ ?_
  rintro ⟨t4_1, t17_1⟩ h_1 H
  replace H := HI t4_1 t17_1 h_1 H
  unfold reg_Reg_Bytes_l1b at H
  refine c_weak [(4, Slc.v t4_1), (17, .int .i64 t17_1), (15, Slc.v r1), (16, .int .i64 (r1.len : Int))] ⟨rfl, rfl, rfl, rfl, trivial⟩ ?_
  refine c_seq ?_
  refine c_region ?_
  refine w_p tok rfl rfl rfl ?_
  refine w_end ?_
  refine x_seq ?_
  refine c_seq ?_
  refine c_if H rfl (fun H => ?_) (fun H => ?_)
  ·
    refine c_skip ?_
    refine x_seq ?_
    refine c_seq ?_
    refine c_block ?_
    refine c_seq ?_
    refine c_region ?_
    obtain ⟨a5, ha5, la5, ua5, H⟩ := H
    refine w_y (y_ixa' tok rfl rfl ha5 rfl rfl rfl la5 ua5) rfl rfl ?_
    obtain ⟨v6, hv6, H⟩ := H
    refine w_y (y_lda tok rfl rfl rfl rfl rfl hv6) rfl rfl ?_
    obtain ⟨b7, h8, eb7, eh8, H⟩ := H
    refine w_h (h_alloc tok rfl rfl eb7 eh8) rfl rfl ?_
    obtain ⟨h9, wh9, eh9, H⟩ := H
    refine w_h (h_sts tok rfl rfl rfl rfl rfl (oneC (by kernel_rfl)) wh9 eh9) rfl rfl ?_
    refine w_end ?_
    refine x_seq ?_
    refine c_seq ?_
    refine c_region ?_
    refine w_p tok rfl rfl rfl ?_
    refine w_p tok rfl rfl rfl ?_
    obtain ⟨v10, hv10, H⟩ := H
    refine w_y (y_ld tok rfl rfl rfl rfl hv10) rfl rfl ?_
    refine w_call reg_text_ok (reg_text_ref _ _ _ _ H) rfl rfl rfl rfl ?_
    rintro _ h12 ⟨r11, rfl, H⟩
    obtain ⟨b13, h14, eb13, eh14, H⟩ := H
    refine w_h (h_bs tok rfl rfl rfl rfl rfl rfl rfl eb13 eh14) rfl rfl ?_
    refine w_a (a_app (s := r11) (r := (⟨some ⟨b13, 0, none⟩, 1, 1⟩ : Slc)) tok rfl rfl rfl rfl rfl (slcAt_push eb13 eh14) H) rfl rfl ?_
    rintro _ h16 ⟨s15, rfl, H⟩
    refine w_p tok rfl rfl rfl ?_
    refine w_end ?_
    refine x_seq ?_
    refine c_weak [(4, Slc.v s15), (17, .int .i64 t17_1), (15, Slc.v r1), (16, .int .i64 (r1.len : Int)), (6, .pointer (some (⟨b7, 0, none⟩ : Addr)))] ⟨rfl, rfl, rfl, rfl, rfl, trivial⟩ ?_
    refine c_seqJ (α := Unit) (fun (s : Unit) => [(4, Slc.v s15), (6, .pointer (some (⟨b7, 0, none⟩ : Addr))), (15, Slc.v r1), (16, .int .i64 (r1.len : Int)), (17, .int .i64 t17_1)]) (fun (s : Unit) h => reg_Reg_Bytes_j2 s15 (⟨b7, 0, none⟩ : Addr) r1 (r1.len : Int) t17_1 k (fun s h' => I1 s h' ∧ μ1 s h' < μ1 (t4_1, t17_1) h_1) h) ?_ ?_
    ·
      rintro _ h_2 H
      replace H : reg_Reg_Bytes_j2 s15 (⟨b7, 0, none⟩ : Addr) r1 (r1.len : Int) t17_1 k (fun s h' => I1 s h' ∧ μ1 s h' < μ1 (t4_1, t17_1) h_1) h_2 := H
      unfold reg_Reg_Bytes_j2 at H
      refine c_weak [(4, Slc.v s15), (6, .pointer (some (⟨b7, 0, none⟩ : Addr))), (15, Slc.v r1), (16, .int .i64 (r1.len : Int)), (17, .int .i64 t17_1)] ⟨rfl, rfl, rfl, rfl, rfl, trivial⟩ ?_
      refine c_seq ?_
      refine c_region ?_
      refine w_p tok rfl rfl rfl ?_
      refine w_p tok rfl rfl rfl ?_
      obtain ⟨v17, hv17, H⟩ := H
      refine w_y (y_ld tok rfl rfl rfl rfl hv17) rfl rfl ?_
      refine w_call num_Zig_ok (num_Zig_ref _ _ _ H) rfl rfl rfl rfl ?_
      rintro _ h19 ⟨r18, rfl, H⟩
      refine w_call num_Put_ok (num_Put_ref _ _ _ _ _ H) rfl rfl rfl rfl ?_
      rintro _ h21 ⟨r20, rfl, H⟩
      refine w_p tok rfl rfl rfl ?_
      refine w_end ?_
      refine x_seq ?_
      refine c_seq ?_
      refine c_region ?_
      refine w_p tok rfl rfl rfl ?_
      refine w_p tok rfl rfl rfl ?_
      obtain ⟨v22, hv22, H⟩ := H
      refine w_y (y_ld tok rfl rfl rfl rfl hv22) rfl rfl ?_
      refine w_p tok rfl rfl rfl ?_
      refine w_p tok rfl rfl rfl ?_
      refine w_call num_PutShort_ok (num_PutShort_ref _ _ _ _ H) rfl rfl rfl rfl ?_
      rintro _ h24 ⟨r23, rfl, H⟩
      refine w_p tok rfl rfl rfl ?_
      refine w_end ?_
      refine x_seq ?_
      refine c_weak [(4, Slc.v r23), (6, .pointer (some (⟨b7, 0, none⟩ : Addr))), (15, Slc.v r1), (16, .int .i64 (r1.len : Int)), (17, .int .i64 t17_1)] ⟨rfl, rfl, rfl, rfl, rfl, trivial⟩ ?_
      refine c_seq ?_
      refine c_region ?_
      refine w_p tok rfl rfl rfl ?_
      obtain ⟨v25, hv25, H⟩ := H
      refine w_y (y_ld tok rfl rfl rfl rfl hv25) rfl rfl ?_
      refine w_p tok rfl rfl rfl ?_
      refine w_p tok rfl rfl rfl ?_
      refine w_end ?_
      refine x_seq ?_
      refine c_block ?_
      obtain ⟨I3, μ3, H0, HI⟩ := H
      refine c_loop (σ := Slc × Int) (fun (s : Slc × Int) => [(4, Slc.v s.1), (48, .int .i64 s.2), (15, Slc.v r1), (16, .int .i64 (r1.len : Int)), (17, .int .i64 t17_1), (46, Slc.v v25), (47, .int .i64 (v25.len : Int))]) I3 μ3 (r23, 0) H0 ⟨rfl, rfl, rfl, rfl, rfl, rfl, rfl, trivial⟩ ?_
      rintro ⟨t4_3, t48_3⟩ h_3 H
      replace H := HI t4_3 t48_3 h_3 H
      unfold reg_Reg_Bytes_l3b at H
      refine c_weak [(4, Slc.v t4_3), (48, .int .i64 t48_3), (15, Slc.v r1), (16, .int .i64 (r1.len : Int)), (17, .int .i64 t17_1), (46, Slc.v v25), (47, .int .i64 (v25.len : Int))] ⟨rfl, rfl, rfl, rfl, rfl, rfl, rfl, trivial⟩ ?_
      refine c_seq ?_
      refine c_region ?_
      refine w_p tok rfl rfl rfl ?_
      refine w_end ?_
      refine x_seq ?_
      refine c_seq ?_
      refine c_if H rfl (fun H => ?_) (fun H => ?_)
      ·
        refine c_skip ?_
        refine x_seq ?_
        refine c_seq ?_
        refine c_block ?_
        refine c_seq ?_
        refine c_region ?_
        obtain ⟨a26, ha26, la26, ua26, H⟩ := H
        refine w_y (y_ixa' tok rfl rfl ha26 rfl rfl rfl la26 ua26) rfl rfl ?_
        obtain ⟨v27, hv27, H⟩ := H
        refine w_y (y_lda tok rfl rfl rfl rfl rfl hv27) rfl rfl ?_
        obtain ⟨b28, h29, eb28, eh29, H⟩ := H
        refine w_h (h_alloc tok rfl rfl eb28 eh29) rfl rfl ?_
        obtain ⟨h30, wh30, eh30, H⟩ := H
        refine w_h (h_sts tok rfl rfl rfl rfl rfl (oneC (by kernel_rfl)) wh30 eh30) rfl rfl ?_
        refine w_end ?_
        refine x_seq ?_
        refine c_sim [(4, Slc.v t4_3), (8, .pointer (some (⟨b28, 0, none⟩ : Addr))), (15, Slc.v r1), (16, .int .i64 (r1.len : Int)), (17, .int .i64 t17_1), (46, Slc.v v25), (47, .int .i64 (v25.len : Int)), (48, .int .i64 t48_3)] (by kernel_rfl) (by kernel_rfl) ⟨rfl, rfl, rfl, rfl, rfl, rfl, rfl, rfl, trivial⟩ (fun wf => ?_)
        refine sim_p 0 (ei := [(4, Slc.v t4_3)]) (d := (some 52)) wf (by kernel_rfl) ⟨rfl, trivial⟩ (by kernel_rfl) (by kernel_rfl) (fun _ => pf_p tok rfl rfl rfl rfl) (fun P_0 => ?_)
        refine sim_p 1 (ei := [(8, .pointer (some (⟨b28, 0, none⟩ : Addr)))]) (d := (some 53)) wf (by kernel_rfl) ⟨rfl, trivial⟩ (by kernel_rfl) (by kernel_rfl) (fun _ => pf_p tok rfl rfl rfl rfl) (fun P_1 => ?_)
        obtain ⟨v31, hv31, H⟩ := H
        refine sim_l 2 (ei := [(53, .pointer (some (⟨b28, 0, none⟩ : Addr)))]) (d := (some 54)) wf (by kernel_rfl) ⟨rfl, trivial⟩ (by kernel_rfl) (by kernel_rfl) (pf_y rfl rfl rfl (y_ld tok rfl rfl rfl rfl hv31)) (fun P_2 => ?_)
        refine sim_p 3 (ei := [(54, .int .u32 v31)]) (d := (some 55)) wf (by kernel_rfl) ⟨rfl, trivial⟩ (by kernel_rfl) (by kernel_rfl) (fun _ => pf_p tok rfl rfl rfl rfl) (fun P_3 => ?_)
        refine sim_p 5 (ei := [(8, .pointer (some (⟨b28, 0, none⟩ : Addr)))]) (d := (some 57)) wf (by kernel_rfl) ⟨rfl, trivial⟩ (by kernel_rfl) (by kernel_rfl) (fun _ => pf_p tok rfl rfl rfl rfl) (fun P_5 => ?_)
        obtain ⟨s32, ps32, qs32, rs32, es32, H⟩ := H
        refine sim_p 6 (ei := [(57, .pointer (some ((⟨b28, 0, none⟩ : Addr).add 1)))]) (d := (some 58)) wf (by kernel_rfl) ⟨rfl, trivial⟩ (by kernel_rfl) (by kernel_rfl) (fun _ => pf_ye rfl rfl rfl (y_sla (L := 0) (H := 12) tok rfl rfl rfl rfl rfl rfl ps32 qs32 rs32) (congrArg Slc.v es32)) (fun P_6 => ?_)
        refine sim_p 8 (ei := [(8, .pointer (some (⟨b28, 0, none⟩ : Addr)))]) (d := (some 60)) wf (by kernel_rfl) ⟨rfl, trivial⟩ (by kernel_rfl) (by kernel_rfl) (fun _ => pf_p tok rfl rfl rfl rfl) (fun P_8 => ?_)
        obtain ⟨v33, hv33, H⟩ := H
        refine sim_l 9 (ei := [(60, .pointer (some ((⟨b28, 0, none⟩ : Addr).add 13)))]) (d := (some 61)) wf (by kernel_rfl) ⟨rfl, trivial⟩ (by kernel_rfl) (by kernel_rfl) (pf_y rfl rfl rfl (y_ld tok rfl rfl rfl rfl hv33)) (fun P_9 => ?_)
        refine sim_c 4 [0, 1, 2, 3] [0, 1, 2, 3] (ei := [(52, Slc.v t4_3), (55, .int .u64 (IntKind.u64.wrap v31))]) num_Put_ok (num_Put_ref _ _ _ _ _ H) wf ⟨P_9, P_8 _, P_6 _, P_5 _, P_3 _, P_2, P_1 _, P_0 _, trivial⟩ (by kernel_rfl) ⟨rfl, rfl, trivial⟩ (by kernel_rfl) rfl rfl rfl rfl rfl ?_
        rintro _ h35 ⟨r34, rfl, H⟩
        obtain ⟨hy36, H⟩ := H
        refine sim_re (x := ⟨9, Slc.v v33, [(60, .pointer (some ((⟨b28, 0, none⟩ : Addr).add 13)))]⟩) (pf_y rfl rfl rfl (y_ld tok rfl rfl rfl rfl hy36)) (fun P_9 => ?_)
        obtain ⟨l39, hl39, H⟩ := H
        refine sim_a 7 [0, 1, 2, 3, 4, 5, 6] [0, 1, 2, 3, 5, 6] (ei := [(56, Slc.v r34), (58, Slc.v s32)]) wf ⟨P_9, P_8 _, P_6 _, P_5 _, trivial, trivial, trivial, trivial, trivial⟩ (by kernel_rfl) ⟨rfl, rfl, trivial⟩ (by kernel_rfl) rfl rfl rfl (a_app (s := r34) (r := s32) tok rfl rfl rfl rfl rfl hl39 H) ?_
        rintro _ h38 ⟨s37, rfl, H⟩
        obtain ⟨hy40, H⟩ := H
        refine sim_re (x := ⟨9, Slc.v v33, [(60, .pointer (some ((⟨b28, 0, none⟩ : Addr).add 13)))]⟩) (pf_y rfl rfl rfl (y_ld tok rfl rfl rfl rfl hy40)) (fun P_9 => ?_)
        obtain ⟨l43, hl43, H⟩ := H
        refine sim_a 10 [0, 1, 2, 3, 4, 5, 6, 7, 8, 9] [0, 1, 2, 3, 5, 6, 8, 9] (ei := [(59, Slc.v s37), (61, Slc.v v33)]) wf ⟨P_9, P_8 _, trivial, trivial, trivial, trivial, trivial, trivial, trivial⟩ (by kernel_rfl) ⟨rfl, rfl, trivial⟩ (by kernel_rfl) rfl rfl rfl (a_app (s := s37) (r := v33) tok rfl rfl rfl rfl rfl hl43 H) ?_
        rintro _ h42 ⟨s41, rfl, H⟩
        refine sim_p 11 (ei := [(62, Slc.v s41)]) (d := (some 4)) wf (by kernel_rfl) ⟨rfl, trivial⟩ (by kernel_rfl) (by kernel_rfl) (fun _ => pf_p tok rfl rfl rfl rfl) (fun P_11 => ?_)
        refine sim_end wf ⟨P_11 _, trivial, trivial, trivial, trivial, trivial, trivial, trivial, trivial, trivial⟩ (by kernel_rfl) ?_
        clear wf P_0 P_1 P_11 P_2 P_3 P_5 P_6 P_8 P_9
        refine x_blk ?_
        refine x_seq ?_
        refine c_weak [(4, Slc.v s41), (15, Slc.v r1), (16, .int .i64 (r1.len : Int)), (17, .int .i64 t17_1), (46, Slc.v v25), (47, .int .i64 (v25.len : Int)), (48, .int .i64 t48_3)] ⟨rfl, rfl, rfl, rfl, rfl, rfl, rfl, trivial⟩ ?_
        refine c_region ?_
        refine w_p tok rfl rfl rfl ?_
        refine w_p tok rfl rfl rfl ?_
        refine w_end ?_
        exact x_join (s41, (IntKind.i64.wrap (t48_3 + 1))) H ⟨rfl, rfl, rfl, rfl, rfl, rfl, rfl, trivial⟩
      ·
        refine c_exit ?_
        refine x_te ?_
        refine x_te ?_
        refine x_bh ?_
        refine x_blk ?_
        refine x_seq ?_
        refine c_region ?_
        refine w_p tok rfl rfl rfl ?_
        refine w_p tok rfl rfl rfl ?_
        refine w_end ?_
        exact x_join (t4_3, (IntKind.i64.wrap (t17_1 + 1))) H ⟨rfl, rfl, rfl, rfl, trivial⟩
    ·
      refine c_seq ?_
      refine c_region ?_
      refine w_p tok rfl rfl rfl ?_
      obtain ⟨v44, hv44, H⟩ := H
      refine w_y (y_ld tok rfl rfl rfl rfl hv44) rfl rfl ?_
      refine w_end ?_
      refine x_seq ?_
      refine c_if H rfl (fun H => ?_) (fun H => ?_)
      ·
        refine c_region ?_
        refine w_p tok rfl rfl rfl ?_
        refine w_p tok rfl rfl rfl ?_
        refine w_p tok rfl rfl rfl ?_
        refine w_p tok rfl rfl rfl ?_
        obtain ⟨a45, ha45, la45, ua45, H⟩ := H
        refine w_y (y_ixa' tok rfl rfl ha45 rfl rfl rfl la45 ua45) rfl rfl ?_
        obtain ⟨h46, wh46, eh46, H⟩ := H
        refine w_h (h_st tok rfl rfl rfl rfl rfl rfl wh46 eh46) rfl rfl ?_
        refine w_end ?_
        exact x_join () H ⟨rfl, rfl, rfl, rfl, rfl, trivial⟩
      ·
        refine c_skip ?_
        exact x_join () H ⟨rfl, rfl, rfl, rfl, rfl, trivial⟩
  ·
    refine c_exit ?_
    refine x_te ?_
    refine x_te ?_
    refine x_bh ?_
    refine x_seq ?_
    refine c_seq ?_
    refine c_region ?_
    refine w_p tok rfl rfl rfl ?_
    refine w_p tok rfl rfl rfl ?_
    refine w_end ?_
    refine x_seq ?_
    refine c_ret ?_
    exact x_ret _ rfl _ rfl ⟨t4_1, rfl, H⟩

theorem law25_RegApart_ok : CallOk Go.Proofs.Try.prog 16 := ⟨_, Go.Proofs.Try.func16, by kernel_rfl, by kernel_rfl⟩
theorem law25_RegApart_ref (p0 : Slc) (p1 : S_api_Command) (p2 : S_api_Command) (k : (Bool) → Heap → Prop) (h : Heap) (H : law25_RegApart p0 p1 p2 k h) : CallsH Go.Proofs.Try.prog 16 #[Slc.v p0, .agg (S_api_Command.cs p1).toArray, .agg (S_api_Command.cs p2).toArray] h (fun v h' => ∃ r : Bool, v = .bool r ∧ k r h') := by
  refine f_enter (N := 85) Go.Proofs.Try.func16 rfl rfl rfl (fun w0 => ?_)
  unfold law25_RegApart at H
  refine c_weak [(0, Slc.v p0), (1, .agg (S_api_Command.cs p1).toArray), (2, .agg (S_api_Command.cs p2).toArray)] ⟨rfl, rfl, rfl, trivial⟩ ?_
  refine c_seq ?_
  refine c_region ?_
  obtain ⟨b1, h2, eb1, eh2, H⟩ := H
  refine w_h (h_box rfl rfl eb1 eh2) rfl rfl ?_
  obtain ⟨b3, h4, eb3, eh4, H⟩ := H
  refine w_h (h_box rfl rfl eb3 eh4) rfl rfl ?_
  refine w_p tok rfl rfl rfl ?_
  refine w_end ?_
  refine x_seq ?_
  refine c_seq ?_
  refine c_seq ?_
  refine c_region ?_
  refine w_p tok rfl rfl rfl ?_
  refine w_call ref25_Great_ok (ref25_Great_ref _ _ _ _ H) rfl rfl rfl rfl ?_
  rintro _ h6 ⟨r5, rfl, H⟩
  refine w_p tok rfl rfl rfl ?_
  refine w_cut 5 (α := Bool) (fun (s : Bool) => [(21, .bool s), (0, Slc.v p0), (4, .pointer (some (⟨b1, 0, none⟩ : Addr))), (5, .pointer (some (⟨b3, 0, none⟩ : Addr)))]) (fun (s : Bool) h => law25_RegApart_g1 p0 (⟨b1, 0, none⟩ : Addr) (⟨b3, 0, none⟩ : Addr) s k h) ?_ ?_
  ·
    rintro t21_1 h_1 H
    replace H : law25_RegApart_g1 p0 (⟨b1, 0, none⟩ : Addr) (⟨b3, 0, none⟩ : Addr) t21_1 k h_1 := H
    unfold law25_RegApart_g1 at H
    refine w_weak [(21, .bool t21_1), (0, Slc.v p0), (4, .pointer (some (⟨b1, 0, none⟩ : Addr))), (5, .pointer (some (⟨b3, 0, none⟩ : Addr)))] ⟨rfl, rfl, rfl, rfl, trivial⟩ ?_
    refine w_p tok rfl rfl rfl ?_
    refine w_cut 6 (α := Bool) (fun (s : Bool) => [(28, .bool s), (0, Slc.v p0), (4, .pointer (some (⟨b1, 0, none⟩ : Addr))), (5, .pointer (some (⟨b3, 0, none⟩ : Addr)))]) (fun (s : Bool) h => law25_RegApart_g2 p0 (⟨b1, 0, none⟩ : Addr) (⟨b3, 0, none⟩ : Addr) s k h) ?_ ?_
    ·
      rintro t28_2 h_2 H
      replace H : law25_RegApart_g2 p0 (⟨b1, 0, none⟩ : Addr) (⟨b3, 0, none⟩ : Addr) t28_2 k h_2 := H
      unfold law25_RegApart_g2 at H
      refine w_weak [(28, .bool t28_2), (0, Slc.v p0), (4, .pointer (some (⟨b1, 0, none⟩ : Addr))), (5, .pointer (some (⟨b3, 0, none⟩ : Addr)))] ⟨rfl, rfl, rfl, rfl, trivial⟩ ?_
      refine w_end ?_
      refine x_seq ?_
      refine c_if H rfl (fun H => ?_) (fun H => ?_)
      ·
        refine c_seq ?_
        refine c_region ?_
        refine w_call law25_awake_ok (law25_awake_ref  _ _ H) rfl rfl rfl rfl ?_
        rintro _ h8 ⟨r7, rfl, H⟩
        refine w_p tok rfl rfl rfl ?_
        refine w_end ?_
        refine x_seq ?_
        refine c_ret ?_
        refine x_tr ?_
        exact x_ret _ rfl _ rfl ⟨r7, rfl, H⟩
      ·
        refine c_skip ?_
        refine x_seq ?_
        refine c_seq ?_
        refine c_region ?_
        refine w_call reg_New_ok (reg_New_ref  _ _ H) rfl rfl rfl rfl ?_
        rintro _ h10 ⟨r9, rfl, H⟩
        refine w_call reg_New_ok (reg_New_ref  _ _ H) rfl rfl rfl rfl ?_
        rintro _ h12 ⟨r11, rfl, H⟩
        refine w_p tok rfl rfl rfl ?_
        refine w_p tok rfl rfl rfl ?_
        refine w_end ?_
        refine x_seq ?_
        refine c_seq ?_
        refine c_seq ?_
        refine c_region ?_
        refine w_p tok rfl rfl rfl ?_
        refine w_end ?_
        refine x_seq ?_
        refine c_block ?_
        obtain ⟨I3, μ3, H0, HI⟩ := H
        refine c_loop (σ := Int) (fun (s : Int) => [(9, .int .i64 s), (0, Slc.v p0), (4, .pointer (some (⟨b1, 0, none⟩ : Addr))), (5, .pointer (some (⟨b3, 0, none⟩ : Addr))), (7, .pointer r9), (8, .pointer r11)]) I3 μ3 0 H0 ⟨rfl, rfl, rfl, rfl, rfl, rfl, trivial⟩ ?_
        rintro t9_3 h_3 H
        replace H := HI t9_3 h_3 H
        unfold law25_RegApart_l3b at H
        refine c_weak [(9, .int .i64 t9_3), (0, Slc.v p0), (4, .pointer (some (⟨b1, 0, none⟩ : Addr))), (5, .pointer (some (⟨b3, 0, none⟩ : Addr))), (7, .pointer r9), (8, .pointer r11)] ⟨rfl, rfl, rfl, rfl, rfl, rfl, trivial⟩ ?_
        refine c_seq ?_
        refine c_seq ?_
        refine c_region ?_
        refine w_p tok rfl rfl rfl ?_
        refine w_p tok rfl rfl rfl ?_
        refine w_p tok rfl rfl rfl ?_
        refine w_p tok rfl rfl rfl ?_
        refine w_end ?_
        refine x_seq ?_
        refine c_if H rfl (fun H => ?_) (fun H => ?_)
        ·
          refine c_skip ?_
          refine x_seq ?_
          refine c_seq ?_
          refine c_block ?_
          refine c_seq ?_
          refine c_region ?_
          refine w_p tok rfl rfl rfl ?_
          refine w_p tok rfl rfl rfl ?_
          refine w_p tok rfl rfl rfl ?_
          obtain ⟨a13, ha13, la13, ua13, H⟩ := H
          refine w_y (y_ixa' tok rfl rfl ha13 rfl rfl rfl la13 ua13) rfl rfl ?_
          obtain ⟨v14, hv14, H⟩ := H
          refine w_y (y_lda tok rfl rfl rfl rfl rfl hv14) rfl rfl ?_
          refine w_call reg_Reg_Apply_ok (reg_Reg_Apply_ref _ _ _ _ H) rfl rfl rfl rfl ?_
          rintro _ h16 ⟨r15, rfl, H⟩
          refine w_end ?_
          refine x_seq ?_
          refine c_weak [(9, .int .i64 t9_3), (0, Slc.v p0), (4, .pointer (some (⟨b1, 0, none⟩ : Addr))), (5, .pointer (some (⟨b3, 0, none⟩ : Addr))), (7, .pointer r9), (8, .pointer r11)] ⟨rfl, rfl, rfl, rfl, rfl, rfl, trivial⟩ ?_
          refine c_region ?_
          refine w_p tok rfl rfl rfl ?_
          refine w_p tok rfl rfl rfl ?_
          refine w_p tok rfl rfl rfl ?_
          obtain ⟨a17, ha17, la17, ua17, H⟩ := H
          refine w_y (y_ixa' tok rfl rfl ha17 rfl rfl rfl la17 ua17) rfl rfl ?_
          obtain ⟨v18, hv18, H⟩ := H
          refine w_y (y_lda tok rfl rfl rfl rfl rfl hv18) rfl rfl ?_
          refine w_call reg_Reg_Apply_ok (reg_Reg_Apply_ref _ _ _ _ H) rfl rfl rfl rfl ?_
          rintro _ h20 ⟨r19, rfl, H⟩
          refine w_end ?_
          refine x_blk ?_
          refine x_seq ?_
          refine c_region ?_
          refine w_p tok rfl rfl rfl ?_
          refine w_p tok rfl rfl rfl ?_
          obtain ⟨x21, ex21, H⟩ := H
          refine w_pe tok rfl (congrArg (fun z => (.int .i64 z : Value)) ex21) rfl rfl ?_
          refine w_end ?_
          exact x_join x21 H ⟨rfl, rfl, rfl, rfl, rfl, rfl, trivial⟩
        ·
          refine c_exit ?_
          refine x_te ?_
          refine x_te ?_
          refine x_bh ?_
          refine x_seq ?_
          refine c_seq ?_
          refine c_seq ?_
          refine c_region ?_
          refine w_p tok rfl rfl rfl ?_
          refine w_call reg_Reg_Tenants_ok (reg_Reg_Tenants_ref _ _ _ H) rfl rfl rfl rfl ?_
          rintro _ h23 ⟨r22, rfl, H⟩
          refine w_p tok rfl rfl rfl ?_
          refine w_p tok rfl rfl rfl ?_
          refine w_end ?_
          refine x_seq ?_
          refine c_weak [(4, .pointer (some (⟨b1, 0, none⟩ : Addr))), (5, .pointer (some (⟨b3, 0, none⟩ : Addr))), (7, .pointer r9), (8, .pointer r11), (53, .bool (decide ((r22.len : Int) > 6)))] ⟨rfl, rfl, rfl, rfl, rfl, trivial⟩ ?_
          refine c_if H rfl (fun H => ?_) (fun H => ?_)
          ·
            refine c_seq ?_
            refine c_region ?_
            refine w_call law25_awake_ok (law25_awake_ref  _ _ H) rfl rfl rfl rfl ?_
            rintro _ h25 ⟨r24, rfl, H⟩
            refine w_p tok rfl rfl rfl ?_
            refine w_end ?_
            refine x_seq ?_
            refine c_ret ?_
            refine x_tr ?_
            exact x_ret _ rfl _ rfl ⟨r24, rfl, H⟩
          ·
            refine c_skip ?_
            refine x_seq ?_
            refine c_seq ?_
            refine c_sim [(4, .pointer (some (⟨b1, 0, none⟩ : Addr))), (5, .pointer (some (⟨b3, 0, none⟩ : Addr))), (7, .pointer r9), (8, .pointer r11)] (by kernel_rfl) (by kernel_rfl) ⟨rfl, rfl, rfl, rfl, trivial⟩ (fun wf => ?_)
            refine sim_p 0 (ei := [(7, .pointer r9)]) (d := (some 55)) wf (by kernel_rfl) ⟨rfl, trivial⟩ (by kernel_rfl) (by kernel_rfl) (fun _ => pf_p tok rfl rfl rfl rfl) (fun P_0 => ?_)
            obtain ⟨v26, hv26, H⟩ := H
            refine sim_l 1 (ei := [(4, .pointer (some (⟨b1, 0, none⟩ : Addr)))]) (d := (some 56)) wf (by kernel_rfl) ⟨rfl, trivial⟩ (by kernel_rfl) (by kernel_rfl) (pf_y rfl rfl rfl (y_lda tok rfl rfl rfl rfl rfl hv26)) (fun P_1 => ?_)
            refine sim_p 3 (ei := [(7, .pointer r9)]) (d := (some 58)) wf (by kernel_rfl) ⟨rfl, trivial⟩ (by kernel_rfl) (by kernel_rfl) (fun _ => pf_p tok rfl rfl rfl rfl) (fun P_3 => ?_)
            obtain ⟨v27, hv27, H⟩ := H
            refine sim_l 4 (ei := [(5, .pointer (some (⟨b3, 0, none⟩ : Addr)))]) (d := (some 59)) wf (by kernel_rfl) ⟨rfl, trivial⟩ (by kernel_rfl) (by kernel_rfl) (pf_y rfl rfl rfl (y_lda tok rfl rfl rfl rfl rfl hv27)) (fun P_4 => ?_)
            refine sim_c 2 [0, 1] [0, 1] (ei := [(55, .pointer r9), (56, .agg (S_api_Command.cs v26).toArray)]) reg_Reg_Apply_ok (reg_Reg_Apply_ref _ _ _ _ H) wf ⟨P_4, P_3 _, P_1, P_0 _, trivial⟩ (by kernel_rfl) ⟨rfl, rfl, trivial⟩ (by kernel_rfl) rfl rfl rfl rfl rfl ?_
            rintro _ h29 ⟨r28, rfl, H⟩
            obtain ⟨hy30, H⟩ := H
            refine sim_re (x := ⟨4, .agg (S_api_Command.cs v27).toArray, [(5, .pointer (some (⟨b3, 0, none⟩ : Addr)))]⟩) (pf_y rfl rfl rfl (y_lda tok rfl rfl rfl rfl rfl hy30)) (fun P_4 => ?_)
            refine sim_c 5 [0, 1, 2, 3, 4] [0, 1, 3, 4] (ei := [(58, .pointer r9), (59, .agg (S_api_Command.cs v27).toArray)]) reg_Reg_Apply_ok (reg_Reg_Apply_ref _ _ _ _ H) wf ⟨P_4, P_3 _, trivial, trivial, trivial⟩ (by kernel_rfl) ⟨rfl, rfl, trivial⟩ (by kernel_rfl) rfl rfl rfl rfl rfl ?_
            rintro _ h32 ⟨r31, rfl, H⟩
            refine sim_p 6 (ei := [(57, .int .i64 r28)]) (d := (some 10)) wf (by kernel_rfl) ⟨rfl, trivial⟩ (by kernel_rfl) (by kernel_rfl) (fun _ => pf_p tok rfl rfl rfl rfl) (fun P_6 => ?_)
            refine sim_p 7 (ei := [(60, .int .i64 r31)]) (d := (some 11)) wf (by kernel_rfl) ⟨rfl, trivial⟩ (by kernel_rfl) (by kernel_rfl) (fun _ => pf_p tok rfl rfl rfl rfl) (fun P_7 => ?_)
            refine sim_end wf ⟨P_7 _, P_6 _, trivial, trivial, trivial, trivial, trivial⟩ (by kernel_rfl) ?_
            clear wf P_0 P_1 P_3 P_4 P_6 P_7
            refine x_seq ?_
            refine c_seq ?_
            refine c_sim [(4, .pointer (some (⟨b1, 0, none⟩ : Addr))), (5, .pointer (some (⟨b3, 0, none⟩ : Addr))), (7, .pointer r9), (8, .pointer r11), (10, .int .i64 r28), (11, .int .i64 r31)] (by kernel_rfl) (by kernel_rfl) ⟨rfl, rfl, rfl, rfl, rfl, rfl, trivial⟩ (fun wf => ?_)
            refine sim_p 0 (ei := [(8, .pointer r11)]) (d := (some 61)) wf (by kernel_rfl) ⟨rfl, trivial⟩ (by kernel_rfl) (by kernel_rfl) (fun _ => pf_p tok rfl rfl rfl rfl) (fun P_0 => ?_)
            obtain ⟨v33, hv33, H⟩ := H
            refine sim_l 1 (ei := [(5, .pointer (some (⟨b3, 0, none⟩ : Addr)))]) (d := (some 62)) wf (by kernel_rfl) ⟨rfl, trivial⟩ (by kernel_rfl) (by kernel_rfl) (pf_y rfl rfl rfl (y_lda tok rfl rfl rfl rfl rfl hv33)) (fun P_1 => ?_)
            refine sim_p 3 (ei := [(8, .pointer r11)]) (d := (some 64)) wf (by kernel_rfl) ⟨rfl, trivial⟩ (by kernel_rfl) (by kernel_rfl) (fun _ => pf_p tok rfl rfl rfl rfl) (fun P_3 => ?_)
            obtain ⟨v34, hv34, H⟩ := H
            refine sim_l 4 (ei := [(4, .pointer (some (⟨b1, 0, none⟩ : Addr)))]) (d := (some 65)) wf (by kernel_rfl) ⟨rfl, trivial⟩ (by kernel_rfl) (by kernel_rfl) (pf_y rfl rfl rfl (y_lda tok rfl rfl rfl rfl rfl hv34)) (fun P_4 => ?_)
            refine sim_c 2 [0, 1] [0, 1] (ei := [(61, .pointer r11), (62, .agg (S_api_Command.cs v33).toArray)]) reg_Reg_Apply_ok (reg_Reg_Apply_ref _ _ _ _ H) wf ⟨P_4, P_3 _, P_1, P_0 _, trivial⟩ (by kernel_rfl) ⟨rfl, rfl, trivial⟩ (by kernel_rfl) rfl rfl rfl rfl rfl ?_
            rintro _ h36 ⟨r35, rfl, H⟩
            obtain ⟨hy37, H⟩ := H
            refine sim_re (x := ⟨4, .agg (S_api_Command.cs v34).toArray, [(4, .pointer (some (⟨b1, 0, none⟩ : Addr)))]⟩) (pf_y rfl rfl rfl (y_lda tok rfl rfl rfl rfl rfl hy37)) (fun P_4 => ?_)
            refine sim_c 5 [0, 1, 2, 3, 4] [0, 1, 3, 4] (ei := [(64, .pointer r11), (65, .agg (S_api_Command.cs v34).toArray)]) reg_Reg_Apply_ok (reg_Reg_Apply_ref _ _ _ _ H) wf ⟨P_4, P_3 _, trivial, trivial, trivial⟩ (by kernel_rfl) ⟨rfl, rfl, trivial⟩ (by kernel_rfl) rfl rfl rfl rfl rfl ?_
            rintro _ h39 ⟨r38, rfl, H⟩
            refine sim_p 6 (ei := [(63, .int .i64 r35)]) (d := (some 12)) wf (by kernel_rfl) ⟨rfl, trivial⟩ (by kernel_rfl) (by kernel_rfl) (fun _ => pf_p tok rfl rfl rfl rfl) (fun P_6 => ?_)
            refine sim_p 7 (ei := [(66, .int .i64 r38)]) (d := (some 13)) wf (by kernel_rfl) ⟨rfl, trivial⟩ (by kernel_rfl) (by kernel_rfl) (fun _ => pf_p tok rfl rfl rfl rfl) (fun P_7 => ?_)
            refine sim_end wf ⟨P_7 _, P_6 _, trivial, trivial, trivial, trivial, trivial⟩ (by kernel_rfl) ?_
            clear wf P_0 P_1 P_3 P_4 P_6 P_7
            refine x_seq ?_
            refine c_weak [(7, .pointer r9), (8, .pointer r11), (10, .int .i64 r28), (11, .int .i64 r31), (12, .int .i64 r35), (13, .int .i64 r38)] ⟨rfl, rfl, rfl, rfl, rfl, rfl, trivial⟩ ?_
            refine c_seq ?_
            refine c_region ?_
            refine w_p tok rfl rfl rfl ?_
            refine w_p tok rfl rfl rfl ?_
            refine w_p tok rfl rfl rfl ?_
            refine w_p tok rfl rfl rfl ?_
            refine w_cutU 4 [(74, .bool ((r28 == r38) && (r31 == r35))), (7, .pointer r9), (8, .pointer r11)] ?_ ?_
            ·
              refine w_p tok rfl rfl rfl ?_
              refine w_cut 6 (α := Bool) (fun (s : Bool) => [(81, .bool s)]) (fun (s : Bool) h => law25_RegApart_g4 s k (fun s h' => I3 s h' ∧ μ3 s h' < μ3 t9_3 h_3) h) ?_ ?_
              ·
                rintro t81_4 h_4 H
                replace H : law25_RegApart_g4 t81_4 k (fun s h' => I3 s h' ∧ μ3 s h' < μ3 t9_3 h_3) h_4 := H
                unfold law25_RegApart_g4 at H
                refine w_weak [(81, .bool t81_4)] ⟨rfl, trivial⟩ ?_
                refine w_p tok rfl rfl rfl ?_
                refine w_cut 2 (α := Bool) (fun (s : Bool) => [(84, .bool s)]) (fun (s : Bool) h => law25_RegApart_g5 s k (fun s h' => I3 s h' ∧ μ3 s h' < μ3 t9_3 h_3) h) ?_ ?_
                ·
                  rintro t84_5 h_5 H
                  replace H : law25_RegApart_g5 t84_5 k (fun s h' => I3 s h' ∧ μ3 s h' < μ3 t9_3 h_3) h_5 := H
                  unfold law25_RegApart_g5 at H
                  refine w_weak [(84, .bool t84_5)] ⟨rfl, trivial⟩ ?_
                  refine w_p tok rfl rfl rfl ?_
                  refine w_end ?_
                  refine x_seq ?_
                  refine c_ret ?_
                  exact x_ret _ rfl _ rfl ⟨t84_5, rfl, H⟩
                ·
                  refine w_gif (d := 82) H rfl (fun H => ?_) (fun H => ?_)
                  ·
                    refine w_call law25_awake_ok (law25_awake_ref  _ _ H) rfl rfl rfl rfl ?_
                    rintro _ h41 ⟨r40, rfl, H⟩
                    refine w_p tok rfl rfl rfl ?_
                    exact w_jn r40 H ⟨rfl, trivial⟩
                  ·
                    refine w_skip rfl rfl ?_
                    refine w_p tok rfl rfl rfl ?_
                    exact w_jn false H ⟨rfl, trivial⟩
              ·
                refine w_gif (d := 75) H rfl (fun H => ?_) (fun H => ?_)
                ·
                  refine w_p tok rfl rfl rfl ?_
                  refine w_call reg_Reg_Tenants_ok (reg_Reg_Tenants_ref _ _ _ H) rfl rfl rfl rfl ?_
                  rintro _ h43 ⟨r42, rfl, H⟩
                  refine w_p tok rfl rfl rfl ?_
                  refine w_call reg_Reg_Tenants_ok (reg_Reg_Tenants_ref _ _ _ H) rfl rfl rfl rfl ?_
                  rintro _ h45 ⟨r44, rfl, H⟩
                  refine w_call ref25_SameTenants_ok (ref25_SameTenants_ref _ _ _ _ H) rfl rfl rfl rfl ?_
                  rintro _ h47 ⟨r46, rfl, H⟩
                  refine w_p tok rfl rfl rfl ?_
                  exact w_jn r46 H ⟨rfl, trivial⟩
                ·
                  refine w_skip rfl rfl ?_
                  refine w_skip rfl rfl ?_
                  refine w_skip rfl rfl ?_
                  refine w_skip rfl rfl ?_
                  refine w_skip rfl rfl ?_
                  refine w_p tok rfl rfl rfl ?_
                  exact w_jn false H ⟨rfl, trivial⟩
            ·
              refine w_gs (d := 70) rfl (fun hb => ?_) (fun hb => ?_)
              ·
                refine w_p tok rfl rfl rfl ?_
                refine w_p tok rfl rfl rfl ?_
                refine w_p tok rfl rfl rfl ?_
                refine w_p tok rfl rfl rfl ?_
                refine w_jn () rfl ⟨?_, rfl, rfl, trivial⟩
                exact congrArg (fun b => some (Value.bool b)) (and_t hb)
              ·
                refine w_skip rfl rfl ?_
                refine w_skip rfl rfl ?_
                refine w_skip rfl rfl ?_
                refine w_p tok rfl rfl rfl ?_
                refine w_jn () rfl ⟨?_, rfl, rfl, trivial⟩
                exact congrArg (fun b => some (Value.bool b)) (and_f hb)
    ·
      refine w_gif (d := 22) H rfl (fun H => ?_) (fun H => ?_)
      ·
        refine w_skip rfl rfl ?_
        refine w_skip rfl rfl ?_
        refine w_skip rfl rfl ?_
        refine w_skip rfl rfl ?_
        refine w_skip rfl rfl ?_
        refine w_p tok rfl rfl rfl ?_
        exact w_jn true H ⟨rfl, rfl, rfl, rfl, trivial⟩
      ·
        refine w_p tok rfl rfl rfl ?_
        obtain ⟨v48, hv48, H⟩ := H
        refine w_y (y_ld tok rfl rfl rfl rfl hv48) rfl rfl ?_
        refine w_p tok rfl rfl rfl ?_
        obtain ⟨v49, hv49, H⟩ := H
        refine w_y (y_ld tok rfl rfl rfl rfl hv49) rfl rfl ?_
        refine w_p tok rfl rfl rfl ?_
        refine w_p tok rfl rfl rfl ?_
        exact w_jn (v48.toList == v49.toList) H ⟨rfl, rfl, rfl, rfl, trivial⟩
  ·
    refine w_gif (d := 16) H rfl (fun H => ?_) (fun H => ?_)
    ·
      refine w_skip rfl rfl ?_
      refine w_skip rfl rfl ?_
      refine w_skip rfl rfl ?_
      refine w_skip rfl rfl ?_
      refine w_p tok rfl rfl rfl ?_
      exact w_jn true H ⟨rfl, rfl, rfl, rfl, trivial⟩
    ·
      obtain ⟨v50, hv50, H⟩ := H
      refine w_y (y_lda tok rfl rfl rfl rfl rfl hv50) rfl rfl ?_
      obtain ⟨v51, hv51, H⟩ := H
      refine w_y (y_lda tok rfl rfl rfl rfl rfl hv51) rfl rfl ?_
      obtain ⟨b52, h53, eb52, eh53, H⟩ := H
      refine w_h (h_bs tok rfl rfl rfl rfl rfl rfl rfl eb52 eh53) rfl rfl ?_
      refine w_call ref25_Great_ok (ref25_Great_ref _ _ _ _ H) rfl rfl rfl rfl ?_
      rintro _ h55 ⟨r54, rfl, H⟩
      refine w_p tok rfl rfl rfl ?_
      exact w_jn r54 H ⟨rfl, rfl, rfl, rfl, trivial⟩

theorem law25_RegKeeps_ok : CallOk Go.Proofs.Try.prog 17 := ⟨_, Go.Proofs.Try.func17, by kernel_rfl, by kernel_rfl⟩
theorem law25_RegKeeps_ref (p0 : Slc) (k : (Bool) → Heap → Prop) (h : Heap) (H : law25_RegKeeps p0 k h) : CallsH Go.Proofs.Try.prog 17 #[Slc.v p0] h (fun v h' => ∃ r : Bool, v = .bool r ∧ k r h') := by
  refine f_enter (N := 178) Go.Proofs.Try.func17 rfl rfl rfl (fun w0 => ?_)
  unfold law25_RegKeeps at H
  refine c_weak [(0, Slc.v p0)] ⟨rfl, trivial⟩ ?_
  refine c_seq ?_
  refine c_region ?_
  refine w_p tok rfl rfl rfl ?_
  refine w_end ?_
  refine x_seq ?_
  refine c_seq ?_
  refine c_seq ?_
  refine c_region ?_
  refine w_p tok rfl rfl rfl ?_
  refine w_call ref25_Great_ok (ref25_Great_ref _ _ _ _ H) rfl rfl rfl rfl ?_
  rintro _ h2 ⟨r1, rfl, H⟩
  refine w_end ?_
  refine x_seq ?_
  refine c_if H rfl (fun H => ?_) (fun H => ?_)
  ·
    refine c_seq ?_
    refine c_region ?_
    refine w_call law25_awake_ok (law25_awake_ref  _ _ H) rfl rfl rfl rfl ?_
    rintro _ h4 ⟨r3, rfl, H⟩
    refine w_p tok rfl rfl rfl ?_
    refine w_end ?_
    refine x_seq ?_
    refine c_ret ?_
    refine x_tr ?_
    exact x_ret _ rfl _ rfl ⟨r3, rfl, H⟩
  ·
    refine c_skip ?_
    refine x_seq ?_
    refine c_seq ?_
    refine c_region ?_
    refine w_call reg_New_ok (reg_New_ref  _ _ H) rfl rfl rfl rfl ?_
    rintro _ h6 ⟨r5, rfl, H⟩
    refine w_p tok rfl rfl rfl ?_
    refine w_end ?_
    refine x_seq ?_
    refine c_seq ?_
    refine c_seq ?_
    refine c_region ?_
    refine w_p tok rfl rfl rfl ?_
    refine w_end ?_
    refine x_seq ?_
    refine c_block ?_
    obtain ⟨I1, μ1, H0, HI⟩ := H
    refine c_loop (σ := Int) (fun (s : Int) => [(4, .int .i64 s), (0, Slc.v p0), (3, .pointer r5)]) I1 μ1 0 H0 ⟨rfl, rfl, rfl, trivial⟩ ?_
    rintro t4_1 h_1 H
    replace H := HI t4_1 h_1 H
    unfold law25_RegKeeps_l1b at H
    refine c_weak [(4, .int .i64 t4_1), (0, Slc.v p0), (3, .pointer r5)] ⟨rfl, rfl, rfl, trivial⟩ ?_
    refine c_seq ?_
    refine c_seq ?_
    refine c_region ?_
    refine w_p tok rfl rfl rfl ?_
    refine w_p tok rfl rfl rfl ?_
    refine w_p tok rfl rfl rfl ?_
    refine w_p tok rfl rfl rfl ?_
    refine w_end ?_
    refine x_seq ?_
    refine c_if H rfl (fun H => ?_) (fun H => ?_)
    ·
      refine c_skip ?_
      refine x_seq ?_
      refine c_seq ?_
      refine c_block ?_
      refine c_seq ?_
      refine c_region ?_
      refine w_p tok rfl rfl rfl ?_
      refine w_call reg_Reg_Tenants_ok (reg_Reg_Tenants_ref _ _ _ H) rfl rfl rfl rfl ?_
      rintro _ h8 ⟨r7, rfl, H⟩
      refine w_p tok rfl rfl rfl ?_
      refine w_end ?_
      refine x_seq ?_
      refine c_seq ?_
      refine c_region ?_
      refine w_p tok rfl rfl rfl ?_
      refine w_call reg_Reg_Copy_ok (reg_Reg_Copy_ref _ _ _ H) rfl rfl rfl rfl ?_
      rintro _ h10 ⟨r9, rfl, H⟩
      refine w_p tok rfl rfl rfl ?_
      refine w_end ?_
      refine x_seq ?_
      refine c_weak [(4, .int .i64 t4_1), (0, Slc.v p0), (3, .pointer r5), (5, Slc.v r7), (6, .pointer r9)] ⟨rfl, rfl, rfl, rfl, rfl, trivial⟩ ?_
      refine c_seq ?_
      refine c_region ?_
      refine w_p tok rfl rfl rfl ?_
      refine w_p tok rfl rfl rfl ?_
      refine w_p tok rfl rfl rfl ?_
      obtain ⟨a11, ha11, la11, ua11, H⟩ := H
      refine w_y (y_ixa' tok rfl rfl ha11 rfl rfl rfl la11 ua11) rfl rfl ?_
      obtain ⟨v12, hv12, H⟩ := H
      refine w_y (y_lda tok rfl rfl rfl rfl rfl hv12) rfl rfl ?_
      refine w_call reg_Reg_Apply_ok (reg_Reg_Apply_ref _ _ _ _ H) rfl rfl rfl rfl ?_
      rintro _ h14 ⟨r13, rfl, H⟩
      refine w_end ?_
      refine x_seq ?_
      refine c_seq ?_
      refine c_seq ?_
      refine c_region ?_
      refine w_p tok rfl rfl rfl ?_
      refine w_call reg_Reg_Tenants_ok (reg_Reg_Tenants_ref _ _ _ H) rfl rfl rfl rfl ?_
      rintro _ h16 ⟨r15, rfl, H⟩
      refine w_p tok rfl rfl rfl ?_
      refine w_call ref25_SameTenants_ok (ref25_SameTenants_ref _ _ _ _ H) rfl rfl rfl rfl ?_
      rintro _ h18 ⟨r17, rfl, H⟩
      refine w_p tok rfl rfl rfl ?_
      refine w_end ?_
      refine x_seq ?_
      refine c_weak [(4, .int .i64 t4_1), (0, Slc.v p0), (3, .pointer r5), (5, Slc.v r7), (41, .bool (!r17))] ⟨rfl, rfl, rfl, rfl, rfl, trivial⟩ ?_
      refine c_if H rfl (fun H => ?_) (fun H => ?_)
      ·
        refine c_seq ?_
        refine c_region ?_
        refine w_p tok rfl rfl rfl ?_
        refine w_end ?_
        refine x_seq ?_
        refine c_ret ?_
        refine x_tr ?_
        refine x_br ?_
        refine x_tr ?_
        refine x_tr ?_
        refine x_br ?_
        refine x_tr ?_
        exact x_ret _ rfl _ rfl ⟨false, rfl, H⟩
      ·
        refine c_skip ?_
        refine x_seq ?_
        refine c_seq ?_
        refine c_region ?_
        refine w_p tok rfl rfl rfl ?_
        refine w_call reg_Reg_Tenants_ok (reg_Reg_Tenants_ref _ _ _ H) rfl rfl rfl rfl ?_
        rintro _ h20 ⟨r19, rfl, H⟩
        refine w_p tok rfl rfl rfl ?_
        refine w_end ?_
        refine x_seq ?_
        refine c_seq ?_
        refine c_seq ?_
        refine c_region ?_
        refine w_p tok rfl rfl rfl ?_
        refine w_end ?_
        refine x_seq ?_
        refine c_block ?_
        obtain ⟨I2, μ2, H0, HI⟩ := H
        refine c_loop (σ := Int) (fun (s : Int) => [(8, .int .i64 s), (0, Slc.v p0), (3, .pointer r5), (4, .int .i64 t4_1), (5, Slc.v r7), (7, Slc.v r19)]) I2 μ2 0 H0 ⟨rfl, rfl, rfl, rfl, rfl, rfl, trivial⟩ ?_
        rintro t8_2 h_2 H
        replace H := HI t8_2 h_2 H
        unfold law25_RegKeeps_l2b at H
        refine c_weak [(8, .int .i64 t8_2), (0, Slc.v p0), (3, .pointer r5), (4, .int .i64 t4_1), (5, Slc.v r7), (7, Slc.v r19)] ⟨rfl, rfl, rfl, rfl, rfl, rfl, trivial⟩ ?_
        refine c_seq ?_
        refine c_seq ?_
        refine c_region ?_
        refine w_p tok rfl rfl rfl ?_
        refine w_p tok rfl rfl rfl ?_
        refine w_p tok rfl rfl rfl ?_
        refine w_p tok rfl rfl rfl ?_
        refine w_end ?_
        refine x_seq ?_
        refine c_if H rfl (fun H => ?_) (fun H => ?_)
        ·
          refine c_skip ?_
          refine x_seq ?_
          refine c_seq ?_
          refine c_block ?_
          refine c_seq ?_
          refine c_region ?_
          refine w_p tok rfl rfl rfl ?_
          refine w_end ?_
          refine x_seq ?_
          refine c_seq ?_
          refine c_seq ?_
          refine c_region ?_
          refine w_p tok rfl rfl rfl ?_
          refine w_end ?_
          refine x_seq ?_
          refine c_block ?_
          obtain ⟨I3, μ3, H0, HI⟩ := H
          refine c_loop (σ := Bool × Int) (fun (s : Bool × Int) => [(9, .bool s.1), (10, .int .i64 s.2), (0, Slc.v p0), (3, .pointer r5), (4, .int .i64 t4_1), (5, Slc.v r7), (7, Slc.v r19), (8, .int .i64 t8_2)]) I3 μ3 (false, 0) H0 ⟨rfl, rfl, rfl, rfl, rfl, rfl, rfl, rfl, trivial⟩ ?_
          rintro ⟨t9_3, t10_3⟩ h_3 H
          replace H := HI t9_3 t10_3 h_3 H
          unfold law25_RegKeeps_l3b at H
          refine c_weak [(9, .bool t9_3), (10, .int .i64 t10_3), (0, Slc.v p0), (3, .pointer r5), (4, .int .i64 t4_1), (5, Slc.v r7), (7, Slc.v r19), (8, .int .i64 t8_2)] ⟨rfl, rfl, rfl, rfl, rfl, rfl, rfl, rfl, trivial⟩ ?_
          refine c_seq ?_
          refine c_seq ?_
          refine c_region ?_
          refine w_p tok rfl rfl rfl ?_
          refine w_p tok rfl rfl rfl ?_
          refine w_p tok rfl rfl rfl ?_
          refine w_p tok rfl rfl rfl ?_
          refine w_end ?_
          refine x_seq ?_
          refine c_if H rfl (fun H => ?_) (fun H => ?_)
          ·
            refine c_skip ?_
            refine x_seq ?_
            refine c_seqJ (α := Bool) (fun (s : Bool) => [(9, .bool s), (0, Slc.v p0), (3, .pointer r5), (4, .int .i64 t4_1), (5, Slc.v r7), (7, Slc.v r19), (8, .int .i64 t8_2), (10, .int .i64 t10_3)]) (fun (s : Bool) h => law25_RegKeeps_j4 p0 r5 t4_1 r7 r19 t8_2 t10_3 s k (fun s h' => I1 s h' ∧ μ1 s h' < μ1 t4_1 h_1) (fun s h' => I2 s h' ∧ μ2 s h' < μ2 t8_2 h_2) (fun s h' => I3 s h' ∧ μ3 s h' < μ3 (t9_3, t10_3) h_3) h) ?_ ?_
            ·
              rintro t9_4 h_4 H
              replace H : law25_RegKeeps_j4 p0 r5 t4_1 r7 r19 t8_2 t10_3 t9_4 k (fun s h' => I1 s h' ∧ μ1 s h' < μ1 t4_1 h_1) (fun s h' => I2 s h' ∧ μ2 s h' < μ2 t8_2 h_2) (fun s h' => I3 s h' ∧ μ3 s h' < μ3 (t9_3, t10_3) h_3) h_4 := H
              unfold law25_RegKeeps_j4 at H
              refine c_weak [(9, .bool t9_4), (0, Slc.v p0), (3, .pointer r5), (4, .int .i64 t4_1), (5, Slc.v r7), (7, Slc.v r19), (8, .int .i64 t8_2), (10, .int .i64 t10_3)] ⟨rfl, rfl, rfl, rfl, rfl, rfl, rfl, rfl, trivial⟩ ?_
              refine c_region ?_
              refine w_p tok rfl rfl rfl ?_
              refine w_p tok rfl rfl rfl ?_
              obtain ⟨x21, ex21, H⟩ := H
              refine w_pe tok rfl (congrArg (fun z => (.int .i64 z : Value)) ex21) rfl rfl ?_
              refine w_end ?_
              exact x_join (t9_4, x21) H ⟨rfl, rfl, rfl, rfl, rfl, rfl, rfl, rfl, trivial⟩
            ·
              refine c_block ?_
              refine c_seq ?_
              refine c_region ?_
              refine w_p tok rfl rfl rfl ?_
              refine w_p tok rfl rfl rfl ?_
              obtain ⟨a22, ha22, la22, ua22, H⟩ := H
              refine w_y (y_ixa' tok rfl rfl ha22 rfl rfl rfl la22 ua22) rfl rfl ?_
              obtain ⟨v23, hv23, H⟩ := H
              refine w_y (y_lda tok rfl rfl rfl rfl rfl hv23) rfl rfl ?_
              obtain ⟨b24, h25, eb24, eh25, H⟩ := H
              refine w_h (h_alloc tok rfl rfl eb24 eh25) rfl rfl ?_
              obtain ⟨h26, wh26, eh26, H⟩ := H
              refine w_h (h_sts tok rfl rfl rfl rfl rfl (oneC (by kernel_rfl)) wh26 eh26) rfl rfl ?_
              refine w_end ?_
              refine x_seq ?_
              refine c_weak [(9, .bool t9_3), (10, .int .i64 t10_3), (0, Slc.v p0), (3, .pointer r5), (4, .int .i64 t4_1), (5, Slc.v r7), (7, Slc.v r19), (8, .int .i64 t8_2), (11, .pointer (some (⟨b24, 0, none⟩ : Addr)))] ⟨rfl, rfl, rfl, rfl, rfl, rfl, rfl, rfl, rfl, trivial⟩ ?_
              refine c_seq ?_
              refine c_seq ?_
              refine c_draw (by kernel_rfl) (by kernel_rfl) ?_
              refine q_p tok rfl rfl rfl ?_
              obtain ⟨v27, hv27, H⟩ := H
              refine q_y (y_ld tok rfl rfl rfl rfl hv27) rfl rfl ?_
              refine q_p tok rfl rfl rfl ?_
              refine q_p tok rfl rfl rfl ?_
              obtain ⟨a28, ha28, la28, ua28, H⟩ := H
              refine q_y (y_ixa' tok rfl rfl ha28 rfl rfl rfl la28 ua28) rfl rfl ?_
              refine q_p tok rfl rfl rfl ?_
              obtain ⟨v29, hv29, H⟩ := H
              refine q_y (y_ld tok rfl rfl rfl rfl hv29) rfl rfl ?_
              refine q_p tok rfl rfl rfl ?_
              refine q_end ?_
              refine x_seq ?_
              refine c_weak [(9, .bool t9_3), (10, .int .i64 t10_3), (0, Slc.v p0), (3, .pointer r5), (4, .int .i64 t4_1), (5, Slc.v r7), (7, Slc.v r19), (8, .int .i64 t8_2), (11, .pointer (some (⟨b24, 0, none⟩ : Addr))), (67, .bool (!(v27.toList == v29.toList)))] ⟨rfl, rfl, rfl, rfl, rfl, rfl, rfl, rfl, rfl, rfl, trivial⟩ ?_
              refine c_if H rfl (fun H => ?_) (fun H => ?_)
              ·
                refine c_exit ?_
                refine x_te ?_
                refine x_bh ?_
                exact x_join t9_3 H ⟨rfl, rfl, rfl, rfl, rfl, rfl, rfl, rfl, trivial⟩
              ·
                refine c_skip ?_
                refine x_seq ?_
                refine c_seq ?_
                refine c_region ?_
                refine w_p tok rfl rfl rfl ?_
                refine w_end ?_
                refine x_seq ?_
                refine c_seq ?_
                refine c_draw (by kernel_rfl) (by kernel_rfl) ?_
                refine q_p tok rfl rfl rfl ?_
                obtain ⟨v30, hv30, H⟩ := H
                refine q_y (y_ld tok rfl rfl rfl rfl hv30) rfl rfl ?_
                refine q_p tok rfl rfl rfl ?_
                refine q_p tok rfl rfl rfl ?_
                obtain ⟨a31, ha31, la31, ua31, H⟩ := H
                refine q_y (y_ixa' tok rfl rfl ha31 rfl rfl rfl la31 ua31) rfl rfl ?_
                refine q_p tok rfl rfl rfl ?_
                obtain ⟨v32, hv32, H⟩ := H
                refine q_y (y_ld tok rfl rfl rfl rfl hv32) rfl rfl ?_
                refine q_p tok rfl rfl rfl ?_
                refine q_p tok rfl rfl rfl ?_
                refine q_cut 11 (α := Bool) (fun (s : Bool) => [(87, .bool s), (0, Slc.v p0), (3, .pointer r5), (4, .int .i64 t4_1), (5, Slc.v r7), (7, Slc.v r19), (8, .int .i64 t8_2), (9, .bool true), (10, .int .i64 t10_3)]) (fun (s : Bool) => law25_RegKeeps_g5 p0 r5 t4_1 r7 r19 t8_2 true t10_3 s k (fun s h' => I1 s h' ∧ μ1 s h' < μ1 t4_1 h_1) (fun s h' => I2 s h' ∧ μ2 s h' < μ2 t8_2 h_2) (fun s h' => I3 s h' ∧ μ3 s h' < μ3 (t9_3, t10_3) h_3) h26) ?_ ?_
                ·
                  rintro t87_5 H
                  replace H : law25_RegKeeps_g5 p0 r5 t4_1 r7 r19 t8_2 true t10_3 t87_5 k (fun s h' => I1 s h' ∧ μ1 s h' < μ1 t4_1 h_1) (fun s h' => I2 s h' ∧ μ2 s h' < μ2 t8_2 h_2) (fun s h' => I3 s h' ∧ μ3 s h' < μ3 (t9_3, t10_3) h_3) h26 := H
                  unfold law25_RegKeeps_g5 at H
                  refine q_weak [(87, .bool t87_5), (0, Slc.v p0), (3, .pointer r5), (4, .int .i64 t4_1), (5, Slc.v r7), (7, Slc.v r19), (8, .int .i64 t8_2), (9, .bool true), (10, .int .i64 t10_3)] ⟨rfl, rfl, rfl, rfl, rfl, rfl, rfl, rfl, rfl, trivial⟩ ?_
                  refine q_end ?_
                  refine x_seq ?_
                  refine c_if H rfl (fun H => ?_) (fun H => ?_)
                  ·
                    refine c_seq ?_
                    refine c_region ?_
                    refine w_p tok rfl rfl rfl ?_
                    refine w_end ?_
                    refine x_seq ?_
                    refine c_weak [(2, .bool false)] ⟨rfl, trivial⟩ ?_
                    refine c_ret ?_
                    refine x_br ?_
                    refine x_tr ?_
                    refine x_tr ?_
                    refine x_br ?_
                    refine x_tr ?_
                    refine x_br ?_
                    refine x_tr ?_
                    refine x_tr ?_
                    refine x_br ?_
                    refine x_tr ?_
                    refine x_br ?_
                    refine x_tr ?_
                    refine x_tr ?_
                    refine x_br ?_
                    refine x_tr ?_
                    exact x_ret _ rfl _ rfl ⟨false, rfl, H⟩
                  ·
                    refine c_skip ?_
                    refine x_blk ?_
                    exact x_join true H ⟨rfl, rfl, rfl, rfl, rfl, rfl, rfl, rfl, trivial⟩
                ·
                  refine q_gif (d := 76) H rfl (fun H => ?_) (fun H => ?_)
                  ·
                    refine q_skip rfl rfl ?_
                    refine q_skip rfl rfl ?_
                    refine q_skip rfl rfl ?_
                    refine q_skip rfl rfl ?_
                    refine q_skip rfl rfl ?_
                    refine q_skip rfl rfl ?_
                    refine q_skip rfl rfl ?_
                    refine q_skip rfl rfl ?_
                    refine q_skip rfl rfl ?_
                    refine q_skip rfl rfl ?_
                    refine q_p tok rfl rfl rfl ?_
                    exact q_jn true H ⟨rfl, rfl, rfl, rfl, rfl, rfl, rfl, rfl, rfl, trivial⟩
                  ·
                    refine q_p tok rfl rfl rfl ?_
                    refine q_p tok rfl rfl rfl ?_
                    obtain ⟨a33, ha33, la33, ua33, H⟩ := H
                    refine q_y (y_ixa' tok rfl rfl ha33 rfl rfl rfl la33 ua33) rfl rfl ?_
                    refine q_p tok rfl rfl rfl ?_
                    obtain ⟨v34, hv34, H⟩ := H
                    refine q_y (y_ld tok rfl rfl rfl rfl hv34) rfl rfl ?_
                    refine q_p tok rfl rfl rfl ?_
                    refine q_cut 4 (α := Bool) (fun (s : Bool) => [(86, .bool s), (0, Slc.v p0), (3, .pointer r5), (4, .int .i64 t4_1), (5, Slc.v r7), (7, Slc.v r19), (8, .int .i64 t8_2), (9, .bool true), (10, .int .i64 t10_3), (76, .bool false)]) (fun (s : Bool) => law25_RegKeeps_g6 p0 r5 t4_1 r7 r19 t8_2 true t10_3 false s k (fun s h' => I1 s h' ∧ μ1 s h' < μ1 t4_1 h_1) (fun s h' => I2 s h' ∧ μ2 s h' < μ2 t8_2 h_2) (fun s h' => I3 s h' ∧ μ3 s h' < μ3 (t9_3, t10_3) h_3) h26) ?_ ?_
                    ·
                      rintro t86_6 H
                      replace H : law25_RegKeeps_g6 p0 r5 t4_1 r7 r19 t8_2 true t10_3 false t86_6 k (fun s h' => I1 s h' ∧ μ1 s h' < μ1 t4_1 h_1) (fun s h' => I2 s h' ∧ μ2 s h' < μ2 t8_2 h_2) (fun s h' => I3 s h' ∧ μ3 s h' < μ3 (t9_3, t10_3) h_3) h26 := H
                      unfold law25_RegKeeps_g6 at H
                      refine q_weak [(86, .bool t86_6), (0, Slc.v p0), (3, .pointer r5), (4, .int .i64 t4_1), (5, Slc.v r7), (7, Slc.v r19), (8, .int .i64 t8_2), (9, .bool true), (10, .int .i64 t10_3), (76, .bool false)] ⟨rfl, rfl, rfl, rfl, rfl, rfl, rfl, rfl, rfl, rfl, trivial⟩ ?_
                      refine q_p tok rfl rfl rfl ?_
                      exact q_jn t86_6 H ⟨rfl, rfl, rfl, rfl, rfl, rfl, rfl, rfl, rfl, trivial⟩
                    ·
                      refine q_gif (d := 82) H rfl (fun H => ?_) (fun H => ?_)
                      ·
                        refine q_p tok rfl rfl rfl ?_
                        obtain ⟨v35, hv35, H⟩ := H
                        refine q_y (y_ld tok rfl rfl rfl rfl hv35) rfl rfl ?_
                        refine q_p tok rfl rfl rfl ?_
                        refine q_p tok rfl rfl rfl ?_
                        exact q_jn (!v35) H ⟨rfl, rfl, rfl, rfl, rfl, rfl, rfl, rfl, rfl, rfl, trivial⟩
                      ·
                        refine q_skip rfl rfl ?_
                        refine q_skip rfl rfl ?_
                        refine q_skip rfl rfl ?_
                        refine q_p tok rfl rfl rfl ?_
                        exact q_jn false H ⟨rfl, rfl, rfl, rfl, rfl, rfl, rfl, rfl, rfl, rfl, trivial⟩
          ·
            refine c_exit ?_
            refine x_te ?_
            refine x_te ?_
            refine x_bh ?_
            refine x_seq ?_
            refine c_seq ?_
            refine c_region ?_
            refine w_p tok rfl rfl rfl ?_
            refine w_p tok rfl rfl rfl ?_
            refine w_end ?_
            refine x_seq ?_
            refine c_weak [(0, Slc.v p0), (3, .pointer r5), (4, .int .i64 t4_1), (5, Slc.v r7), (7, Slc.v r19), (8, .int .i64 t8_2), (89, .bool (!t9_3))] ⟨rfl, rfl, rfl, rfl, rfl, rfl, rfl, trivial⟩ ?_
            refine c_if H rfl (fun H => ?_) (fun H => ?_)
            ·
              refine c_seq ?_
              refine c_region ?_
              refine w_p tok rfl rfl rfl ?_
              refine w_end ?_
              refine x_seq ?_
              refine c_weak [(2, .bool false)] ⟨rfl, trivial⟩ ?_
              refine c_ret ?_
              refine x_br ?_
              refine x_tr ?_
              refine x_tr ?_
              refine x_br ?_
              refine x_tr ?_
              refine x_br ?_
              refine x_tr ?_
              refine x_tr ?_
              refine x_br ?_
              refine x_tr ?_
              exact x_ret _ rfl _ rfl ⟨false, rfl, H⟩
            ·
              refine c_skip ?_
              refine x_blk ?_
              refine x_seq ?_
              refine c_region ?_
              refine w_p tok rfl rfl rfl ?_
              refine w_p tok rfl rfl rfl ?_
              obtain ⟨x36, ex36, H⟩ := H
              refine w_pe tok rfl (congrArg (fun z => (.int .i64 z : Value)) ex36) rfl rfl ?_
              refine w_end ?_
              exact x_join x36 H ⟨rfl, rfl, rfl, rfl, rfl, rfl, trivial⟩
        ·
          refine c_exit ?_
          refine x_te ?_
          refine x_te ?_
          refine x_bh ?_
          refine x_seq ?_
          refine c_seq ?_
          refine c_region ?_
          refine w_p tok rfl rfl rfl ?_
          refine w_end ?_
          refine x_seq ?_
          refine c_block ?_
          obtain ⟨I7, μ7, H0, HI⟩ := H
          refine c_loop (σ := Int) (fun (s : Int) => [(12, .int .i64 s), (0, Slc.v p0), (3, .pointer r5), (4, .int .i64 t4_1), (7, Slc.v r19)]) I7 μ7 0 H0 ⟨rfl, rfl, rfl, rfl, rfl, trivial⟩ ?_
          rintro t12_7 h_7 H
          replace H := HI t12_7 h_7 H
          unfold law25_RegKeeps_l7b at H
          refine c_weak [(12, .int .i64 t12_7), (0, Slc.v p0), (3, .pointer r5), (4, .int .i64 t4_1), (7, Slc.v r19)] ⟨rfl, rfl, rfl, rfl, rfl, trivial⟩ ?_
          refine c_seq ?_
          refine c_seq ?_
          refine c_region ?_
          refine w_p tok rfl rfl rfl ?_
          refine w_p tok rfl rfl rfl ?_
          refine w_p tok rfl rfl rfl ?_
          refine w_p tok rfl rfl rfl ?_
          refine w_end ?_
          refine x_seq ?_
          refine c_if H rfl (fun H => ?_) (fun H => ?_)
          ·
            refine c_skip ?_
            refine x_seq ?_
            refine c_seq ?_
            refine c_block ?_
            refine c_seq ?_
            refine c_seq ?_
            refine c_draw (by kernel_rfl) (by kernel_rfl) ?_
            refine q_p tok rfl rfl rfl ?_
            refine q_p tok rfl rfl rfl ?_
            obtain ⟨a37, ha37, la37, ua37, H⟩ := H
            refine q_y (y_ixa' tok rfl rfl ha37 rfl rfl rfl la37 ua37) rfl rfl ?_
            refine q_p tok rfl rfl rfl ?_
            obtain ⟨v38, hv38, H⟩ := H
            refine q_y (y_ld tok rfl rfl rfl rfl hv38) rfl rfl ?_
            refine q_p tok rfl rfl rfl ?_
            refine q_p tok rfl rfl rfl ?_
            obtain ⟨a39, ha39, la39, ua39, H⟩ := H
            refine q_y (y_ixa' tok rfl rfl ha39 rfl rfl rfl la39 ua39) rfl rfl ?_
            refine q_p tok rfl rfl rfl ?_
            obtain ⟨v40, hv40, H⟩ := H
            refine q_y (y_ld tok rfl rfl rfl rfl hv40) rfl rfl ?_
            refine q_p tok rfl rfl rfl ?_
            refine q_p tok rfl rfl rfl ?_
            refine q_p tok rfl rfl rfl ?_
            refine q_end ?_
            refine x_seq ?_
            refine c_weak [(12, .int .i64 t12_7), (0, Slc.v p0), (3, .pointer r5), (4, .int .i64 t4_1), (7, Slc.v r19), (108, .bool (!(v38 == ((v40.len : Int) == 0))))] ⟨rfl, rfl, rfl, rfl, rfl, rfl, trivial⟩ ?_
            refine c_if H rfl (fun H => ?_) (fun H => ?_)
            ·
              refine c_seq ?_
              refine c_region ?_
              refine w_p tok rfl rfl rfl ?_
              refine w_end ?_
              refine x_seq ?_
              refine c_ret ?_
              refine x_tr ?_
              refine x_br ?_
              refine x_tr ?_
              refine x_tr ?_
              refine x_br ?_
              refine x_br ?_
              refine x_tr ?_
              refine x_tr ?_
              refine x_br ?_
              refine x_tr ?_
              exact x_ret _ rfl _ rfl ⟨false, rfl, H⟩
            ·
              refine c_skip ?_
              refine x_seq ?_
              refine c_seq ?_
              refine c_region ?_
              refine w_p tok rfl rfl rfl ?_
              refine w_end ?_
              refine x_seq ?_
              refine c_block ?_
              obtain ⟨I8, μ8, H0, HI⟩ := H
              refine c_loop (σ := Int) (fun (s : Int) => [(13, .int .i64 s), (0, Slc.v p0), (3, .pointer r5), (4, .int .i64 t4_1), (7, Slc.v r19), (12, .int .i64 t12_7)]) I8 μ8 1 H0 ⟨rfl, rfl, rfl, rfl, rfl, rfl, trivial⟩ ?_
              rintro t13_8 h_8 H
              replace H := HI t13_8 h_8 H
              unfold law25_RegKeeps_l8b at H
              refine c_weak [(13, .int .i64 t13_8), (0, Slc.v p0), (3, .pointer r5), (4, .int .i64 t4_1), (7, Slc.v r19), (12, .int .i64 t12_7)] ⟨rfl, rfl, rfl, rfl, rfl, rfl, trivial⟩ ?_
              refine c_seq ?_
              refine c_seq ?_
              refine c_region ?_
              refine w_p tok rfl rfl rfl ?_
              refine w_p tok rfl rfl rfl ?_
              refine w_p tok rfl rfl rfl ?_
              obtain ⟨a41, ha41, la41, ua41, H⟩ := H
              refine w_y (y_ixa' tok rfl rfl ha41 rfl rfl rfl la41 ua41) rfl rfl ?_
              refine w_p tok rfl rfl rfl ?_
              obtain ⟨v42, hv42, H⟩ := H
              refine w_y (y_ld tok rfl rfl rfl rfl hv42) rfl rfl ?_
              refine w_p tok rfl rfl rfl ?_
              refine w_p tok rfl rfl rfl ?_
              refine w_end ?_
              refine x_seq ?_
              refine c_weak [(13, .int .i64 t13_8), (0, Slc.v p0), (3, .pointer r5), (4, .int .i64 t4_1), (7, Slc.v r19), (12, .int .i64 t12_7), (116, .bool (decide (t13_8 < (v42.len : Int))))] ⟨rfl, rfl, rfl, rfl, rfl, rfl, rfl, trivial⟩ ?_
              refine c_if H rfl (fun H => ?_) (fun H => ?_)
              ·
                refine c_skip ?_
                refine x_seq ?_
                refine c_seq ?_
                refine c_block ?_
                refine c_seq ?_
                refine c_draw (by kernel_rfl) (by kernel_rfl) ?_
                refine q_p tok rfl rfl rfl ?_
                refine q_p tok rfl rfl rfl ?_
                obtain ⟨a43, ha43, la43, ua43, H⟩ := H
                refine q_y (y_ixa' tok rfl rfl ha43 rfl rfl rfl la43 ua43) rfl rfl ?_
                refine q_p tok rfl rfl rfl ?_
                obtain ⟨v44, hv44, H⟩ := H
                refine q_y (y_ld tok rfl rfl rfl rfl hv44) rfl rfl ?_
                refine q_p tok rfl rfl rfl ?_
                obtain ⟨a45, ha45, la45, ua45, H⟩ := H
                refine q_y (y_ixa' tok rfl rfl ha45 rfl rfl rfl la45 ua45) rfl rfl ?_
                refine q_p tok rfl rfl rfl ?_
                obtain ⟨v46, hv46, H⟩ := H
                refine q_y (y_ld tok rfl rfl rfl rfl hv46) rfl rfl ?_
                refine q_p tok rfl rfl rfl ?_
                refine q_p tok rfl rfl rfl ?_
                obtain ⟨a47, ha47, la47, ua47, H⟩ := H
                refine q_y (y_ixa' tok rfl rfl ha47 rfl rfl rfl la47 ua47) rfl rfl ?_
                refine q_p tok rfl rfl rfl ?_
                obtain ⟨v48, hv48, H⟩ := H
                refine q_y (y_ld tok rfl rfl rfl rfl hv48) rfl rfl ?_
                refine q_p tok rfl rfl rfl ?_
                refine q_p tok rfl rfl rfl ?_
                obtain ⟨a49, ha49, la49, ua49, H⟩ := H
                refine q_y (y_ixa' tok rfl rfl ha49 rfl rfl rfl la49 ua49) rfl rfl ?_
                refine q_p tok rfl rfl rfl ?_
                obtain ⟨v50, hv50, H⟩ := H
                refine q_y (y_ld tok rfl rfl rfl rfl hv50) rfl rfl ?_
                refine q_p tok rfl rfl rfl ?_
                refine q_p tok rfl rfl rfl ?_
                refine q_end ?_
                refine x_seq ?_
                refine c_weak [(13, .int .i64 t13_8), (0, Slc.v p0), (3, .pointer r5), (4, .int .i64 t4_1), (7, Slc.v r19), (12, .int .i64 t12_7), (139, .bool (v46 != (IntKind.u32.wrap (v50 + 1))))] ⟨rfl, rfl, rfl, rfl, rfl, rfl, rfl, trivial⟩ ?_
                refine c_if H rfl (fun H => ?_) (fun H => ?_)
                ·
                  refine c_seq ?_
                  refine c_region ?_
                  refine w_p tok rfl rfl rfl ?_
                  refine w_end ?_
                  refine x_seq ?_
                  refine c_weak [(2, .bool false)] ⟨rfl, trivial⟩ ?_
                  refine c_ret ?_
                  refine x_br ?_
                  refine x_tr ?_
                  refine x_tr ?_
                  refine x_br ?_
                  refine x_br ?_
                  refine x_tr ?_
                  refine x_tr ?_
                  refine x_br ?_
                  refine x_br ?_
                  refine x_tr ?_
                  refine x_tr ?_
                  refine x_br ?_
                  refine x_tr ?_
                  exact x_ret _ rfl _ rfl ⟨false, rfl, H⟩
                ·
                  refine c_skip ?_
                  refine x_blk ?_
                  refine x_seq ?_
                  refine c_region ?_
                  refine w_p tok rfl rfl rfl ?_
                  refine w_p tok rfl rfl rfl ?_
                  obtain ⟨x51, ex51, H⟩ := H
                  refine w_pe tok rfl (congrArg (fun z => (.int .i64 z : Value)) ex51) rfl rfl ?_
                  refine w_end ?_
                  exact x_join x51 H ⟨rfl, rfl, rfl, rfl, rfl, rfl, trivial⟩
              ·
                refine c_exit ?_
                refine x_te ?_
                refine x_te ?_
                refine x_bh ?_
                refine x_blk ?_
                refine x_seq ?_
                refine c_region ?_
                refine w_p tok rfl rfl rfl ?_
                refine w_p tok rfl rfl rfl ?_
                obtain ⟨x52, ex52, H⟩ := H
                refine w_pe tok rfl (congrArg (fun z => (.int .i64 z : Value)) ex52) rfl rfl ?_
                refine w_end ?_
                exact x_join x52 H ⟨rfl, rfl, rfl, rfl, rfl, trivial⟩
          ·
            refine c_exit ?_
            refine x_te ?_
            refine x_te ?_
            refine x_bh ?_
            refine x_blk ?_
            refine x_seq ?_
            refine c_region ?_
            refine w_p tok rfl rfl rfl ?_
            refine w_p tok rfl rfl rfl ?_
            obtain ⟨x53, ex53, H⟩ := H
            refine w_pe tok rfl (congrArg (fun z => (.int .i64 z : Value)) ex53) rfl rfl ?_
            refine w_end ?_
            exact x_join x53 H ⟨rfl, rfl, rfl, trivial⟩
    ·
      refine c_exit ?_
      refine x_te ?_
      refine x_te ?_
      refine x_bh ?_
      refine x_seq ?_
      refine c_weak [] trivial ?_
      refine c_seq ?_
      refine c_region ?_
      refine w_p tok rfl rfl rfl ?_
      refine w_end ?_
      refine x_seq ?_
      refine c_seq ?_
      refine c_region ?_
      refine w_p tok rfl rfl rfl ?_
      refine w_call reg_Reg_Tenant_ok (reg_Reg_Tenant_ref _ _ _ _ H) rfl rfl rfl rfl ?_
      rintro _ h55 ⟨r54, rfl, H⟩
      refine w_p tok rfl rfl rfl ?_
      refine w_p tok rfl rfl rfl ?_
      refine w_p tok rfl rfl rfl ?_
      obtain ⟨b56, h57, eb56, eh57, H⟩ := H
      refine w_h (h_alloc tok rfl rfl eb56 eh57) rfl rfl ?_
      obtain ⟨h58, wh58, eh58, H⟩ := H
      refine w_h (h_sts tok rfl rfl rfl rfl rfl (oneC (by kernel_rfl)) wh58 eh58) rfl rfl ?_
      refine w_p tok rfl rfl rfl ?_
      refine w_end ?_
      refine x_seq ?_
      refine c_seq ?_
      refine c_region ?_
      refine w_p tok rfl rfl rfl ?_
      refine w_y (y_build tok rfl rfl rfl rfl rfl) rfl rfl ?_
      refine w_call reg_Reg_Apply_ok (reg_Reg_Apply_ref _ _ _ _ H) rfl rfl rfl rfl ?_
      rintro _ h60 ⟨r59, rfl, H⟩
      refine w_p tok rfl rfl rfl ?_
      refine w_p tok rfl rfl rfl ?_
      refine w_cut 5 (α := Bool) (fun (s : Bool) => [(154, .bool s), (14, .pointer none), (16, .int .i64 r54.2)]) (fun (s : Bool) h => law25_RegKeeps_g9 none r54.2 s k (fun s h' => I1 s h' ∧ μ1 s h' < μ1 t4_1 h_1) h) ?_ ?_
      ·
        rintro t154_9 h_9 H
        replace H : law25_RegKeeps_g9 none r54.2 t154_9 k (fun s h' => I1 s h' ∧ μ1 s h' < μ1 t4_1 h_1) h_9 := H
        unfold law25_RegKeeps_g9 at H
        refine w_weak [(154, .bool t154_9), (14, .pointer none), (16, .int .i64 r54.2)] ⟨rfl, rfl, rfl, trivial⟩ ?_
        refine w_p tok rfl rfl rfl ?_
        refine w_cutU 3 [(158, .bool (t154_9 && (r54.2 == 16))), (14, .pointer none)] ?_ ?_
        ·
          refine w_p tok rfl rfl rfl ?_
          refine w_cut 4 (α := Bool) (fun (s : Bool) => [(163, .bool s), (14, .pointer none)]) (fun (s : Bool) h => law25_RegKeeps_g10 none s k (fun s h' => I1 s h' ∧ μ1 s h' < μ1 t4_1 h_1) h) ?_ ?_
          ·
            rintro t163_10 h_10 H
            replace H : law25_RegKeeps_g10 none t163_10 k (fun s h' => I1 s h' ∧ μ1 s h' < μ1 t4_1 h_1) h_10 := H
            unfold law25_RegKeeps_g10 at H
            refine w_weak [(163, .bool t163_10), (14, .pointer none)] ⟨rfl, rfl, trivial⟩ ?_
            refine w_p tok rfl rfl rfl ?_
            refine w_cut 4 (α := Bool) (fun (s : Bool) => [(168, .bool s), (14, .pointer none)]) (fun (s : Bool) h => law25_RegKeeps_g11 none s k (fun s h' => I1 s h' ∧ μ1 s h' < μ1 t4_1 h_1) h) ?_ ?_
            ·
              rintro t168_11 h_11 H
              replace H : law25_RegKeeps_g11 none t168_11 k (fun s h' => I1 s h' ∧ μ1 s h' < μ1 t4_1 h_1) h_11 := H
              unfold law25_RegKeeps_g11 at H
              refine w_weak [(168, .bool t168_11), (14, .pointer none)] ⟨rfl, rfl, trivial⟩ ?_
              refine w_p tok rfl rfl rfl ?_
              refine w_cut 5 (α := Bool) (fun (s : Bool) => [(174, .bool s)]) (fun (s : Bool) h => law25_RegKeeps_g12 s k (fun s h' => I1 s h' ∧ μ1 s h' < μ1 t4_1 h_1) h) ?_ ?_
              ·
                rintro t174_12 h_12 H
                replace H : law25_RegKeeps_g12 t174_12 k (fun s h' => I1 s h' ∧ μ1 s h' < μ1 t4_1 h_1) h_12 := H
                unfold law25_RegKeeps_g12 at H
                refine w_weak [(174, .bool t174_12)] ⟨rfl, trivial⟩ ?_
                refine w_p tok rfl rfl rfl ?_
                refine w_cut 2 (α := Bool) (fun (s : Bool) => [(177, .bool s)]) (fun (s : Bool) h => law25_RegKeeps_g13 s k (fun s h' => I1 s h' ∧ μ1 s h' < μ1 t4_1 h_1) h) ?_ ?_
                ·
                  rintro t177_13 h_13 H
                  replace H : law25_RegKeeps_g13 t177_13 k (fun s h' => I1 s h' ∧ μ1 s h' < μ1 t4_1 h_1) h_13 := H
                  unfold law25_RegKeeps_g13 at H
                  refine w_weak [(177, .bool t177_13)] ⟨rfl, trivial⟩ ?_
                  refine w_p tok rfl rfl rfl ?_
                  refine w_end ?_
                  refine x_seq ?_
                  refine c_ret ?_
                  exact x_ret _ rfl _ rfl ⟨t177_13, rfl, H⟩
                ·
                  refine w_gif (d := 175) H rfl (fun H => ?_) (fun H => ?_)
                  ·
                    refine w_call law25_awake_ok (law25_awake_ref  _ _ H) rfl rfl rfl rfl ?_
                    rintro _ h62 ⟨r61, rfl, H⟩
                    refine w_p tok rfl rfl rfl ?_
                    exact w_jn r61 H ⟨rfl, trivial⟩
                  ·
                    refine w_skip rfl rfl ?_
                    refine w_p tok rfl rfl rfl ?_
                    exact w_jn false H ⟨rfl, trivial⟩
              ·
                refine w_gif (d := 169) H rfl (fun H => ?_) (fun H => ?_)
                ·
                  refine w_p tok rfl rfl rfl ?_
                  refine w_call reg_Reg_Bytes_ok (reg_Reg_Bytes_ref _ _ _ H) rfl rfl rfl rfl ?_
                  rintro _ h64 ⟨r63, rfl, H⟩
                  obtain ⟨b65, h66, eb65, eh66, H⟩ := H
                  refine w_h (h_bs tok rfl rfl rfl rfl rfl rfl rfl eb65 eh66) rfl rfl ?_
                  refine w_call ref01_Same_ok (ref01_Same_ref _ _ _ _ H) rfl rfl rfl rfl ?_
                  rintro _ h68 ⟨r67, rfl, H⟩
                  refine w_p tok rfl rfl rfl ?_
                  exact w_jn r67 H ⟨rfl, trivial⟩
                ·
                  refine w_skip rfl rfl ?_
                  refine w_skip rfl rfl ?_
                  refine w_skip rfl rfl ?_
                  refine w_skip rfl rfl ?_
                  refine w_p tok rfl rfl rfl ?_
                  exact w_jn false H ⟨rfl, trivial⟩
            ·
              refine w_gif (d := 164) H rfl (fun H => ?_) (fun H => ?_)
              ·
                refine w_p tok rfl rfl rfl ?_
                refine w_call reg_Reg_Copy_ok (reg_Reg_Copy_ref _ _ _ H) rfl rfl rfl rfl ?_
                rintro _ h70 ⟨r69, rfl, H⟩
                refine w_p tok rfl rfl rfl ?_
                refine w_p tok rfl rfl rfl ?_
                exact w_jn (r69.isNone) H ⟨rfl, rfl, trivial⟩
              ·
                refine w_skip rfl rfl ?_
                refine w_skip rfl rfl ?_
                refine w_skip rfl rfl ?_
                refine w_p tok rfl rfl rfl ?_
                exact w_jn false H ⟨rfl, rfl, trivial⟩
          ·
            refine w_gif (d := 159) H rfl (fun H => ?_) (fun H => ?_)
            ·
              refine w_p tok rfl rfl rfl ?_
              refine w_call reg_Reg_Epoch_ok (reg_Reg_Epoch_ref _ _ _ _ H) rfl rfl rfl rfl ?_
              rintro _ h72 ⟨r71, rfl, H⟩
              refine w_p tok rfl rfl rfl ?_
              refine w_p tok rfl rfl rfl ?_
              exact w_jn (r71 == 0) H ⟨rfl, rfl, trivial⟩
            ·
              refine w_skip rfl rfl ?_
              refine w_skip rfl rfl ?_
              refine w_skip rfl rfl ?_
              refine w_p tok rfl rfl rfl ?_
              exact w_jn false H ⟨rfl, rfl, trivial⟩
        ·
          refine w_gs (d := 155) rfl (fun hb => ?_) (fun hb => ?_)
          ·
            refine w_p tok rfl rfl rfl ?_
            refine w_p tok rfl rfl rfl ?_
            refine w_p tok rfl rfl rfl ?_
            refine w_jn () rfl ⟨?_, rfl, trivial⟩
            exact congrArg (fun b => some (Value.bool b)) (and_t hb)
          ·
            refine w_skip rfl rfl ?_
            refine w_skip rfl rfl ?_
            refine w_p tok rfl rfl rfl ?_
            refine w_jn () rfl ⟨?_, rfl, trivial⟩
            exact congrArg (fun b => some (Value.bool b)) (and_f hb)
      ·
        refine w_gif (d := 149) H rfl (fun H => ?_) (fun H => ?_)
        ·
          refine w_p tok rfl rfl rfl ?_
          refine w_call reg_Reg_Tenants_ok (reg_Reg_Tenants_ref _ _ _ H) rfl rfl rfl rfl ?_
          rintro _ h74 ⟨r73, rfl, H⟩
          refine w_p tok rfl rfl rfl ?_
          refine w_p tok rfl rfl rfl ?_
          refine w_p tok rfl rfl rfl ?_
          exact w_jn ((r73.len : Int) == 0) H ⟨rfl, rfl, rfl, trivial⟩
        ·
          refine w_skip rfl rfl ?_
          refine w_skip rfl rfl ?_
          refine w_skip rfl rfl ?_
          refine w_skip rfl rfl ?_
          refine w_p tok rfl rfl rfl ?_
          exact w_jn false H ⟨rfl, rfl, rfl, trivial⟩
end Go.Q.Yb

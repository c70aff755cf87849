/- A part of the proof of statements of this seat: lemmas, no statement of their own. -/
import Derived.Test.YtcmbgfmbmbgbiaaYbTab
import Derived.Test.YtcmbgfmbmbgbiaaQMap
import Derived.Test.YtcmbgfmbmbgbiaaQDraw2
set_option linter.unusedVariables false
set_option maxRecDepth 100000
set_option maxHeartbeats 1000000
namespace Go.Q.Yb
/-- quaestor quaestorref01.Same -/
def ref01_Same_l1b (t0_1 : Slc) (t1_1 : Slc) (t5_1 : Int) (k : (Bool) → Heap → Prop) (nx1 : (Int) → Heap → Prop) (h_1 : Heap) : Prop :=
  if (decide (t5_1 < (t0_1.len : Int))) then (∃ a1 : Addr, t0_1.a = some a1 ∧ (0 : Int) ≤ t5_1 ∧ t5_1 < (t0_1.len : Int) ∧ (∃ v2 : Int, cellH h_1 (a1.add (t5_1.toNat * 1)) = some (.int .u8 v2) ∧ (∃ a3 : Addr, t1_1.a = some a3 ∧ (0 : Int) ≤ t5_1 ∧ t5_1 < (t1_1.len : Int) ∧ (∃ v4 : Int, cellH h_1 (a3.add (t5_1.toNat * 1)) = some (.int .u8 v4) ∧ (if (v2 != v4) then (k false h_1) else (∃ x5 : Int, x5 = (IntKind.i64.wrap (t5_1 + 1)) ∧ (nx1 x5 h_1))))))) else (k true h_1)
def ref01_Same_l1 (t0_1 : Slc) (t1_1 : Slc) (i5 : Int) (k : (Bool) → Heap → Prop) (h : Heap) : Prop :=
  ∃ (I : Int → Heap → Prop) (μ : Int → Heap → Nat), I i5 h ∧ ∀ (t5_1 : Int) (h : Heap), I t5_1 h → ref01_Same_l1b t0_1 t1_1 t5_1 k (fun s h' => I s h' ∧ μ s h' < μ t5_1 h) h
def ref01_Same (p0 : Slc) (p1 : Slc) (k : (Bool) → Heap → Prop) (h : Heap) : Prop :=
  if ((p0.len : Int) != (p1.len : Int)) then (k false h) else (ref01_Same_l1 p0 p1 0 k h)

/-- quaestor quaestorref25.Great -/
def ref25_Great_g2 (t0_2 : Slc) (t1_2 : Int) (t5_2 : Int) (t32_2 : Bool) (k : (Bool) → Heap → Prop) (nx1 : (Int) → Heap → Prop) (h_2 : Heap) : Prop :=
  if t32_2 then (k true h_2) else (∃ x3 : Int, x3 = (IntKind.i64.wrap (t5_2 + 1)) ∧ (nx1 x3 h_2))
def ref25_Great_l1b (t0_1 : Slc) (t1_1 : Int) (t5_1 : Int) (k : (Bool) → Heap → Prop) (nx1 : (Int) → Heap → Prop) (h_1 : Heap) : Prop :=
  if ((decide (t5_1 < (t0_1.len : Int))) && (decide (t5_1 < t1_1))) then (∃ a1 : Addr, t0_1.a = some a1 ∧ (0 : Int) ≤ t5_1 ∧ t5_1 < (t0_1.len : Int) ∧ (∃ v2 : ByteArray, cellH h_1 ((a1.add (t5_1.toNat * 17)).add 1) = some (.string v2) ∧ (if (decide ((v2.size : Int) > 100)) then (ref25_Great_g2 t0_1 t1_1 t5_1 true k nx1 h_1) else (∃ a4 : Addr, t0_1.a = some a4 ∧ (0 : Int) ≤ t5_1 ∧ t5_1 < (t0_1.len : Int) ∧ (∃ v5 : Slc, cellH h_1 ((a4.add (t5_1.toNat * 17)).add 15) = some (Slc.v v5) ∧ (ref25_Great_g2 t0_1 t1_1 t5_1 (decide ((v5.len : Int) > 200)) k nx1 h_1)))))) else (k (decide ((t0_1.len : Int) > t1_1)) h_1)
def ref25_Great_l1 (t0_1 : Slc) (t1_1 : Int) (i5 : Int) (k : (Bool) → Heap → Prop) (h : Heap) : Prop :=
  ∃ (I : Int → Heap → Prop) (μ : Int → Heap → Nat), I i5 h ∧ ∀ (t5_1 : Int) (h : Heap), I t5_1 h → ref25_Great_l1b t0_1 t1_1 t5_1 k (fun s h' => I s h' ∧ μ s h' < μ t5_1 h) h
def ref25_Great (p0 : Slc) (p1 : Int) (k : (Bool) → Heap → Prop) (h : Heap) : Prop :=
  ref25_Great_l1 p0 p1 0 k h

/-- slices.Clone   byte byte  -/
def slices_Clone_byte_byte (p0 : Slc) (k : (Slc) → Heap → Prop) (h : Heap) : Prop :=
  if (p0.a.isNone) then (k (⟨none, 0, 0⟩ : Slc) h) else (∃ (b1 : Nat) (h2 : Heap), b1 = h.size ∧ h2 = h.push (.cells ([]).toArray 5) ∧ (∃ l5 : List Value, SlcAt h2 p0 l5 ∧ App 5 1 1 [.int .u8 0] h2 (⟨some ⟨b1, 0, none⟩, 0, 0⟩ : Slc) p0.len l5 (fun s3 h4 => k s3 h4)))

/-- quaestor num.Put -/
def num_Put_l1b (t13_1 : Int) (t1_1 : Int) (t7_1 : Slc) (t14_1 : Int) (k : (Slc) → Heap → Prop) (nx1 : (Int × Slc × Int) → Heap → Prop) (h_1 : Heap) : Prop :=
  if (decide (t14_1 < t13_1)) then (∃ (b3 : Nat) (h4 : Heap), b3 = h_1.size ∧ h4 = h_1.push (.cells ([.int .u8 (IntKind.u8.wrap t1_1)]).toArray 5) ∧ (App 5 1 1 [.int .u8 0] h4 t7_1 1 ([.int .u8 (IntKind.u8.wrap t1_1)]) (fun s5 h6 => ∃ x7 : Int, x7 = (shr .u64 t1_1 (8 : Int).toNat) ∧ (nx1 (x7, s5, (IntKind.i64.wrap (t14_1 + 1))) h6)))) else (k t7_1 h_1)
def num_Put_l1 (t13_1 : Int) (i1 : Int) (i7 : Slc) (i14 : Int) (k : (Slc) → Heap → Prop) (h : Heap) : Prop :=
  ∃ (I : (Int × Slc × Int) → Heap → Prop) (μ : (Int × Slc × Int) → Heap → Nat), I (i1, i7, i14) h ∧ ∀ (t1_1 : Int) (t7_1 : Slc) (t14_1 : Int) (h : Heap), I (t1_1, t7_1, t14_1) h → num_Put_l1b t13_1 t1_1 t7_1 t14_1 k (fun s h' => I s h' ∧ μ s h' < μ (t1_1, t7_1, t14_1) h) h
def num_Put (p0 : Slc) (p1 : Int) (p2 : Int) (k : (Slc) → Heap → Prop) (h : Heap) : Prop :=
  slices_Clone_byte_byte p0 (fun (r1 : Slc) h2 => if (decide (p2 > 8)) then (k r1 h2) else (num_Put_l1 p2 p1 r1 0 k h2)) h

/-- quaestor num.PutShort -/
def num_PutShort_l1b (t1_1 : Int) (t5_1 : Slc) (k : (Slc) → Heap → Prop) (nx1 : (Int × Slc) → Heap → Prop) (h_1 : Heap) : Prop :=
  if (decide (t1_1 ≥ 128)) then (∃ (b3 : Nat) (h4 : Heap), b3 = h_1.size ∧ h4 = h_1.push (.cells ([.int .u8 (bwOr .u8 (IntKind.u8.wrap t1_1) 128)]).toArray 5) ∧ (App 5 1 1 [.int .u8 0] h4 t5_1 1 ([.int .u8 (bwOr .u8 (IntKind.u8.wrap t1_1) 128)]) (fun s5 h6 => ∃ x7 : Int, x7 = (shr .u64 t1_1 (7 : Int).toNat) ∧ (nx1 (x7, s5) h6)))) else (∃ (b8 : Nat) (h9 : Heap), b8 = h_1.size ∧ h9 = h_1.push (.cells ([.int .u8 (IntKind.u8.wrap t1_1)]).toArray 5) ∧ (App 5 1 1 [.int .u8 0] h9 t5_1 1 ([.int .u8 (IntKind.u8.wrap t1_1)]) (fun s10 h11 => k s10 h11)))
def num_PutShort_l1 (i1 : Int) (i5 : Slc) (k : (Slc) → Heap → Prop) (h : Heap) : Prop :=
  ∃ (I : (Int × Slc) → Heap → Prop) (μ : (Int × Slc) → Heap → Nat), I (i1, i5) h ∧ ∀ (t1_1 : Int) (t5_1 : Slc) (h : Heap), I (t1_1, t5_1) h → num_PutShort_l1b t1_1 t5_1 k (fun s h' => I s h' ∧ μ s h' < μ (t1_1, t5_1) h) h
def num_PutShort (p0 : Slc) (p1 : Int) (k : (Slc) → Heap → Prop) (h : Heap) : Prop :=
  slices_Clone_byte_byte p0 (fun (r1 : Slc) h2 => num_PutShort_l1 p1 r1 k h2) h

/-- quaestor reg.text -/
def reg_text (p0 : Slc) (p1 : ByteArray) (k : (Slc) → Heap → Prop) (h : Heap) : Prop :=
  num_PutShort p0 (IntKind.u64.wrap (p1.size : Int)) (fun (r1 : Slc) h2 => App 5 1 1 [.int .u8 0] h2 r1 p1.size (b8 (sB p1)) (fun s3 h4 => k s3 h4)) h

/-- quaestor num.Zig -/
def num_Zig (p0 : Int) (k : (Int) → Heap → Prop) (h : Heap) : Prop :=
  ∃ x1 : Int, x1 = (bwXor .u64 (shl .u64 (IntKind.u64.wrap p0) (1 : Int).toNat) (IntKind.u64.wrap (shr .i64 p0 (63 : Int).toNat))) ∧ (k x1 h)

/-- quaestor box.Name -/
def box_Name_j2 (t0_2 : ByteArray) (t6_2 : Int) (t7_2 : Int) (t13_2 : Bool) (k : (Bool) → Heap → Prop) (nx1 : (Int) → Heap → Prop) (h_2 : Heap) : Prop :=
  if t13_2 then (nx1 (IntKind.i64.wrap (t7_2 + 1)) h_2) else (k false h_2)
def box_Name_l1b (t0_1 : ByteArray) (t6_1 : Int) (t7_1 : Int) (k : (Bool) → Heap → Prop) (nx1 : (Int) → Heap → Prop) (h_1 : Heap) : Prop :=
  if (decide (t7_1 < t6_1)) then (∃ v1 : Int, (0 : Int) ≤ t7_1 ∧ StrAt t0_1 t7_1 v1 ∧ (if ((decide (v1 ≥ 97)) && (decide (v1 ≤ 122))) then (box_Name_j2 t0_1 t6_1 t7_1 ((decide (v1 ≥ 97)) && (decide (v1 ≤ 122))) k nx1 h_1) else (if ((decide (v1 ≥ 48)) && (decide (v1 ≤ 57))) then (box_Name_j2 t0_1 t6_1 t7_1 ((decide (v1 ≥ 48)) && (decide (v1 ≤ 57))) k nx1 h_1) else (box_Name_j2 t0_1 t6_1 t7_1 (v1 == 45) k nx1 h_1)))) else (k ((decide ((t0_1.size : Int) > 0)) && (decide ((t0_1.size : Int) ≤ 24))) h_1)
def box_Name_l1 (t0_1 : ByteArray) (t6_1 : Int) (i7 : Int) (k : (Bool) → Heap → Prop) (h : Heap) : Prop :=
  ∃ (I : Int → Heap → Prop) (μ : Int → Heap → Nat), I i7 h ∧ ∀ (t7_1 : Int) (h : Heap), I t7_1 h → box_Name_l1b t0_1 t6_1 t7_1 k (fun s h' => I s h' ∧ μ s h' < μ t7_1 h) h
def box_Name (p0 : ByteArray) (k : (Bool) → Heap → Prop) (h : Heap) : Prop :=
  box_Name_l1 p0 (p0.size : Int) 0 k h

/-- quaestor reg.may -/
def reg_may_g2 (t18_2 : Bool) (k : (Bool) → Heap → Prop) (h_2 : Heap) : Prop :=
  k t18_2 h_2
def reg_may_j3 (t1_3 : Addr) (t19_3 : Bool) (k : (Bool) → Heap → Prop) (h_3 : Heap) : Prop :=
  if t19_3 then (∃ v8 : ByteArray, cellH h_3 (t1_3.add 1) = some (.string v8) ∧ (box_Name v8 (fun (r9 : Bool) h10 => k r9 h10) h_3)) else (k false h_3)
def reg_may_j1 (t1_1 : Addr) (t4_1 : Int) (t7_1 : Bool) (k : (Bool) → Heap → Prop) (h_1 : Heap) : Prop :=
  if t7_1 then (∃ v4 : ByteArray, cellH h_1 (t1_1.add 1) = some (.string v4) ∧ (box_Name v4 (fun (r5 : Bool) h6 => if r5 then (∃ v7 : Slc, cellH h6 (t1_1.add 15) = some (Slc.v v7) ∧ (reg_may_g2 ((v7.len : Int) == 48) k h6)) else (reg_may_g2 false k h6)) h_1)) else (if (t4_1 == 3) then (reg_may_j3 t1_1 (t4_1 == 3) k h_1) else (if (t4_1 == 4) then (reg_may_j3 t1_1 (t4_1 == 4) k h_1) else (reg_may_j3 t1_1 (t4_1 == 5) k h_1)))
def reg_may (p0 : S_api_Command) (k : (Bool) → Heap → Prop) (h : Heap) : Prop :=
  ∃ (b1 : Nat) (h2 : Heap), b1 = h.size ∧ h2 = h.push (.cells (S_api_Command.cs p0).toArray 32) ∧ (∃ v3 : Int, cellH h2 (⟨b1, 0, none⟩ : Addr) = some (.int .i64 v3) ∧ (if (v3 == 0) then (k true h2) else (if (v3 == 1) then (reg_may_j1 (⟨b1, 0, none⟩ : Addr) v3 (v3 == 1) k h2) else (reg_may_j1 (⟨b1, 0, none⟩ : Addr) v3 (v3 == 2) k h2))))

/-- quaestor reg.epoch -/
def reg_epoch (p0 : S_api_Tenant) (k : (Int) → Heap → Prop) (h : Heap) : Prop :=
  ∃ (b1 : Nat) (h2 : Heap), b1 = h.size ∧ h2 = h.push (.cells (S_api_Tenant.cs p0).toArray 130) ∧ (∃ v3 : Slc, cellH h2 ((⟨b1, 0, none⟩ : Addr).add 1) = some (Slc.v v3) ∧ (if ((v3.len : Int) == 0) then (k 0 h2) else (∃ v4 : Slc, cellH h2 ((⟨b1, 0, none⟩ : Addr).add 1) = some (Slc.v v4) ∧ (∃ v5 : Slc, cellH h2 ((⟨b1, 0, none⟩ : Addr).add 1) = some (Slc.v v5) ∧ (∃ a6 : Addr, v4.a = some a6 ∧ (0 : Int) ≤ (IntKind.i64.wrap ((v5.len : Int) - 1)) ∧ (IntKind.i64.wrap ((v5.len : Int) - 1)) < (v4.len : Int) ∧ (∃ v7 : Int, cellH h2 (a6.add ((IntKind.i64.wrap ((v5.len : Int) - 1)).toNat * 14)) = some (.int .u32 v7) ∧ (k v7 h2)))))))

/-- quaestor reg.copied -/
def reg_copied_l1b (t1_1 : Addr) (t2_1 : Addr) (t9_1 : Slc) (t10_1 : Int) (t11_1 : Int) (k : (S_api_Tenant) → Heap → Prop) (nx1 : (Int) → Heap → Prop) (h_1 : Heap) : Prop :=
  if (decide (t11_1 < t10_1)) then (∃ a7 : Addr, t9_1.a = some a7 ∧ (0 : Int) ≤ t11_1 ∧ t11_1 < (t9_1.len : Int) ∧ (∃ v8 : S_api_Wrapped, CellsAt h_1 (a7.add (t11_1.toNat * 14)) (S_api_Wrapped.cs v8) ∧ (∃ (b9 : Nat) (h10 : Heap), b9 = h_1.size ∧ h10 = h_1.push (.cells (S_api_Wrapped.cs (⟨0, ([] : List Int), (⟨none, 0, 0⟩ : Slc)⟩ : S_api_Wrapped)).toArray 132) ∧ (∃ h11 : Heap, WrsAt h10 (⟨b9, 0, none⟩ : Addr) 14 ∧ h11 = setsH h10 (⟨b9, 0, none⟩ : Addr) 0 (S_api_Wrapped.cs v8) ∧ (∃ v12 : Slc, cellH h11 ((⟨b9, 0, none⟩ : Addr).add 13) = some (Slc.v v12) ∧ (slices_Clone_byte_byte v12 (fun (r13 : Slc) h14 => ∃ h15 : Heap, WrH h14 ((⟨b9, 0, none⟩ : Addr).add 13) ∧ h15 = setH h14 ((⟨b9, 0, none⟩ : Addr).add 13) (Slc.v r13) ∧ (∃ v16 : Slc, cellH h15 (t1_1.add 1) = some (Slc.v v16) ∧ (∃ v17 : S_api_Wrapped, CellsAt h15 (⟨b9, 0, none⟩ : Addr) (S_api_Wrapped.cs v17) ∧ (∃ (b18 : Nat) (h19 : Heap), b18 = h15.size ∧ h19 = h15.push (.cells ((S_api_Wrapped.cs v17)).toArray 132) ∧ (App 132 14 40 [.int .u32 0, .int .u8 0, .int .u8 0, .int .u8 0, .int .u8 0, .int .u8 0, .int .u8 0, .int .u8 0, .int .u8 0, .int .u8 0, .int .u8 0, .int .u8 0, .int .u8 0, .slice none 0 0] h19 v16 1 ((S_api_Wrapped.cs v17)) (fun s20 h21 => ∃ h22 : Heap, WrH h21 (t1_1.add 1) ∧ h22 = setH h21 (t1_1.add 1) (Slc.v s20) ∧ (nx1 (IntKind.i64.wrap (t11_1 + 1)) h22))))))) h11)))))) else (∃ v23 : S_api_Tenant, CellsAt h_1 t1_1 (S_api_Tenant.cs v23) ∧ (∃ h24 : Heap, WrsAt h_1 t2_1 4 ∧ h24 = setsH h_1 t2_1 0 (S_api_Tenant.cs v23) ∧ (∃ v25 : S_api_Tenant, CellsAt h24 t2_1 (S_api_Tenant.cs v25) ∧ k v25 h24)))
def reg_copied_l1 (t1_1 : Addr) (t2_1 : Addr) (t9_1 : Slc) (t10_1 : Int) (i11 : Int) (k : (S_api_Tenant) → Heap → Prop) (h : Heap) : Prop :=
  ∃ (I : Int → Heap → Prop) (μ : Int → Heap → Nat), I i11 h ∧ ∀ (t11_1 : Int) (h : Heap), I t11_1 h → reg_copied_l1b t1_1 t2_1 t9_1 t10_1 t11_1 k (fun s h' => I s h' ∧ μ s h' < μ t11_1 h) h
def reg_copied (p0 : S_api_Tenant) (k : (S_api_Tenant) → Heap → Prop) (h : Heap) : Prop :=
  ∃ (b1 : Nat) (h2 : Heap), b1 = h.size ∧ h2 = h.push (.cells (S_api_Tenant.cs p0).toArray 130) ∧ (∃ (b3 : Nat) (h4 : Heap), b3 = h2.size ∧ h4 = h2.push (.cells (S_api_Tenant.cs (⟨ByteArray.empty, (⟨none, 0, 0⟩ : Slc), 0, false⟩ : S_api_Tenant)).toArray 130) ∧ (∃ v5 : Slc, cellH h4 ((⟨b1, 0, none⟩ : Addr).add 1) = some (Slc.v v5) ∧ (∃ h6 : Heap, WrH h4 ((⟨b1, 0, none⟩ : Addr).add 1) ∧ h6 = setH h4 ((⟨b1, 0, none⟩ : Addr).add 1) (Slc.v (⟨none, 0, 0⟩ : Slc)) ∧ (reg_copied_l1 (⟨b1, 0, none⟩ : Addr) (⟨b3, 0, none⟩ : Addr) v5 (v5.len : Int) 0 k h6))))

/-- (*quaestor reg.Reg).asks -/
def reg_Reg_asks_j3 (t7_3 : Bool) (k : (Int) → Heap → Prop) (h_3 : Heap) : Prop :=
  if t7_3 then (k 13 h_3) else (k 0 h_3)
def reg_Reg_asks_g2 (t3_2 : Addr) (t5_2 : Addr) (t56_2 : Bool) (k : (Int) → Heap → Prop) (h_2 : Heap) : Prop :=
  if t56_2 then (k 17 h_2) else (∃ v18 : Int, cellH h_2 t3_2 = some (.int .i64 v18) ∧ (if (v18 == 1) then (∃ v19 : Int, cellH h_2 (t3_2.add 2) = some (.int .u32 v19) ∧ (reg_Reg_asks_j3 (v19 != 1) k h_2)) else (if (v18 == 2) then (∃ v20 : S_api_Tenant, CellsAt h_2 t5_2 (S_api_Tenant.cs v20) ∧ (reg_epoch v20 (fun (r21 : Int) h22 => if (r21 == 4294967295) then (reg_Reg_asks_j3 true k h22) else (∃ v23 : Int, cellH h22 (t3_2.add 2) = some (.int .u32 v23) ∧ (∃ v24 : S_api_Tenant, CellsAt h22 t5_2 (S_api_Tenant.cs v24) ∧ (reg_epoch v24 (fun (r25 : Int) h26 => cellH h26 (t3_2.add 2) = some (.int .u32 v23) ∧ (reg_Reg_asks_j3 (v23 != (IntKind.u32.wrap (r25 + 1))) k h26)) h22)))) h_2)) else (if (v18 == 3) then (∃ v28 : Int, cellH h_2 (t3_2.add 2) = some (.int .u32 v28) ∧ (∃ v29 : S_api_Tenant, CellsAt h_2 t5_2 (S_api_Tenant.cs v29) ∧ (reg_epoch v29 (fun (r30 : Int) h31 => cellH h31 (t3_2.add 2) = some (.int .u32 v28) ∧ (reg_Reg_asks_j3 (decide (v28 > r30)) k h31)) h_2))) else (if (v18 == 4) then (∃ v33 : Int, cellH h_2 (t3_2.add 16) = some (.int .i64 v33) ∧ (∃ v34 : Int, cellH h_2 (t5_2.add 2) = some (.int .i64 v34) ∧ (reg_Reg_asks_j3 (decide (v33 < v34)) k h_2))) else (reg_Reg_asks_j3 false k h_2))))))
def reg_Reg_asks_g1 (t3_1 : Addr) (t5_1 : Addr) (t6_1 : Bool) (t40_1 : Bool) (k : (Int) → Heap → Prop) (h_1 : Heap) : Prop :=
  if t40_1 then (k 8 h_1) else (∃ v16 : Int, cellH h_1 t3_1 = some (.int .i64 v16) ∧ (if ((v16 != 1) && (!t6_1)) then (k 16 h_1) else (∃ v17 : Bool, cellH h_1 (t5_1.add 3) = some (.bool v17) ∧ (if v17 then (∃ v35 : Int, cellH h_1 t3_1 = some (.int .i64 v35) ∧ (reg_Reg_asks_g2 t3_1 t5_1 (v35 != 5) k h_1)) else (reg_Reg_asks_g2 t3_1 t5_1 false k h_1)))))
def reg_Reg_asks (p0 : Option Addr) (p1 : S_api_Command) (k : (Int) → Heap → Prop) (h : Heap) : Prop :=
  ∃ (b1 : Nat) (h2 : Heap), b1 = h.size ∧ h2 = h.push (.cells (S_api_Command.cs p1).toArray 32) ∧ (∃ a3 : Addr, p0 = some a3 ∧ (∃ v4 : Option Nat, cellH h2 a3 = some (.map v4) ∧ (∃ v5 : ByteArray, cellH h2 ((⟨b1, 0, none⟩ : Addr).add 1) = some (.string v5) ∧ (∃ l6 : List (ByteArray × S_api_Tenant), MapAt (K := ByteArray) (V := S_api_Tenant) .string Value.string (fun v : S_api_Tenant => Value.agg (S_api_Tenant.cs v).toArray) h2 v4 l6 ∧ (∃ (b7 : Nat) (h8 : Heap), b7 = h2.size ∧ h8 = h2.push (.cells (S_api_Tenant.cs (⟨ByteArray.empty, (⟨none, 0, 0⟩ : Slc), 0, false⟩ : S_api_Tenant)).toArray 130) ∧ (MapAt (K := ByteArray) (V := S_api_Tenant) .string Value.string (fun v : S_api_Tenant => Value.agg (S_api_Tenant.cs v).toArray) h8 v4 l6 ∧ cellH h8 ((⟨b1, 0, none⟩ : Addr).add 1) = some (.string v5) ∧ cellH h8 a3 = some (.map v4) ∧ (∃ h12 : Heap, WrsAt h8 (⟨b7, 0, none⟩ : Addr) 4 ∧ h12 = setsH h8 (⟨b7, 0, none⟩ : Addr) 0 (S_api_Tenant.cs ((mget l6 v5).getD (⟨ByteArray.empty, (⟨none, 0, 0⟩ : Slc), 0, false⟩ : S_api_Tenant))) ∧ (∃ v13 : Int, cellH h12 (⟨b1, 0, none⟩ : Addr) = some (.int .i64 v13) ∧ (if (v13 == 0) then (k 0 h12) else (∃ v14 : Int, cellH h12 (⟨b1, 0, none⟩ : Addr) = some (.int .i64 v14) ∧ (if ((v14 == 1) && (mget l6 v5).isSome) then (k 7 h12) else (∃ v15 : Int, cellH h12 (⟨b1, 0, none⟩ : Addr) = some (.int .i64 v15) ∧ (if (v15 == 1) then (∃ v36 : Option Nat, cellH h12 a3 = some (.map v36) ∧ (∃ l37 : List (ByteArray × S_api_Tenant), MapAt (K := ByteArray) (V := S_api_Tenant) .string Value.string (fun v : S_api_Tenant => Value.agg (S_api_Tenant.cs v).toArray) h12 v36 l37 ∧ (reg_Reg_asks_g1 (⟨b1, 0, none⟩ : Addr) (⟨b7, 0, none⟩ : Addr) ((mget l6 v5).isSome) (decide ((l37.length : Int) ≥ 8)) k h12))) else (reg_Reg_asks_g1 (⟨b1, 0, none⟩ : Addr) (⟨b7, 0, none⟩ : Addr) ((mget l6 v5).isSome) false k h12))))))))))))))

/-- (*quaestor reg.Reg).Apply 1 -/
def reg_Reg_Apply_1 (p0 : S_api_Wrapped) (p1 : Addr) (k : (Bool) → Heap → Prop) (h : Heap) : Prop :=
  ∃ (b1 : Nat) (h2 : Heap), b1 = h.size ∧ h2 = h.push (.cells (S_api_Wrapped.cs p0).toArray 132) ∧ (∃ v3 : Int, cellH h2 (⟨b1, 0, none⟩ : Addr) = some (.int .u32 v3) ∧ (∃ v4 : Int, cellH h2 (p1.add 2) = some (.int .u32 v4) ∧ (k (decide (v3 < v4)) h2)))

/-- slices.IndexFunc   quaestor api.Wrapped quaestor api.Wrapped  -/
def slices_IndexFunc_api_Wrapped_api_Wrapped__reg_Reg_Apply_1_l1b (t0_1 : Slc) (t1c0_1 : Addr) (t7_1 : Int) (t8_1 : Int) (k : (Int) → Heap → Prop) (nx1 : (Int) → Heap → Prop) (h_1 : Heap) : Prop :=
  if (decide (t8_1 < t7_1)) then (∃ a1 : Addr, t0_1.a = some a1 ∧ (0 : Int) ≤ t8_1 ∧ t8_1 < (t0_1.len : Int) ∧ (∃ v2 : S_api_Wrapped, CellsAt h_1 (a1.add (t8_1.toNat * 14)) (S_api_Wrapped.cs v2) ∧ (reg_Reg_Apply_1 v2 t1c0_1 (fun (r3 : Bool) h4 => if r3 then (k t8_1 h4) else (nx1 (IntKind.i64.wrap (t8_1 + 1)) h4)) h_1))) else (∃ x5 : Int, x5 = (-1) ∧ (k x5 h_1))
def slices_IndexFunc_api_Wrapped_api_Wrapped__reg_Reg_Apply_1_l1 (t0_1 : Slc) (t1c0_1 : Addr) (t7_1 : Int) (i8 : Int) (k : (Int) → Heap → Prop) (h : Heap) : Prop :=
  ∃ (I : Int → Heap → Prop) (μ : Int → Heap → Nat), I i8 h ∧ ∀ (t8_1 : Int) (h : Heap), I t8_1 h → slices_IndexFunc_api_Wrapped_api_Wrapped__reg_Reg_Apply_1_l1b t0_1 t1c0_1 t7_1 t8_1 k (fun s h' => I s h' ∧ μ s h' < μ t8_1 h) h
def slices_IndexFunc_api_Wrapped_api_Wrapped__reg_Reg_Apply_1 (p0 : Slc) (p1c0 : Addr) (k : (Int) → Heap → Prop) (h : Heap) : Prop :=
  slices_IndexFunc_api_Wrapped_api_Wrapped__reg_Reg_Apply_1_l1 p0 p1c0 (p0.len : Int) 0 k h

/-- slices.DeleteFunc   quaestor api.Wrapped quaestor api.Wrapped  -/
def slices_DeleteFunc_api_Wrapped_api_Wrapped__reg_Reg_Apply_1_j2 (t0_2 : Slc) (t1c0_2 : Addr) (t6_2 : Int) (t5_2 : Int) (k : (Slc) → Heap → Prop) (nx1 : (Int × Int) → Heap → Prop) (h_2 : Heap) : Prop :=
  ∃ x4 : Int, x4 = (IntKind.i64.wrap (t6_2 + 1)) ∧ (nx1 (t5_2, x4) h_2)
def slices_DeleteFunc_api_Wrapped_api_Wrapped__reg_Reg_Apply_1_l1b (t0_1 : Slc) (t1c0_1 : Addr) (t5_1 : Int) (t6_1 : Int) (k : (Slc) → Heap → Prop) (nx1 : (Int × Int) → Heap → Prop) (h_1 : Heap) : Prop :=
  if (decide (t6_1 < (t0_1.len : Int))) then (∃ a5 : Addr, t0_1.a = some a5 ∧ (0 : Int) ≤ t6_1 ∧ t6_1 < (t0_1.len : Int) ∧ (∃ v6 : S_api_Wrapped, CellsAt h_1 (a5.add (t6_1.toNat * 14)) (S_api_Wrapped.cs v6) ∧ (∃ (b7 : Nat) (h8 : Heap), b7 = h_1.size ∧ h8 = h_1.push (.cells (S_api_Wrapped.cs (⟨0, ([] : List Int), (⟨none, 0, 0⟩ : Slc)⟩ : S_api_Wrapped)).toArray 132) ∧ (∃ h9 : Heap, WrsAt h8 (⟨b7, 0, none⟩ : Addr) 14 ∧ h9 = setsH h8 (⟨b7, 0, none⟩ : Addr) 0 (S_api_Wrapped.cs v6) ∧ (∃ v10 : S_api_Wrapped, CellsAt h9 (⟨b7, 0, none⟩ : Addr) (S_api_Wrapped.cs v10) ∧ (reg_Reg_Apply_1 v10 t1c0_1 (fun (r11 : Bool) h12 => if (!r11) then (∃ v13 : S_api_Wrapped, CellsAt h12 (⟨b7, 0, none⟩ : Addr) (S_api_Wrapped.cs v13) ∧ (∃ a14 : Addr, t0_1.a = some a14 ∧ (0 : Int) ≤ t5_1 ∧ t5_1 < (t0_1.len : Int) ∧ (∃ h15 : Heap, WrsAt h12 (a14.add (t5_1.toNat * 14)) 14 ∧ h15 = setsH h12 (a14.add (t5_1.toNat * 14)) 0 (S_api_Wrapped.cs v13) ∧ (∃ x16 : Int, x16 = (IntKind.i64.wrap (t5_1 + 1)) ∧ (slices_DeleteFunc_api_Wrapped_api_Wrapped__reg_Reg_Apply_1_j2 t0_1 t1c0_1 t6_1 x16 k nx1 h15))))) else (slices_DeleteFunc_api_Wrapped_api_Wrapped__reg_Reg_Apply_1_j2 t0_1 t1c0_1 t6_1 t5_1 k nx1 h12)) h9)))))) else (∃ s17 : Slc, (0 : Int) ≤ t5_1 ∧ (t5_1 : Int) ≤ (t0_1.len : Int) ∧ ((t0_1.len : Int) : Int) ≤ (t0_1.cap : Int) ∧ (t0_1.cap : Int) ≤ (t0_1.cap : Int) ∧ s17 = subS t0_1 14 t5_1.toNat (t0_1.len : Int).toNat (t0_1.cap : Int).toNat ∧ ((∀ a, s17.a = some a → WrsAt h_1 a (s17.len * 14)) ∧ ∃ h18 : Heap, h18 = clrS h_1 s17 [.int .u32 0, .int .u8 0, .int .u8 0, .int .u8 0, .int .u8 0, .int .u8 0, .int .u8 0, .int .u8 0, .int .u8 0, .int .u8 0, .int .u8 0, .int .u8 0, .int .u8 0, .slice none 0 0] ∧ (∃ s19 : Slc, (0 : Int) ≤ 0 ∧ (0 : Int) ≤ t5_1 ∧ (t5_1 : Int) ≤ (t0_1.cap : Int) ∧ (t0_1.cap : Int) ≤ (t0_1.cap : Int) ∧ s19 = subS t0_1 14 (0 : Int).toNat t5_1.toNat (t0_1.cap : Int).toNat ∧ (k s19 h18))))
def slices_DeleteFunc_api_Wrapped_api_Wrapped__reg_Reg_Apply_1_l1 (t0_1 : Slc) (t1c0_1 : Addr) (i5 : Int) (i6 : Int) (k : (Slc) → Heap → Prop) (h : Heap) : Prop :=
  ∃ (I : (Int × Int) → Heap → Prop) (μ : (Int × Int) → Heap → Nat), I (i5, i6) h ∧ ∀ (t5_1 : Int) (t6_1 : Int) (h : Heap), I (t5_1, t6_1) h → slices_DeleteFunc_api_Wrapped_api_Wrapped__reg_Reg_Apply_1_l1b t0_1 t1c0_1 t5_1 t6_1 k (fun s h' => I s h' ∧ μ s h' < μ (t5_1, t6_1) h) h
def slices_DeleteFunc_api_Wrapped_api_Wrapped__reg_Reg_Apply_1 (p0 : Slc) (p1c0 : Addr) (k : (Slc) → Heap → Prop) (h : Heap) : Prop :=
  slices_IndexFunc_api_Wrapped_api_Wrapped__reg_Reg_Apply_1 p0 p1c0 (fun (r1 : Int) h2 => if (r1 == (-1)) then (k p0 h2) else (∃ x3 : Int, x3 = (IntKind.i64.wrap (r1 + 1)) ∧ (slices_DeleteFunc_api_Wrapped_api_Wrapped__reg_Reg_Apply_1_l1 p0 p1c0 r1 x3 k h2))) h

/-- (*quaestor reg.Reg).Apply -/
def reg_Reg_Apply_j4 (t0_4 : Option Addr) (t3_4 : Addr) (t6_4 : Addr) (k : (Int) → Heap → Prop) (h_4 : Heap) : Prop :=
  ∃ a6 : Addr, t0_4 = some a6 ∧ (∃ v7 : Option Nat, cellH h_4 a6 = some (.map v7) ∧ (∃ v8 : ByteArray, cellH h_4 (t3_4.add 1) = some (.string v8) ∧ (∃ v9 : S_api_Tenant, CellsAt h_4 t6_4 (S_api_Tenant.cs v9) ∧ (∃ (r10 : Nat) (l11 : List (ByteArray × S_api_Tenant)) (h12 : Heap), v7 = some r10 ∧ MapAt (K := ByteArray) (V := S_api_Tenant) .string Value.string (fun v : S_api_Tenant => Value.agg (S_api_Tenant.cs v).toArray) h_4 (some r10) l11 ∧ h12 = setM h_4 r10 (Value.string v8) (.agg (S_api_Tenant.cs v9).toArray) ∧ (k 0 h12)))))
def reg_Reg_Apply_j3 (t0_3 : Option Addr) (t3_3 : Addr) (t6_3 : Addr) (t7_3 : Addr) (k : (Int) → Heap → Prop) (h_3 : Heap) : Prop :=
  ∃ v13 : Int, cellH h_3 t3_3 = some (.int .i64 v13) ∧ (if (v13 == 0) then (k 0 h_3) else (if (v13 == 1) then (∃ v14 : ByteArray, cellH h_3 (t3_3.add 1) = some (.string v14) ∧ (∃ v15 : S_api_Wrapped, CellsAt h_3 t7_3 (S_api_Wrapped.cs v15) ∧ (∃ (b16 : Nat) (h17 : Heap), b16 = h_3.size ∧ h17 = h_3.push (.cells ((S_api_Wrapped.cs v15)).toArray 132) ∧ (∃ h18 : Heap, WrsAt h17 t6_3 4 ∧ h18 = setsH h17 t6_3 0 (S_api_Tenant.cs (⟨v14, (⟨some ⟨b16, 0, none⟩, 1, 1⟩ : Slc), (-9223372036854775808), false⟩ : S_api_Tenant)) ∧ (reg_Reg_Apply_j4 t0_3 t3_3 t6_3 k h18))))) else (if (v13 == 2) then (∃ v19 : Slc, cellH h_3 (t6_3.add 1) = some (Slc.v v19) ∧ (∃ v20 : S_api_Wrapped, CellsAt h_3 t7_3 (S_api_Wrapped.cs v20) ∧ (∃ (b21 : Nat) (h22 : Heap), b21 = h_3.size ∧ h22 = h_3.push (.cells ((S_api_Wrapped.cs v20)).toArray 132) ∧ (App 132 14 40 [.int .u32 0, .int .u8 0, .int .u8 0, .int .u8 0, .int .u8 0, .int .u8 0, .int .u8 0, .int .u8 0, .int .u8 0, .int .u8 0, .int .u8 0, .int .u8 0, .int .u8 0, .slice none 0 0] h22 v19 1 ((S_api_Wrapped.cs v20)) (fun s23 h24 => ∃ h25 : Heap, WrH h24 (t6_3.add 1) ∧ h25 = setH h24 (t6_3.add 1) (Slc.v s23) ∧ (reg_Reg_Apply_j4 t0_3 t3_3 t6_3 k h25)))))) else (if (v13 == 3) then (∃ v26 : Slc, cellH h_3 (t6_3.add 1) = some (Slc.v v26) ∧ (slices_DeleteFunc_api_Wrapped_api_Wrapped__reg_Reg_Apply_1 v26 t3_3 (fun (r27 : Slc) h28 => ∃ h29 : Heap, WrH h28 (t6_3.add 1) ∧ h29 = setH h28 (t6_3.add 1) (Slc.v r27) ∧ (reg_Reg_Apply_j4 t0_3 t3_3 t6_3 k h29)) h_3)) else (if (v13 == 4) then (∃ v30 : Int, cellH h_3 (t3_3.add 16) = some (.int .i64 v30) ∧ (∃ h31 : Heap, WrH h_3 (t6_3.add 2) ∧ h31 = setH h_3 (t6_3.add 2) (.int .i64 v30) ∧ (reg_Reg_Apply_j4 t0_3 t3_3 t6_3 k h31))) else (if (v13 == 5) then (∃ h32 : Heap, WrH h_3 (t6_3.add 1) ∧ h32 = setH h_3 (t6_3.add 1) (Slc.v (⟨none, 0, 0⟩ : Slc)) ∧ (∃ h33 : Heap, WrH h32 (t6_3.add 3) ∧ h33 = setH h32 (t6_3.add 3) (.bool true) ∧ (reg_Reg_Apply_j4 t0_3 t3_3 t6_3 k h33))) else (reg_Reg_Apply_j4 t0_3 t3_3 t6_3 k h_3)))))))
def reg_Reg_Apply_j2 (t0_2 : Option Addr) (t3_2 : Addr) (t6_2 : Addr) (k : (Int) → Heap → Prop) (h_2 : Heap) : Prop :=
  ∃ v34 : Int, cellH h_2 (t3_2.add 2) = some (.int .u32 v34) ∧ (∃ v35 : List Int, CellsAt h_2 (t3_2.add 3) (arr 12 .u8 v35) ∧ (∃ v36 : Slc, cellH h_2 (t3_2.add 15) = some (Slc.v v36) ∧ ((slices_Clone_byte_byte v36 (fun (r37 : Slc) h38 => CellsAt h38 (t3_2.add 3) (arr 12 .u8 v35) ∧ cellH h38 (t3_2.add 2) = some (.int .u32 v34) ∧ (∃ (b41 : Nat) (h42 : Heap), b41 = h38.size ∧ h42 = h38.push (.cells (S_api_Wrapped.cs (⟨0, ([] : List Int), (⟨none, 0, 0⟩ : Slc)⟩ : S_api_Wrapped)).toArray 132) ∧ (CellsAt h42 (t3_2.add 3) (arr 12 .u8 v35) ∧ cellH h42 (t3_2.add 2) = some (.int .u32 v34) ∧ (∃ h45 : Heap, WrsAt h42 (⟨b41, 0, none⟩ : Addr) 14 ∧ h45 = setsH h42 (⟨b41, 0, none⟩ : Addr) 0 (S_api_Wrapped.cs (⟨v34, v35, r37⟩ : S_api_Wrapped)) ∧ (reg_Reg_Apply_j3 t0_2 t3_2 t6_2 (⟨b41, 0, none⟩ : Addr) k h45))))) h_2) ∧ (∃ (b46 : Nat) (h47 : Heap), b46 = h_2.size ∧ h47 = h_2.push (.cells (S_api_Wrapped.cs (⟨0, ([] : List Int), (⟨none, 0, 0⟩ : Slc)⟩ : S_api_Wrapped)).toArray 132) ∧ (cellH h47 (t3_2.add 15) = some (Slc.v v36) ∧ CellsAt h47 (t3_2.add 3) (arr 12 .u8 v35) ∧ cellH h47 (t3_2.add 2) = some (.int .u32 v34) ∧ (slices_Clone_byte_byte v36 (fun (r51 : Slc) h52 => CellsAt h52 (t3_2.add 3) (arr 12 .u8 v35) ∧ cellH h52 (t3_2.add 2) = some (.int .u32 v34) ∧ (∃ h55 : Heap, WrsAt h52 (⟨b46, 0, none⟩ : Addr) 14 ∧ h55 = setsH h52 (⟨b46, 0, none⟩ : Addr) 0 (S_api_Wrapped.cs (⟨v34, v35, r51⟩ : S_api_Wrapped)) ∧ (reg_Reg_Apply_j3 t0_2 t3_2 t6_2 (⟨b46, 0, none⟩ : Addr) k h55))) h47))))))
def reg_Reg_Apply_g1 (t0_1 : Option Addr) (t3_1 : Addr) (t14_1 : Bool) (k : (Int) → Heap → Prop) (h_1 : Heap) : Prop :=
  if t14_1 then (k 1 h_1) else (∃ v3 : S_api_Command, CellsAt h_1 t3_1 (S_api_Command.cs v3) ∧ (reg_Reg_asks t0_1 v3 (fun (r4 : Int) h5 => if (r4 != 0) then (k r4 h5) else (∃ a56 : Addr, t0_1 = some a56 ∧ (∃ v57 : Option Nat, cellH h5 a56 = some (.map v57) ∧ (∃ v58 : ByteArray, cellH h5 (t3_1.add 1) = some (.string v58) ∧ (∃ l59 : List (ByteArray × S_api_Tenant), MapAt (K := ByteArray) (V := S_api_Tenant) .string Value.string (fun v : S_api_Tenant => Value.agg (S_api_Tenant.cs v).toArray) h5 v57 l59 ∧ ((reg_copied ((mget l59 v58).getD (⟨ByteArray.empty, (⟨none, 0, 0⟩ : Slc), 0, false⟩ : S_api_Tenant)) (fun (r60 : S_api_Tenant) h61 => ∃ (b62 : Nat) (h63 : Heap), b62 = h61.size ∧ h63 = h61.push (.cells (S_api_Tenant.cs (⟨ByteArray.empty, (⟨none, 0, 0⟩ : Slc), 0, false⟩ : S_api_Tenant)).toArray 130) ∧ (∃ h64 : Heap, WrsAt h63 (⟨b62, 0, none⟩ : Addr) 4 ∧ h64 = setsH h63 (⟨b62, 0, none⟩ : Addr) 0 (S_api_Tenant.cs r60) ∧ (reg_Reg_Apply_j2 t0_1 t3_1 (⟨b62, 0, none⟩ : Addr) k h64))) h5) ∧ (∃ (b65 : Nat) (h66 : Heap), b65 = h5.size ∧ h66 = h5.push (.cells (S_api_Tenant.cs (⟨ByteArray.empty, (⟨none, 0, 0⟩ : Slc), 0, false⟩ : S_api_Tenant)).toArray 130) ∧ (MapAt (K := ByteArray) (V := S_api_Tenant) .string Value.string (fun v : S_api_Tenant => Value.agg (S_api_Tenant.cs v).toArray) h66 v57 l59 ∧ cellH h66 (t3_1.add 1) = some (.string v58) ∧ cellH h66 a56 = some (.map v57) ∧ (reg_copied ((mget l59 v58).getD (⟨ByteArray.empty, (⟨none, 0, 0⟩ : Slc), 0, false⟩ : S_api_Tenant)) (fun (r70 : S_api_Tenant) h71 => ∃ h72 : Heap, WrsAt h71 (⟨b65, 0, none⟩ : Addr) 4 ∧ h72 = setsH h71 (⟨b65, 0, none⟩ : Addr) 0 (S_api_Tenant.cs r70) ∧ (reg_Reg_Apply_j2 t0_1 t3_1 (⟨b65, 0, none⟩ : Addr) k h72)) h66))))))))) h_1))
def reg_Reg_Apply (p0 : Option Addr) (p1 : S_api_Command) (k : (Int) → Heap → Prop) (h : Heap) : Prop :=
  ∃ (b1 : Nat) (h2 : Heap), b1 = h.size ∧ h2 = h.push (.cells (S_api_Command.cs p1).toArray 32) ∧ (if (p0.isNone) then (reg_Reg_Apply_g1 p0 (⟨b1, 0, none⟩ : Addr) true k h2) else (∃ v73 : S_api_Command, CellsAt h2 (⟨b1, 0, none⟩ : Addr) (S_api_Command.cs v73) ∧ (reg_may v73 (fun (r74 : Bool) h75 => reg_Reg_Apply_g1 p0 (⟨b1, 0, none⟩ : Addr) (!r74) k h75) h2)))

/-- quaestor reg.New -/
def reg_New (k : (Option Addr) → Heap → Prop) (h : Heap) : Prop :=
  ∃ (b1 : Nat) (h2 : Heap), b1 = h.size ∧ h2 = h.push (.map #[] 0) ∧ (∃ (b3 : Nat) (h4 : Heap), b3 = h2.size ∧ h4 = h2.push (.cells (S_reg_Reg.cs (⟨(some b1)⟩ : S_reg_Reg)).toArray 212) ∧ (k (some (⟨b3, 0, none⟩ : Addr)) h4))

/-- (*quaestor reg.Reg).Tenant -/
def reg_Reg_Tenant (p0 : Option Addr) (p1 : ByteArray) (k : (S_api_Tenant × Int) → Heap → Prop) (h : Heap) : Prop :=
  ∃ (b1 : Nat) (h2 : Heap), b1 = h.size ∧ h2 = h.push (.cells (S_api_Tenant.cs (⟨ByteArray.empty, (⟨none, 0, 0⟩ : Slc), 0, false⟩ : S_api_Tenant)).toArray 130) ∧ (if (p0.isNone) then (∃ h3 : Heap, WrsAt h2 (⟨b1, 0, none⟩ : Addr) 4 ∧ h3 = setsH h2 (⟨b1, 0, none⟩ : Addr) 0 (S_api_Tenant.cs (⟨ByteArray.empty, (⟨none, 0, 0⟩ : Slc), 0, false⟩ : S_api_Tenant)) ∧ (∃ v4 : S_api_Tenant, CellsAt h3 (⟨b1, 0, none⟩ : Addr) (S_api_Tenant.cs v4) ∧ k (v4, 16) h3)) else (∃ a5 : Addr, p0 = some a5 ∧ (∃ v6 : Option Nat, cellH h2 a5 = some (.map v6) ∧ (∃ l7 : List (ByteArray × S_api_Tenant), MapAt (K := ByteArray) (V := S_api_Tenant) .string Value.string (fun v : S_api_Tenant => Value.agg (S_api_Tenant.cs v).toArray) h2 v6 l7 ∧ (∃ (b8 : Nat) (h9 : Heap), b8 = h2.size ∧ h9 = h2.push (.cells (S_api_Tenant.cs (⟨ByteArray.empty, (⟨none, 0, 0⟩ : Slc), 0, false⟩ : S_api_Tenant)).toArray 130) ∧ (∃ h10 : Heap, WrsAt h9 (⟨b8, 0, none⟩ : Addr) 4 ∧ h10 = setsH h9 (⟨b8, 0, none⟩ : Addr) 0 (S_api_Tenant.cs ((mget l7 p1).getD (⟨ByteArray.empty, (⟨none, 0, 0⟩ : Slc), 0, false⟩ : S_api_Tenant))) ∧ (if (!(mget l7 p1).isSome) then (∃ h11 : Heap, WrsAt h10 (⟨b1, 0, none⟩ : Addr) 4 ∧ h11 = setsH h10 (⟨b1, 0, none⟩ : Addr) 0 (S_api_Tenant.cs (⟨ByteArray.empty, (⟨none, 0, 0⟩ : Slc), 0, false⟩ : S_api_Tenant)) ∧ (∃ v12 : S_api_Tenant, CellsAt h11 (⟨b1, 0, none⟩ : Addr) (S_api_Tenant.cs v12) ∧ k (v12, 16) h11)) else (∃ v13 : S_api_Tenant, CellsAt h10 (⟨b8, 0, none⟩ : Addr) (S_api_Tenant.cs v13) ∧ (reg_copied v13 (fun (r14 : S_api_Tenant) h15 => ∃ h16 : Heap, WrsAt h15 (⟨b1, 0, none⟩ : Addr) 4 ∧ h16 = setsH h15 (⟨b1, 0, none⟩ : Addr) 0 (S_api_Tenant.cs r14) ∧ (∃ v17 : S_api_Tenant, CellsAt h16 (⟨b1, 0, none⟩ : Addr) (S_api_Tenant.cs v17) ∧ k (v17, 0) h16)) h10)))))))))

/-- (*quaestor reg.Reg).Epoch -/
def reg_Reg_Epoch (p0 : Option Addr) (p1 : ByteArray) (k : (Int) → Heap → Prop) (h : Heap) : Prop :=
  if (p0.isNone) then (k 0 h) else (∃ a1 : Addr, p0 = some a1 ∧ (∃ v2 : Option Nat, cellH h a1 = some (.map v2) ∧ (∃ l3 : List (ByteArray × S_api_Tenant), MapAt (K := ByteArray) (V := S_api_Tenant) .string Value.string (fun v : S_api_Tenant => Value.agg (S_api_Tenant.cs v).toArray) h v2 l3 ∧ (reg_epoch ((mget l3 p1).getD (⟨ByteArray.empty, (⟨none, 0, 0⟩ : Slc), 0, false⟩ : S_api_Tenant)) (fun (r4 : Int) h5 => k r4 h5) h))))

/-- quaestor quaestorlaw25.awake -/
def law25_awake_g3 (t58_3 : Bool) (k : (Bool) → Heap → Prop) (h_3 : Heap) : Prop :=
  k t58_3 h_3
def law25_awake_g2 (t1_2 : Option Addr) (t53_2 : Bool) (k : (Bool) → Heap → Prop) (h_2 : Heap) : Prop :=
  if t53_2 then (reg_Reg_Epoch t1_2 (⟨#[116]⟩ : ByteArray) (fun (r16 : Int) h17 => law25_awake_g3 (r16 == 2) k h17) h_2) else (law25_awake_g3 false k h_2)
def law25_awake_g1 (t1_1 : Option Addr) (t6_1 : Addr) (t45_1 : Bool) (k : (Bool) → Heap → Prop) (h_1 : Heap) : Prop :=
  if t45_1 then (∃ v18 : Slc, cellH h_1 (t6_1.add 1) = some (Slc.v v18) ∧ (∃ a19 : Addr, v18.a = some a19 ∧ (0 : Int) ≤ 0 ∧ 0 < (v18.len : Int) ∧ (∃ v20 : Int, cellH h_1 (a19.add ((0 : Int).toNat * 14)) = some (.int .u32 v20) ∧ (law25_awake_g2 t1_1 (v20 == 2) k h_1)))) else (law25_awake_g2 t1_1 false k h_1)
def law25_awake (k : (Bool) → Heap → Prop) (h : Heap) : Prop :=
  reg_New  (fun (r1 : Option Addr) h2 => ∃ (b3 : Nat) (h4 : Heap), (0 : Int) ≤ 48 ∧ (48 : Int) ≤ 48 ∧ (48 : Int) * 1 ≤ 281474976710656 ∧ (48 : Int) ≤ 9223372036854775807 ∧ b3 = h2.size ∧ h4 = h2.push (.cells (zrow [.int .u8 0] (48 : Int).toNat).toArray 5) ∧ (reg_Reg_Apply r1 (⟨1, (⟨#[116]⟩ : ByteArray), 1, ([] : List Int), (⟨some ⟨b3, 0, none⟩, (48 : Int).toNat, (48 : Int).toNat⟩ : Slc), 0⟩ : S_api_Command) (fun (r5 : Int) h6 => reg_Reg_Apply r1 (⟨2, (⟨#[116]⟩ : ByteArray), 2, ([] : List Int), (⟨some ⟨b3, 0, none⟩, (48 : Int).toNat, (48 : Int).toNat⟩ : Slc), 0⟩ : S_api_Command) (fun (r7 : Int) h8 => reg_Reg_Apply r1 (⟨3, (⟨#[116]⟩ : ByteArray), 2, ([] : List Int), (⟨none, 0, 0⟩ : Slc), 0⟩ : S_api_Command) (fun (r9 : Int) h10 => reg_Reg_Tenant r1 (⟨#[116]⟩ : ByteArray) (fun (r11 : S_api_Tenant × Int) h12 => ∃ (b13 : Nat) (h14 : Heap), b13 = h12.size ∧ h14 = h12.push (.cells (S_api_Tenant.cs (⟨ByteArray.empty, (⟨none, 0, 0⟩ : Slc), 0, false⟩ : S_api_Tenant)).toArray 130) ∧ (∃ h15 : Heap, WrsAt h14 (⟨b13, 0, none⟩ : Addr) 4 ∧ h15 = setsH h14 (⟨b13, 0, none⟩ : Addr) 0 (S_api_Tenant.cs r11.1) ∧ (if ((((r5 == 0) && (r7 == 0)) && (r9 == 0)) && (r11.2 == 0)) then (∃ v21 : Slc, cellH h15 ((⟨b13, 0, none⟩ : Addr).add 1) = some (Slc.v v21) ∧ (law25_awake_g1 r1 (⟨b13, 0, none⟩ : Addr) ((v21.len : Int) == 1) k h15)) else (law25_awake_g1 r1 (⟨b13, 0, none⟩ : Addr) false k h15)))) h10) h8) h6) h4)) h

theorem ref01_Same_ok : CallOk Go.Proofs.Try.prog 28 := ⟨_, Go.Proofs.Try.func28, by kernel_rfl, by kernel_rfl⟩
theorem ref01_Same_ref (p0 : Slc) (p1 : Slc) (k : (Bool) → Heap → Prop) (h : Heap) (H : ref01_Same p0 p1 k h) : CallsH Go.Proofs.Try.prog 28 #[Slc.v p0, Slc.v p1] h (fun v h' => ∃ r : Bool, v = .bool r ∧ k r h') := by
  refine f_enter (N := 26) Go.Proofs.Try.func28 rfl rfl rfl (fun w0 => ?_)
  unfold ref01_Same at H
  refine c_weak [(0, Slc.v p0), (1, Slc.v p1)] ⟨rfl, rfl, trivial⟩ ?_
  refine c_seq ?_
  refine c_region ?_
  refine w_p tok rfl rfl rfl ?_
  refine w_end ?_
  refine x_seq ?_
  refine c_seq ?_
  refine c_seq ?_
  refine c_region ?_
  refine w_p tok rfl rfl rfl ?_
  refine w_p tok rfl rfl rfl ?_
  refine w_p tok rfl rfl rfl ?_
  refine w_p tok rfl rfl rfl ?_
  refine w_p tok rfl rfl rfl ?_
  refine w_end ?_
  refine x_seq ?_
  refine c_if H rfl (fun H => ?_) (fun H => ?_)
  ·
    refine c_seq ?_
    refine c_region ?_
    refine w_p tok rfl rfl rfl ?_
    refine w_end ?_
    refine x_seq ?_
    refine c_weak [(4, .bool false)] ⟨rfl, trivial⟩ ?_
    refine c_ret ?_
    refine x_tr ?_
    exact x_ret _ rfl _ rfl ⟨false, rfl, H⟩
  ·
    refine c_skip ?_
    refine x_seq ?_
    refine c_seq ?_
    refine c_seq ?_
    refine c_region ?_
    refine w_p tok rfl rfl rfl ?_
    refine w_end ?_
    refine x_seq ?_
    refine c_block ?_
    obtain ⟨I1, μ1, H0, HI⟩ := H
    refine c_loop (σ := Int) (fun (s : Int) => [(5, .int .i64 s), (0, Slc.v p0), (1, Slc.v p1)]) I1 μ1 0 H0 ⟨rfl, rfl, rfl, trivial⟩ ?_
    rintro t5_1 h_1 H
    replace H := HI t5_1 h_1 H
    unfold ref01_Same_l1b at H
    refine c_weak [(5, .int .i64 t5_1), (0, Slc.v p0), (1, Slc.v p1)] ⟨rfl, rfl, rfl, trivial⟩ ?_
    refine c_seq ?_
    refine c_seq ?_
    refine c_region ?_
    refine w_p tok rfl rfl rfl ?_
    refine w_p tok rfl rfl rfl ?_
    refine w_p tok rfl rfl rfl ?_
    refine w_p tok rfl rfl rfl ?_
    refine w_end ?_
    refine x_seq ?_
    refine c_if H rfl (fun H => ?_) (fun H => ?_)
    ·
      refine c_skip ?_
      refine x_seq ?_
      refine c_seq ?_
      refine c_block ?_
      refine c_seq ?_
      refine c_draw (by kernel_rfl) (by kernel_rfl) ?_
      refine q_p tok rfl rfl rfl ?_
      refine q_p tok rfl rfl rfl ?_
      obtain ⟨a1, ha1, la1, ua1, H⟩ := H
      refine q_y (y_ixa' tok rfl rfl ha1 rfl rfl rfl la1 ua1) rfl rfl ?_
      obtain ⟨v2, hv2, H⟩ := H
      refine q_y (y_ld tok rfl rfl rfl rfl hv2) rfl rfl ?_
      refine q_p tok rfl rfl rfl ?_
      refine q_p tok rfl rfl rfl ?_
      obtain ⟨a3, ha3, la3, ua3, H⟩ := H
      refine q_y (y_ixa' tok rfl rfl ha3 rfl rfl rfl la3 ua3) rfl rfl ?_
      obtain ⟨v4, hv4, H⟩ := H
      refine q_y (y_ld tok rfl rfl rfl rfl hv4) rfl rfl ?_
      refine q_p tok rfl rfl rfl ?_
      refine q_end ?_
      refine x_seq ?_
      refine c_weak [(5, .int .i64 t5_1), (0, Slc.v p0), (1, Slc.v p1), (25, .bool (v2 != v4))] ⟨rfl, rfl, rfl, rfl, trivial⟩ ?_
      refine c_if H rfl (fun H => ?_) (fun H => ?_)
      ·
        refine c_seq ?_
        refine c_region ?_
        refine w_p tok rfl rfl rfl ?_
        refine w_end ?_
        refine x_seq ?_
        refine c_ret ?_
        refine x_br ?_
        refine x_tr ?_
        refine x_tr ?_
        refine x_br ?_
        refine x_tr ?_
        exact x_ret _ rfl _ rfl ⟨false, rfl, H⟩
      ·
        refine c_skip ?_
        refine x_blk ?_
        refine x_seq ?_
        refine c_region ?_
        refine w_p tok rfl rfl rfl ?_
        refine w_p tok rfl rfl rfl ?_
        obtain ⟨x5, ex5, H⟩ := H
        refine w_pe tok rfl (congrArg (fun z => (.int .i64 z : Value)) ex5) rfl rfl ?_
        refine w_end ?_
        exact x_join x5 H ⟨rfl, rfl, rfl, trivial⟩
    ·
      refine c_exit ?_
      refine x_te ?_
      refine x_te ?_
      refine x_bh ?_
      refine x_seq ?_
      refine c_weak [] trivial ?_
      refine c_seq ?_
      refine c_region ?_
      refine w_p tok rfl rfl rfl ?_
      refine w_end ?_
      refine x_seq ?_
      refine c_ret ?_
      exact x_ret _ rfl _ rfl ⟨true, rfl, H⟩

theorem ref25_Great_ok : CallOk Go.Proofs.Try.prog 24 := ⟨_, Go.Proofs.Try.func24, by kernel_rfl, by kernel_rfl⟩
theorem ref25_Great_ref (p0 : Slc) (p1 : Int) (k : (Bool) → Heap → Prop) (h : Heap) (H : ref25_Great p0 p1 k h) : CallsH Go.Proofs.Try.prog 24 #[Slc.v p0, .int .i64 p1] h (fun v h' => ∃ r : Bool, v = .bool r ∧ k r h') := by
  refine f_enter (N := 37) Go.Proofs.Try.func24 rfl rfl rfl (fun w0 => ?_)
  unfold ref25_Great at H
  refine c_weak [(0, Slc.v p0), (1, .int .i64 p1)] ⟨rfl, rfl, trivial⟩ ?_
  refine c_seq ?_
  refine c_region ?_
  refine w_p tok rfl rfl rfl ?_
  refine w_end ?_
  refine x_seq ?_
  refine c_seq ?_
  refine c_seq ?_
  refine c_region ?_
  refine w_p tok rfl rfl rfl ?_
  refine w_end ?_
  refine x_seq ?_
  refine c_block ?_
  obtain ⟨I1, μ1, H0, HI⟩ := H
  refine c_loop (σ := Int) (fun (s : Int) => [(5, .int .i64 s), (0, Slc.v p0), (1, .int .i64 p1)]) I1 μ1 0 H0 ⟨rfl, rfl, rfl, trivial⟩ ?_
  rintro t5_1 h_1 H
  replace H := HI t5_1 h_1 H
  unfold ref25_Great_l1b at H
  refine c_weak [(5, .int .i64 t5_1), (0, Slc.v p0), (1, .int .i64 p1)] ⟨rfl, rfl, rfl, trivial⟩ ?_
  refine c_seq ?_
  refine c_seq ?_
  refine c_region ?_
  refine w_p tok rfl rfl rfl ?_
  refine w_p tok rfl rfl rfl ?_
  refine w_p tok rfl rfl rfl ?_
  refine w_p tok rfl rfl rfl ?_
  refine w_p tok rfl rfl rfl ?_
  refine w_cutU 4 [(14, .bool ((decide (t5_1 < (p0.len : Int))) && (decide (t5_1 < p1)))), (0, Slc.v p0), (1, .int .i64 p1), (5, .int .i64 t5_1)] ?_ ?_
  ·
    refine w_end ?_
    refine x_seq ?_
    refine c_if H rfl (fun H => ?_) (fun H => ?_)
    ·
      refine c_skip ?_
      refine x_seq ?_
      refine c_seq ?_
      refine c_block ?_
      refine c_seq ?_
      refine c_region ?_
      refine w_p tok rfl rfl rfl ?_
      refine w_p tok rfl rfl rfl ?_
      obtain ⟨a1, ha1, la1, ua1, H⟩ := H
      refine w_y (y_ixa' tok rfl rfl ha1 rfl rfl rfl la1 ua1) rfl rfl ?_
      refine w_p tok rfl rfl rfl ?_
      obtain ⟨v2, hv2, H⟩ := H
      refine w_y (y_ld tok rfl rfl rfl rfl hv2) rfl rfl ?_
      refine w_p tok rfl rfl rfl ?_
      refine w_p tok rfl rfl rfl ?_
      refine w_p tok rfl rfl rfl ?_
      refine w_cut 8 (α := Bool) (fun (s : Bool) => [(32, .bool s), (0, Slc.v p0), (1, .int .i64 p1), (5, .int .i64 t5_1)]) (fun (s : Bool) h => ref25_Great_g2 p0 p1 t5_1 s k (fun s h' => I1 s h' ∧ μ1 s h' < μ1 t5_1 h_1) h) ?_ ?_
      ·
        rintro t32_2 h_2 H
        replace H : ref25_Great_g2 p0 p1 t5_1 t32_2 k (fun s h' => I1 s h' ∧ μ1 s h' < μ1 t5_1 h_1) h_2 := H
        unfold ref25_Great_g2 at H
        refine w_weak [(32, .bool t32_2), (0, Slc.v p0), (1, .int .i64 p1), (5, .int .i64 t5_1)] ⟨rfl, rfl, rfl, rfl, trivial⟩ ?_
        refine w_end ?_
        refine x_seq ?_
        refine c_if H rfl (fun H => ?_) (fun H => ?_)
        ·
          refine c_seq ?_
          refine c_region ?_
          refine w_p tok rfl rfl rfl ?_
          refine w_end ?_
          refine x_seq ?_
          refine c_ret ?_
          refine x_br ?_
          refine x_tr ?_
          refine x_tr ?_
          refine x_br ?_
          refine x_tr ?_
          exact x_ret _ rfl _ rfl ⟨true, rfl, H⟩
        ·
          refine c_skip ?_
          refine x_blk ?_
          refine x_seq ?_
          refine c_region ?_
          refine w_p tok rfl rfl rfl ?_
          refine w_p tok rfl rfl rfl ?_
          obtain ⟨x3, ex3, H⟩ := H
          refine w_pe tok rfl (congrArg (fun z => (.int .i64 z : Value)) ex3) rfl rfl ?_
          refine w_end ?_
          exact x_join x3 H ⟨rfl, rfl, rfl, trivial⟩
      ·
        refine w_gif (d := 24) H rfl (fun H => ?_) (fun H => ?_)
        ·
          refine w_skip rfl rfl ?_
          refine w_skip rfl rfl ?_
          refine w_skip rfl rfl ?_
          refine w_skip rfl rfl ?_
          refine w_skip rfl rfl ?_
          refine w_skip rfl rfl ?_
          refine w_skip rfl rfl ?_
          refine w_p tok rfl rfl rfl ?_
          exact w_jn true H ⟨rfl, rfl, rfl, rfl, trivial⟩
        ·
          refine w_p tok rfl rfl rfl ?_
          refine w_p tok rfl rfl rfl ?_
          obtain ⟨a4, ha4, la4, ua4, H⟩ := H
          refine w_y (y_ixa' tok rfl rfl ha4 rfl rfl rfl la4 ua4) rfl rfl ?_
          refine w_p tok rfl rfl rfl ?_
          obtain ⟨v5, hv5, H⟩ := H
          refine w_y (y_ld tok rfl rfl rfl rfl hv5) rfl rfl ?_
          refine w_p tok rfl rfl rfl ?_
          refine w_p tok rfl rfl rfl ?_
          refine w_p tok rfl rfl rfl ?_
          exact w_jn (decide ((v5.len : Int) > 200)) H ⟨rfl, rfl, rfl, rfl, trivial⟩
    ·
      refine c_exit ?_
      refine x_te ?_
      refine x_te ?_
      refine x_bh ?_
      refine x_seq ?_
      refine c_seq ?_
      refine c_region ?_
      refine w_p tok rfl rfl rfl ?_
      refine w_p tok rfl rfl rfl ?_
      refine w_p tok rfl rfl rfl ?_
      refine w_p tok rfl rfl rfl ?_
      refine w_p tok rfl rfl rfl ?_
      refine w_end ?_
      refine x_seq ?_
      refine c_weak [(4, .bool (decide ((p0.len : Int) > p1)))] ⟨rfl, trivial⟩ ?_
      refine c_ret ?_
      exact x_ret _ rfl _ rfl ⟨(decide ((p0.len : Int) > p1)), rfl, H⟩
  ·
    refine w_gs (d := 10) rfl (fun hb => ?_) (fun hb => ?_)
    ·
      refine w_p tok rfl rfl rfl ?_
      refine w_p tok rfl rfl rfl ?_
      refine w_p tok rfl rfl rfl ?_
      refine w_p tok rfl rfl rfl ?_
      refine w_jn () rfl ⟨?_, rfl, rfl, rfl, trivial⟩
      exact congrArg (fun b => some (Value.bool b)) (and_t hb)
    ·
      refine w_skip rfl rfl ?_
      refine w_skip rfl rfl ?_
      refine w_skip rfl rfl ?_
      refine w_p tok rfl rfl rfl ?_
      refine w_jn () rfl ⟨?_, rfl, rfl, rfl, trivial⟩
      exact congrArg (fun b => some (Value.bool b)) (and_f hb)

theorem slices_Clone_byte_byte_ok : CallOk Go.Proofs.Try.prog 141 := ⟨_, Go.Proofs.Try.func141, by kernel_rfl, by kernel_rfl⟩
theorem slices_Clone_byte_byte_ref (p0 : Slc) (k : (Slc) → Heap → Prop) (h : Heap) (H : slices_Clone_byte_byte p0 k h) : CallsH Go.Proofs.Try.prog 141 #[Slc.v p0] h (fun v h' => ∃ r : Slc, v = Slc.v r ∧ k r h') := by
  refine f_enter (N := 8) Go.Proofs.Try.func141 rfl rfl rfl (fun w0 => ?_)
  unfold slices_Clone_byte_byte at H
  refine c_weak [(0, Slc.v p0)] ⟨rfl, trivial⟩ ?_
  refine c_seq ?_
  refine c_region ?_
  refine w_p tok rfl rfl rfl ?_
  refine w_end ?_
  refine x_seq ?_
  refine c_seq ?_
  refine c_seq ?_
  refine c_region ?_
  refine w_p tok rfl rfl rfl ?_
  refine w_p tok rfl rfl rfl ?_
  refine w_end ?_
  refine x_seq ?_
  refine c_if H rfl (fun H => ?_) (fun H => ?_)
  ·
    refine c_seq ?_
    refine c_region ?_
    refine w_p tok rfl rfl rfl ?_
    refine w_end ?_
    refine x_seq ?_
    refine c_ret ?_
    refine x_tr ?_
    exact x_ret _ rfl _ rfl ⟨(⟨none, 0, 0⟩ : Slc), rfl, H⟩
  ·
    refine c_skip ?_
    refine x_seq ?_
    refine c_seq ?_
    refine c_region ?_
    obtain ⟨b1, h2, eb1, eh2, H⟩ := H
    refine w_h (h_bs tok rfl rfl rfl rfl rfl rfl rfl eb1 eh2) rfl rfl ?_
    refine w_p tok rfl rfl rfl ?_
    obtain ⟨l5, hl5, H⟩ := H
    refine w_a (a_app (s := (⟨some ⟨b1, 0, none⟩, 0, 0⟩ : Slc)) (r := p0) tok rfl rfl rfl rfl rfl hl5 H) rfl rfl ?_
    rintro _ h4 ⟨s3, rfl, H⟩
    refine w_p tok rfl rfl rfl ?_
    refine w_end ?_
    refine x_seq ?_
    refine c_ret ?_
    exact x_ret _ rfl _ rfl ⟨s3, rfl, H⟩

theorem num_Put_ok : CallOk Go.Proofs.Try.prog 91 := ⟨_, Go.Proofs.Try.func91, by kernel_rfl, by kernel_rfl⟩
theorem num_Put_ref (p0 : Slc) (p1 : Int) (p2 : Int) (k : (Slc) → Heap → Prop) (h : Heap) (H : num_Put p0 p1 p2 k h) : CallsH Go.Proofs.Try.prog 91 #[Slc.v p0, .int .u64 p1, .int .i64 p2] h (fun v h' => ∃ r : Slc, v = Slc.v r ∧ k r h') := by
  refine f_enter (N := 25) Go.Proofs.Try.func91 rfl rfl rfl (fun w0 => ?_)
  unfold num_Put at H
  refine c_weak [(0, Slc.v p0), (1, .int .u64 p1), (2, .int .i64 p2)] ⟨rfl, rfl, rfl, trivial⟩ ?_
  refine c_seq ?_
  refine c_region ?_
  refine w_p tok rfl rfl rfl ?_
  refine w_end ?_
  refine x_seq ?_
  refine c_seq ?_
  refine c_region ?_
  refine w_p tok rfl rfl rfl ?_
  refine w_call slices_Clone_byte_byte_ok (slices_Clone_byte_byte_ref _ _ _ H) rfl rfl rfl rfl ?_
  rintro _ h2 ⟨r1, rfl, H⟩
  refine w_p tok rfl rfl rfl ?_
  refine w_end ?_
  refine x_seq ?_
  refine c_seq ?_
  refine c_seq ?_
  refine c_region ?_
  refine w_p tok rfl rfl rfl ?_
  refine w_p tok rfl rfl rfl ?_
  refine w_end ?_
  refine x_seq ?_
  refine c_if H rfl (fun H => ?_) (fun H => ?_)
  ·
    refine c_seq ?_
    refine c_region ?_
    refine w_p tok rfl rfl rfl ?_
    refine w_p tok rfl rfl rfl ?_
    refine w_end ?_
    refine x_seq ?_
    refine c_weak [(6, Slc.v r1)] ⟨rfl, trivial⟩ ?_
    refine c_ret ?_
    refine x_tr ?_
    exact x_ret _ rfl _ rfl ⟨r1, rfl, H⟩
  ·
    refine c_skip ?_
    refine x_seq ?_
    refine c_seq ?_
    refine c_seq ?_
    refine c_region ?_
    refine w_p tok rfl rfl rfl ?_
    refine w_p tok rfl rfl rfl ?_
    refine w_end ?_
    refine x_seq ?_
    refine c_weak [(1, .int .u64 p1), (7, Slc.v r1), (13, .int .i64 p2), (14, .int .i64 0)] ⟨rfl, rfl, rfl, rfl, trivial⟩ ?_
    refine c_block ?_
    obtain ⟨I1, μ1, H0, HI⟩ := H
    refine c_loop (σ := Int × Slc × Int) (fun (s : Int × Slc × Int) => [(1, .int .u64 s.1), (7, Slc.v s.2.1), (14, .int .i64 s.2.2), (13, .int .i64 p2)]) I1 μ1 (p1, r1, 0) H0 ⟨rfl, rfl, rfl, rfl, trivial⟩ ?_
    rintro ⟨t1_1, t7_1, t14_1⟩ h_1 H
    replace H := HI t1_1 t7_1 t14_1 h_1 H
    unfold num_Put_l1b at H
    refine c_weak [(1, .int .u64 t1_1), (7, Slc.v t7_1), (14, .int .i64 t14_1), (13, .int .i64 p2)] ⟨rfl, rfl, rfl, rfl, trivial⟩ ?_
    refine c_seq ?_
    refine c_region ?_
    refine w_p tok rfl rfl rfl ?_
    refine w_end ?_
    refine x_seq ?_
    refine c_seq ?_
    refine c_if H rfl (fun H => ?_) (fun H => ?_)
    ·
      refine c_skip ?_
      refine x_seq ?_
      refine c_seq ?_
      refine c_block ?_
      refine c_seq ?_
      refine c_region ?_
      refine w_p tok rfl rfl rfl ?_
      refine w_p tok rfl rfl rfl ?_
      refine w_p tok rfl rfl rfl ?_
      obtain ⟨b3, h4, eb3, eh4, H⟩ := H
      refine w_h (h_bs tok rfl rfl rfl rfl rfl rfl rfl eb3 eh4) rfl rfl ?_
      refine w_a (a_app (s := t7_1) (r := (⟨some ⟨b3, 0, none⟩, 1, 1⟩ : Slc)) tok rfl rfl rfl rfl rfl (slcAt_push eb3 eh4) H) rfl rfl ?_
      rintro _ h6 ⟨s5, rfl, H⟩
      refine w_p tok rfl rfl rfl ?_
      refine w_end ?_
      refine x_seq ?_
      refine c_region ?_
      refine w_p tok rfl rfl rfl ?_
      refine w_p tok rfl rfl rfl ?_
      obtain ⟨x7, ex7, H⟩ := H
      refine w_pe tok rfl (congrArg (fun z => (.int .u64 z : Value)) ex7) rfl rfl ?_
      refine w_end ?_
      refine x_blk ?_
      refine x_seq ?_
      refine c_weak [(1, .int .u64 x7), (7, Slc.v s5), (14, .int .i64 t14_1), (13, .int .i64 p2)] ⟨rfl, rfl, rfl, rfl, trivial⟩ ?_
      refine c_region ?_
      refine w_p tok rfl rfl rfl ?_
      refine w_p tok rfl rfl rfl ?_
      refine w_end ?_
      exact x_join (x7, s5, (IntKind.i64.wrap (t14_1 + 1))) H ⟨rfl, rfl, rfl, rfl, trivial⟩
    ·
      refine c_exit ?_
      refine x_te ?_
      refine x_te ?_
      refine x_bh ?_
      refine x_seq ?_
      refine c_seq ?_
      refine c_region ?_
      refine w_p tok rfl rfl rfl ?_
      refine w_p tok rfl rfl rfl ?_
      refine w_end ?_
      refine x_seq ?_
      refine c_ret ?_
      exact x_ret _ rfl _ rfl ⟨t7_1, rfl, H⟩

theorem num_PutShort_ok : CallOk Go.Proofs.Try.prog 149 := ⟨_, Go.Proofs.Try.func149, by kernel_rfl, by kernel_rfl⟩
theorem num_PutShort_ref (p0 : Slc) (p1 : Int) (k : (Slc) → Heap → Prop) (h : Heap) (H : num_PutShort p0 p1 k h) : CallsH Go.Proofs.Try.prog 149 #[Slc.v p0, .int .u64 p1] h (fun v h' => ∃ r : Slc, v = Slc.v r ∧ k r h') := by
  refine f_enter (N := 23) Go.Proofs.Try.func149 rfl rfl rfl (fun w0 => ?_)
  unfold num_PutShort at H
  refine c_weak [(0, Slc.v p0), (1, .int .u64 p1)] ⟨rfl, rfl, trivial⟩ ?_
  refine c_seq ?_
  refine c_region ?_
  refine w_p tok rfl rfl rfl ?_
  refine w_end ?_
  refine x_seq ?_
  refine c_seq ?_
  refine c_region ?_
  refine w_p tok rfl rfl rfl ?_
  refine w_call slices_Clone_byte_byte_ok (slices_Clone_byte_byte_ref _ _ _ H) rfl rfl rfl rfl ?_
  rintro _ h2 ⟨r1, rfl, H⟩
  refine w_p tok rfl rfl rfl ?_
  refine w_end ?_
  refine x_seq ?_
  refine c_seq ?_
  refine c_block ?_
  obtain ⟨I1, μ1, H0, HI⟩ := H
  refine c_loop (σ := Int × Slc) (fun (s : Int × Slc) => [(1, .int .u64 s.1), (5, Slc.v s.2)]) I1 μ1 (p1, r1) H0 ⟨rfl, rfl, trivial⟩ ?_
  rintro ⟨t1_1, t5_1⟩ h_1 H
  replace H := HI t1_1 t5_1 h_1 H
  unfold num_PutShort_l1b at H
  refine c_weak [(1, .int .u64 t1_1), (5, Slc.v t5_1)] ⟨rfl, rfl, trivial⟩ ?_
  refine c_seq ?_
  refine c_seq ?_
  refine c_region ?_
  refine w_p tok rfl rfl rfl ?_
  refine w_p tok rfl rfl rfl ?_
  refine w_end ?_
  refine x_seq ?_
  refine c_if H rfl (fun H => ?_) (fun H => ?_)
  ·
    refine c_skip ?_
    refine x_seq ?_
    refine c_seq ?_
    refine c_block ?_
    refine c_region ?_
    refine w_p tok rfl rfl rfl ?_
    refine w_p tok rfl rfl rfl ?_
    refine w_p tok rfl rfl rfl ?_
    refine w_p tok rfl rfl rfl ?_
    obtain ⟨b3, h4, eb3, eh4, H⟩ := H
    refine w_h (h_bs tok rfl rfl rfl rfl rfl rfl rfl eb3 eh4) rfl rfl ?_
    refine w_a (a_app (s := t5_1) (r := (⟨some ⟨b3, 0, none⟩, 1, 1⟩ : Slc)) tok rfl rfl rfl rfl rfl (slcAt_push eb3 eh4) H) rfl rfl ?_
    rintro _ h6 ⟨s5, rfl, H⟩
    refine w_p tok rfl rfl rfl ?_
    refine w_end ?_
    refine x_blk ?_
    refine x_seq ?_
    refine c_weak [(1, .int .u64 t1_1), (5, Slc.v s5)] ⟨rfl, rfl, trivial⟩ ?_
    refine c_region ?_
    refine w_p tok rfl rfl rfl ?_
    refine w_p tok rfl rfl rfl ?_
    obtain ⟨x7, ex7, H⟩ := H
    refine w_pe tok rfl (congrArg (fun z => (.int .u64 z : Value)) ex7) rfl rfl ?_
    refine w_end ?_
    exact x_join (x7, s5) H ⟨rfl, rfl, trivial⟩
  ·
    refine c_exit ?_
    refine x_te ?_
    refine x_te ?_
    refine x_bh ?_
    refine x_seq ?_
    refine c_seq ?_
    refine c_region ?_
    refine w_p tok rfl rfl rfl ?_
    refine w_p tok rfl rfl rfl ?_
    refine w_p tok rfl rfl rfl ?_
    obtain ⟨b8, h9, eb8, eh9, H⟩ := H
    refine w_h (h_bs tok rfl rfl rfl rfl rfl rfl rfl eb8 eh9) rfl rfl ?_
    refine w_a (a_app (s := t5_1) (r := (⟨some ⟨b8, 0, none⟩, 1, 1⟩ : Slc)) tok rfl rfl rfl rfl rfl (slcAt_push eb8 eh9) H) rfl rfl ?_
    rintro _ h11 ⟨s10, rfl, H⟩
    refine w_p tok rfl rfl rfl ?_
    refine w_end ?_
    refine x_seq ?_
    refine c_weak [(4, Slc.v s10)] ⟨rfl, trivial⟩ ?_
    refine c_ret ?_
    exact x_ret _ rfl _ rfl ⟨s10, rfl, H⟩

theorem reg_text_ok : CallOk Go.Proofs.Try.prog 92 := ⟨_, Go.Proofs.Try.func92, by kernel_rfl, by kernel_rfl⟩
theorem reg_text_ref (p0 : Slc) (p1 : ByteArray) (k : (Slc) → Heap → Prop) (h : Heap) (H : reg_text p0 p1 k h) : CallsH Go.Proofs.Try.prog 92 #[Slc.v p0, .string p1] h (fun v h' => ∃ r : Slc, v = Slc.v r ∧ k r h') := by
  refine f_enter (N := 12) Go.Proofs.Try.func92 rfl rfl rfl (fun w0 => ?_)
  unfold reg_text at H
  refine c_weak [(0, Slc.v p0), (1, .string p1)] ⟨rfl, rfl, trivial⟩ ?_
  refine c_seq ?_
  refine c_region ?_
  refine w_p tok rfl rfl rfl ?_
  refine w_end ?_
  refine x_seq ?_
  refine c_seq ?_
  refine c_region ?_
  refine w_p tok rfl rfl rfl ?_
  refine w_p tok rfl rfl rfl ?_
  refine w_p tok rfl rfl rfl ?_
  refine w_p tok rfl rfl rfl ?_
  refine w_call num_PutShort_ok (num_PutShort_ref _ _ _ _ H) rfl rfl rfl rfl ?_
  rintro _ h2 ⟨r1, rfl, H⟩
  refine w_p tok rfl rfl rfl ?_
  refine w_a (a_apps (s := r1) (str := p1) tok rfl rfl rfl rfl rfl rfl H) rfl rfl ?_
  rintro _ h4 ⟨s3, rfl, H⟩
  refine w_p tok rfl rfl rfl ?_
  refine w_end ?_
  refine x_seq ?_
  refine c_weak [(4, Slc.v s3)] ⟨rfl, trivial⟩ ?_
  refine c_ret ?_
  exact x_ret _ rfl _ rfl ⟨s3, rfl, H⟩

theorem num_Zig_ok : CallOk Go.Proofs.Try.prog 93 := ⟨_, Go.Proofs.Try.func93, by kernel_rfl, by kernel_rfl⟩
theorem num_Zig_ref (p0 : Int) (k : (Int) → Heap → Prop) (h : Heap) (H : num_Zig p0 k h) : CallsH Go.Proofs.Try.prog 93 #[.int .i64 p0] h (fun v h' => ∃ r : Int, v = .int .u64 r ∧ k r h') := by
  refine f_enter (N := 10) Go.Proofs.Try.func93 rfl rfl rfl (fun w0 => ?_)
  unfold num_Zig at H
  refine c_weak [(0, .int .i64 p0)] ⟨rfl, trivial⟩ ?_
  refine c_seq ?_
  refine c_region ?_
  refine w_p tok rfl rfl rfl ?_
  refine w_end ?_
  refine x_seq ?_
  refine c_seq ?_
  refine c_region ?_
  refine w_p tok rfl rfl rfl ?_
  refine w_p tok rfl rfl rfl ?_
  refine w_p tok rfl rfl rfl ?_
  refine w_p tok rfl rfl rfl ?_
  refine w_p tok rfl rfl rfl ?_
  refine w_p tok rfl rfl rfl ?_
  refine w_p tok rfl rfl rfl ?_
  obtain ⟨x1, ex1, H⟩ := H
  refine w_pe tok rfl (congrArg (fun z => (.int .u64 z : Value)) ex1) rfl rfl ?_
  refine w_end ?_
  refine x_seq ?_
  refine c_weak [(2, .int .u64 x1)] ⟨rfl, trivial⟩ ?_
  refine c_ret ?_
  exact x_ret _ rfl _ rfl ⟨x1, rfl, H⟩

theorem box_Name_ok : CallOk Go.Proofs.Try.prog 188 := ⟨_, Go.Proofs.Try.func188, by kernel_rfl, by kernel_rfl⟩
theorem box_Name_ref (p0 : ByteArray) (k : (Bool) → Heap → Prop) (h : Heap) (H : box_Name p0 k h) : CallsH Go.Proofs.Try.prog 188 #[.string p0] h (fun v h' => ∃ r : Bool, v = .bool r ∧ k r h') := by
  refine f_enter (N := 37) Go.Proofs.Try.func188 rfl rfl rfl (fun w0 => ?_)
  unfold box_Name at H
  refine c_weak [(0, .string p0)] ⟨rfl, trivial⟩ ?_
  refine c_seq ?_
  refine c_region ?_
  refine w_p tok rfl rfl rfl ?_
  refine w_end ?_
  refine x_seq ?_
  refine c_seq ?_
  refine c_seq ?_
  refine c_region ?_
  refine w_p tok rfl rfl rfl ?_
  refine w_p tok rfl rfl rfl ?_
  refine w_p tok rfl rfl rfl ?_
  refine w_end ?_
  refine x_seq ?_
  refine c_block ?_
  obtain ⟨I1, μ1, H0, HI⟩ := H
  refine c_loop (σ := Int) (fun (s : Int) => [(7, .int .i64 s), (0, .string p0), (6, .int .i64 (p0.size : Int))]) I1 μ1 0 H0 ⟨rfl, rfl, rfl, trivial⟩ ?_
  rintro t7_1 h_1 H
  replace H := HI t7_1 h_1 H
  unfold box_Name_l1b at H
  refine c_weak [(7, .int .i64 t7_1), (0, .string p0), (6, .int .i64 (p0.size : Int))] ⟨rfl, rfl, rfl, trivial⟩ ?_
  refine c_seq ?_
  refine c_region ?_
  refine w_p tok rfl rfl rfl ?_
  refine w_end ?_
  refine x_seq ?_
  refine c_seq ?_
  refine c_if H rfl (fun H => ?_) (fun H => ?_)
  ·
    refine c_skip ?_
    refine x_seq ?_
    refine c_seq ?_
    refine c_block ?_
    refine c_seq ?_
    refine c_region ?_
    refine w_p tok rfl rfl rfl ?_
    refine w_p tok rfl rfl rfl ?_
    refine w_end ?_
    refine x_seq ?_
    refine c_seq ?_
    refine c_region ?_
    refine w_p tok rfl rfl rfl ?_
    refine w_p tok rfl rfl rfl ?_
    obtain ⟨v1, lv1, hv1, H⟩ := H
    refine w_y (y_ixs' tok rfl rfl rfl rfl lv1 hv1) rfl rfl ?_
    refine w_p tok rfl rfl rfl ?_
    refine w_end ?_
    refine x_seq ?_
    refine c_block ?_
    refine c_seqJ (α := Bool) (fun (s : Bool) => [(13, .bool s), (0, .string p0), (6, .int .i64 (p0.size : Int)), (7, .int .i64 t7_1)]) (fun (s : Bool) h => box_Name_j2 p0 (p0.size : Int) t7_1 s k (fun s h' => I1 s h' ∧ μ1 s h' < μ1 t7_1 h_1) h) ?_ ?_
    ·
      rintro t13_2 h_2 H
      replace H : box_Name_j2 p0 (p0.size : Int) t7_1 t13_2 k (fun s h' => I1 s h' ∧ μ1 s h' < μ1 t7_1 h_1) h_2 := H
      unfold box_Name_j2 at H
      refine c_weak [(13, .bool t13_2), (0, .string p0), (6, .int .i64 (p0.size : Int)), (7, .int .i64 t7_1)] ⟨rfl, rfl, rfl, rfl, trivial⟩ ?_
      refine c_if H rfl (fun H => ?_) (fun H => ?_)
      ·
        refine c_skip ?_
        refine x_blk ?_
        refine x_blk ?_
        refine x_seq ?_
        refine c_region ?_
        refine w_p tok rfl rfl rfl ?_
        refine w_p tok rfl rfl rfl ?_
        refine w_end ?_
        exact x_join (IntKind.i64.wrap (t7_1 + 1)) H ⟨rfl, rfl, rfl, trivial⟩
      ·
        refine c_seq ?_
        refine c_region ?_
        refine w_p tok rfl rfl rfl ?_
        refine w_end ?_
        refine x_seq ?_
        refine c_ret ?_
        refine x_br ?_
        refine x_br ?_
        refine x_tr ?_
        refine x_tr ?_
        refine x_br ?_
        refine x_tr ?_
        exact x_ret _ rfl _ rfl ⟨false, rfl, H⟩
    ·
      refine c_seq ?_
      refine c_region ?_
      refine w_p tok rfl rfl rfl ?_
      refine w_p tok rfl rfl rfl ?_
      refine w_p tok rfl rfl rfl ?_
      refine w_cutU 3 [(19, .bool ((decide (v1 ≥ 97)) && (decide (v1 ≤ 122)))), (0, .string p0), (4, .int .u8 v1), (6, .int .i64 (p0.size : Int)), (7, .int .i64 t7_1)] ?_ ?_
      ·
        refine w_p tok rfl rfl rfl ?_
        refine w_end ?_
        refine x_seq ?_
        refine c_if H rfl (fun H => ?_) (fun H => ?_)
        ·
          refine c_skip ?_
          exact x_join ((decide (v1 ≥ 97)) && (decide (v1 ≤ 122))) H ⟨rfl, rfl, rfl, rfl, trivial⟩
        ·
          refine c_seq ?_
          refine c_region ?_
          refine w_p tok rfl rfl rfl ?_
          refine w_p tok rfl rfl rfl ?_
          refine w_p tok rfl rfl rfl ?_
          refine w_cutU 3 [(25, .bool ((decide (v1 ≥ 48)) && (decide (v1 ≤ 57)))), (0, .string p0), (4, .int .u8 v1), (6, .int .i64 (p0.size : Int)), (7, .int .i64 t7_1)] ?_ ?_
          ·
            refine w_p tok rfl rfl rfl ?_
            refine w_end ?_
            refine x_seq ?_
            refine c_if H rfl (fun H => ?_) (fun H => ?_)
            ·
              refine c_skip ?_
              exact x_join ((decide (v1 ≥ 48)) && (decide (v1 ≤ 57))) H ⟨rfl, rfl, rfl, rfl, trivial⟩
            ·
              refine c_region ?_
              refine w_p tok rfl rfl rfl ?_
              refine w_p tok rfl rfl rfl ?_
              refine w_p tok rfl rfl rfl ?_
              refine w_end ?_
              exact x_join (v1 == 45) H ⟨rfl, rfl, rfl, rfl, trivial⟩
          ·
            refine w_gs (d := 22) rfl (fun hb => ?_) (fun hb => ?_)
            ·
              refine w_p tok rfl rfl rfl ?_
              refine w_p tok rfl rfl rfl ?_
              refine w_p tok rfl rfl rfl ?_
              refine w_jn () rfl ⟨?_, rfl, rfl, rfl, rfl, trivial⟩
              exact congrArg (fun b => some (Value.bool b)) (and_t hb)
            ·
              refine w_skip rfl rfl ?_
              refine w_skip rfl rfl ?_
              refine w_p tok rfl rfl rfl ?_
              refine w_jn () rfl ⟨?_, rfl, rfl, rfl, rfl, trivial⟩
              exact congrArg (fun b => some (Value.bool b)) (and_f hb)
      ·
        refine w_gs (d := 16) rfl (fun hb => ?_) (fun hb => ?_)
        ·
          refine w_p tok rfl rfl rfl ?_
          refine w_p tok rfl rfl rfl ?_
          refine w_p tok rfl rfl rfl ?_
          refine w_jn () rfl ⟨?_, rfl, rfl, rfl, rfl, trivial⟩
          exact congrArg (fun b => some (Value.bool b)) (and_t hb)
        ·
          refine w_skip rfl rfl ?_
          refine w_skip rfl rfl ?_
          refine w_p tok rfl rfl rfl ?_
          refine w_jn () rfl ⟨?_, rfl, rfl, rfl, rfl, trivial⟩
          exact congrArg (fun b => some (Value.bool b)) (and_f hb)
  ·
    refine c_exit ?_
    refine x_te ?_
    refine x_te ?_
    refine x_bh ?_
    refine x_seq ?_
    refine c_seq ?_
    refine c_region ?_
    refine w_p tok rfl rfl rfl ?_
    refine w_p tok rfl rfl rfl ?_
    refine w_p tok rfl rfl rfl ?_
    refine w_p tok rfl rfl rfl ?_
    refine w_cutU 4 [(36, .bool ((decide ((p0.size : Int) > 0)) && (decide ((p0.size : Int) ≤ 24))))] ?_ ?_
    ·
      refine w_p tok rfl rfl rfl ?_
      refine w_end ?_
      refine x_seq ?_
      refine c_ret ?_
      exact x_ret _ rfl _ rfl ⟨((decide ((p0.size : Int) > 0)) && (decide ((p0.size : Int) ≤ 24))), rfl, H⟩
    ·
      refine w_gs (d := 32) rfl (fun hb => ?_) (fun hb => ?_)
      ·
        refine w_p tok rfl rfl rfl ?_
        refine w_p tok rfl rfl rfl ?_
        refine w_p tok rfl rfl rfl ?_
        refine w_p tok rfl rfl rfl ?_
        refine w_jn () rfl ⟨?_, trivial⟩
        exact congrArg (fun b => some (Value.bool b)) (and_t hb)
      ·
        refine w_skip rfl rfl ?_
        refine w_skip rfl rfl ?_
        refine w_skip rfl rfl ?_
        refine w_p tok rfl rfl rfl ?_
        refine w_jn () rfl ⟨?_, trivial⟩
        exact congrArg (fun b => some (Value.bool b)) (and_f hb)

theorem reg_may_ok : CallOk Go.Proofs.Try.prog 138 := ⟨_, Go.Proofs.Try.func138, by kernel_rfl, by kernel_rfl⟩
theorem reg_may_ref (p0 : S_api_Command) (k : (Bool) → Heap → Prop) (h : Heap) (H : reg_may p0 k h) : CallsH Go.Proofs.Try.prog 138 #[.agg (S_api_Command.cs p0).toArray] h (fun v h' => ∃ r : Bool, v = .bool r ∧ k r h') := by
  refine f_enter (N := 26) Go.Proofs.Try.func138 rfl rfl rfl (fun w0 => ?_)
  unfold reg_may at H
  refine c_weak [(0, .agg (S_api_Command.cs p0).toArray)] ⟨rfl, trivial⟩ ?_
  refine c_seq ?_
  refine c_region ?_
  obtain ⟨b1, h2, eb1, eh2, H⟩ := H
  refine w_h (h_box rfl rfl eb1 eh2) rfl rfl ?_
  refine w_p tok rfl rfl rfl ?_
  refine w_end ?_
  refine x_seq ?_
  refine c_seq ?_
  refine c_seq ?_
  refine c_region ?_
  refine w_p tok rfl rfl rfl ?_
  obtain ⟨v3, hv3, H⟩ := H
  refine w_y (y_ld tok rfl rfl rfl rfl hv3) rfl rfl ?_
  refine w_end ?_
  refine x_seq ?_
  refine c_block ?_
  refine c_seq ?_
  refine c_region ?_
  refine w_p tok rfl rfl rfl ?_
  refine w_p tok rfl rfl rfl ?_
  refine w_end ?_
  refine x_seq ?_
  refine c_if H rfl (fun H => ?_) (fun H => ?_)
  ·
    refine c_seq ?_
    refine c_region ?_
    refine w_p tok rfl rfl rfl ?_
    refine w_end ?_
    refine x_seq ?_
    refine c_ret ?_
    refine x_br ?_
    refine x_tr ?_
    exact x_ret _ rfl _ rfl ⟨true, rfl, H⟩
  ·
    refine c_seqJ (α := Bool) (fun (s : Bool) => [(7, .bool s), (1, .pointer (some (⟨b1, 0, none⟩ : Addr))), (4, .int .i64 v3)]) (fun (s : Bool) h => reg_may_j1 (⟨b1, 0, none⟩ : Addr) v3 s k h) ?_ ?_
    ·
      rintro t7_1 h_1 H
      replace H : reg_may_j1 (⟨b1, 0, none⟩ : Addr) v3 t7_1 k h_1 := H
      unfold reg_may_j1 at H
      refine c_weak [(7, .bool t7_1), (1, .pointer (some (⟨b1, 0, none⟩ : Addr))), (4, .int .i64 v3)] ⟨rfl, rfl, rfl, trivial⟩ ?_
      refine c_if H rfl (fun H => ?_) (fun H => ?_)
      ·
        refine c_seq ?_
        refine c_region ?_
        refine w_p tok rfl rfl rfl ?_
        obtain ⟨v4, hv4, H⟩ := H
        refine w_y (y_ld tok rfl rfl rfl rfl hv4) rfl rfl ?_
        refine w_call box_Name_ok (box_Name_ref _ _ _ H) rfl rfl rfl rfl ?_
        rintro _ h6 ⟨r5, rfl, H⟩
        refine w_p tok rfl rfl rfl ?_
        refine w_cut 5 (α := Bool) (fun (s : Bool) => [(18, .bool s)]) (fun (s : Bool) h => reg_may_g2 s k h) ?_ ?_
        ·
          rintro t18_2 h_2 H
          replace H : reg_may_g2 t18_2 k h_2 := H
          unfold reg_may_g2 at H
          refine w_weak [(18, .bool t18_2)] ⟨rfl, trivial⟩ ?_
          refine w_p tok rfl rfl rfl ?_
          refine w_end ?_
          refine x_seq ?_
          refine c_ret ?_
          refine x_br ?_
          refine x_tr ?_
          exact x_ret _ rfl _ rfl ⟨t18_2, rfl, H⟩
        ·
          refine w_gif (d := 13) H rfl (fun H => ?_) (fun H => ?_)
          ·
            refine w_p tok rfl rfl rfl ?_
            obtain ⟨v7, hv7, H⟩ := H
            refine w_y (y_ld tok rfl rfl rfl rfl hv7) rfl rfl ?_
            refine w_p tok rfl rfl rfl ?_
            refine w_p tok rfl rfl rfl ?_
            refine w_p tok rfl rfl rfl ?_
            exact w_jn ((v7.len : Int) == 48) H ⟨rfl, trivial⟩
          ·
            refine w_skip rfl rfl ?_
            refine w_skip rfl rfl ?_
            refine w_skip rfl rfl ?_
            refine w_skip rfl rfl ?_
            refine w_p tok rfl rfl rfl ?_
            exact w_jn false H ⟨rfl, trivial⟩
      ·
        refine c_seqJ (α := Bool) (fun (s : Bool) => [(19, .bool s), (1, .pointer (some (⟨b1, 0, none⟩ : Addr)))]) (fun (s : Bool) h => reg_may_j3 (⟨b1, 0, none⟩ : Addr) s k h) ?_ ?_
        ·
          rintro t19_3 h_3 H
          replace H : reg_may_j3 (⟨b1, 0, none⟩ : Addr) t19_3 k h_3 := H
          unfold reg_may_j3 at H
          refine c_weak [(19, .bool t19_3), (1, .pointer (some (⟨b1, 0, none⟩ : Addr)))] ⟨rfl, rfl, trivial⟩ ?_
          refine c_if H rfl (fun H => ?_) (fun H => ?_)
          ·
            refine c_seq ?_
            refine c_region ?_
            refine w_p tok rfl rfl rfl ?_
            obtain ⟨v8, hv8, H⟩ := H
            refine w_y (y_ld tok rfl rfl rfl rfl hv8) rfl rfl ?_
            refine w_call box_Name_ok (box_Name_ref _ _ _ H) rfl rfl rfl rfl ?_
            rintro _ h10 ⟨r9, rfl, H⟩
            refine w_p tok rfl rfl rfl ?_
            refine w_end ?_
            refine x_seq ?_
            refine c_ret ?_
            refine x_br ?_
            refine x_tr ?_
            exact x_ret _ rfl _ rfl ⟨r9, rfl, H⟩
          ·
            refine c_skip ?_
            refine x_blk ?_
            refine x_seq ?_
            refine c_seq ?_
            refine c_region ?_
            refine w_p tok rfl rfl rfl ?_
            refine w_end ?_
            refine x_seq ?_
            refine c_ret ?_
            exact x_ret _ rfl _ rfl ⟨false, rfl, H⟩
        ·
          refine c_seq ?_
          refine c_region ?_
          refine w_p tok rfl rfl rfl ?_
          refine w_p tok rfl rfl rfl ?_
          refine w_end ?_
          refine x_seq ?_
          refine c_if H rfl (fun H => ?_) (fun H => ?_)
          ·
            refine c_skip ?_
            exact x_join (v3 == 3) H ⟨rfl, rfl, trivial⟩
          ·
            refine c_seq ?_
            refine c_region ?_
            refine w_p tok rfl rfl rfl ?_
            refine w_p tok rfl rfl rfl ?_
            refine w_end ?_
            refine x_seq ?_
            refine c_if H rfl (fun H => ?_) (fun H => ?_)
            ·
              refine c_skip ?_
              exact x_join (v3 == 4) H ⟨rfl, rfl, trivial⟩
            ·
              refine c_region ?_
              refine w_p tok rfl rfl rfl ?_
              refine w_p tok rfl rfl rfl ?_
              refine w_end ?_
              exact x_join (v3 == 5) H ⟨rfl, rfl, trivial⟩
    ·
      refine c_seq ?_
      refine c_region ?_
      refine w_p tok rfl rfl rfl ?_
      refine w_p tok rfl rfl rfl ?_
      refine w_end ?_
      refine x_seq ?_
      refine c_if H rfl (fun H => ?_) (fun H => ?_)
      ·
        refine c_skip ?_
        exact x_join (v3 == 1) H ⟨rfl, rfl, rfl, trivial⟩
      ·
        refine c_region ?_
        refine w_p tok rfl rfl rfl ?_
        refine w_p tok rfl rfl rfl ?_
        refine w_end ?_
        exact x_join (v3 == 2) H ⟨rfl, rfl, rfl, trivial⟩

theorem reg_epoch_ok : CallOk Go.Proofs.Try.prog 148 := ⟨_, Go.Proofs.Try.func148, by kernel_rfl, by kernel_rfl⟩
theorem reg_epoch_ref (p0 : S_api_Tenant) (k : (Int) → Heap → Prop) (h : Heap) (H : reg_epoch p0 k h) : CallsH Go.Proofs.Try.prog 148 #[.agg (S_api_Tenant.cs p0).toArray] h (fun v h' => ∃ r : Int, v = .int .u32 r ∧ k r h') := by
  refine f_enter (N := 16) Go.Proofs.Try.func148 rfl rfl rfl (fun w0 => ?_)
  unfold reg_epoch at H
  refine c_weak [(0, .agg (S_api_Tenant.cs p0).toArray)] ⟨rfl, trivial⟩ ?_
  refine c_seq ?_
  refine c_region ?_
  obtain ⟨b1, h2, eb1, eh2, H⟩ := H
  refine w_h (h_box rfl rfl eb1 eh2) rfl rfl ?_
  refine w_p tok rfl rfl rfl ?_
  refine w_end ?_
  refine x_seq ?_
  refine c_seq ?_
  refine c_seq ?_
  refine c_region ?_
  refine w_p tok rfl rfl rfl ?_
  obtain ⟨v3, hv3, H⟩ := H
  refine w_y (y_ld tok rfl rfl rfl rfl hv3) rfl rfl ?_
  refine w_p tok rfl rfl rfl ?_
  refine w_p tok rfl rfl rfl ?_
  refine w_end ?_
  refine x_seq ?_
  refine c_if H rfl (fun H => ?_) (fun H => ?_)
  ·
    refine c_seq ?_
    refine c_region ?_
    refine w_p tok rfl rfl rfl ?_
    refine w_end ?_
    refine x_seq ?_
    refine c_ret ?_
    refine x_tr ?_
    exact x_ret _ rfl _ rfl ⟨0, rfl, H⟩
  ·
    refine c_skip ?_
    refine x_seq ?_
    refine c_seq ?_
    refine c_region ?_
    refine w_p tok rfl rfl rfl ?_
    obtain ⟨v4, hv4, H⟩ := H
    refine w_y (y_ld tok rfl rfl rfl rfl hv4) rfl rfl ?_
    refine w_p tok rfl rfl rfl ?_
    obtain ⟨v5, hv5, H⟩ := H
    refine w_y (y_ld tok rfl rfl rfl rfl hv5) rfl rfl ?_
    refine w_p tok rfl rfl rfl ?_
    refine w_p tok rfl rfl rfl ?_
    obtain ⟨a6, ha6, la6, ua6, H⟩ := H
    refine w_y (y_ixa' tok rfl rfl ha6 rfl rfl rfl la6 ua6) rfl rfl ?_
    refine w_p tok rfl rfl rfl ?_
    obtain ⟨v7, hv7, H⟩ := H
    refine w_y (y_ld tok rfl rfl rfl rfl hv7) rfl rfl ?_
    refine w_p tok rfl rfl rfl ?_
    refine w_end ?_
    refine x_seq ?_
    refine c_weak [(2, .int .u32 v7)] ⟨rfl, trivial⟩ ?_
    refine c_ret ?_
    exact x_ret _ rfl _ rfl ⟨v7, rfl, H⟩

theorem reg_copied_ok : CallOk Go.Proofs.Try.prog 140 := ⟨_, Go.Proofs.Try.func140, by kernel_rfl, by kernel_rfl⟩
theorem reg_copied_ref (p0 : S_api_Tenant) (k : (S_api_Tenant) → Heap → Prop) (h : Heap) (H : reg_copied p0 k h) : CallsH Go.Proofs.Try.prog 140 #[.agg (S_api_Tenant.cs p0).toArray] h (fun v h' => ∃ r : S_api_Tenant, v = .agg (S_api_Tenant.cs r).toArray ∧ k r h') := by
  refine f_enter (N := 27) Go.Proofs.Try.func140 rfl rfl rfl (fun w0 => ?_)
  unfold reg_copied at H
  refine c_weak [(0, .agg (S_api_Tenant.cs p0).toArray)] ⟨rfl, trivial⟩ ?_
  refine c_seq ?_
  refine c_region ?_
  obtain ⟨b1, h2, eb1, eh2, H⟩ := H
  refine w_h (h_box rfl rfl eb1 eh2) rfl rfl ?_
  obtain ⟨b3, h4, eb3, eh4, H⟩ := H
  refine w_h (h_alloc tok rfl rfl eb3 eh4) rfl rfl ?_
  refine w_end ?_
  refine x_seq ?_
  refine c_seq ?_
  refine c_region ?_
  refine w_p tok rfl rfl rfl ?_
  obtain ⟨v5, hv5, H⟩ := H
  refine w_y (y_ld tok rfl rfl rfl rfl hv5) rfl rfl ?_
  refine w_p tok rfl rfl rfl ?_
  refine w_end ?_
  refine x_seq ?_
  refine c_seq ?_
  refine c_region ?_
  refine w_p tok rfl rfl rfl ?_
  obtain ⟨h6, wh6, eh6, H⟩ := H
  refine w_h (h_st tok rfl rfl rfl rfl rfl rfl wh6 eh6) rfl rfl ?_
  refine w_end ?_
  refine x_seq ?_
  refine c_seq ?_
  refine c_seq ?_
  refine c_region ?_
  refine w_p tok rfl rfl rfl ?_
  refine w_p tok rfl rfl rfl ?_
  refine w_p tok rfl rfl rfl ?_
  refine w_end ?_
  refine x_seq ?_
  refine c_block ?_
  obtain ⟨I1, μ1, H0, HI⟩ := H
  refine c_loop (σ := Int) (fun (s : Int) => [(11, .int .i64 s), (1, .pointer (some (⟨b1, 0, none⟩ : Addr))), (2, .pointer (some (⟨b3, 0, none⟩ : Addr))), (9, Slc.v v5), (10, .int .i64 (v5.len : Int))]) I1 μ1 0 H0 ⟨rfl, rfl, rfl, rfl, rfl, trivial⟩ ?_
  rintro t11_1 h_1 H
  replace H := HI t11_1 h_1 H
  unfold reg_copied_l1b at H
  refine c_weak [(11, .int .i64 t11_1), (1, .pointer (some (⟨b1, 0, none⟩ : Addr))), (2, .pointer (some (⟨b3, 0, none⟩ : Addr))), (9, Slc.v v5), (10, .int .i64 (v5.len : Int))] ⟨rfl, rfl, rfl, rfl, rfl, trivial⟩ ?_
  refine c_seq ?_
  refine c_region ?_
  refine w_p tok rfl rfl rfl ?_
  refine w_end ?_
  refine x_seq ?_
  refine c_seq ?_
  refine c_if H rfl (fun H => ?_) (fun H => ?_)
  ·
    refine c_skip ?_
    refine x_seq ?_
    refine c_seq ?_
    refine c_block ?_
    refine c_seq ?_
    refine c_region ?_
    obtain ⟨a7, ha7, la7, ua7, H⟩ := H
    refine w_y (y_ixa' tok rfl rfl ha7 rfl rfl rfl la7 ua7) rfl rfl ?_
    obtain ⟨v8, hv8, H⟩ := H
    refine w_y (y_lda tok rfl rfl rfl rfl rfl hv8) rfl rfl ?_
    obtain ⟨b9, h10, eb9, eh10, H⟩ := H
    refine w_h (h_alloc tok rfl rfl eb9 eh10) rfl rfl ?_
    obtain ⟨h11, wh11, eh11, H⟩ := H
    refine w_h (h_sts tok rfl rfl rfl rfl rfl (oneC (by kernel_rfl)) wh11 eh11) rfl rfl ?_
    refine w_end ?_
    refine x_seq ?_
    refine c_seq ?_
    refine c_region ?_
    refine w_p tok rfl rfl rfl ?_
    obtain ⟨v12, hv12, H⟩ := H
    refine w_y (y_ld tok rfl rfl rfl rfl hv12) rfl rfl ?_
    refine w_call slices_Clone_byte_byte_ok (slices_Clone_byte_byte_ref _ _ _ H) rfl rfl rfl rfl ?_
    rintro _ h14 ⟨r13, rfl, H⟩
    refine w_p tok rfl rfl rfl ?_
    obtain ⟨h15, wh15, eh15, H⟩ := H
    refine w_h (h_st tok rfl rfl rfl rfl rfl rfl wh15 eh15) rfl rfl ?_
    refine w_end ?_
    refine x_seq ?_
    refine c_weak [(11, .int .i64 t11_1), (1, .pointer (some (⟨b1, 0, none⟩ : Addr))), (2, .pointer (some (⟨b3, 0, none⟩ : Addr))), (9, Slc.v v5), (10, .int .i64 (v5.len : Int)), (5, .pointer (some (⟨b9, 0, none⟩ : Addr)))] ⟨rfl, rfl, rfl, rfl, rfl, rfl, trivial⟩ ?_
    refine c_region ?_
    refine w_p tok rfl rfl rfl ?_
    obtain ⟨v16, hv16, H⟩ := H
    refine w_y (y_ld tok rfl rfl rfl rfl hv16) rfl rfl ?_
    obtain ⟨v17, hv17, H⟩ := H
    refine w_y (y_lda tok rfl rfl rfl rfl rfl hv17) rfl rfl ?_
    obtain ⟨b18, h19, eb18, eh19, H⟩ := H
    refine w_h (h_bs tok rfl rfl rfl rfl rfl rfl rfl eb18 eh19) rfl rfl ?_
    refine w_a (a_app (s := v16) (r := (⟨some ⟨b18, 0, none⟩, 1, 1⟩ : Slc)) tok rfl rfl rfl rfl rfl (slcAt_push eb18 eh19) H) rfl rfl ?_
    rintro _ h21 ⟨s20, rfl, H⟩
    refine w_p tok rfl rfl rfl ?_
    obtain ⟨h22, wh22, eh22, H⟩ := H
    refine w_h (h_st tok rfl rfl rfl rfl rfl rfl wh22 eh22) rfl rfl ?_
    refine w_end ?_
    refine x_blk ?_
    refine x_seq ?_
    refine c_weak [(11, .int .i64 t11_1), (1, .pointer (some (⟨b1, 0, none⟩ : Addr))), (2, .pointer (some (⟨b3, 0, none⟩ : Addr))), (9, Slc.v v5), (10, .int .i64 (v5.len : Int))] ⟨rfl, rfl, rfl, rfl, rfl, trivial⟩ ?_
    refine c_region ?_
    refine w_p tok rfl rfl rfl ?_
    refine w_p tok rfl rfl rfl ?_
    refine w_end ?_
    exact x_join (IntKind.i64.wrap (t11_1 + 1)) H ⟨rfl, rfl, rfl, rfl, rfl, trivial⟩
  ·
    refine c_exit ?_
    refine x_te ?_
    refine x_te ?_
    refine x_bh ?_
    refine x_seq ?_
    refine c_seq ?_
    refine c_region ?_
    obtain ⟨v23, hv23, H⟩ := H
    refine w_y (y_lda tok rfl rfl rfl rfl rfl hv23) rfl rfl ?_
    obtain ⟨h24, wh24, eh24, H⟩ := H
    refine w_h (h_sts tok rfl rfl rfl rfl rfl (oneC (by kernel_rfl)) wh24 eh24) rfl rfl ?_
    refine w_end ?_
    refine x_seq ?_
    refine c_ret ?_
    obtain ⟨v25, hv25, H⟩ := H
    exact x_retc tok _ rfl [.agg (S_api_Tenant.cs v25).toArray] ⟨⟨_, _, rfl, rfl, .inr ⟨rfl, _, rfl, rfl, hv25⟩⟩, trivial⟩ ⟨v25, rfl, H⟩

theorem reg_Reg_asks_ok : CallOk Go.Proofs.Try.prog 139 := ⟨_, Go.Proofs.Try.func139, by kernel_rfl, by kernel_rfl⟩
theorem reg_Reg_asks_ref (p0 : Option Addr) (p1 : S_api_Command) (k : (Int) → Heap → Prop) (h : Heap) (H : reg_Reg_asks p0 p1 k h) : CallsH Go.Proofs.Try.prog 139 #[.pointer p0, .agg (S_api_Command.cs p1).toArray] h (fun v h' => ∃ r : Int, v = .int .i64 r ∧ k r h') := by
  refine f_enter (N := 92) Go.Proofs.Try.func139 rfl rfl rfl (fun w0 => ?_)
  unfold reg_Reg_asks at H
  refine c_weak [(0, .pointer p0), (1, .agg (S_api_Command.cs p1).toArray)] ⟨rfl, rfl, trivial⟩ ?_
  refine c_seq ?_
  refine c_region ?_
  obtain ⟨b1, h2, eb1, eh2, H⟩ := H
  refine w_h (h_box rfl rfl eb1 eh2) rfl rfl ?_
  refine w_p tok rfl rfl rfl ?_
  refine w_end ?_
  refine x_seq ?_
  refine c_seq ?_
  refine c_sim [(0, .pointer p0), (3, .pointer (some (⟨b1, 0, none⟩ : Addr)))] (by kernel_rfl) (by kernel_rfl) ⟨rfl, rfl, trivial⟩ (fun wf => ?_)
  refine sim_p 0 (ei := [(0, .pointer p0)]) (d := (some 9)) wf (by kernel_rfl) ⟨rfl, trivial⟩ (by kernel_rfl) (by kernel_rfl) (fun _ => pf_p tok rfl rfl rfl rfl) (fun P_0 => ?_)
  obtain ⟨a3, ha3, H⟩ := H
  refine sim_p 1 (ei := [(9, .pointer p0)]) (d := (some 10)) wf (by kernel_rfl) ⟨rfl, trivial⟩ (by kernel_rfl) (by kernel_rfl) (fun _ => pf_y rfl rfl rfl (y_nil' rfl rfl ha3)) (fun P_1 => ?_)
  refine sim_p 2 (ei := [(10, .pointer (some a3))]) (d := (some 11)) wf (by kernel_rfl) ⟨rfl, trivial⟩ (by kernel_rfl) (by kernel_rfl) (fun _ => pf_p tok rfl rfl rfl rfl) (fun P_2 => ?_)
  obtain ⟨v4, hv4, H⟩ := H
  refine sim_l 3 (ei := [(11, .pointer (some a3))]) (d := (some 12)) wf (by kernel_rfl) ⟨rfl, trivial⟩ (by kernel_rfl) (by kernel_rfl) (pf_y rfl rfl rfl (y_ld tok rfl rfl rfl rfl hv4)) (fun P_3 => ?_)
  refine sim_p 4 (ei := [(3, .pointer (some (⟨b1, 0, none⟩ : Addr)))]) (d := (some 13)) wf (by kernel_rfl) ⟨rfl, trivial⟩ (by kernel_rfl) (by kernel_rfl) (fun _ => pf_p tok rfl rfl rfl rfl) (fun P_4 => ?_)
  obtain ⟨v5, hv5, H⟩ := H
  refine sim_l 5 (ei := [(13, .pointer (some ((⟨b1, 0, none⟩ : Addr).add 1)))]) (d := (some 14)) wf (by kernel_rfl) ⟨rfl, trivial⟩ (by kernel_rfl) (by kernel_rfl) (pf_y rfl rfl rfl (y_ld tok rfl rfl rfl rfl hv5)) (fun P_5 => ?_)
  obtain ⟨l6, hl6, H⟩ := H
  refine sim_l 6 (ei := [(12, .map v4), (14, .string v5)]) (d := (some 15)) wf (by kernel_rfl) ⟨rfl, rfl, trivial⟩ (by kernel_rfl) (by kernel_rfl) (pf_y rfl rfl rfl (y_lk2 (K := ByteArray) (V := S_api_Tenant) (d := .string) (kf := Value.string) (vf := (fun v : S_api_Tenant => Value.agg (S_api_Tenant.cs v).toArray)) (kt := 9) (et := 130) (k := v5) (z := (⟨ByteArray.empty, (⟨none, 0, 0⟩ : Slc), 0, false⟩ : S_api_Tenant)) (m := v4) (l := l6) rfl rfl rfl (by kernel_rfl) (by kernel_rfl) kStr (zero_a tok (T := tab) rfl rfl rfl) hl6)) (fun P_6 => ?_)
  refine sim_p 7 (ei := [(15, .tuple #[.agg (S_api_Tenant.cs (((mget l6 v5).getD (⟨ByteArray.empty, (⟨none, 0, 0⟩ : Slc), 0, false⟩ : S_api_Tenant)), (mget l6 v5).isSome).1).toArray, .bool (((mget l6 v5).getD (⟨ByteArray.empty, (⟨none, 0, 0⟩ : Slc), 0, false⟩ : S_api_Tenant)), (mget l6 v5).isSome).2])]) (d := (some 8)) wf (by kernel_rfl) ⟨rfl, trivial⟩ (by kernel_rfl) (by kernel_rfl) (fun _ => pf_p tok rfl rfl rfl rfl) (fun P_7 => ?_)
  refine sim_p 8 (ei := [(8, .tuple #[.agg (S_api_Tenant.cs (((mget l6 v5).getD (⟨ByteArray.empty, (⟨none, 0, 0⟩ : Slc), 0, false⟩ : S_api_Tenant)), (mget l6 v5).isSome).1).toArray, .bool (((mget l6 v5).getD (⟨ByteArray.empty, (⟨none, 0, 0⟩ : Slc), 0, false⟩ : S_api_Tenant)), (mget l6 v5).isSome).2])]) (d := (some 16)) wf (by kernel_rfl) ⟨rfl, trivial⟩ (by kernel_rfl) (by kernel_rfl) (fun _ => pf_p tok rfl rfl rfl rfl) (fun P_8 => ?_)
  refine sim_p 9 (ei := [(8, .tuple #[.agg (S_api_Tenant.cs (((mget l6 v5).getD (⟨ByteArray.empty, (⟨none, 0, 0⟩ : Slc), 0, false⟩ : S_api_Tenant)), (mget l6 v5).isSome).1).toArray, .bool (((mget l6 v5).getD (⟨ByteArray.empty, (⟨none, 0, 0⟩ : Slc), 0, false⟩ : S_api_Tenant)), (mget l6 v5).isSome).2])]) (d := (some 17)) wf (by kernel_rfl) ⟨rfl, trivial⟩ (by kernel_rfl) (by kernel_rfl) (fun _ => pf_p tok rfl rfl rfl rfl) (fun P_9 => ?_)
  obtain ⟨b7, h8, eb7, eh8, H⟩ := H
  refine sim_h 10 [] [] (ei := []) wf ⟨P_9 _, P_8 _, P_7 _, P_6, P_5, P_4 _, P_3, P_2 _, P_1 _, P_0 _, trivial⟩ (by kernel_rfl) trivial (by kernel_rfl) rfl rfl rfl (h_alloc tok rfl rfl eb7 eh8) ?_
  obtain ⟨hy9, hy10, hy11, H⟩ := H
  refine sim_re (x := ⟨6, .tuple #[.agg (S_api_Tenant.cs ((mget l6 v5).getD (⟨ByteArray.empty, (⟨none, 0, 0⟩ : Slc), 0, false⟩ : S_api_Tenant))).toArray, .bool (mget l6 v5).isSome], [(12, .map v4), (14, .string v5)]⟩) (pf_y rfl rfl rfl (y_lk2 (K := ByteArray) (V := S_api_Tenant) (d := .string) (kf := Value.string) (vf := (fun v : S_api_Tenant => Value.agg (S_api_Tenant.cs v).toArray)) (kt := 9) (et := 130) (k := v5) (z := (⟨ByteArray.empty, (⟨none, 0, 0⟩ : Slc), 0, false⟩ : S_api_Tenant)) (m := v4) (l := l6) rfl rfl rfl (by kernel_rfl) (by kernel_rfl) kStr (zero_a tok (T := tab) rfl rfl rfl) hy9)) (fun P_6 => ?_)
  refine sim_re (x := ⟨5, .string v5, [(13, .pointer (some ((⟨b1, 0, none⟩ : Addr).add 1)))]⟩) (pf_y rfl rfl rfl (y_ld tok rfl rfl rfl rfl hy10)) (fun P_5 => ?_)
  refine sim_re (x := ⟨3, .map v4, [(11, .pointer (some a3))]⟩) (pf_y rfl rfl rfl (y_ld tok rfl rfl rfl rfl hy11)) (fun P_3 => ?_)
  obtain ⟨h12, wh12, eh12, H⟩ := H
  refine sim_h 11 [0, 1, 2, 3, 4, 5, 6, 7, 8, 10] [0, 1, 2, 3, 4, 5, 6, 7, 8] (ei := [(5, .pointer (some (⟨b7, 0, none⟩ : Addr))), (16, .agg (S_api_Tenant.cs ((mget l6 v5).getD (⟨ByteArray.empty, (⟨none, 0, 0⟩ : Slc), 0, false⟩ : S_api_Tenant))).toArray)]) wf ⟨P_9 _, P_8 _, P_7 _, P_6, P_5, P_4 _, P_3, P_2 _, P_1 _, P_0 _, trivial⟩ (by kernel_rfl) ⟨rfl, rfl, trivial⟩ (by kernel_rfl) rfl rfl rfl (h_sts tok rfl rfl rfl rfl rfl (oneC (by kernel_rfl)) wh12 eh12) ?_
  refine sim_p 12 (ei := [(17, .bool ((mget l6 v5).isSome))]) (d := (some 6)) wf (by kernel_rfl) ⟨rfl, trivial⟩ (by kernel_rfl) (by kernel_rfl) (fun _ => pf_p tok rfl rfl rfl rfl) (fun P_12 => ?_)
  refine sim_end wf ⟨P_12 _, P_9 _, trivial, trivial, trivial, trivial, trivial, trivial, trivial, trivial, trivial, trivial⟩ (by kernel_rfl) ?_
  clear wf P_0 P_1 P_12 P_2 P_3 P_4 P_5 P_6 P_7 P_8 P_9
  refine x_seq ?_
  refine c_weak [(0, .pointer p0), (3, .pointer (some (⟨b1, 0, none⟩ : Addr))), (5, .pointer (some (⟨b7, 0, none⟩ : Addr))), (6, .bool ((mget l6 v5).isSome))] ⟨rfl, rfl, rfl, rfl, trivial⟩ ?_
  refine c_seq ?_
  refine c_block ?_
  refine c_seq ?_
  refine c_region ?_
  refine w_p tok rfl rfl rfl ?_
  obtain ⟨v13, hv13, H⟩ := H
  refine w_y (y_ld tok rfl rfl rfl rfl hv13) rfl rfl ?_
  refine w_p tok rfl rfl rfl ?_
  refine w_p tok rfl rfl rfl ?_
  refine w_end ?_
  refine x_seq ?_
  refine c_if H rfl (fun H => ?_) (fun H => ?_)
  ·
    refine c_seq ?_
    refine c_region ?_
    refine w_p tok rfl rfl rfl ?_
    refine w_end ?_
    refine x_seq ?_
    refine c_weak [(4, .int .i64 0)] ⟨rfl, trivial⟩ ?_
    refine c_ret ?_
    refine x_br ?_
    refine x_tr ?_
    exact x_ret _ rfl _ rfl ⟨0, rfl, H⟩
  ·
    refine c_seq ?_
    refine c_region ?_
    refine w_p tok rfl rfl rfl ?_
    obtain ⟨v14, hv14, H⟩ := H
    refine w_y (y_ld tok rfl rfl rfl rfl hv14) rfl rfl ?_
    refine w_p tok rfl rfl rfl ?_
    refine w_p tok rfl rfl rfl ?_
    refine w_cutU 2 [(28, .bool ((v14 == 1) && (mget l6 v5).isSome)), (0, .pointer p0), (3, .pointer (some (⟨b1, 0, none⟩ : Addr))), (5, .pointer (some (⟨b7, 0, none⟩ : Addr))), (6, .bool ((mget l6 v5).isSome))] ?_ ?_
    ·
      refine w_p tok rfl rfl rfl ?_
      refine w_end ?_
      refine x_seq ?_
      refine c_if H rfl (fun H => ?_) (fun H => ?_)
      ·
        refine c_seq ?_
        refine c_region ?_
        refine w_p tok rfl rfl rfl ?_
        refine w_end ?_
        refine x_seq ?_
        refine c_ret ?_
        refine x_br ?_
        refine x_tr ?_
        exact x_ret _ rfl _ rfl ⟨7, rfl, H⟩
      ·
        refine c_seq ?_
        refine c_region ?_
        refine w_p tok rfl rfl rfl ?_
        obtain ⟨v15, hv15, H⟩ := H
        refine w_y (y_ld tok rfl rfl rfl rfl hv15) rfl rfl ?_
        refine w_p tok rfl rfl rfl ?_
        refine w_p tok rfl rfl rfl ?_
        refine w_cut 7 (α := Bool) (fun (s : Bool) => [(40, .bool s), (3, .pointer (some (⟨b1, 0, none⟩ : Addr))), (5, .pointer (some (⟨b7, 0, none⟩ : Addr))), (6, .bool ((mget l6 v5).isSome))]) (fun (s : Bool) h => reg_Reg_asks_g1 (⟨b1, 0, none⟩ : Addr) (⟨b7, 0, none⟩ : Addr) ((mget l6 v5).isSome) s k h) ?_ ?_
        ·
          rintro t40_1 h_1 H
          replace H : reg_Reg_asks_g1 (⟨b1, 0, none⟩ : Addr) (⟨b7, 0, none⟩ : Addr) ((mget l6 v5).isSome) t40_1 k h_1 := H
          unfold reg_Reg_asks_g1 at H
          refine w_weak [(40, .bool t40_1), (3, .pointer (some (⟨b1, 0, none⟩ : Addr))), (5, .pointer (some (⟨b7, 0, none⟩ : Addr))), (6, .bool ((mget l6 v5).isSome))] ⟨rfl, rfl, rfl, rfl, trivial⟩ ?_
          refine w_p tok rfl rfl rfl ?_
          refine w_end ?_
          refine x_seq ?_
          refine c_if H rfl (fun H => ?_) (fun H => ?_)
          ·
            refine c_seq ?_
            refine c_region ?_
            refine w_p tok rfl rfl rfl ?_
            refine w_end ?_
            refine x_seq ?_
            refine c_ret ?_
            refine x_br ?_
            refine x_tr ?_
            exact x_ret _ rfl _ rfl ⟨8, rfl, H⟩
          ·
            refine c_seq ?_
            refine c_region ?_
            refine w_p tok rfl rfl rfl ?_
            obtain ⟨v16, hv16, H⟩ := H
            refine w_y (y_ld tok rfl rfl rfl rfl hv16) rfl rfl ?_
            refine w_p tok rfl rfl rfl ?_
            refine w_p tok rfl rfl rfl ?_
            refine w_cutU 3 [(48, .bool ((v16 != 1) && (!((mget l6 v5).isSome)))), (3, .pointer (some (⟨b1, 0, none⟩ : Addr))), (5, .pointer (some (⟨b7, 0, none⟩ : Addr)))] ?_ ?_
            ·
              refine w_p tok rfl rfl rfl ?_
              refine w_end ?_
              refine x_seq ?_
              refine c_if H rfl (fun H => ?_) (fun H => ?_)
              ·
                refine c_seq ?_
                refine c_region ?_
                refine w_p tok rfl rfl rfl ?_
                refine w_end ?_
                refine x_seq ?_
                refine c_ret ?_
                refine x_br ?_
                refine x_tr ?_
                exact x_ret _ rfl _ rfl ⟨16, rfl, H⟩
              ·
                refine c_seq ?_
                refine c_region ?_
                refine w_p tok rfl rfl rfl ?_
                obtain ⟨v17, hv17, H⟩ := H
                refine w_y (y_ld tok rfl rfl rfl rfl hv17) rfl rfl ?_
                refine w_p tok rfl rfl rfl ?_
                refine w_cut 4 (α := Bool) (fun (s : Bool) => [(56, .bool s), (3, .pointer (some (⟨b1, 0, none⟩ : Addr))), (5, .pointer (some (⟨b7, 0, none⟩ : Addr)))]) (fun (s : Bool) h => reg_Reg_asks_g2 (⟨b1, 0, none⟩ : Addr) (⟨b7, 0, none⟩ : Addr) s k h) ?_ ?_
                ·
                  rintro t56_2 h_2 H
                  replace H : reg_Reg_asks_g2 (⟨b1, 0, none⟩ : Addr) (⟨b7, 0, none⟩ : Addr) t56_2 k h_2 := H
                  unfold reg_Reg_asks_g2 at H
                  refine w_weak [(56, .bool t56_2), (3, .pointer (some (⟨b1, 0, none⟩ : Addr))), (5, .pointer (some (⟨b7, 0, none⟩ : Addr)))] ⟨rfl, rfl, rfl, trivial⟩ ?_
                  refine w_p tok rfl rfl rfl ?_
                  refine w_end ?_
                  refine x_seq ?_
                  refine c_if H rfl (fun H => ?_) (fun H => ?_)
                  ·
                    refine c_seq ?_
                    refine c_region ?_
                    refine w_p tok rfl rfl rfl ?_
                    refine w_end ?_
                    refine x_seq ?_
                    refine c_ret ?_
                    refine x_br ?_
                    refine x_tr ?_
                    exact x_ret _ rfl _ rfl ⟨17, rfl, H⟩
                  ·
                    refine c_skip ?_
                    refine x_blk ?_
                    refine x_seq ?_
                    refine c_seq ?_
                    refine c_region ?_
                    refine w_p tok rfl rfl rfl ?_
                    refine w_end ?_
                    refine x_seq ?_
                    refine c_seqJ (α := Bool) (fun (s : Bool) => [(7, .bool s)]) (fun (s : Bool) h => reg_Reg_asks_j3 s k h) ?_ ?_
                    ·
                      rintro t7_3 h_3 H
                      replace H : reg_Reg_asks_j3 t7_3 k h_3 := H
                      unfold reg_Reg_asks_j3 at H
                      refine c_weak [(7, .bool t7_3)] ⟨rfl, trivial⟩ ?_
                      refine c_seq ?_
                      refine c_seq ?_
                      refine c_region ?_
                      refine w_p tok rfl rfl rfl ?_
                      refine w_end ?_
                      refine x_seq ?_
                      refine c_if H rfl (fun H => ?_) (fun H => ?_)
                      ·
                        refine c_seq ?_
                        refine c_region ?_
                        refine w_p tok rfl rfl rfl ?_
                        refine w_end ?_
                        refine x_seq ?_
                        refine c_ret ?_
                        refine x_tr ?_
                        exact x_ret _ rfl _ rfl ⟨13, rfl, H⟩
                      ·
                        refine c_skip ?_
                        refine x_seq ?_
                        refine c_seq ?_
                        refine c_region ?_
                        refine w_p tok rfl rfl rfl ?_
                        refine w_end ?_
                        refine x_seq ?_
                        refine c_ret ?_
                        exact x_ret _ rfl _ rfl ⟨0, rfl, H⟩
                    ·
                      refine c_seq ?_
                      refine c_region ?_
                      refine w_p tok rfl rfl rfl ?_
                      obtain ⟨v18, hv18, H⟩ := H
                      refine w_y (y_ld tok rfl rfl rfl rfl hv18) rfl rfl ?_
                      refine w_end ?_
                      refine x_seq ?_
                      refine c_block ?_
                      refine c_seq ?_
                      refine c_region ?_
                      refine w_p tok rfl rfl rfl ?_
                      refine w_p tok rfl rfl rfl ?_
                      refine w_end ?_
                      refine x_seq ?_
                      refine c_if H rfl (fun H => ?_) (fun H => ?_)
                      ·
                        refine c_region ?_
                        refine w_p tok rfl rfl rfl ?_
                        obtain ⟨v19, hv19, H⟩ := H
                        refine w_y (y_ld tok rfl rfl rfl rfl hv19) rfl rfl ?_
                        refine w_p tok rfl rfl rfl ?_
                        refine w_p tok rfl rfl rfl ?_
                        refine w_end ?_
                        refine x_blk ?_
                        exact x_join (v19 != 1) H ⟨rfl, trivial⟩
                      ·
                        refine c_seq ?_
                        refine c_region ?_
                        refine w_p tok rfl rfl rfl ?_
                        refine w_p tok rfl rfl rfl ?_
                        refine w_end ?_
                        refine x_seq ?_
                        refine c_if H rfl (fun H => ?_) (fun H => ?_)
                        ·
                          refine c_sim [(3, .pointer (some (⟨b1, 0, none⟩ : Addr))), (5, .pointer (some (⟨b7, 0, none⟩ : Addr)))] (by kernel_rfl) (by kernel_rfl) ⟨rfl, rfl, trivial⟩ (fun wf => ?_)
                          obtain ⟨v20, hv20, H⟩ := H
                          refine sim_l 0 (ei := [(5, .pointer (some (⟨b7, 0, none⟩ : Addr)))]) (d := (some 66)) wf (by kernel_rfl) ⟨rfl, trivial⟩ (by kernel_rfl) (by kernel_rfl) (pf_y rfl rfl rfl (y_lda tok rfl rfl rfl rfl rfl hv20)) (fun P_0 => ?_)
                          refine sim_c 1 [0] [0] (ei := [(66, .agg (S_api_Tenant.cs v20).toArray)]) reg_epoch_ok (reg_epoch_ref _ _ _ H) wf ⟨P_0, trivial⟩ (by kernel_rfl) ⟨rfl, trivial⟩ (by kernel_rfl) rfl rfl rfl rfl rfl ?_
                          rintro _ h22 ⟨r21, rfl, H⟩
                          refine sim_p 2 (ei := [(67, .int .u32 r21)]) (d := (some 68)) wf (by kernel_rfl) ⟨rfl, trivial⟩ (by kernel_rfl) (by kernel_rfl) (fun _ => pf_p tok rfl rfl rfl rfl) (fun P_2 => ?_)
                          refine sim_p 3 (ei := [(68, .bool (r21 == 4294967295))]) (d := (some 69)) wf (by kernel_rfl) ⟨rfl, trivial⟩ (by kernel_rfl) (by kernel_rfl) (fun _ => pf_p tok rfl rfl rfl rfl) (fun P_3 => ?_)
                          refine sim_gif 69 H rfl (fun hb H => ?_) (fun hb H => ?_)
                          ·
                            refine sim_p 4 (v := undef) (ei := [(3, .pointer (some (⟨b1, 0, none⟩ : Addr))), (69, .bool true)]) (d := (some 70)) wf (by kernel_rfl) ⟨rfl, rfl, trivial⟩ (by kernel_rfl) (by kernel_rfl) (fun _ => pf_s rfl rfl rfl) (fun P_4 => ?_)
                            refine sim_p 5 (v := undef) (ei := [(69, .bool true), (70, undef)]) (d := (some 71)) wf (by kernel_rfl) ⟨rfl, rfl, trivial⟩ (by kernel_rfl) (by kernel_rfl) (fun _ => pf_s rfl rfl rfl) (fun P_5 => ?_)
                            refine sim_p 6 (v := undef) (ei := [(5, .pointer (some (⟨b7, 0, none⟩ : Addr))), (69, .bool true)]) (d := (some 72)) wf (by kernel_rfl) ⟨rfl, rfl, trivial⟩ (by kernel_rfl) (by kernel_rfl) (fun _ => pf_s rfl rfl rfl) (fun P_6 => ?_)
                            refine sim_p 7 (v := undef) (ei := [(69, .bool true), (72, undef)]) (d := (some 73)) wf (by kernel_rfl) ⟨rfl, rfl, trivial⟩ (by kernel_rfl) (by kernel_rfl) (fun _ => pf_s rfl rfl rfl) (fun P_7 => ?_)
                            refine sim_p 8 (v := undef) (ei := [(69, .bool true), (73, undef)]) (d := (some 74)) wf (by kernel_rfl) ⟨rfl, rfl, trivial⟩ (by kernel_rfl) (by kernel_rfl) (fun _ => pf_s rfl rfl rfl) (fun P_8 => ?_)
                            refine sim_p 9 (v := undef) (ei := [(69, .bool true), (71, undef), (74, undef)]) (d := (some 75)) wf (by kernel_rfl) ⟨rfl, rfl, rfl, trivial⟩ (by kernel_rfl) (by kernel_rfl) (fun _ => pf_s rfl rfl rfl) (fun P_9 => ?_)
                            refine sim_p 10 (ei := [(69, .bool true), (75, undef)]) (d := (some 76)) wf (by kernel_rfl) ⟨rfl, rfl, trivial⟩ (by kernel_rfl) (by kernel_rfl) (fun _ => pf_p tok rfl rfl rfl rfl) (fun P_10 => ?_)
                            refine sim_p 11 (ei := [(76, .bool true)]) (d := (some 7)) wf (by kernel_rfl) ⟨rfl, trivial⟩ (by kernel_rfl) (by kernel_rfl) (fun _ => pf_p tok rfl rfl rfl rfl) (fun P_11 => ?_)
                            refine sim_end wf ⟨P_11 _, P_10 _, P_9 _, P_8 _, P_7 _, P_6 _, P_5 _, P_4 _, P_3 _, P_2 _, trivial, trivial⟩ (by kernel_rfl) ?_
                            clear wf P_0 P_10 P_11 P_2 P_3 P_4 P_5 P_6 P_7 P_8 P_9
                            refine x_blk ?_
                            exact x_join true H ⟨rfl, trivial⟩
                          ·
                            refine sim_p 4 (ei := [(3, .pointer (some (⟨b1, 0, none⟩ : Addr))), (69, .bool false)]) (d := (some 70)) wf (by kernel_rfl) ⟨rfl, rfl, trivial⟩ (by kernel_rfl) (by kernel_rfl) (fun _ => pf_p tok rfl rfl rfl rfl) (fun P_4 => ?_)
                            obtain ⟨v23, hv23, H⟩ := H
                            refine sim_l 5 (ei := [(69, .bool false), (70, .pointer (some ((⟨b1, 0, none⟩ : Addr).add 2)))]) (d := (some 71)) wf (by kernel_rfl) ⟨rfl, rfl, trivial⟩ (by kernel_rfl) (by kernel_rfl) (pf_y rfl rfl rfl (y_ld tok rfl rfl rfl rfl hv23)) (fun P_5 => ?_)
                            obtain ⟨v24, hv24, H⟩ := H
                            refine sim_l 6 (ei := [(5, .pointer (some (⟨b7, 0, none⟩ : Addr))), (69, .bool false)]) (d := (some 72)) wf (by kernel_rfl) ⟨rfl, rfl, trivial⟩ (by kernel_rfl) (by kernel_rfl) (pf_y rfl rfl rfl (y_lda tok rfl rfl rfl rfl rfl hv24)) (fun P_6 => ?_)
                            refine sim_c 7 [0, 1, 2, 3, 6] [0, 2, 3, 6] (ei := [(69, .bool false), (72, .agg (S_api_Tenant.cs v24).toArray)]) reg_epoch_ok (reg_epoch_ref _ _ _ H) wf ⟨P_6, P_5, P_4 _, P_3 _, P_2 _, trivial, trivial⟩ (by kernel_rfl) ⟨rfl, rfl, trivial⟩ (by kernel_rfl) rfl rfl rfl rfl rfl ?_
                            rintro _ h26 ⟨r25, rfl, H⟩
                            obtain ⟨hy27, H⟩ := H
                            refine sim_re (x := ⟨5, .int .u32 v23, [(69, .bool false), (70, .pointer (some ((⟨b1, 0, none⟩ : Addr).add 2)))]⟩) (pf_y rfl rfl rfl (y_ld tok rfl rfl rfl rfl hy27)) (fun P_5 => ?_)
                            refine sim_p 8 (ei := [(69, .bool false), (73, .int .u32 r25)]) (d := (some 74)) wf (by kernel_rfl) ⟨rfl, rfl, trivial⟩ (by kernel_rfl) (by kernel_rfl) (fun _ => pf_p tok rfl rfl rfl rfl) (fun P_8 => ?_)
                            refine sim_p 9 (ei := [(69, .bool false), (71, .int .u32 v23), (74, .int .u32 (IntKind.u32.wrap (r25 + 1)))]) (d := (some 75)) wf (by kernel_rfl) ⟨rfl, rfl, rfl, trivial⟩ (by kernel_rfl) (by kernel_rfl) (fun _ => pf_p tok rfl rfl rfl rfl) (fun P_9 => ?_)
                            refine sim_p 10 (ei := [(69, .bool false), (75, .bool (v23 != (IntKind.u32.wrap (r25 + 1))))]) (d := (some 76)) wf (by kernel_rfl) ⟨rfl, rfl, trivial⟩ (by kernel_rfl) (by kernel_rfl) (fun _ => pf_p tok rfl rfl rfl rfl) (fun P_10 => ?_)
                            refine sim_p 11 (ei := [(76, .bool (v23 != (IntKind.u32.wrap (r25 + 1))))]) (d := (some 7)) wf (by kernel_rfl) ⟨rfl, trivial⟩ (by kernel_rfl) (by kernel_rfl) (fun _ => pf_p tok rfl rfl rfl rfl) (fun P_11 => ?_)
                            refine sim_end wf ⟨P_11 _, P_10 _, P_9 _, P_8 _, trivial, P_5, P_4 _, trivial, trivial, trivial, trivial⟩ (by kernel_rfl) ?_
                            clear wf P_0 P_10 P_11 P_2 P_3 P_4 P_5 P_6 P_8 P_9
                            refine x_blk ?_
                            exact x_join (v23 != (IntKind.u32.wrap (r25 + 1))) H ⟨rfl, trivial⟩
                        ·
                          refine c_seq ?_
                          refine c_region ?_
                          refine w_p tok rfl rfl rfl ?_
                          refine w_p tok rfl rfl rfl ?_
                          refine w_end ?_
                          refine x_seq ?_
                          refine c_weak [(3, .pointer (some (⟨b1, 0, none⟩ : Addr))), (5, .pointer (some (⟨b7, 0, none⟩ : Addr))), (7, .bool false), (58, .int .i64 v18), (77, .bool (v18 == 3))] ⟨rfl, rfl, rfl, rfl, rfl, trivial⟩ ?_
                          refine c_if H rfl (fun H => ?_) (fun H => ?_)
                          ·
                            refine c_sim [(3, .pointer (some (⟨b1, 0, none⟩ : Addr))), (5, .pointer (some (⟨b7, 0, none⟩ : Addr)))] (by kernel_rfl) (by kernel_rfl) ⟨rfl, rfl, trivial⟩ (fun wf => ?_)
                            refine sim_p 0 (ei := [(3, .pointer (some (⟨b1, 0, none⟩ : Addr)))]) (d := (some 79)) wf (by kernel_rfl) ⟨rfl, trivial⟩ (by kernel_rfl) (by kernel_rfl) (fun _ => pf_p tok rfl rfl rfl rfl) (fun P_0 => ?_)
                            obtain ⟨v28, hv28, H⟩ := H
                            refine sim_l 1 (ei := [(79, .pointer (some ((⟨b1, 0, none⟩ : Addr).add 2)))]) (d := (some 80)) wf (by kernel_rfl) ⟨rfl, trivial⟩ (by kernel_rfl) (by kernel_rfl) (pf_y rfl rfl rfl (y_ld tok rfl rfl rfl rfl hv28)) (fun P_1 => ?_)
                            obtain ⟨v29, hv29, H⟩ := H
                            refine sim_l 2 (ei := [(5, .pointer (some (⟨b7, 0, none⟩ : Addr)))]) (d := (some 81)) wf (by kernel_rfl) ⟨rfl, trivial⟩ (by kernel_rfl) (by kernel_rfl) (pf_y rfl rfl rfl (y_lda tok rfl rfl rfl rfl rfl hv29)) (fun P_2 => ?_)
                            refine sim_c 3 [2] [2] (ei := [(81, .agg (S_api_Tenant.cs v29).toArray)]) reg_epoch_ok (reg_epoch_ref _ _ _ H) wf ⟨P_2, P_1, P_0 _, trivial⟩ (by kernel_rfl) ⟨rfl, trivial⟩ (by kernel_rfl) rfl rfl rfl rfl rfl ?_
                            rintro _ h31 ⟨r30, rfl, H⟩
                            obtain ⟨hy32, H⟩ := H
                            refine sim_re (x := ⟨1, .int .u32 v28, [(79, .pointer (some ((⟨b1, 0, none⟩ : Addr).add 2)))]⟩) (pf_y rfl rfl rfl (y_ld tok rfl rfl rfl rfl hy32)) (fun P_1 => ?_)
                            refine sim_p 4 (ei := [(80, .int .u32 v28), (82, .int .u32 r30)]) (d := (some 83)) wf (by kernel_rfl) ⟨rfl, rfl, trivial⟩ (by kernel_rfl) (by kernel_rfl) (fun _ => pf_p tok rfl rfl rfl rfl) (fun P_4 => ?_)
                            refine sim_p 5 (ei := [(83, .bool (decide (v28 > r30)))]) (d := (some 7)) wf (by kernel_rfl) ⟨rfl, trivial⟩ (by kernel_rfl) (by kernel_rfl) (fun _ => pf_p tok rfl rfl rfl rfl) (fun P_5 => ?_)
                            refine sim_end wf ⟨P_5 _, P_4 _, trivial, P_1, P_0 _, trivial⟩ (by kernel_rfl) ?_
                            clear wf P_0 P_1 P_2 P_4 P_5
                            refine x_blk ?_
                            exact x_join (decide (v28 > r30)) H ⟨rfl, trivial⟩
                          ·
                            refine c_seq ?_
                            refine c_region ?_
                            refine w_p tok rfl rfl rfl ?_
                            refine w_p tok rfl rfl rfl ?_
                            refine w_end ?_
                            refine x_seq ?_
                            refine c_if H rfl (fun H => ?_) (fun H => ?_)
                            ·
                              refine c_region ?_
                              refine w_p tok rfl rfl rfl ?_
                              obtain ⟨v33, hv33, H⟩ := H
                              refine w_y (y_ld tok rfl rfl rfl rfl hv33) rfl rfl ?_
                              refine w_p tok rfl rfl rfl ?_
                              obtain ⟨v34, hv34, H⟩ := H
                              refine w_y (y_ld tok rfl rfl rfl rfl hv34) rfl rfl ?_
                              refine w_p tok rfl rfl rfl ?_
                              refine w_p tok rfl rfl rfl ?_
                              refine w_end ?_
                              refine x_blk ?_
                              exact x_join (decide (v33 < v34)) H ⟨rfl, trivial⟩
                            ·
                              refine c_skip ?_
                              refine x_blk ?_
                              exact x_join false H ⟨rfl, trivial⟩
                ·
                  refine w_gif (d := 52) H rfl (fun H => ?_) (fun H => ?_)
                  ·
                    refine w_p tok rfl rfl rfl ?_
                    obtain ⟨v35, hv35, H⟩ := H
                    refine w_y (y_ld tok rfl rfl rfl rfl hv35) rfl rfl ?_
                    refine w_p tok rfl rfl rfl ?_
                    refine w_p tok rfl rfl rfl ?_
                    exact w_jn (v35 != 5) H ⟨rfl, rfl, rfl, trivial⟩
                  ·
                    refine w_skip rfl rfl ?_
                    refine w_skip rfl rfl ?_
                    refine w_skip rfl rfl ?_
                    refine w_p tok rfl rfl rfl ?_
                    exact w_jn false H ⟨rfl, rfl, rfl, trivial⟩
            ·
              refine w_gs (d := 45) rfl (fun hb => ?_) (fun hb => ?_)
              ·
                refine w_p tok rfl rfl rfl ?_
                refine w_p tok rfl rfl rfl ?_
                refine w_p tok rfl rfl rfl ?_
                refine w_jn () rfl ⟨?_, rfl, rfl, trivial⟩
                exact congrArg (fun b => some (Value.bool b)) (and_t hb)
              ·
                refine w_skip rfl rfl ?_
                refine w_skip rfl rfl ?_
                refine w_p tok rfl rfl rfl ?_
                refine w_jn () rfl ⟨?_, rfl, rfl, trivial⟩
                exact congrArg (fun b => some (Value.bool b)) (and_f hb)
        ·
          refine w_gif (d := 33) H rfl (fun H => ?_) (fun H => ?_)
          ·
            refine w_p tok rfl rfl rfl ?_
            refine w_y (y_nil' rfl rfl ha3) rfl rfl ?_
            refine w_p tok rfl rfl rfl ?_
            obtain ⟨v36, hv36, H⟩ := H
            refine w_y (y_ld tok rfl rfl rfl rfl hv36) rfl rfl ?_
            obtain ⟨l37, hl37, H⟩ := H
            refine w_y (y_lenm tok (K := ByteArray) (V := S_api_Tenant) (d := .string) (kf := Value.string) (vf := (fun v : S_api_Tenant => Value.agg (S_api_Tenant.cs v).toArray)) (kt := 9) (et := 130) (m := v36) (l := l37) rfl rfl (by kernel_rfl) hl37) rfl rfl ?_
            refine w_p tok rfl rfl rfl ?_
            refine w_p tok rfl rfl rfl ?_
            exact w_jn (decide ((l37.length : Int) ≥ 8)) H ⟨rfl, rfl, rfl, rfl, trivial⟩
          ·
            refine w_skip rfl rfl ?_
            refine w_skip rfl rfl ?_
            refine w_skip rfl rfl ?_
            refine w_skip rfl rfl ?_
            refine w_skip rfl rfl ?_
            refine w_skip rfl rfl ?_
            refine w_p tok rfl rfl rfl ?_
            exact w_jn false H ⟨rfl, rfl, rfl, rfl, trivial⟩
    ·
      refine w_gs (d := 26) rfl (fun hb => ?_) (fun hb => ?_)
      ·
        refine w_p tok rfl rfl rfl ?_
        refine w_p tok rfl rfl rfl ?_
        refine w_jn () rfl ⟨?_, rfl, rfl, rfl, rfl, trivial⟩
        exact congrArg (fun b => some (Value.bool b)) (and_t hb)
      ·
        refine w_skip rfl rfl ?_
        refine w_p tok rfl rfl rfl ?_
        refine w_jn () rfl ⟨?_, rfl, rfl, rfl, rfl, trivial⟩
        exact congrArg (fun b => some (Value.bool b)) (and_f hb)

theorem reg_Reg_Apply_1_ok : CallOk Go.Proofs.Try.prog 143 := ⟨_, Go.Proofs.Try.func143, by kernel_rfl, by kernel_rfl⟩
theorem reg_Reg_Apply_1_ref (p0 : S_api_Wrapped) (p1 : Addr) (k : (Bool) → Heap → Prop) (h : Heap) (H : reg_Reg_Apply_1 p0 p1 k h) : CallsH Go.Proofs.Try.prog 143 #[.agg (S_api_Wrapped.cs p0).toArray, .pointer (some p1)] h (fun v h' => ∃ r : Bool, v = .bool r ∧ k r h') := by
  refine f_enter (N := 9) Go.Proofs.Try.func143 rfl rfl rfl (fun w0 => ?_)
  unfold reg_Reg_Apply_1 at H
  refine c_weak [(0, .agg (S_api_Wrapped.cs p0).toArray), (1, .pointer (some p1))] ⟨rfl, rfl, trivial⟩ ?_
  refine c_seq ?_
  refine c_region ?_
  obtain ⟨b1, h2, eb1, eh2, H⟩ := H
  refine w_h (h_box rfl rfl eb1 eh2) rfl rfl ?_
  refine w_p tok rfl rfl rfl ?_
  refine w_end ?_
  refine x_seq ?_
  refine c_seq ?_
  refine c_region ?_
  refine w_p tok rfl rfl rfl ?_
  obtain ⟨v3, hv3, H⟩ := H
  refine w_y (y_ld tok rfl rfl rfl rfl hv3) rfl rfl ?_
  refine w_p tok rfl rfl rfl ?_
  obtain ⟨v4, hv4, H⟩ := H
  refine w_y (y_ld tok rfl rfl rfl rfl hv4) rfl rfl ?_
  refine w_p tok rfl rfl rfl ?_
  refine w_p tok rfl rfl rfl ?_
  refine w_end ?_
  refine x_seq ?_
  refine c_weak [(3, .bool (decide (v3 < v4)))] ⟨rfl, trivial⟩ ?_
  refine c_ret ?_
  exact x_ret _ rfl _ rfl ⟨(decide (v3 < v4)), rfl, H⟩

theorem slices_IndexFunc_api_Wrapped_api_Wrapped__reg_Reg_Apply_1_ok : CallOk Go.Proofs.Try.prog 189 := ⟨_, Go.Proofs.Try.func189, by kernel_rfl, by kernel_rfl⟩
theorem slices_IndexFunc_api_Wrapped_api_Wrapped__reg_Reg_Apply_1_ref (p0 : Slc) (p1c0 : Addr) (k : (Int) → Heap → Prop) (h : Heap) (H : slices_IndexFunc_api_Wrapped_api_Wrapped__reg_Reg_Apply_1 p0 p1c0 k h) : CallsH Go.Proofs.Try.prog 189 #[Slc.v p0, (Value.func (.func 143) #[] #[.pointer (some p1c0)])] h (fun v h' => ∃ r : Int, v = .int .i64 r ∧ k r h') := by
  refine f_enter (N := 19) Go.Proofs.Try.func189 rfl rfl rfl (fun w0 => ?_)
  unfold slices_IndexFunc_api_Wrapped_api_Wrapped__reg_Reg_Apply_1 at H
  refine c_weak [(0, Slc.v p0), (1, (Value.func (.func 143) #[] #[.pointer (some p1c0)]))] ⟨rfl, rfl, trivial⟩ ?_
  refine c_seq ?_
  refine c_region ?_
  refine w_p tok rfl rfl rfl ?_
  refine w_end ?_
  refine x_seq ?_
  refine c_seq ?_
  refine c_seq ?_
  refine c_region ?_
  refine w_p tok rfl rfl rfl ?_
  refine w_p tok rfl rfl rfl ?_
  refine w_p tok rfl rfl rfl ?_
  refine w_end ?_
  refine x_seq ?_
  refine c_block ?_
  obtain ⟨I1, μ1, H0, HI⟩ := H
  refine c_loop (σ := Int) (fun (s : Int) => [(8, .int .i64 s), (0, Slc.v p0), (1, (Value.func (.func 143) #[] #[.pointer (some p1c0)])), (7, .int .i64 (p0.len : Int))]) I1 μ1 0 H0 ⟨rfl, rfl, rfl, rfl, trivial⟩ ?_
  rintro t8_1 h_1 H
  replace H := HI t8_1 h_1 H
  unfold slices_IndexFunc_api_Wrapped_api_Wrapped__reg_Reg_Apply_1_l1b at H
  refine c_weak [(8, .int .i64 t8_1), (0, Slc.v p0), (1, (Value.func (.func 143) #[] #[.pointer (some p1c0)])), (7, .int .i64 (p0.len : Int))] ⟨rfl, rfl, rfl, rfl, trivial⟩ ?_
  refine c_seq ?_
  refine c_region ?_
  refine w_p tok rfl rfl rfl ?_
  refine w_end ?_
  refine x_seq ?_
  refine c_seq ?_
  refine c_if H rfl (fun H => ?_) (fun H => ?_)
  ·
    refine c_skip ?_
    refine x_seq ?_
    refine c_seq ?_
    refine c_block ?_
    refine c_seq ?_
    refine c_region ?_
    refine w_p tok rfl rfl rfl ?_
    refine w_p tok rfl rfl rfl ?_
    refine w_end ?_
    refine x_seq ?_
    refine c_seq ?_
    refine c_region ?_
    refine w_p tok rfl rfl rfl ?_
    refine w_p tok rfl rfl rfl ?_
    refine w_p tok rfl rfl rfl ?_
    obtain ⟨a1, ha1, la1, ua1, H⟩ := H
    refine w_y (y_ixa' tok rfl rfl ha1 rfl rfl rfl la1 ua1) rfl rfl ?_
    obtain ⟨v2, hv2, H⟩ := H
    refine w_y (y_lda tok rfl rfl rfl rfl rfl hv2) rfl rfl ?_
    refine w_callv (vs := [.agg (S_api_Wrapped.cs v2).toArray]) (cap := [.pointer (some p1c0)]) reg_Reg_Apply_1_ok (reg_Reg_Apply_1_ref _ _ _ _ H) rfl rfl rfl rfl rfl ?_
    rintro _ h4 ⟨r3, rfl, H⟩
    refine w_end ?_
    refine x_seq ?_
    refine c_weak [(8, .int .i64 t8_1), (0, Slc.v p0), (1, (Value.func (.func 143) #[] #[.pointer (some p1c0)])), (7, .int .i64 (p0.len : Int)), (5, .int .i64 t8_1), (16, .bool r3)] ⟨rfl, rfl, rfl, rfl, rfl, rfl, trivial⟩ ?_
    refine c_if H rfl (fun H => ?_) (fun H => ?_)
    ·
      refine c_seq ?_
      refine c_region ?_
      refine w_p tok rfl rfl rfl ?_
      refine w_p tok rfl rfl rfl ?_
      refine w_end ?_
      refine x_seq ?_
      refine c_weak [(4, .int .i64 t8_1)] ⟨rfl, trivial⟩ ?_
      refine c_ret ?_
      refine x_br ?_
      refine x_tr ?_
      refine x_tr ?_
      refine x_br ?_
      refine x_tr ?_
      exact x_ret _ rfl _ rfl ⟨t8_1, rfl, H⟩
    ·
      refine c_skip ?_
      refine x_blk ?_
      refine x_seq ?_
      refine c_region ?_
      refine w_p tok rfl rfl rfl ?_
      refine w_p tok rfl rfl rfl ?_
      refine w_end ?_
      exact x_join (IntKind.i64.wrap (t8_1 + 1)) H ⟨rfl, rfl, rfl, rfl, trivial⟩
  ·
    refine c_exit ?_
    refine x_te ?_
    refine x_te ?_
    refine x_bh ?_
    refine x_seq ?_
    refine c_seq ?_
    refine c_region ?_
    obtain ⟨x5, ex5, H⟩ := H
    refine w_pe tok rfl (congrArg (fun z => (.int .i64 z : Value)) ex5) rfl rfl ?_
    refine w_end ?_
    refine x_seq ?_
    refine c_ret ?_
    exact x_ret _ rfl _ rfl ⟨x5, rfl, H⟩

theorem slices_DeleteFunc_api_Wrapped_api_Wrapped__reg_Reg_Apply_1_ok : CallOk Go.Proofs.Try.prog 142 := ⟨_, Go.Proofs.Try.func142, by kernel_rfl, by kernel_rfl⟩
theorem slices_DeleteFunc_api_Wrapped_api_Wrapped__reg_Reg_Apply_1_ref (p0 : Slc) (p1c0 : Addr) (k : (Slc) → Heap → Prop) (h : Heap) (H : slices_DeleteFunc_api_Wrapped_api_Wrapped__reg_Reg_Apply_1 p0 p1c0 k h) : CallsH Go.Proofs.Try.prog 142 #[Slc.v p0, (Value.func (.func 143) #[] #[.pointer (some p1c0)])] h (fun v h' => ∃ r : Slc, v = Slc.v r ∧ k r h') := by
  refine f_enter (N := 42) Go.Proofs.Try.func142 rfl rfl rfl (fun w0 => ?_)
  unfold slices_DeleteFunc_api_Wrapped_api_Wrapped__reg_Reg_Apply_1 at H
  refine c_weak [(0, Slc.v p0), (1, (Value.func (.func 143) #[] #[.pointer (some p1c0)]))] ⟨rfl, rfl, trivial⟩ ?_
  refine c_seq ?_
  refine c_region ?_
  refine w_p tok rfl rfl rfl ?_
  refine w_end ?_
  refine x_seq ?_
  refine c_seq ?_
  refine c_region ?_
  refine w_p tok rfl rfl rfl ?_
  refine w_p tok rfl rfl rfl ?_
  refine w_call slices_IndexFunc_api_Wrapped_api_Wrapped__reg_Reg_Apply_1_ok (slices_IndexFunc_api_Wrapped_api_Wrapped__reg_Reg_Apply_1_ref _ _ _ _ H) rfl rfl rfl rfl ?_
  rintro _ h2 ⟨r1, rfl, H⟩
  refine w_p tok rfl rfl rfl ?_
  refine w_end ?_
  refine x_seq ?_
  refine c_seq ?_
  refine c_seq ?_
  refine c_region ?_
  refine w_p tok rfl rfl rfl ?_
  refine w_p tok rfl rfl rfl ?_
  refine w_end ?_
  refine x_seq ?_
  refine c_if H rfl (fun H => ?_) (fun H => ?_)
  ·
    refine c_seq ?_
    refine c_region ?_
    refine w_p tok rfl rfl rfl ?_
    refine w_p tok rfl rfl rfl ?_
    refine w_end ?_
    refine x_seq ?_
    refine c_weak [(4, Slc.v p0)] ⟨rfl, trivial⟩ ?_
    refine c_ret ?_
    refine x_tr ?_
    exact x_ret _ rfl _ rfl ⟨p0, rfl, H⟩
  ·
    refine c_skip ?_
    refine x_seq ?_
    refine c_seq ?_
    refine c_seq ?_
    refine c_region ?_
    refine w_p tok rfl rfl rfl ?_
    refine w_p tok rfl rfl rfl ?_
    obtain ⟨x3, ex3, H⟩ := H
    refine w_pe tok rfl (congrArg (fun z => (.int .i64 z : Value)) ex3) rfl rfl ?_
    refine w_end ?_
    refine x_seq ?_
    refine c_weak [(0, Slc.v p0), (1, (Value.func (.func 143) #[] #[.pointer (some p1c0)])), (5, .int .i64 r1), (6, .int .i64 x3)] ⟨rfl, rfl, rfl, rfl, trivial⟩ ?_
    refine c_block ?_
    obtain ⟨I1, μ1, H0, HI⟩ := H
    refine c_loop (σ := Int × Int) (fun (s : Int × Int) => [(5, .int .i64 s.1), (6, .int .i64 s.2), (0, Slc.v p0), (1, (Value.func (.func 143) #[] #[.pointer (some p1c0)]))]) I1 μ1 (r1, x3) H0 ⟨rfl, rfl, rfl, rfl, trivial⟩ ?_
    rintro ⟨t5_1, t6_1⟩ h_1 H
    replace H := HI t5_1 t6_1 h_1 H
    unfold slices_DeleteFunc_api_Wrapped_api_Wrapped__reg_Reg_Apply_1_l1b at H
    refine c_weak [(5, .int .i64 t5_1), (6, .int .i64 t6_1), (0, Slc.v p0), (1, (Value.func (.func 143) #[] #[.pointer (some p1c0)]))] ⟨rfl, rfl, rfl, rfl, trivial⟩ ?_
    refine c_seq ?_
    refine c_seq ?_
    refine c_region ?_
    refine w_p tok rfl rfl rfl ?_
    refine w_p tok rfl rfl rfl ?_
    refine w_p tok rfl rfl rfl ?_
    refine w_p tok rfl rfl rfl ?_
    refine w_end ?_
    refine x_seq ?_
    refine c_if H rfl (fun H => ?_) (fun H => ?_)
    ·
      refine c_skip ?_
      refine x_seq ?_
      refine c_seqJ (α := Int) (fun (s : Int) => [(5, .int .i64 s), (0, Slc.v p0), (1, (Value.func (.func 143) #[] #[.pointer (some p1c0)])), (6, .int .i64 t6_1)]) (fun (s : Int) h => slices_DeleteFunc_api_Wrapped_api_Wrapped__reg_Reg_Apply_1_j2 p0 p1c0 t6_1 s k (fun s h' => I1 s h' ∧ μ1 s h' < μ1 (t5_1, t6_1) h_1) h) ?_ ?_
      ·
        rintro t5_2 h_2 H
        replace H : slices_DeleteFunc_api_Wrapped_api_Wrapped__reg_Reg_Apply_1_j2 p0 p1c0 t6_1 t5_2 k (fun s h' => I1 s h' ∧ μ1 s h' < μ1 (t5_1, t6_1) h_1) h_2 := H
        unfold slices_DeleteFunc_api_Wrapped_api_Wrapped__reg_Reg_Apply_1_j2 at H
        refine c_weak [(5, .int .i64 t5_2), (0, Slc.v p0), (1, (Value.func (.func 143) #[] #[.pointer (some p1c0)])), (6, .int .i64 t6_1)] ⟨rfl, rfl, rfl, rfl, trivial⟩ ?_
        refine c_region ?_
        refine w_p tok rfl rfl rfl ?_
        refine w_p tok rfl rfl rfl ?_
        obtain ⟨x4, ex4, H⟩ := H
        refine w_pe tok rfl (congrArg (fun z => (.int .i64 z : Value)) ex4) rfl rfl ?_
        refine w_end ?_
        exact x_join (t5_2, x4) H ⟨rfl, rfl, rfl, rfl, trivial⟩
      ·
        refine c_block ?_
        refine c_seq ?_
        refine c_region ?_
        refine w_p tok rfl rfl rfl ?_
        refine w_p tok rfl rfl rfl ?_
        obtain ⟨a5, ha5, la5, ua5, H⟩ := H
        refine w_y (y_ixa' tok rfl rfl ha5 rfl rfl rfl la5 ua5) rfl rfl ?_
        obtain ⟨v6, hv6, H⟩ := H
        refine w_y (y_lda tok rfl rfl rfl rfl rfl hv6) rfl rfl ?_
        obtain ⟨b7, h8, eb7, eh8, H⟩ := H
        refine w_h (h_alloc tok rfl rfl eb7 eh8) rfl rfl ?_
        obtain ⟨h9, wh9, eh9, H⟩ := H
        refine w_h (h_sts tok rfl rfl rfl rfl rfl (oneC (by kernel_rfl)) wh9 eh9) rfl rfl ?_
        refine w_end ?_
        refine x_seq ?_
        refine c_weak [(5, .int .i64 t5_1), (6, .int .i64 t6_1), (0, Slc.v p0), (1, (Value.func (.func 143) #[] #[.pointer (some p1c0)])), (7, .pointer (some (⟨b7, 0, none⟩ : Addr)))] ⟨rfl, rfl, rfl, rfl, rfl, trivial⟩ ?_
        refine c_seq ?_
        refine c_region ?_
        refine w_p tok rfl rfl rfl ?_
        obtain ⟨v10, hv10, H⟩ := H
        refine w_y (y_lda tok rfl rfl rfl rfl rfl hv10) rfl rfl ?_
        refine w_callv (vs := [.agg (S_api_Wrapped.cs v10).toArray]) (cap := [.pointer (some p1c0)]) reg_Reg_Apply_1_ok (reg_Reg_Apply_1_ref _ _ _ _ H) rfl rfl rfl rfl rfl ?_
        rintro _ h12 ⟨r11, rfl, H⟩
        refine w_p tok rfl rfl rfl ?_
        refine w_end ?_
        refine x_seq ?_
        refine c_if H rfl (fun H => ?_) (fun H => ?_)
        ·
          refine c_seq ?_
          refine c_region ?_
          refine w_p tok rfl rfl rfl ?_
          refine w_p tok rfl rfl rfl ?_
          obtain ⟨v13, hv13, H⟩ := H
          refine w_y (y_lda tok rfl rfl rfl rfl rfl hv13) rfl rfl ?_
          obtain ⟨a14, ha14, la14, ua14, H⟩ := H
          refine w_y (y_ixa' tok rfl rfl ha14 rfl rfl rfl la14 ua14) rfl rfl ?_
          obtain ⟨h15, wh15, eh15, H⟩ := H
          refine w_h (h_sts tok rfl rfl rfl rfl rfl (oneC (by kernel_rfl)) wh15 eh15) rfl rfl ?_
          refine w_end ?_
          refine x_seq ?_
          refine c_weak [(5, .int .i64 t5_1), (6, .int .i64 t6_1), (0, Slc.v p0), (1, (Value.func (.func 143) #[] #[.pointer (some p1c0)]))] ⟨rfl, rfl, rfl, rfl, trivial⟩ ?_
          refine c_region ?_
          refine w_p tok rfl rfl rfl ?_
          refine w_p tok rfl rfl rfl ?_
          obtain ⟨x16, ex16, H⟩ := H
          refine w_pe tok rfl (congrArg (fun z => (.int .i64 z : Value)) ex16) rfl rfl ?_
          refine w_end ?_
          refine x_blk ?_
          exact x_join x16 H ⟨rfl, rfl, rfl, rfl, trivial⟩
        ·
          refine c_skip ?_
          refine x_blk ?_
          exact x_join t5_1 H ⟨rfl, rfl, rfl, rfl, trivial⟩
    ·
      refine c_exit ?_
      refine x_te ?_
      refine x_te ?_
      refine x_bh ?_
      refine x_seq ?_
      refine c_seq ?_
      refine c_region ?_
      refine w_p tok rfl rfl rfl ?_
      refine w_p tok rfl rfl rfl ?_
      obtain ⟨s17, ps17, qs17, rs17, ts17, es17, H⟩ := H
      refine w_ye (y_sl (s := p0) (L := t5_1) (H := (p0.len : Int)) (M := (p0.cap : Int)) tok rfl rfl rfl rfl rfl rfl rfl (by simp) ps17 qs17 rs17 ts17) (congrArg Slc.v es17) rfl rfl ?_
      obtain ⟨wh18, h18, eh18, H⟩ := H
      refine w_h (h_clrs (s := s17) tok rfl rfl rfl rfl rfl rfl wh18 eh18) rfl rfl ?_
      refine w_end ?_
      refine x_seq ?_
      refine c_weak [(5, .int .i64 t5_1), (0, Slc.v p0)] ⟨rfl, rfl, trivial⟩ ?_
      refine c_seq ?_
      refine c_region ?_
      refine w_p tok rfl rfl rfl ?_
      refine w_p tok rfl rfl rfl ?_
      obtain ⟨s19, ps19, qs19, rs19, ts19, es19, H⟩ := H
      refine w_ye (y_sl (s := p0) (L := 0) (H := t5_1) (M := (p0.cap : Int)) tok rfl rfl rfl rfl rfl rfl rfl (by simp) ps19 qs19 rs19 ts19) (congrArg Slc.v es19) rfl rfl ?_
      refine w_p tok rfl rfl rfl ?_
      refine w_end ?_
      refine x_seq ?_
      refine c_ret ?_
      exact x_ret _ rfl _ rfl ⟨s19, rfl, H⟩

theorem reg_Reg_Apply_ok : CallOk Go.Proofs.Try.prog 73 := ⟨_, Go.Proofs.Try.func73, by kernel_rfl, by kernel_rfl⟩
theorem reg_Reg_Apply_ref (p0 : Option Addr) (p1 : S_api_Command) (k : (Int) → Heap → Prop) (h : Heap) (H : reg_Reg_Apply p0 p1 k h) : CallsH Go.Proofs.Try.prog 73 #[.pointer p0, .agg (S_api_Command.cs p1).toArray] h (fun v h' => ∃ r : Int, v = .int .i64 r ∧ k r h') := by
  refine f_enter (N := 79) Go.Proofs.Try.func73 rfl rfl rfl (fun w0 => ?_)
  unfold reg_Reg_Apply at H
  refine c_weak [(0, .pointer p0), (1, .agg (S_api_Command.cs p1).toArray)] ⟨rfl, rfl, trivial⟩ ?_
  refine c_seq ?_
  refine c_region ?_
  obtain ⟨b1, h2, eb1, eh2, H⟩ := H
  refine w_h (h_box rfl rfl eb1 eh2) rfl rfl ?_
  refine w_p tok rfl rfl rfl ?_
  refine w_end ?_
  refine x_seq ?_
  refine c_seq ?_
  refine c_seq ?_
  refine c_region ?_
  refine w_p tok rfl rfl rfl ?_
  refine w_p tok rfl rfl rfl ?_
  refine w_p tok rfl rfl rfl ?_
  refine w_cut 4 (α := Bool) (fun (s : Bool) => [(14, .bool s), (0, .pointer p0), (3, .pointer (some (⟨b1, 0, none⟩ : Addr)))]) (fun (s : Bool) h => reg_Reg_Apply_g1 p0 (⟨b1, 0, none⟩ : Addr) s k h) ?_ ?_
  ·
    rintro t14_1 h_1 H
    replace H : reg_Reg_Apply_g1 p0 (⟨b1, 0, none⟩ : Addr) t14_1 k h_1 := H
    unfold reg_Reg_Apply_g1 at H
    refine w_weak [(14, .bool t14_1), (0, .pointer p0), (3, .pointer (some (⟨b1, 0, none⟩ : Addr)))] ⟨rfl, rfl, rfl, trivial⟩ ?_
    refine w_end ?_
    refine x_seq ?_
    refine c_if H rfl (fun H => ?_) (fun H => ?_)
    ·
      refine c_seq ?_
      refine c_region ?_
      refine w_p tok rfl rfl rfl ?_
      refine w_end ?_
      refine x_seq ?_
      refine c_ret ?_
      refine x_tr ?_
      exact x_ret _ rfl _ rfl ⟨1, rfl, H⟩
    ·
      refine c_skip ?_
      refine x_seq ?_
      refine c_seq ?_
      refine c_seq ?_
      refine c_region ?_
      refine w_p tok rfl rfl rfl ?_
      obtain ⟨v3, hv3, H⟩ := H
      refine w_y (y_lda tok rfl rfl rfl rfl rfl hv3) rfl rfl ?_
      refine w_call reg_Reg_asks_ok (reg_Reg_asks_ref _ _ _ _ H) rfl rfl rfl rfl ?_
      rintro _ h5 ⟨r4, rfl, H⟩
      refine w_p tok rfl rfl rfl ?_
      refine w_end ?_
      refine x_seq ?_
      refine c_seq ?_
      refine c_region ?_
      refine w_p tok rfl rfl rfl ?_
      refine w_p tok rfl rfl rfl ?_
      refine w_end ?_
      refine x_seq ?_
      refine c_if H rfl (fun H => ?_) (fun H => ?_)
      ·
        refine c_seq ?_
        refine c_region ?_
        refine w_p tok rfl rfl rfl ?_
        refine w_p tok rfl rfl rfl ?_
        refine w_end ?_
        refine x_seq ?_
        refine c_weak [(4, .int .i64 r4)] ⟨rfl, trivial⟩ ?_
        refine c_ret ?_
        refine x_tr ?_
        exact x_ret _ rfl _ rfl ⟨r4, rfl, H⟩
      ·
        refine c_skip ?_
        refine x_seq ?_
        refine c_weak [(0, .pointer p0), (3, .pointer (some (⟨b1, 0, none⟩ : Addr)))] ⟨rfl, rfl, trivial⟩ ?_
        refine c_seqJ (α := Addr) (fun (s : Addr) => [(6, .pointer (some s)), (0, .pointer p0), (3, .pointer (some (⟨b1, 0, none⟩ : Addr)))]) (fun (s : Addr) h => reg_Reg_Apply_j2 p0 (⟨b1, 0, none⟩ : Addr) s k h) ?_ ?_
        ·
          rintro t6_2 h_2 H
          replace H : reg_Reg_Apply_j2 p0 (⟨b1, 0, none⟩ : Addr) t6_2 k h_2 := H
          unfold reg_Reg_Apply_j2 at H
          refine c_weak [(6, .pointer (some t6_2)), (0, .pointer p0), (3, .pointer (some (⟨b1, 0, none⟩ : Addr)))] ⟨rfl, rfl, rfl, trivial⟩ ?_
          refine c_seqJ (α := Addr) (fun (s : Addr) => [(7, .pointer (some s)), (0, .pointer p0), (3, .pointer (some (⟨b1, 0, none⟩ : Addr))), (6, .pointer (some t6_2))]) (fun (s : Addr) h => reg_Reg_Apply_j3 p0 (⟨b1, 0, none⟩ : Addr) t6_2 s k h) ?_ ?_
          ·
            rintro t7_3 h_3 H
            replace H : reg_Reg_Apply_j3 p0 (⟨b1, 0, none⟩ : Addr) t6_2 t7_3 k h_3 := H
            unfold reg_Reg_Apply_j3 at H
            refine c_weak [(7, .pointer (some t7_3)), (0, .pointer p0), (3, .pointer (some (⟨b1, 0, none⟩ : Addr))), (6, .pointer (some t6_2))] ⟨rfl, rfl, rfl, rfl, trivial⟩ ?_
            refine c_seqJ (α := Unit) (fun (s : Unit) => [(0, .pointer p0), (3, .pointer (some (⟨b1, 0, none⟩ : Addr))), (6, .pointer (some t6_2))]) (fun (s : Unit) h => reg_Reg_Apply_j4 p0 (⟨b1, 0, none⟩ : Addr) t6_2 k h) ?_ ?_
            ·
              rintro _ h_4 H
              replace H : reg_Reg_Apply_j4 p0 (⟨b1, 0, none⟩ : Addr) t6_2 k h_4 := H
              unfold reg_Reg_Apply_j4 at H
              refine c_weak [(0, .pointer p0), (3, .pointer (some (⟨b1, 0, none⟩ : Addr))), (6, .pointer (some t6_2))] ⟨rfl, rfl, rfl, trivial⟩ ?_
              refine c_seq ?_
              refine c_sim [(0, .pointer p0), (3, .pointer (some (⟨b1, 0, none⟩ : Addr))), (6, .pointer (some t6_2))] (by kernel_rfl) (by kernel_rfl) ⟨rfl, rfl, rfl, trivial⟩ (fun wf => ?_)
              refine sim_p 0 (ei := [(0, .pointer p0)]) (d := (some 72)) wf (by kernel_rfl) ⟨rfl, trivial⟩ (by kernel_rfl) (by kernel_rfl) (fun _ => pf_p tok rfl rfl rfl rfl) (fun P_0 => ?_)
              obtain ⟨a6, ha6, H⟩ := H
              refine sim_p 1 (ei := [(72, .pointer p0)]) (d := (some 73)) wf (by kernel_rfl) ⟨rfl, trivial⟩ (by kernel_rfl) (by kernel_rfl) (fun _ => pf_y rfl rfl rfl (y_nil' rfl rfl ha6)) (fun P_1 => ?_)
              refine sim_p 2 (ei := [(73, .pointer (some a6))]) (d := (some 74)) wf (by kernel_rfl) ⟨rfl, trivial⟩ (by kernel_rfl) (by kernel_rfl) (fun _ => pf_p tok rfl rfl rfl rfl) (fun P_2 => ?_)
              obtain ⟨v7, hv7, H⟩ := H
              refine sim_l 3 (ei := [(74, .pointer (some a6))]) (d := (some 75)) wf (by kernel_rfl) ⟨rfl, trivial⟩ (by kernel_rfl) (by kernel_rfl) (pf_y rfl rfl rfl (y_ld tok rfl rfl rfl rfl hv7)) (fun P_3 => ?_)
              refine sim_p 4 (ei := [(3, .pointer (some (⟨b1, 0, none⟩ : Addr)))]) (d := (some 76)) wf (by kernel_rfl) ⟨rfl, trivial⟩ (by kernel_rfl) (by kernel_rfl) (fun _ => pf_p tok rfl rfl rfl rfl) (fun P_4 => ?_)
              obtain ⟨v8, hv8, H⟩ := H
              refine sim_l 5 (ei := [(76, .pointer (some ((⟨b1, 0, none⟩ : Addr).add 1)))]) (d := (some 77)) wf (by kernel_rfl) ⟨rfl, trivial⟩ (by kernel_rfl) (by kernel_rfl) (pf_y rfl rfl rfl (y_ld tok rfl rfl rfl rfl hv8)) (fun P_5 => ?_)
              obtain ⟨v9, hv9, H⟩ := H
              refine sim_l 6 (ei := [(6, .pointer (some t6_2))]) (d := (some 78)) wf (by kernel_rfl) ⟨rfl, trivial⟩ (by kernel_rfl) (by kernel_rfl) (pf_y rfl rfl rfl (y_lda tok rfl rfl rfl rfl rfl hv9)) (fun P_6 => ?_)
              obtain ⟨r10, l11, h12, er10, hl11, eh12, H⟩ := H
              refine sim_h 7 [0, 1, 2, 3, 4, 5, 6] [0, 1, 2, 3, 4, 5, 6] (ei := [(75, .map v7), (77, .string v8), (78, .agg (S_api_Tenant.cs v9).toArray)]) wf ⟨P_6, P_5, P_4 _, P_3, P_2 _, P_1 _, P_0 _, trivial⟩ (by kernel_rfl) ⟨rfl, rfl, rfl, trivial⟩ (by kernel_rfl) rfl rfl rfl (h_mu (K := ByteArray) (V := S_api_Tenant) (d := .string) (kf := Value.string) (vf := (fun v : S_api_Tenant => Value.agg (S_api_Tenant.cs v).toArray)) (kt := 9) (et := 130) (k := v8) (v := v9) (m := v7) (l := l11) rfl rfl rfl rfl (by kernel_rfl) (by kernel_rfl) kStr er10 hl11 eh12) ?_
              refine sim_end wf ⟨trivial, trivial, trivial, trivial, trivial, trivial, trivial, trivial⟩ (by kernel_rfl) ?_
              clear wf P_0 P_1 P_2 P_3 P_4 P_5 P_6
              refine x_seq ?_
              refine c_weak [] trivial ?_
              refine c_seq ?_
              refine c_region ?_
              refine w_p tok rfl rfl rfl ?_
              refine w_end ?_
              refine x_seq ?_
              refine c_ret ?_
              exact x_ret _ rfl _ rfl ⟨0, rfl, H⟩
            ·
              refine c_seq ?_
              refine c_region ?_
              refine w_p tok rfl rfl rfl ?_
              obtain ⟨v13, hv13, H⟩ := H
              refine w_y (y_ld tok rfl rfl rfl rfl hv13) rfl rfl ?_
              refine w_end ?_
              refine x_seq ?_
              refine c_block ?_
              refine c_seq ?_
              refine c_region ?_
              refine w_p tok rfl rfl rfl ?_
              refine w_p tok rfl rfl rfl ?_
              refine w_end ?_
              refine x_seq ?_
              refine c_if H rfl (fun H => ?_) (fun H => ?_)
              ·
                refine c_seq ?_
                refine c_region ?_
                refine w_p tok rfl rfl rfl ?_
                refine w_end ?_
                refine x_seq ?_
                refine c_weak [(4, .int .i64 0)] ⟨rfl, trivial⟩ ?_
                refine c_ret ?_
                refine x_br ?_
                refine x_tr ?_
                exact x_ret _ rfl _ rfl ⟨0, rfl, H⟩
              ·
                refine c_seq ?_
                refine c_region ?_
                refine w_p tok rfl rfl rfl ?_
                refine w_p tok rfl rfl rfl ?_
                refine w_end ?_
                refine x_seq ?_
                refine c_if H rfl (fun H => ?_) (fun H => ?_)
                ·
                  refine c_region ?_
                  refine w_p tok rfl rfl rfl ?_
                  obtain ⟨v14, hv14, H⟩ := H
                  refine w_y (y_ld tok rfl rfl rfl rfl hv14) rfl rfl ?_
                  obtain ⟨v15, hv15, H⟩ := H
                  refine w_y (y_lda tok rfl rfl rfl rfl rfl hv15) rfl rfl ?_
                  obtain ⟨b16, h17, eb16, eh17, H⟩ := H
                  refine w_h (h_bs tok rfl rfl rfl rfl rfl rfl rfl eb16 eh17) rfl rfl ?_
                  refine w_y (y_build tok rfl rfl rfl rfl rfl) rfl rfl ?_
                  obtain ⟨h18, wh18, eh18, H⟩ := H
                  refine w_h (h_sts tok rfl rfl rfl rfl rfl (oneC (by kernel_rfl)) wh18 eh18) rfl rfl ?_
                  refine w_end ?_
                  refine x_blk ?_
                  exact x_join () H ⟨rfl, rfl, rfl, trivial⟩
                ·
                  refine c_seq ?_
                  refine c_region ?_
                  refine w_p tok rfl rfl rfl ?_
                  refine w_p tok rfl rfl rfl ?_
                  refine w_end ?_
                  refine x_seq ?_
                  refine c_if H rfl (fun H => ?_) (fun H => ?_)
                  ·
                    refine c_region ?_
                    refine w_p tok rfl rfl rfl ?_
                    obtain ⟨v19, hv19, H⟩ := H
                    refine w_y (y_ld tok rfl rfl rfl rfl hv19) rfl rfl ?_
                    obtain ⟨v20, hv20, H⟩ := H
                    refine w_y (y_lda tok rfl rfl rfl rfl rfl hv20) rfl rfl ?_
                    obtain ⟨b21, h22, eb21, eh22, H⟩ := H
                    refine w_h (h_bs tok rfl rfl rfl rfl rfl rfl rfl eb21 eh22) rfl rfl ?_
                    refine w_a (a_app (s := v19) (r := (⟨some ⟨b21, 0, none⟩, 1, 1⟩ : Slc)) tok rfl rfl rfl rfl rfl (slcAt_push eb21 eh22) H) rfl rfl ?_
                    rintro _ h24 ⟨s23, rfl, H⟩
                    refine w_p tok rfl rfl rfl ?_
                    obtain ⟨h25, wh25, eh25, H⟩ := H
                    refine w_h (h_st tok rfl rfl rfl rfl rfl rfl wh25 eh25) rfl rfl ?_
                    refine w_end ?_
                    refine x_blk ?_
                    exact x_join () H ⟨rfl, rfl, rfl, trivial⟩
                  ·
                    refine c_seq ?_
                    refine c_region ?_
                    refine w_p tok rfl rfl rfl ?_
                    refine w_p tok rfl rfl rfl ?_
                    refine w_end ?_
                    refine x_seq ?_
                    refine c_weak [(0, .pointer p0), (3, .pointer (some (⟨b1, 0, none⟩ : Addr))), (6, .pointer (some t6_2)), (38, .int .i64 v13), (56, .bool (v13 == 3))] ⟨rfl, rfl, rfl, rfl, rfl, trivial⟩ ?_
                    refine c_if H rfl (fun H => ?_) (fun H => ?_)
                    ·
                      refine c_region ?_
                      refine w_p tok rfl rfl rfl ?_
                      obtain ⟨v26, hv26, H⟩ := H
                      refine w_y (y_ld tok rfl rfl rfl rfl hv26) rfl rfl ?_
                      refine w_y (y_mkf rfl rfl) rfl rfl ?_
                      refine w_call slices_DeleteFunc_api_Wrapped_api_Wrapped__reg_Reg_Apply_1_ok (slices_DeleteFunc_api_Wrapped_api_Wrapped__reg_Reg_Apply_1_ref _ _ _ _ H) rfl rfl rfl rfl ?_
                      rintro _ h28 ⟨r27, rfl, H⟩
                      refine w_p tok rfl rfl rfl ?_
                      obtain ⟨h29, wh29, eh29, H⟩ := H
                      refine w_h (h_st tok rfl rfl rfl rfl rfl rfl wh29 eh29) rfl rfl ?_
                      refine w_end ?_
                      refine x_blk ?_
                      exact x_join () H ⟨rfl, rfl, rfl, trivial⟩
                    ·
                      refine c_seq ?_
                      refine c_region ?_
                      refine w_p tok rfl rfl rfl ?_
                      refine w_p tok rfl rfl rfl ?_
                      refine w_end ?_
                      refine x_seq ?_
                      refine c_if H rfl (fun H => ?_) (fun H => ?_)
                      ·
                        refine c_region ?_
                        refine w_p tok rfl rfl rfl ?_
                        obtain ⟨v30, hv30, H⟩ := H
                        refine w_y (y_ld tok rfl rfl rfl rfl hv30) rfl rfl ?_
                        refine w_p tok rfl rfl rfl ?_
                        obtain ⟨h31, wh31, eh31, H⟩ := H
                        refine w_h (h_st tok rfl rfl rfl rfl rfl rfl wh31 eh31) rfl rfl ?_
                        refine w_end ?_
                        refine x_blk ?_
                        exact x_join () H ⟨rfl, rfl, rfl, trivial⟩
                      ·
                        refine c_seq ?_
                        refine c_region ?_
                        refine w_p tok rfl rfl rfl ?_
                        refine w_p tok rfl rfl rfl ?_
                        refine w_end ?_
                        refine x_seq ?_
                        refine c_if H rfl (fun H => ?_) (fun H => ?_)
                        ·
                          refine c_region ?_
                          refine w_p tok rfl rfl rfl ?_
                          obtain ⟨h32, wh32, eh32, H⟩ := H
                          refine w_h (h_st tok rfl rfl rfl rfl rfl rfl wh32 eh32) rfl rfl ?_
                          refine w_p tok rfl rfl rfl ?_
                          obtain ⟨h33, wh33, eh33, H⟩ := H
                          refine w_h (h_st tok rfl rfl rfl rfl rfl rfl wh33 eh33) rfl rfl ?_
                          refine w_end ?_
                          refine x_blk ?_
                          exact x_join () H ⟨rfl, rfl, rfl, trivial⟩
                        ·
                          refine c_skip ?_
                          refine x_blk ?_
                          exact x_join () H ⟨rfl, rfl, rfl, trivial⟩
          ·
            refine c_sim [(0, .pointer p0), (3, .pointer (some (⟨b1, 0, none⟩ : Addr))), (6, .pointer (some t6_2))] (by kernel_rfl) (by kernel_rfl) ⟨rfl, rfl, rfl, trivial⟩ (fun wf => ?_)
            refine sim_p 0 (ei := [(3, .pointer (some (⟨b1, 0, none⟩ : Addr)))]) (d := (some 29)) wf (by kernel_rfl) ⟨rfl, trivial⟩ (by kernel_rfl) (by kernel_rfl) (fun _ => pf_p tok rfl rfl rfl rfl) (fun P_0 => ?_)
            obtain ⟨v34, hv34, H⟩ := H
            refine sim_l 1 (ei := [(29, .pointer (some ((⟨b1, 0, none⟩ : Addr).add 2)))]) (d := (some 30)) wf (by kernel_rfl) ⟨rfl, trivial⟩ (by kernel_rfl) (by kernel_rfl) (pf_y rfl rfl rfl (y_ld tok rfl rfl rfl rfl hv34)) (fun P_1 => ?_)
            refine sim_p 2 (ei := [(3, .pointer (some (⟨b1, 0, none⟩ : Addr)))]) (d := (some 31)) wf (by kernel_rfl) ⟨rfl, trivial⟩ (by kernel_rfl) (by kernel_rfl) (fun _ => pf_p tok rfl rfl rfl rfl) (fun P_2 => ?_)
            obtain ⟨v35, hv35, H⟩ := H
            refine sim_l 3 (ei := [(31, .pointer (some ((⟨b1, 0, none⟩ : Addr).add 3)))]) (d := (some 32)) wf (by kernel_rfl) ⟨rfl, trivial⟩ (by kernel_rfl) (by kernel_rfl) (pf_y rfl rfl rfl (y_lda tok rfl rfl rfl rfl rfl hv35)) (fun P_3 => ?_)
            refine sim_p 4 (ei := [(3, .pointer (some (⟨b1, 0, none⟩ : Addr)))]) (d := (some 33)) wf (by kernel_rfl) ⟨rfl, trivial⟩ (by kernel_rfl) (by kernel_rfl) (fun _ => pf_p tok rfl rfl rfl rfl) (fun P_4 => ?_)
            obtain ⟨v36, hv36, H⟩ := H
            refine sim_l 5 (ei := [(33, .pointer (some ((⟨b1, 0, none⟩ : Addr).add 15)))]) (d := (some 34)) wf (by kernel_rfl) ⟨rfl, trivial⟩ (by kernel_rfl) (by kernel_rfl) (pf_y rfl rfl rfl (y_ld tok rfl rfl rfl rfl hv36)) (fun P_5 => ?_)
            refine sim_or 6 8 wf ⟨P_5, P_4 _, P_3, P_2 _, P_1, P_0 _, trivial⟩ (by kernel_rfl) (by kernel_rfl) H (fun H => ?_) (fun H => ?_)
            ·
              refine sim_ci 6 [4, 5] [4, 5] (ei := [(34, Slc.v v36)]) slices_Clone_byte_byte_ok (slices_Clone_byte_byte_ref _ _ _ H) wf ⟨P_5, P_4 _, P_3, P_2 _, P_1, P_0 _, trivial⟩ (by kernel_rfl) ⟨rfl, trivial⟩ (by kernel_rfl) rfl rfl rfl rfl rfl ?_
              rintro _ h38 ⟨r37, rfl, H⟩
              obtain ⟨hy39, hy40, H⟩ := H
              refine sim_re (x := ⟨3, .agg (arr 12 .u8 v35).toArray, [(31, .pointer (some ((⟨b1, 0, none⟩ : Addr).add 3)))]⟩) (pf_y rfl rfl rfl (y_lda tok rfl rfl rfl rfl rfl hy39)) (fun P_3 => ?_)
              refine sim_re (x := ⟨1, .int .u32 v34, [(29, .pointer (some ((⟨b1, 0, none⟩ : Addr).add 2)))]⟩) (pf_y rfl rfl rfl (y_ld tok rfl rfl rfl rfl hy40)) (fun P_1 => ?_)
              refine sim_p 7 (ei := [(30, .int .u32 v34), (32, .agg (arr 12 .u8 v35).toArray), (35, Slc.v r37)]) (d := (some 36)) wf (by kernel_rfl) ⟨rfl, rfl, rfl, trivial⟩ (by kernel_rfl) (by kernel_rfl) (fun _ => pf_y rfl rfl rfl (y_build tok rfl rfl rfl rfl rfl)) (fun P_7 => ?_)
              obtain ⟨b41, h42, eb41, eh42, H⟩ := H
              refine sim_h 8 [] [4, 5] (ei := []) wf ⟨P_7 _, trivial, trivial, P_3, P_2 _, P_1, P_0 _, trivial⟩ (by kernel_rfl) trivial (by kernel_rfl) rfl rfl rfl (h_alloc tok rfl rfl eb41 eh42) ?_
              obtain ⟨hy43, hy44, H⟩ := H
              refine sim_re (x := ⟨3, .agg (arr 12 .u8 v35).toArray, [(31, .pointer (some ((⟨b1, 0, none⟩ : Addr).add 3)))]⟩) (pf_y rfl rfl rfl (y_lda tok rfl rfl rfl rfl rfl hy43)) (fun P_3 => ?_)
              refine sim_re (x := ⟨1, .int .u32 v34, [(29, .pointer (some ((⟨b1, 0, none⟩ : Addr).add 2)))]⟩) (pf_y rfl rfl rfl (y_ld tok rfl rfl rfl rfl hy44)) (fun P_1 => ?_)
              obtain ⟨h45, wh45, eh45, H⟩ := H
              refine sim_h 9 [0, 1, 2, 3, 4, 5, 6, 7, 8] [0, 1, 2, 3, 4, 5, 7] (ei := [(7, .pointer (some (⟨b41, 0, none⟩ : Addr))), (36, .agg (S_api_Wrapped.cs (⟨v34, v35, r37⟩ : S_api_Wrapped)).toArray)]) wf ⟨P_7 _, trivial, trivial, P_3, P_2 _, P_1, P_0 _, trivial⟩ (by kernel_rfl) ⟨rfl, rfl, trivial⟩ (by kernel_rfl) rfl rfl rfl (h_sts tok rfl rfl rfl rfl rfl (oneC (by kernel_rfl)) wh45 eh45) ?_
              refine sim_end wf ⟨trivial, trivial, trivial, trivial, trivial, trivial, trivial, trivial⟩ (by kernel_rfl) ?_
              clear wf P_0 P_1 P_2 P_3 P_4 P_5 P_7
              exact x_join (⟨b41, 0, none⟩ : Addr) H ⟨rfl, rfl, rfl, rfl, trivial⟩
            ·
              obtain ⟨b46, h47, eb46, eh47, H⟩ := H
              refine sim_hi 8 [] [] (ei := []) wf ⟨P_5, P_4 _, P_3, P_2 _, P_1, P_0 _, trivial⟩ (by kernel_rfl) trivial (by kernel_rfl) rfl rfl rfl (h_alloc tok rfl rfl eb46 eh47) ?_
              obtain ⟨hy48, hy49, hy50, H⟩ := H
              refine sim_re (x := ⟨5, Slc.v v36, [(33, .pointer (some ((⟨b1, 0, none⟩ : Addr).add 15)))]⟩) (pf_y rfl rfl rfl (y_ld tok rfl rfl rfl rfl hy48)) (fun P_5 => ?_)
              refine sim_re (x := ⟨3, .agg (arr 12 .u8 v35).toArray, [(31, .pointer (some ((⟨b1, 0, none⟩ : Addr).add 3)))]⟩) (pf_y rfl rfl rfl (y_lda tok rfl rfl rfl rfl rfl hy49)) (fun P_3 => ?_)
              refine sim_re (x := ⟨1, .int .u32 v34, [(29, .pointer (some ((⟨b1, 0, none⟩ : Addr).add 2)))]⟩) (pf_y rfl rfl rfl (y_ld tok rfl rfl rfl rfl hy50)) (fun P_1 => ?_)
              refine sim_c 6 [4, 5] [4, 5] (ei := [(34, Slc.v v36)]) slices_Clone_byte_byte_ok (slices_Clone_byte_byte_ref _ _ _ H) wf ⟨P_5, P_4 _, P_3, P_2 _, P_1, P_0 _, trivial⟩ (by kernel_rfl) ⟨rfl, trivial⟩ (by kernel_rfl) rfl rfl rfl rfl rfl ?_
              rintro _ h52 ⟨r51, rfl, H⟩
              obtain ⟨hy53, hy54, H⟩ := H
              refine sim_re (x := ⟨3, .agg (arr 12 .u8 v35).toArray, [(31, .pointer (some ((⟨b1, 0, none⟩ : Addr).add 3)))]⟩) (pf_y rfl rfl rfl (y_lda tok rfl rfl rfl rfl rfl hy53)) (fun P_3 => ?_)
              refine sim_re (x := ⟨1, .int .u32 v34, [(29, .pointer (some ((⟨b1, 0, none⟩ : Addr).add 2)))]⟩) (pf_y rfl rfl rfl (y_ld tok rfl rfl rfl rfl hy54)) (fun P_1 => ?_)
              refine sim_p 7 (ei := [(30, .int .u32 v34), (32, .agg (arr 12 .u8 v35).toArray), (35, Slc.v r51)]) (d := (some 36)) wf (by kernel_rfl) ⟨rfl, rfl, rfl, trivial⟩ (by kernel_rfl) (by kernel_rfl) (fun _ => pf_y rfl rfl rfl (y_build tok rfl rfl rfl rfl rfl)) (fun P_7 => ?_)
              obtain ⟨h55, wh55, eh55, H⟩ := H
              refine sim_h 9 [0, 1, 2, 3, 4, 5, 6, 7, 8] [0, 1, 2, 3, 4, 5, 7] (ei := [(7, .pointer (some (⟨b46, 0, none⟩ : Addr))), (36, .agg (S_api_Wrapped.cs (⟨v34, v35, r51⟩ : S_api_Wrapped)).toArray)]) wf ⟨P_7 _, trivial, trivial, P_3, P_2 _, P_1, P_0 _, trivial⟩ (by kernel_rfl) ⟨rfl, rfl, trivial⟩ (by kernel_rfl) rfl rfl rfl (h_sts tok rfl rfl rfl rfl rfl (oneC (by kernel_rfl)) wh55 eh55) ?_
              refine sim_end wf ⟨trivial, trivial, trivial, trivial, trivial, trivial, trivial, trivial⟩ (by kernel_rfl) ?_
              clear wf P_0 P_1 P_2 P_3 P_4 P_5 P_7
              exact x_join (⟨b46, 0, none⟩ : Addr) H ⟨rfl, rfl, rfl, rfl, trivial⟩
        ·
          refine c_sim [(0, .pointer p0), (3, .pointer (some (⟨b1, 0, none⟩ : Addr)))] (by kernel_rfl) (by kernel_rfl) ⟨rfl, rfl, trivial⟩ (fun wf => ?_)
          refine sim_p 0 (ei := [(0, .pointer p0)]) (d := (some 21)) wf (by kernel_rfl) ⟨rfl, trivial⟩ (by kernel_rfl) (by kernel_rfl) (fun _ => pf_p tok rfl rfl rfl rfl) (fun P_0 => ?_)
          obtain ⟨a56, ha56, H⟩ := H
          refine sim_p 1 (ei := [(21, .pointer p0)]) (d := (some 22)) wf (by kernel_rfl) ⟨rfl, trivial⟩ (by kernel_rfl) (by kernel_rfl) (fun _ => pf_y rfl rfl rfl (y_nil' rfl rfl ha56)) (fun P_1 => ?_)
          refine sim_p 2 (ei := [(22, .pointer (some a56))]) (d := (some 23)) wf (by kernel_rfl) ⟨rfl, trivial⟩ (by kernel_rfl) (by kernel_rfl) (fun _ => pf_p tok rfl rfl rfl rfl) (fun P_2 => ?_)
          obtain ⟨v57, hv57, H⟩ := H
          refine sim_l 3 (ei := [(23, .pointer (some a56))]) (d := (some 24)) wf (by kernel_rfl) ⟨rfl, trivial⟩ (by kernel_rfl) (by kernel_rfl) (pf_y rfl rfl rfl (y_ld tok rfl rfl rfl rfl hv57)) (fun P_3 => ?_)
          refine sim_p 4 (ei := [(3, .pointer (some (⟨b1, 0, none⟩ : Addr)))]) (d := (some 25)) wf (by kernel_rfl) ⟨rfl, trivial⟩ (by kernel_rfl) (by kernel_rfl) (fun _ => pf_p tok rfl rfl rfl rfl) (fun P_4 => ?_)
          obtain ⟨v58, hv58, H⟩ := H
          refine sim_l 5 (ei := [(25, .pointer (some ((⟨b1, 0, none⟩ : Addr).add 1)))]) (d := (some 26)) wf (by kernel_rfl) ⟨rfl, trivial⟩ (by kernel_rfl) (by kernel_rfl) (pf_y rfl rfl rfl (y_ld tok rfl rfl rfl rfl hv58)) (fun P_5 => ?_)
          obtain ⟨l59, hl59, H⟩ := H
          refine sim_l 6 (ei := [(24, .map v57), (26, .string v58)]) (d := (some 27)) wf (by kernel_rfl) ⟨rfl, rfl, trivial⟩ (by kernel_rfl) (by kernel_rfl) (pf_y rfl rfl rfl (y_lk (K := ByteArray) (V := S_api_Tenant) (d := .string) (kf := Value.string) (vf := (fun v : S_api_Tenant => Value.agg (S_api_Tenant.cs v).toArray)) (kt := 9) (et := 130) (k := v58) (z := (⟨ByteArray.empty, (⟨none, 0, 0⟩ : Slc), 0, false⟩ : S_api_Tenant)) (m := v57) (l := l59) rfl rfl rfl (by kernel_rfl) (by kernel_rfl) kStr (zero_a tok (T := tab) rfl rfl rfl) hl59)) (fun P_6 => ?_)
          refine sim_or 7 8 wf ⟨P_6, P_5, P_4 _, P_3, P_2 _, P_1 _, P_0 _, trivial⟩ (by kernel_rfl) (by kernel_rfl) H (fun H => ?_) (fun H => ?_)
          ·
            refine sim_ci 7 [0, 1, 2, 3, 4, 5, 6] [0, 1, 2, 3, 4, 5, 6] (ei := [(27, .agg (S_api_Tenant.cs ((mget l59 v58).getD (⟨ByteArray.empty, (⟨none, 0, 0⟩ : Slc), 0, false⟩ : S_api_Tenant))).toArray)]) reg_copied_ok (reg_copied_ref _ _ _ H) wf ⟨P_6, P_5, P_4 _, P_3, P_2 _, P_1 _, P_0 _, trivial⟩ (by kernel_rfl) ⟨rfl, trivial⟩ (by kernel_rfl) rfl rfl rfl rfl rfl ?_
            rintro _ h61 ⟨r60, rfl, H⟩
            obtain ⟨b62, h63, eb62, eh63, H⟩ := H
            refine sim_h 8 [] [0, 1, 2, 3, 4, 5, 6] (ei := []) wf ⟨trivial, trivial, trivial, trivial, trivial, trivial, trivial, trivial⟩ (by kernel_rfl) trivial (by kernel_rfl) rfl rfl rfl (h_alloc tok rfl rfl eb62 eh63) ?_
            obtain ⟨h64, wh64, eh64, H⟩ := H
            refine sim_h 9 [0, 1, 2, 3, 4, 5, 6, 7, 8] [0, 1, 2, 3, 4, 5, 6] (ei := [(6, .pointer (some (⟨b62, 0, none⟩ : Addr))), (28, .agg (S_api_Tenant.cs r60).toArray)]) wf ⟨trivial, trivial, trivial, trivial, trivial, trivial, trivial, trivial⟩ (by kernel_rfl) ⟨rfl, rfl, trivial⟩ (by kernel_rfl) rfl rfl rfl (h_sts tok rfl rfl rfl rfl rfl (oneC (by kernel_rfl)) wh64 eh64) ?_
            refine sim_end wf ⟨trivial, trivial, trivial, trivial, trivial, trivial, trivial, trivial⟩ (by kernel_rfl) ?_
            clear wf P_0 P_1 P_2 P_3 P_4 P_5 P_6
            exact x_join (⟨b62, 0, none⟩ : Addr) H ⟨rfl, rfl, rfl, trivial⟩
          ·
            obtain ⟨b65, h66, eb65, eh66, H⟩ := H
            refine sim_hi 8 [] [] (ei := []) wf ⟨P_6, P_5, P_4 _, P_3, P_2 _, P_1 _, P_0 _, trivial⟩ (by kernel_rfl) trivial (by kernel_rfl) rfl rfl rfl (h_alloc tok rfl rfl eb65 eh66) ?_
            obtain ⟨hy67, hy68, hy69, H⟩ := H
            refine sim_re (x := ⟨6, .agg (S_api_Tenant.cs ((mget l59 v58).getD (⟨ByteArray.empty, (⟨none, 0, 0⟩ : Slc), 0, false⟩ : S_api_Tenant))).toArray, [(24, .map v57), (26, .string v58)]⟩) (pf_y rfl rfl rfl (y_lk (K := ByteArray) (V := S_api_Tenant) (d := .string) (kf := Value.string) (vf := (fun v : S_api_Tenant => Value.agg (S_api_Tenant.cs v).toArray)) (kt := 9) (et := 130) (k := v58) (z := (⟨ByteArray.empty, (⟨none, 0, 0⟩ : Slc), 0, false⟩ : S_api_Tenant)) (m := v57) (l := l59) rfl rfl rfl (by kernel_rfl) (by kernel_rfl) kStr (zero_a tok (T := tab) rfl rfl rfl) hy67)) (fun P_6 => ?_)
            refine sim_re (x := ⟨5, .string v58, [(25, .pointer (some ((⟨b1, 0, none⟩ : Addr).add 1)))]⟩) (pf_y rfl rfl rfl (y_ld tok rfl rfl rfl rfl hy68)) (fun P_5 => ?_)
            refine sim_re (x := ⟨3, .map v57, [(23, .pointer (some a56))]⟩) (pf_y rfl rfl rfl (y_ld tok rfl rfl rfl rfl hy69)) (fun P_3 => ?_)
            refine sim_c 7 [0, 1, 2, 3, 4, 5, 6] [0, 1, 2, 3, 4, 5, 6] (ei := [(27, .agg (S_api_Tenant.cs ((mget l59 v58).getD (⟨ByteArray.empty, (⟨none, 0, 0⟩ : Slc), 0, false⟩ : S_api_Tenant))).toArray)]) reg_copied_ok (reg_copied_ref _ _ _ H) wf ⟨P_6, P_5, P_4 _, P_3, P_2 _, P_1 _, P_0 _, trivial⟩ (by kernel_rfl) ⟨rfl, trivial⟩ (by kernel_rfl) rfl rfl rfl rfl rfl ?_
            rintro _ h71 ⟨r70, rfl, H⟩
            obtain ⟨h72, wh72, eh72, H⟩ := H
            refine sim_h 9 [0, 1, 2, 3, 4, 5, 6, 7, 8] [0, 1, 2, 3, 4, 5, 6] (ei := [(6, .pointer (some (⟨b65, 0, none⟩ : Addr))), (28, .agg (S_api_Tenant.cs r70).toArray)]) wf ⟨trivial, trivial, trivial, trivial, trivial, trivial, trivial, trivial⟩ (by kernel_rfl) ⟨rfl, rfl, trivial⟩ (by kernel_rfl) rfl rfl rfl (h_sts tok rfl rfl rfl rfl rfl (oneC (by kernel_rfl)) wh72 eh72) ?_
            refine sim_end wf ⟨trivial, trivial, trivial, trivial, trivial, trivial, trivial, trivial⟩ (by kernel_rfl) ?_
            clear wf P_0 P_1 P_2 P_3 P_4 P_5 P_6
            exact x_join (⟨b65, 0, none⟩ : Addr) H ⟨rfl, rfl, rfl, trivial⟩
  ·
    refine w_gif (d := 10) H rfl (fun H => ?_) (fun H => ?_)
    ·
      refine w_skip rfl rfl ?_
      refine w_skip rfl rfl ?_
      refine w_skip rfl rfl ?_
      refine w_p tok rfl rfl rfl ?_
      exact w_jn true H ⟨rfl, rfl, rfl, trivial⟩
    ·
      obtain ⟨v73, hv73, H⟩ := H
      refine w_y (y_lda tok rfl rfl rfl rfl rfl hv73) rfl rfl ?_
      refine w_call reg_may_ok (reg_may_ref _ _ _ H) rfl rfl rfl rfl ?_
      rintro _ h75 ⟨r74, rfl, H⟩
      refine w_p tok rfl rfl rfl ?_
      refine w_p tok rfl rfl rfl ?_
      exact w_jn (!r74) H ⟨rfl, rfl, rfl, trivial⟩

theorem reg_New_ok : CallOk Go.Proofs.Try.prog 72 := ⟨_, Go.Proofs.Try.func72, by kernel_rfl, by kernel_rfl⟩
theorem reg_New_ref (k : (Option Addr) → Heap → Prop) (h : Heap) (H : reg_New k h) : CallsH Go.Proofs.Try.prog 72 #[] h (fun v h' => ∃ r : Option Addr, v = .pointer r ∧ k r h') := by
  refine f_enter (N := 4) Go.Proofs.Try.func72 rfl rfl rfl (fun w0 => ?_)
  unfold reg_New at H
  refine c_seq ?_
  refine c_region ?_
  refine w_p tok rfl rfl rfl ?_
  refine w_end ?_
  refine x_seq ?_
  refine c_seq ?_
  refine c_region ?_
  obtain ⟨b1, h2, eb1, eh2, H⟩ := H
  refine w_h (h_mkm rfl eb1 eh2) rfl rfl ?_
  refine w_y (y_build tok rfl rfl rfl rfl rfl) rfl rfl ?_
  obtain ⟨b3, h4, eb3, eh4, H⟩ := H
  refine w_h (h_box rfl rfl eb3 eh4) rfl rfl ?_
  refine w_p tok rfl rfl rfl ?_
  refine w_end ?_
  refine x_seq ?_
  refine c_ret ?_
  exact x_ret _ rfl _ rfl ⟨(some (⟨b3, 0, none⟩ : Addr)), rfl, H⟩

theorem reg_Reg_Tenant_ok : CallOk Go.Proofs.Try.prog 77 := ⟨_, Go.Proofs.Try.func77, by kernel_rfl, by kernel_rfl⟩
theorem reg_Reg_Tenant_ref (p0 : Option Addr) (p1 : ByteArray) (k : (S_api_Tenant × Int) → Heap → Prop) (h : Heap) (H : reg_Reg_Tenant p0 p1 k h) : CallsH Go.Proofs.Try.prog 77 #[.pointer p0, .string p1] h (fun v h' => ∃ r : S_api_Tenant × Int, v = .tuple #[.agg (S_api_Tenant.cs r.1).toArray, .int .i64 r.2] ∧ k r h') := by
  refine f_enter (N := 25) Go.Proofs.Try.func77 rfl rfl rfl (fun w0 => ?_)
  unfold reg_Reg_Tenant at H
  refine c_weak [(0, .pointer p0), (1, .string p1)] ⟨rfl, rfl, trivial⟩ ?_
  refine c_seq ?_
  refine c_region ?_
  obtain ⟨b1, h2, eb1, eh2, H⟩ := H
  refine w_h (h_alloc tok rfl rfl eb1 eh2) rfl rfl ?_
  refine w_p tok rfl rfl rfl ?_
  refine w_end ?_
  refine x_seq ?_
  refine c_seq ?_
  refine c_seq ?_
  refine c_region ?_
  refine w_p tok rfl rfl rfl ?_
  refine w_p tok rfl rfl rfl ?_
  refine w_end ?_
  refine x_seq ?_
  refine c_if H rfl (fun H => ?_) (fun H => ?_)
  ·
    refine c_seq ?_
    refine c_region ?_
    refine w_y (y_build tok rfl rfl rfl rfl rfl) rfl rfl ?_
    obtain ⟨h3, wh3, eh3, H⟩ := H
    refine w_h (h_sts tok rfl rfl rfl rfl rfl (oneC (by kernel_rfl)) wh3 eh3) rfl rfl ?_
    refine w_p tok rfl rfl rfl ?_
    refine w_end ?_
    refine x_seq ?_
    refine c_ret ?_
    refine x_tr ?_
    obtain ⟨v4, hv4, H⟩ := H
    exact x_retc tok _ rfl [.agg (S_api_Tenant.cs v4).toArray, .int .i64 16] ⟨⟨_, _, rfl, rfl, .inr ⟨rfl, _, rfl, rfl, hv4⟩⟩, rfl, trivial⟩ ⟨(v4, 16), rfl, H⟩
  ·
    refine c_skip ?_
    refine x_seq ?_
    refine c_seq ?_
    refine c_region ?_
    refine w_p tok rfl rfl rfl ?_
    obtain ⟨a5, ha5, H⟩ := H
    refine w_y (y_nil' rfl rfl ha5) rfl rfl ?_
    refine w_p tok rfl rfl rfl ?_
    obtain ⟨v6, hv6, H⟩ := H
    refine w_y (y_ld tok rfl rfl rfl rfl hv6) rfl rfl ?_
    refine w_p tok rfl rfl rfl ?_
    obtain ⟨l7, hl7, H⟩ := H
    refine w_y (y_lk2 (K := ByteArray) (V := S_api_Tenant) (d := .string) (kf := Value.string) (vf := (fun v : S_api_Tenant => Value.agg (S_api_Tenant.cs v).toArray)) (kt := 9) (et := 130) (k := p1) (z := (⟨ByteArray.empty, (⟨none, 0, 0⟩ : Slc), 0, false⟩ : S_api_Tenant)) (m := v6) (l := l7) rfl rfl rfl (by kernel_rfl) (by kernel_rfl) kStr (zero_a tok (T := tab) rfl rfl rfl) hl7) rfl rfl ?_
    refine w_p tok rfl rfl rfl ?_
    refine w_p tok rfl rfl rfl ?_
    refine w_p tok rfl rfl rfl ?_
    obtain ⟨b8, h9, eb8, eh9, H⟩ := H
    refine w_h (h_alloc tok rfl rfl eb8 eh9) rfl rfl ?_
    obtain ⟨h10, wh10, eh10, H⟩ := H
    refine w_h (h_sts tok rfl rfl rfl rfl rfl (oneC (by kernel_rfl)) wh10 eh10) rfl rfl ?_
    refine w_p tok rfl rfl rfl ?_
    refine w_end ?_
    refine x_seq ?_
    refine c_weak [(4, .pointer (some (⟨b1, 0, none⟩ : Addr))), (6, .pointer (some (⟨b8, 0, none⟩ : Addr))), (7, .bool ((mget l7 p1).isSome))] ⟨rfl, rfl, rfl, trivial⟩ ?_
    refine c_seq ?_
    refine c_seq ?_
    refine c_region ?_
    refine w_p tok rfl rfl rfl ?_
    refine w_p tok rfl rfl rfl ?_
    refine w_end ?_
    refine x_seq ?_
    refine c_if H rfl (fun H => ?_) (fun H => ?_)
    ·
      refine c_seq ?_
      refine c_region ?_
      refine w_y (y_build tok rfl rfl rfl rfl rfl) rfl rfl ?_
      obtain ⟨h11, wh11, eh11, H⟩ := H
      refine w_h (h_sts tok rfl rfl rfl rfl rfl (oneC (by kernel_rfl)) wh11 eh11) rfl rfl ?_
      refine w_p tok rfl rfl rfl ?_
      refine w_end ?_
      refine x_seq ?_
      refine c_ret ?_
      refine x_tr ?_
      obtain ⟨v12, hv12, H⟩ := H
      exact x_retc tok _ rfl [.agg (S_api_Tenant.cs v12).toArray, .int .i64 16] ⟨⟨_, _, rfl, rfl, .inr ⟨rfl, _, rfl, rfl, hv12⟩⟩, rfl, trivial⟩ ⟨(v12, 16), rfl, H⟩
    ·
      refine c_skip ?_
      refine x_seq ?_
      refine c_seq ?_
      refine c_region ?_
      obtain ⟨v13, hv13, H⟩ := H
      refine w_y (y_lda tok rfl rfl rfl rfl rfl hv13) rfl rfl ?_
      refine w_call reg_copied_ok (reg_copied_ref _ _ _ H) rfl rfl rfl rfl ?_
      rintro _ h15 ⟨r14, rfl, H⟩
      obtain ⟨h16, wh16, eh16, H⟩ := H
      refine w_h (h_sts tok rfl rfl rfl rfl rfl (oneC (by kernel_rfl)) wh16 eh16) rfl rfl ?_
      refine w_p tok rfl rfl rfl ?_
      refine w_end ?_
      refine x_seq ?_
      refine c_ret ?_
      obtain ⟨v17, hv17, H⟩ := H
      exact x_retc tok _ rfl [.agg (S_api_Tenant.cs v17).toArray, .int .i64 0] ⟨⟨_, _, rfl, rfl, .inr ⟨rfl, _, rfl, rfl, hv17⟩⟩, rfl, trivial⟩ ⟨(v17, 0), rfl, H⟩

theorem reg_Reg_Epoch_ok : CallOk Go.Proofs.Try.prog 78 := ⟨_, Go.Proofs.Try.func78, by kernel_rfl, by kernel_rfl⟩
theorem reg_Reg_Epoch_ref (p0 : Option Addr) (p1 : ByteArray) (k : (Int) → Heap → Prop) (h : Heap) (H : reg_Reg_Epoch p0 p1 k h) : CallsH Go.Proofs.Try.prog 78 #[.pointer p0, .string p1] h (fun v h' => ∃ r : Int, v = .int .u32 r ∧ k r h') := by
  refine f_enter (N := 14) Go.Proofs.Try.func78 rfl rfl rfl (fun w0 => ?_)
  unfold reg_Reg_Epoch at H
  refine c_weak [(0, .pointer p0), (1, .string p1)] ⟨rfl, rfl, trivial⟩ ?_
  refine c_seq ?_
  refine c_region ?_
  refine w_p tok rfl rfl rfl ?_
  refine w_end ?_
  refine x_seq ?_
  refine c_seq ?_
  refine c_seq ?_
  refine c_region ?_
  refine w_p tok rfl rfl rfl ?_
  refine w_p tok rfl rfl rfl ?_
  refine w_end ?_
  refine x_seq ?_
  refine c_if H rfl (fun H => ?_) (fun H => ?_)
  ·
    refine c_seq ?_
    refine c_region ?_
    refine w_p tok rfl rfl rfl ?_
    refine w_end ?_
    refine x_seq ?_
    refine c_ret ?_
    refine x_tr ?_
    exact x_ret _ rfl _ rfl ⟨0, rfl, H⟩
  ·
    refine c_skip ?_
    refine x_seq ?_
    refine c_seq ?_
    refine c_region ?_
    refine w_p tok rfl rfl rfl ?_
    obtain ⟨a1, ha1, H⟩ := H
    refine w_y (y_nil' rfl rfl ha1) rfl rfl ?_
    refine w_p tok rfl rfl rfl ?_
    obtain ⟨v2, hv2, H⟩ := H
    refine w_y (y_ld tok rfl rfl rfl rfl hv2) rfl rfl ?_
    refine w_p tok rfl rfl rfl ?_
    obtain ⟨l3, hl3, H⟩ := H
    refine w_y (y_lk (K := ByteArray) (V := S_api_Tenant) (d := .string) (kf := Value.string) (vf := (fun v : S_api_Tenant => Value.agg (S_api_Tenant.cs v).toArray)) (kt := 9) (et := 130) (k := p1) (z := (⟨ByteArray.empty, (⟨none, 0, 0⟩ : Slc), 0, false⟩ : S_api_Tenant)) (m := v2) (l := l3) rfl rfl rfl (by kernel_rfl) (by kernel_rfl) kStr (zero_a tok (T := tab) rfl rfl rfl) hl3) rfl rfl ?_
    refine w_call reg_epoch_ok (reg_epoch_ref _ _ _ H) rfl rfl rfl rfl ?_
    rintro _ h5 ⟨r4, rfl, H⟩
    refine w_p tok rfl rfl rfl ?_
    refine w_end ?_
    refine x_seq ?_
    refine c_weak [(4, .int .u32 r4)] ⟨rfl, trivial⟩ ?_
    refine c_ret ?_
    exact x_ret _ rfl _ rfl ⟨r4, rfl, H⟩

theorem law25_awake_ok : CallOk Go.Proofs.Try.prog 25 := ⟨_, Go.Proofs.Try.func25, by kernel_rfl, by kernel_rfl⟩
theorem law25_awake_ref (k : (Bool) → Heap → Prop) (h : Heap) (H : law25_awake k h) : CallsH Go.Proofs.Try.prog 25 #[] h (fun v h' => ∃ r : Bool, v = .bool r ∧ k r h') := by
  refine f_enter (N := 59) Go.Proofs.Try.func25 rfl rfl rfl (fun w0 => ?_)
  unfold law25_awake at H
  refine c_seq ?_
  refine c_region ?_
  refine w_p tok rfl rfl rfl ?_
  refine w_end ?_
  refine x_seq ?_
  refine c_seq ?_
  refine c_region ?_
  refine w_call reg_New_ok (reg_New_ref  _ _ H) rfl rfl rfl rfl ?_
  rintro _ h2 ⟨r1, rfl, H⟩
  refine w_p tok rfl rfl rfl ?_
  refine w_end ?_
  refine x_seq ?_
  refine c_seq ?_
  refine c_region ?_
  obtain ⟨b3, h4, ph4, qh4, rh4, th4, eb3, eh4, H⟩ := H
  refine w_h (h_mk tok rfl rfl rfl rfl rfl rfl ph4 qh4 rh4 th4 eb3 eh4) rfl rfl ?_
  refine w_p tok rfl rfl rfl ?_
  refine w_end ?_
  refine x_seq ?_
  refine c_seq ?_
  refine c_region ?_
  refine w_p tok rfl rfl rfl ?_
  refine w_p tok rfl rfl rfl ?_
  refine w_y (y_build tok rfl rfl rfl rfl rfl) rfl rfl ?_
  refine w_call reg_Reg_Apply_ok (reg_Reg_Apply_ref _ _ _ _ H) rfl rfl rfl rfl ?_
  rintro _ h6 ⟨r5, rfl, H⟩
  refine w_p tok rfl rfl rfl ?_
  refine w_end ?_
  refine x_seq ?_
  refine c_weak [(1, .pointer r1), (2, Slc.v (⟨some ⟨b3, 0, none⟩, (48 : Int).toNat, (48 : Int).toNat⟩ : Slc)), (3, .int .i64 r5)] ⟨rfl, rfl, rfl, trivial⟩ ?_
  refine c_seq ?_
  refine c_region ?_
  refine w_p tok rfl rfl rfl ?_
  refine w_p tok rfl rfl rfl ?_
  refine w_y (y_build tok rfl rfl rfl rfl rfl) rfl rfl ?_
  refine w_call reg_Reg_Apply_ok (reg_Reg_Apply_ref _ _ _ _ H) rfl rfl rfl rfl ?_
  rintro _ h8 ⟨r7, rfl, H⟩
  refine w_p tok rfl rfl rfl ?_
  refine w_end ?_
  refine x_seq ?_
  refine c_seq ?_
  refine c_region ?_
  refine w_p tok rfl rfl rfl ?_
  refine w_y (y_build tok rfl rfl rfl rfl rfl) rfl rfl ?_
  refine w_call reg_Reg_Apply_ok (reg_Reg_Apply_ref _ _ _ _ H) rfl rfl rfl rfl ?_
  rintro _ h10 ⟨r9, rfl, H⟩
  refine w_p tok rfl rfl rfl ?_
  refine w_end ?_
  refine x_seq ?_
  refine c_weak [(1, .pointer r1), (3, .int .i64 r5), (4, .int .i64 r7), (5, .int .i64 r9)] ⟨rfl, rfl, rfl, rfl, trivial⟩ ?_
  refine c_seq ?_
  refine c_region ?_
  refine w_p tok rfl rfl rfl ?_
  refine w_call reg_Reg_Tenant_ok (reg_Reg_Tenant_ref _ _ _ _ H) rfl rfl rfl rfl ?_
  rintro _ h12 ⟨r11, rfl, H⟩
  refine w_p tok rfl rfl rfl ?_
  refine w_p tok rfl rfl rfl ?_
  refine w_p tok rfl rfl rfl ?_
  obtain ⟨b13, h14, eb13, eh14, H⟩ := H
  refine w_h (h_alloc tok rfl rfl eb13 eh14) rfl rfl ?_
  obtain ⟨h15, wh15, eh15, H⟩ := H
  refine w_h (h_sts tok rfl rfl rfl rfl rfl (oneC (by kernel_rfl)) wh15 eh15) rfl rfl ?_
  refine w_p tok rfl rfl rfl ?_
  refine w_end ?_
  refine x_seq ?_
  refine c_seq ?_
  refine c_region ?_
  refine w_p tok rfl rfl rfl ?_
  refine w_p tok rfl rfl rfl ?_
  refine w_p tok rfl rfl rfl ?_
  refine w_cutU 3 [(31, .bool ((r5 == 0) && (r7 == 0))), (1, .pointer r1), (5, .int .i64 r9), (6, .pointer (some (⟨b13, 0, none⟩ : Addr))), (7, .int .i64 r11.2)] ?_ ?_
  ·
    refine w_p tok rfl rfl rfl ?_
    refine w_cutU 3 [(35, .bool (((r5 == 0) && (r7 == 0)) && (r9 == 0))), (1, .pointer r1), (6, .pointer (some (⟨b13, 0, none⟩ : Addr))), (7, .int .i64 r11.2)] ?_ ?_
    ·
      refine w_p tok rfl rfl rfl ?_
      refine w_cutU 3 [(39, .bool ((((r5 == 0) && (r7 == 0)) && (r9 == 0)) && (r11.2 == 0))), (1, .pointer r1), (6, .pointer (some (⟨b13, 0, none⟩ : Addr)))] ?_ ?_
      ·
        refine w_p tok rfl rfl rfl ?_
        refine w_cut 5 (α := Bool) (fun (s : Bool) => [(45, .bool s), (1, .pointer r1), (6, .pointer (some (⟨b13, 0, none⟩ : Addr)))]) (fun (s : Bool) h => law25_awake_g1 r1 (⟨b13, 0, none⟩ : Addr) s k h) ?_ ?_
        ·
          rintro t45_1 h_1 H
          replace H : law25_awake_g1 r1 (⟨b13, 0, none⟩ : Addr) t45_1 k h_1 := H
          unfold law25_awake_g1 at H
          refine w_weak [(45, .bool t45_1), (1, .pointer r1), (6, .pointer (some (⟨b13, 0, none⟩ : Addr)))] ⟨rfl, rfl, rfl, trivial⟩ ?_
          refine w_p tok rfl rfl rfl ?_
          refine w_cut 7 (α := Bool) (fun (s : Bool) => [(53, .bool s), (1, .pointer r1)]) (fun (s : Bool) h => law25_awake_g2 r1 s k h) ?_ ?_
          ·
            rintro t53_2 h_2 H
            replace H : law25_awake_g2 r1 t53_2 k h_2 := H
            unfold law25_awake_g2 at H
            refine w_weak [(53, .bool t53_2), (1, .pointer r1)] ⟨rfl, rfl, trivial⟩ ?_
            refine w_p tok rfl rfl rfl ?_
            refine w_cut 4 (α := Bool) (fun (s : Bool) => [(58, .bool s)]) (fun (s : Bool) h => law25_awake_g3 s k h) ?_ ?_
            ·
              rintro t58_3 h_3 H
              replace H : law25_awake_g3 t58_3 k h_3 := H
              unfold law25_awake_g3 at H
              refine w_weak [(58, .bool t58_3)] ⟨rfl, trivial⟩ ?_
              refine w_p tok rfl rfl rfl ?_
              refine w_end ?_
              refine x_seq ?_
              refine c_ret ?_
              exact x_ret _ rfl _ rfl ⟨t58_3, rfl, H⟩
            ·
              refine w_gif (d := 54) H rfl (fun H => ?_) (fun H => ?_)
              ·
                refine w_p tok rfl rfl rfl ?_
                refine w_call reg_Reg_Epoch_ok (reg_Reg_Epoch_ref _ _ _ _ H) rfl rfl rfl rfl ?_
                rintro _ h17 ⟨r16, rfl, H⟩
                refine w_p tok rfl rfl rfl ?_
                refine w_p tok rfl rfl rfl ?_
                exact w_jn (r16 == 2) H ⟨rfl, trivial⟩
              ·
                refine w_skip rfl rfl ?_
                refine w_skip rfl rfl ?_
                refine w_skip rfl rfl ?_
                refine w_p tok rfl rfl rfl ?_
                exact w_jn false H ⟨rfl, trivial⟩
          ·
            refine w_gif (d := 46) H rfl (fun H => ?_) (fun H => ?_)
            ·
              refine w_p tok rfl rfl rfl ?_
              obtain ⟨v18, hv18, H⟩ := H
              refine w_y (y_ld tok rfl rfl rfl rfl hv18) rfl rfl ?_
              obtain ⟨a19, ha19, la19, ua19, H⟩ := H
              refine w_y (y_ixa' tok rfl rfl ha19 rfl rfl rfl la19 ua19) rfl rfl ?_
              refine w_p tok rfl rfl rfl ?_
              obtain ⟨v20, hv20, H⟩ := H
              refine w_y (y_ld tok rfl rfl rfl rfl hv20) rfl rfl ?_
              refine w_p tok rfl rfl rfl ?_
              refine w_p tok rfl rfl rfl ?_
              exact w_jn (v20 == 2) H ⟨rfl, rfl, trivial⟩
            ·
              refine w_skip rfl rfl ?_
              refine w_skip rfl rfl ?_
              refine w_skip rfl rfl ?_
              refine w_skip rfl rfl ?_
              refine w_skip rfl rfl ?_
              refine w_skip rfl rfl ?_
              refine w_p tok rfl rfl rfl ?_
              exact w_jn false H ⟨rfl, rfl, trivial⟩
        ·
          refine w_gif (d := 40) H rfl (fun H => ?_) (fun H => ?_)
          ·
            refine w_p tok rfl rfl rfl ?_
            obtain ⟨v21, hv21, H⟩ := H
            refine w_y (y_ld tok rfl rfl rfl rfl hv21) rfl rfl ?_
            refine w_p tok rfl rfl rfl ?_
            refine w_p tok rfl rfl rfl ?_
            refine w_p tok rfl rfl rfl ?_
            exact w_jn ((v21.len : Int) == 1) H ⟨rfl, rfl, rfl, trivial⟩
          ·
            refine w_skip rfl rfl ?_
            refine w_skip rfl rfl ?_
            refine w_skip rfl rfl ?_
            refine w_skip rfl rfl ?_
            refine w_p tok rfl rfl rfl ?_
            exact w_jn false H ⟨rfl, rfl, rfl, trivial⟩
      ·
        refine w_gs (d := 36) rfl (fun hb => ?_) (fun hb => ?_)
        ·
          refine w_p tok rfl rfl rfl ?_
          refine w_p tok rfl rfl rfl ?_
          refine w_p tok rfl rfl rfl ?_
          refine w_jn () rfl ⟨?_, rfl, rfl, trivial⟩
          exact congrArg (fun b => some (Value.bool b)) (and_t hb)
        ·
          refine w_skip rfl rfl ?_
          refine w_skip rfl rfl ?_
          refine w_p tok rfl rfl rfl ?_
          refine w_jn () rfl ⟨?_, rfl, rfl, trivial⟩
          exact congrArg (fun b => some (Value.bool b)) (and_f hb)
    ·
      refine w_gs (d := 32) rfl (fun hb => ?_) (fun hb => ?_)
      ·
        refine w_p tok rfl rfl rfl ?_
        refine w_p tok rfl rfl rfl ?_
        refine w_p tok rfl rfl rfl ?_
        refine w_jn () rfl ⟨?_, rfl, rfl, rfl, trivial⟩
        exact congrArg (fun b => some (Value.bool b)) (and_t hb)
      ·
        refine w_skip rfl rfl ?_
        refine w_skip rfl rfl ?_
        refine w_p tok rfl rfl rfl ?_
        refine w_jn () rfl ⟨?_, rfl, rfl, rfl, trivial⟩
        exact congrArg (fun b => some (Value.bool b)) (and_f hb)
  ·
    refine w_gs (d := 28) rfl (fun hb => ?_) (fun hb => ?_)
    ·
      refine w_p tok rfl rfl rfl ?_
      refine w_p tok rfl rfl rfl ?_
      refine w_p tok rfl rfl rfl ?_
      refine w_jn () rfl ⟨?_, rfl, rfl, rfl, rfl, trivial⟩
      exact congrArg (fun b => some (Value.bool b)) (and_t hb)
    ·
      refine w_skip rfl rfl ?_
      refine w_skip rfl rfl ?_
      refine w_p tok rfl rfl rfl ?_
      refine w_jn () rfl ⟨?_, rfl, rfl, rfl, rfl, trivial⟩
      exact congrArg (fun b => some (Value.bool b)) (and_f hb)
end Go.Q.Yb

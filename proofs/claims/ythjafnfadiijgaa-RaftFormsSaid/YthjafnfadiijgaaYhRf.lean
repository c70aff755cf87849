/- A part of the proof of statements of this seat: lemmas, no statement of their own. -/
import Derived.Test.YthjafnfadiijgaaYhTab
import Derived.Test.YthjafnfadiijgaaYhCo
set_option linter.unusedVariables false
set_option maxRecDepth 100000
set_option maxHeartbeats 1000000
namespace Go.Q.Yh
/-- quaestor num.PutShort -/
def num_PutShort_l1b (t1_1 : Int) (t5_1 : Slc) (k : (Slc) → Heap → Prop) (nx1 : (Int × Slc) → Heap → Prop) (h_1 : Heap) : Prop :=
  if (decide (t1_1 ≥ 128)) then (∃ (b3 : Nat) (h4 : Heap), b3 = h_1.size ∧ h4 = h_1.push (.cells ([.int .u8 (bwOr .u8 (IntKind.u8.wrap t1_1) 128)]).toArray 5) ∧ (App 5 1 1 [.int .u8 0] h4 t5_1 1 ([.int .u8 (bwOr .u8 (IntKind.u8.wrap t1_1) 128)]) (fun s5 h6 => ∃ x7 : Int, x7 = (shr .u64 t1_1 (7 : Int).toNat) ∧ (nx1 (x7, s5) h6)))) else (∃ (b8 : Nat) (h9 : Heap), b8 = h_1.size ∧ h9 = h_1.push (.cells ([.int .u8 (IntKind.u8.wrap t1_1)]).toArray 5) ∧ (App 5 1 1 [.int .u8 0] h9 t5_1 1 ([.int .u8 (IntKind.u8.wrap t1_1)]) (fun s10 h11 => k s10 h11)))
def num_PutShort_l1 (i1 : Int) (i5 : Slc) (k : (Slc) → Heap → Prop) (h : Heap) : Prop :=
  ∃ (I : (Int × Slc) → Heap → Prop) (μ : (Int × Slc) → Heap → Nat), I (i1, i5) h ∧ ∀ (t1_1 : Int) (t5_1 : Slc) (h : Heap), I (t1_1, t5_1) h → num_PutShort_l1b t1_1 t5_1 k (fun s h' => I s h' ∧ μ s h' < μ (t1_1, t5_1) h) h
def num_PutShort (p0 : Slc) (p1 : Int) (k : (Slc) → Heap → Prop) (h : Heap) : Prop :=
  slices_Clone_byte_byte p0 (fun (r1 : Slc) h2 => num_PutShort_l1 p1 r1 k h2) h

/-- quaestor num.GetShort -/
def num_GetShort_l1b (t7_1 : Slc) (t8_1 : Int) (t2_1 : Int) (t9_1 : Int) (k : (Int × Int × Int) → Heap → Prop) (nx1 : (Int × Int) → Heap → Prop) (h_1 : Heap) : Prop :=
  if (decide (t9_1 < t8_1)) then (∃ a1 : Addr, t7_1.a = some a1 ∧ (0 : Int) ≤ t9_1 ∧ t9_1 < (t7_1.len : Int) ∧ (∃ v2 : Int, cellH h_1 (a1.add (t9_1.toNat * 1)) = some (.int .u8 v2) ∧ (if ((t9_1 == 9) && (decide (v2 > 1))) then (k (0, 0, 4) h_1) else ((0 : Int) ≤ (IntKind.u64.wrap (7 * (IntKind.u64.wrap t9_1))) ∧ (∃ x4 : Int, x4 = (bwOr .u64 t2_1 (shl .u64 (IntKind.u64.wrap (bwAnd .u8 v2 127)) (IntKind.u64.wrap (7 * (IntKind.u64.wrap t9_1))).toNat)) ∧ (if (decide (v2 ≥ 128)) then (nx1 (x4, (IntKind.i64.wrap (t9_1 + 1))) h_1) else (if ((v2 == 0) && (decide (t9_1 > 0))) then (k (0, 0, 4) h_1) else (∃ x5 : Int, x5 = (IntKind.i64.wrap (t9_1 + 1)) ∧ (k (x4, x5, 0) h_1))))))))) else (k (0, 0, 2) h_1)
def num_GetShort_l1 (t7_1 : Slc) (t8_1 : Int) (i2 : Int) (i9 : Int) (k : (Int × Int × Int) → Heap → Prop) (h : Heap) : Prop :=
  ∃ (I : (Int × Int) → Heap → Prop) (μ : (Int × Int) → Heap → Nat), I (i2, i9) h ∧ ∀ (t2_1 : Int) (t9_1 : Int) (h : Heap), I (t2_1, t9_1) h → num_GetShort_l1b t7_1 t8_1 t2_1 t9_1 k (fun s h' => I s h' ∧ μ s h' < μ (t2_1, t9_1) h) h
def num_GetShort (p0 : Slc) (k : (Int × Int × Int) → Heap → Prop) (h : Heap) : Prop :=
  num_GetShort_l1 p0 (p0.len : Int) 0 0 k h

/-- quaestor raft.text -/
def raft_text (p0 : Slc) (p1 : Slc) (k : (Slc) → Heap → Prop) (h : Heap) : Prop :=
  num_PutShort p0 (IntKind.u64.wrap (p1.len : Int)) (fun (r1 : Slc) h2 => ∃ l5 : List Value, SlcAt h2 p1 l5 ∧ App 5 1 1 [.int .u8 0] h2 r1 p1.len l5 (fun s3 h4 => k s3 h4)) h

/-- quaestor raft.Put -/
def raft_Put_l3b (t1_3 : Addr) (t43_3 : Slc) (t44_3 : Int) (t3_3 : Slc) (t45_3 : Int) (k : (Slc) → Heap → Prop) (nx1 : (Slc × Int) → Heap → Prop) (nx3 : (Slc × Int) → Heap → Prop) (h_3 : Heap) : Prop :=
  if (decide (t45_3 < t44_3)) then (∃ a26 : Addr, t43_3.a = some a26 ∧ (0 : Int) ≤ t45_3 ∧ t45_3 < (t43_3.len : Int) ∧ (∃ v27 : S_api_Entry, CellsAt h_3 (a26.add (t45_3.toNat * 2)) (S_api_Entry.cs v27) ∧ (∃ (b28 : Nat) (h29 : Heap), b28 = h_3.size ∧ h29 = h_3.push (.cells (S_api_Entry.cs (⟨0, (⟨none, 0, 0⟩ : Slc)⟩ : S_api_Entry)).toArray 65) ∧ (∃ h30 : Heap, WrsAt h29 (⟨b28, 0, none⟩ : Addr) 2 ∧ h30 = setsH h29 (⟨b28, 0, none⟩ : Addr) 0 (S_api_Entry.cs v27) ∧ (∃ v31 : Int, cellH h30 (⟨b28, 0, none⟩ : Addr) = some (.int .u64 v31) ∧ (∃ v32 : Slc, cellH h30 ((⟨b28, 0, none⟩ : Addr).add 1) = some (Slc.v v32) ∧ (num_PutShort t3_3 v31 (fun (r33 : Slc) h34 => cellH h34 ((⟨b28, 0, none⟩ : Addr).add 1) = some (Slc.v v32) ∧ (raft_text r33 v32 (fun (r36 : Slc) h37 => nx3 (r36, (IntKind.i64.wrap (t45_3 + 1))) h37) h34)) h30))))))) else (∃ v38 : Slc, cellH h_3 (t1_3.add 7) = some (Slc.v v38) ∧ (raft_text t3_3 v38 (fun (r39 : Slc) h40 => k r39 h40) h_3))
def raft_Put_l3 (t1_3 : Addr) (t43_3 : Slc) (t44_3 : Int) (i3 : Slc) (i45 : Int) (k : (Slc) → Heap → Prop) (nx1 : (Slc × Int) → Heap → Prop) (h : Heap) : Prop :=
  ∃ (I : (Slc × Int) → Heap → Prop) (μ : (Slc × Int) → Heap → Nat), I (i3, i45) h ∧ ∀ (t3_3 : Slc) (t45_3 : Int) (h : Heap), I (t3_3, t45_3) h → raft_Put_l3b t1_3 t43_3 t44_3 t3_3 t45_3 k nx1 (fun s h' => I s h' ∧ μ s h' < μ (t3_3, t45_3) h) h
def raft_Put_j2 (t1_2 : Addr) (t3_2 : Slc) (t6_2 : Int) (k : (Slc) → Heap → Prop) (nx1 : (Slc × Int) → Heap → Prop) (h_2 : Heap) : Prop :=
  ∃ v16 : Slc, cellH h_2 (t1_2.add 6) = some (Slc.v v16) ∧ (∃ (b17 : Nat) (h18 : Heap), b17 = h_2.size ∧ h18 = h_2.push (.cells ([.int .u8 t6_2]).toArray 5) ∧ (cellH h18 (t1_2.add 6) = some (Slc.v v16) ∧ (App 5 1 1 [.int .u8 0] h18 t3_2 1 ([.int .u8 t6_2]) (fun s20 h21 => cellH h21 (t1_2.add 6) = some (Slc.v v16) ∧ (num_PutShort s20 (IntKind.u64.wrap (v16.len : Int)) (fun (r23 : Slc) h24 => ∃ v25 : Slc, cellH h24 (t1_2.add 6) = some (Slc.v v25) ∧ (raft_Put_l3 t1_2 v25 (v25.len : Int) r23 0 k nx1 h24)) h21)))))
def raft_Put_l1b (t1_1 : Addr) (t21_1 : Slc) (t22_1 : Int) (t3_1 : Slc) (t23_1 : Int) (k : (Slc) → Heap → Prop) (nx1 : (Slc × Int) → Heap → Prop) (h_1 : Heap) : Prop :=
  if (decide (t23_1 < t22_1)) then (∃ a12 : Addr, t21_1.a = some a12 ∧ (0 : Int) ≤ t23_1 ∧ t23_1 < (t21_1.len : Int) ∧ (∃ v13 : Int, cellH h_1 (a12.add (t23_1.toNat * 1)) = some (.int .u64 v13) ∧ (num_PutShort t3_1 v13 (fun (r14 : Slc) h15 => nx1 (r14, (IntKind.i64.wrap (t23_1 + 1))) h15) h_1))) else (∃ v41 : Bool, cellH h_1 (t1_1.add 5) = some (.bool v41) ∧ (if v41 then (raft_Put_j2 t1_1 t3_1 1 k nx1 h_1) else (raft_Put_j2 t1_1 t3_1 0 k nx1 h_1)))
def raft_Put_l1 (t1_1 : Addr) (t21_1 : Slc) (t22_1 : Int) (i3 : Slc) (i23 : Int) (k : (Slc) → Heap → Prop) (h : Heap) : Prop :=
  ∃ (I : (Slc × Int) → Heap → Prop) (μ : (Slc × Int) → Heap → Nat), I (i3, i23) h ∧ ∀ (t3_1 : Slc) (t23_1 : Int) (h : Heap), I (t3_1, t23_1) h → raft_Put_l1b t1_1 t21_1 t22_1 t3_1 t23_1 k (fun s h' => I s h' ∧ μ s h' < μ (t3_1, t23_1) h) h
def raft_Put (p0 : S_api_Msg) (k : (Slc) → Heap → Prop) (h : Heap) : Prop :=
  ∃ (b1 : Nat) (h2 : Heap), b1 = h.size ∧ h2 = h.push (.cells (S_api_Msg.cs p0).toArray 26) ∧ (∃ v3 : Int, cellH h2 (⟨b1, 0, none⟩ : Addr) = some (.int .i64 v3) ∧ (∃ (b4 : Nat) (h5 : Heap), b4 = h2.size ∧ h5 = h2.push (.cells ([.int .u8 (IntKind.u8.wrap v3)]).toArray 5) ∧ (∃ v6 : Int, cellH h5 ((⟨b1, 0, none⟩ : Addr).add 1) = some (.int .u64 v6) ∧ (∃ v7 : Int, cellH h5 ((⟨b1, 0, none⟩ : Addr).add 2) = some (.int .u64 v7) ∧ (∃ v8 : Int, cellH h5 ((⟨b1, 0, none⟩ : Addr).add 3) = some (.int .u64 v8) ∧ (∃ v9 : Int, cellH h5 ((⟨b1, 0, none⟩ : Addr).add 4) = some (.int .u64 v9) ∧ (∃ (b10 : Nat) (h11 : Heap), b10 = h5.size ∧ h11 = h5.push (.cells ([.int .u64 v6, .int .u64 v7, .int .u64 v8, .int .u64 v9]).toArray 22) ∧ (raft_Put_l1 (⟨b1, 0, none⟩ : Addr) (⟨some ⟨b10, 0, none⟩, 4, 4⟩ : Slc) ((⟨some ⟨b10, 0, none⟩, 4, 4⟩ : Slc).len : Int) (⟨some ⟨b4, 0, none⟩, 1, 1⟩ : Slc) 0 k h11))))))))

/-- (*quaestor raft.reader).short -/
def raft_reader_short (p0 : Option Addr) (k : (Int) → Heap → Prop) (h : Heap) : Prop :=
  ∃ a1 : Addr, p0 = some a1 ∧ (∃ v2 : Slc, cellH h a1 = some (Slc.v v2) ∧ (num_GetShort v2 (fun (r3 : Int × Int × Int) h4 => ∃ v5 : Bool, cellH h4 (a1.add 1) = some (.bool v5) ∧ (∃ h6 : Heap, WrH h4 (a1.add 1) ∧ h6 = setH h4 (a1.add 1) (.bool (v5 || (r3.2.2 != 0))) ∧ (∃ v7 : Slc, cellH h6 a1 = some (Slc.v v7) ∧ (∃ s8 : Slc, (0 : Int) ≤ r3.2.1 ∧ (r3.2.1 : Int) ≤ (v7.len : Int) ∧ ((v7.len : Int) : Int) ≤ (v7.cap : Int) ∧ (v7.cap : Int) ≤ (v7.cap : Int) ∧ s8 = subS v7 1 r3.2.1.toNat (v7.len : Int).toNat (v7.cap : Int).toNat ∧ (∃ h9 : Heap, WrH h6 a1 ∧ h9 = setH h6 a1 (Slc.v s8) ∧ (k r3.1 h9)))))) h))

/-- (*quaestor raft.reader).bytes -/
def raft_reader_bytes_g1 (t0_1 : Option Addr) (t1_1 : Int) (t19_1 : Bool) (k : (Slc) → Heap → Prop) (h_1 : Heap) : Prop :=
  if t19_1 then (∃ a3 : Addr, t0_1 = some a3 ∧ (∃ h4 : Heap, WrH h_1 (a3.add 1) ∧ h4 = setH h_1 (a3.add 1) (.bool true) ∧ (k (⟨none, 0, 0⟩ : Slc) h4))) else (∃ a5 : Addr, t0_1 = some a5 ∧ (∃ v6 : Slc, cellH h_1 a5 = some (Slc.v v6) ∧ (∃ s7 : Slc, (0 : Int) ≤ 0 ∧ (0 : Int) ≤ t1_1 ∧ (t1_1 : Int) ≤ (v6.cap : Int) ∧ (v6.cap : Int) ≤ (v6.cap : Int) ∧ s7 = subS v6 1 (0 : Int).toNat t1_1.toNat (v6.cap : Int).toNat ∧ (slices_Clone_byte_byte s7 (fun (r8 : Slc) h9 => ∃ v10 : Slc, cellH h9 a5 = some (Slc.v v10) ∧ (∃ s11 : Slc, (0 : Int) ≤ t1_1 ∧ (t1_1 : Int) ≤ (v10.len : Int) ∧ ((v10.len : Int) : Int) ≤ (v10.cap : Int) ∧ (v10.cap : Int) ≤ (v10.cap : Int) ∧ s11 = subS v10 1 t1_1.toNat (v10.len : Int).toNat (v10.cap : Int).toNat ∧ (∃ h12 : Heap, WrH h9 a5 ∧ h12 = setH h9 a5 (Slc.v s11) ∧ (k r8 h12)))) h_1))))
def raft_reader_bytes (p0 : Option Addr) (p1 : Int) (k : (Slc) → Heap → Prop) (h : Heap) : Prop :=
  ∃ a1 : Addr, p0 = some a1 ∧ (∃ v2 : Bool, cellH h (a1.add 1) = some (.bool v2) ∧ (if v2 then (raft_reader_bytes_g1 p0 p1 true k h) else (∃ v13 : Slc, cellH h a1 = some (Slc.v v13) ∧ (raft_reader_bytes_g1 p0 p1 (decide (p1 > (IntKind.u64.wrap (v13.len : Int)))) k h))))

/-- (*quaestor raft.reader).byte -/
def raft_reader_byte (p0 : Option Addr) (k : (Int) → Heap → Prop) (h : Heap) : Prop :=
  raft_reader_bytes p0 1 (fun (r1 : Slc) h2 => if ((r1.len : Int) == 0) then (k 0 h2) else (∃ a3 : Addr, r1.a = some a3 ∧ (0 : Int) ≤ 0 ∧ 0 < (r1.len : Int) ∧ (∃ v4 : Int, cellH h2 (a3.add ((0 : Int).toNat * 1)) = some (.int .u8 v4) ∧ (k v4 h2)))) h

/-- quaestor raft.Get -/
def raft_Get_g2 (t2_2 : Addr) (t5_2 : Addr) (t80_2 : Bool) (k : (S_api_Msg × Int) → Heap → Prop) (h_2 : Heap) : Prop :=
  if t80_2 then (∃ h29 : Heap, WrsAt h_2 t2_2 8 ∧ h29 = setsH h_2 t2_2 0 (S_api_Msg.cs (⟨0, 0, 0, 0, 0, false, (⟨none, 0, 0⟩ : Slc), (⟨none, 0, 0⟩ : Slc)⟩ : S_api_Msg)) ∧ (∃ v30 : S_api_Msg, CellsAt h29 t2_2 (S_api_Msg.cs v30) ∧ k (v30, 4) h29)) else (∃ v31 : S_api_Msg, CellsAt h_2 t5_2 (S_api_Msg.cs v31) ∧ (∃ h32 : Heap, WrsAt h_2 t2_2 8 ∧ h32 = setsH h_2 t2_2 0 (S_api_Msg.cs v31) ∧ (∃ v33 : S_api_Msg, CellsAt h32 t2_2 (S_api_Msg.cs v33) ∧ k (v33, 0) h32)))
def raft_Get_j1 (t2_1 : Addr) (t4_1 : Addr) (t5_1 : Addr) (k : (S_api_Msg × Int) → Heap → Prop) (h_1 : Heap) : Prop :=
  raft_reader_short (some t4_1) (fun (r23 : Int) h24 => raft_reader_bytes (some t4_1) r23 (fun (r25 : Slc) h26 => ∃ h27 : Heap, WrH h26 (t5_1.add 7) ∧ h27 = setH h26 (t5_1.add 7) (Slc.v r25) ∧ (∃ v28 : Bool, cellH h27 (t4_1.add 1) = some (.bool v28) ∧ (if v28 then (raft_Get_g2 t2_1 t5_1 true k h27) else (∃ v34 : Slc, cellH h27 t4_1 = some (Slc.v v34) ∧ (raft_Get_g2 t2_1 t5_1 (decide ((v34.len : Int) > 0)) k h27))))) h24) h_1
def raft_Get_l3b (t2_3 : Addr) (t4_3 : Addr) (t5_3 : Addr) (t7_3 : Int) (k : (S_api_Msg × Int) → Heap → Prop) (nx3 : (Int) → Heap → Prop) (h_3 : Heap) : Prop :=
  if (decide (t7_3 > 0)) then (raft_reader_short (some t4_3) (fun (r37 : Int) h38 => ∃ (b39 : Nat) (h40 : Heap), b39 = h38.size ∧ h40 = h38.push (.cells (S_api_Entry.cs (⟨0, (⟨none, 0, 0⟩ : Slc)⟩ : S_api_Entry)).toArray 65) ∧ (∃ h41 : Heap, WrsAt h40 (⟨b39, 0, none⟩ : Addr) 2 ∧ h41 = setsH h40 (⟨b39, 0, none⟩ : Addr) 0 (S_api_Entry.cs (⟨r37, (⟨none, 0, 0⟩ : Slc)⟩ : S_api_Entry)) ∧ (raft_reader_short (some t4_3) (fun (r42 : Int) h43 => raft_reader_bytes (some t4_3) r42 (fun (r44 : Slc) h45 => ∃ h46 : Heap, WrH h45 ((⟨b39, 0, none⟩ : Addr).add 1) ∧ h46 = setH h45 ((⟨b39, 0, none⟩ : Addr).add 1) (Slc.v r44) ∧ (∃ v47 : Bool, cellH h46 (t4_3.add 1) = some (.bool v47) ∧ (if v47 then (raft_Get_j1 t2_3 t4_3 t5_3 k h46) else (∃ v48 : Slc, cellH h46 (t5_3.add 6) = some (Slc.v v48) ∧ (∃ v49 : S_api_Entry, CellsAt h46 (⟨b39, 0, none⟩ : Addr) (S_api_Entry.cs v49) ∧ (∃ (b50 : Nat) (h51 : Heap), b50 = h46.size ∧ h51 = h46.push (.cells ((S_api_Entry.cs v49)).toArray 65) ∧ (App 65 2 32 [.int .u64 0, .slice none 0 0] h51 v48 1 ((S_api_Entry.cs v49)) (fun s52 h53 => ∃ h54 : Heap, WrH h53 (t5_3.add 6) ∧ h54 = setH h53 (t5_3.add 6) (Slc.v s52) ∧ (∃ x55 : Int, x55 = (IntKind.u64.wrap (t7_3 - 1)) ∧ (nx3 x55 h54)))))))))) h43) h41))) h_3) else (raft_Get_j1 t2_3 t4_3 t5_3 k h_3)
def raft_Get_l3 (t2_3 : Addr) (t4_3 : Addr) (t5_3 : Addr) (i7 : Int) (k : (S_api_Msg × Int) → Heap → Prop) (h : Heap) : Prop :=
  ∃ (I : Int → Heap → Prop) (μ : Int → Heap → Nat), I i7 h ∧ ∀ (t7_3 : Int) (h : Heap), I t7_3 h → raft_Get_l3b t2_3 t4_3 t5_3 t7_3 k (fun s h' => I s h' ∧ μ s h' < μ t7_3 h) h
def raft_Get (p0 : Slc) (k : (S_api_Msg × Int) → Heap → Prop) (h : Heap) : Prop :=
  ∃ (b1 : Nat) (h2 : Heap), b1 = h.size ∧ h2 = h.push (.cells (S_api_Msg.cs (⟨0, 0, 0, 0, 0, false, (⟨none, 0, 0⟩ : Slc), (⟨none, 0, 0⟩ : Slc)⟩ : S_api_Msg)).toArray 26) ∧ (∃ (b3 : Nat) (h4 : Heap), b3 = h2.size ∧ h4 = h2.push (.cells (S_raft_reader.cs (⟨p0, false⟩ : S_raft_reader)).toArray 86) ∧ (raft_reader_byte (some (⟨b3, 0, none⟩ : Addr)) (fun (r5 : Int) h6 => raft_reader_short (some (⟨b3, 0, none⟩ : Addr)) (fun (r7 : Int) h8 => raft_reader_short (some (⟨b3, 0, none⟩ : Addr)) (fun (r9 : Int) h10 => raft_reader_short (some (⟨b3, 0, none⟩ : Addr)) (fun (r11 : Int) h12 => raft_reader_short (some (⟨b3, 0, none⟩ : Addr)) (fun (r13 : Int) h14 => ∃ (b15 : Nat) (h16 : Heap), b15 = h14.size ∧ h16 = h14.push (.cells (S_api_Msg.cs (⟨0, 0, 0, 0, 0, false, (⟨none, 0, 0⟩ : Slc), (⟨none, 0, 0⟩ : Slc)⟩ : S_api_Msg)).toArray 26) ∧ (∃ h17 : Heap, WrsAt h16 (⟨b15, 0, none⟩ : Addr) 8 ∧ h17 = setsH h16 (⟨b15, 0, none⟩ : Addr) 0 (S_api_Msg.cs (⟨(IntKind.i64.wrap r5), r7, r9, r11, r13, false, (⟨none, 0, 0⟩ : Slc), (⟨none, 0, 0⟩ : Slc)⟩ : S_api_Msg)) ∧ (raft_reader_byte (some (⟨b3, 0, none⟩ : Addr)) (fun (r18 : Int) h19 => ∃ h20 : Heap, WrH h19 ((⟨b15, 0, none⟩ : Addr).add 5) ∧ h20 = setH h19 ((⟨b15, 0, none⟩ : Addr).add 5) (.bool (r18 == 1)) ∧ (∃ v21 : Bool, cellH h20 ((⟨b3, 0, none⟩ : Addr).add 1) = some (.bool v21) ∧ (∃ h22 : Heap, WrH h20 ((⟨b3, 0, none⟩ : Addr).add 1) ∧ h22 = setH h20 ((⟨b3, 0, none⟩ : Addr).add 1) (.bool (v21 || (decide (r18 > 1)))) ∧ (raft_reader_short (some (⟨b3, 0, none⟩ : Addr)) (fun (r35 : Int) h36 => raft_Get_l3 (⟨b1, 0, none⟩ : Addr) (⟨b3, 0, none⟩ : Addr) (⟨b15, 0, none⟩ : Addr) r35 k h36) h22)))) h17))) h12) h10) h8) h6) h4))

/-- quaestor quaestorref01.Short -/
def ref01_Short_l1b (t0_1 : Int) (t3_1 : Slc) (k : (Slc) → Heap → Prop) (nx1 : (Int × Slc) → Heap → Prop) (h_1 : Heap) : Prop :=
  if (decide (t0_1 ≥ 128)) then (∃ (b1 : Nat) (h2 : Heap), b1 = h_1.size ∧ h2 = h_1.push (.cells ([.int .u8 (IntKind.u8.wrap ((IntKind.u8.wrap (Int.tmod t0_1 128)) + 128))]).toArray 5) ∧ (App 5 1 1 [.int .u8 0] h2 t3_1 1 ([.int .u8 (IntKind.u8.wrap ((IntKind.u8.wrap (Int.tmod t0_1 128)) + 128))]) (fun s3 h4 => ∃ x5 : Int, x5 = (IntKind.u64.wrap (Int.tdiv t0_1 128)) ∧ (nx1 (x5, s3) h4)))) else (∃ (b6 : Nat) (h7 : Heap), b6 = h_1.size ∧ h7 = h_1.push (.cells ([.int .u8 (IntKind.u8.wrap t0_1)]).toArray 5) ∧ (App 5 1 1 [.int .u8 0] h7 t3_1 1 ([.int .u8 (IntKind.u8.wrap t0_1)]) (fun s8 h9 => k s8 h9)))
def ref01_Short_l1 (i0 : Int) (i3 : Slc) (k : (Slc) → Heap → Prop) (h : Heap) : Prop :=
  ∃ (I : (Int × Slc) → Heap → Prop) (μ : (Int × Slc) → Heap → Nat), I (i0, i3) h ∧ ∀ (t0_1 : Int) (t3_1 : Slc) (h : Heap), I (t0_1, t3_1) h → ref01_Short_l1b t0_1 t3_1 k (fun s h' => I s h' ∧ μ s h' < μ (t0_1, t3_1) h) h
def ref01_Short (p0 : Int) (k : (Slc) → Heap → Prop) (h : Heap) : Prop :=
  ref01_Short_l1 p0 (⟨none, 0, 0⟩ : Slc) k h

/-- quaestor quaestorref26.Form -/
def ref26_Form_l2b (t1_2 : Addr) (t3_2 : Slc) (t4_2 : Int) (k : (Slc) → Heap → Prop) (nx2 : (Slc × Int) → Heap → Prop) (h_2 : Heap) : Prop :=
  ∃ v36 : Slc, cellH h_2 (t1_2.add 6) = some (Slc.v v36) ∧ (if (decide (t4_2 < (v36.len : Int))) then (∃ v37 : Slc, cellH h_2 (t1_2.add 6) = some (Slc.v v37) ∧ (∃ a38 : Addr, v37.a = some a38 ∧ (0 : Int) ≤ t4_2 ∧ t4_2 < (v37.len : Int) ∧ (∃ v39 : Int, cellH h_2 (a38.add (t4_2.toNat * 2)) = some (.int .u64 v39) ∧ (ref01_Short v39 (fun (r40 : Slc) h41 => ∃ l44 : List Value, SlcAt h41 r40 l44 ∧ App 5 1 1 [.int .u8 0] h41 t3_2 r40.len l44 (fun s42 h43 => ∃ v45 : Slc, cellH h43 (t1_2.add 6) = some (Slc.v v45) ∧ (∃ a46 : Addr, v45.a = some a46 ∧ (0 : Int) ≤ t4_2 ∧ t4_2 < (v45.len : Int) ∧ (∃ v47 : Slc, cellH h43 ((a46.add (t4_2.toNat * 2)).add 1) = some (Slc.v v47) ∧ (ref01_Short (IntKind.u64.wrap (v47.len : Int)) (fun (r48 : Slc) h49 => ∃ l52 : List Value, SlcAt h49 r48 l52 ∧ App 5 1 1 [.int .u8 0] h49 s42 r48.len l52 (fun s50 h51 => ∃ v53 : Slc, cellH h51 (t1_2.add 6) = some (Slc.v v53) ∧ (∃ a54 : Addr, v53.a = some a54 ∧ (0 : Int) ≤ t4_2 ∧ t4_2 < (v53.len : Int) ∧ (∃ v55 : Slc, cellH h51 ((a54.add (t4_2.toNat * 2)).add 1) = some (Slc.v v55) ∧ (∃ l58 : List Value, SlcAt h51 v55 l58 ∧ App 5 1 1 [.int .u8 0] h51 s50 v55.len l58 (fun s56 h57 => ∃ x59 : Int, x59 = (IntKind.i64.wrap (t4_2 + 1)) ∧ (nx2 (s56, x59) h57))))))) h43))))) h_2)))) else (∃ v60 : Slc, cellH h_2 (t1_2.add 7) = some (Slc.v v60) ∧ (ref01_Short (IntKind.u64.wrap (v60.len : Int)) (fun (r61 : Slc) h62 => ∃ l65 : List Value, SlcAt h62 r61 l65 ∧ App 5 1 1 [.int .u8 0] h62 t3_2 r61.len l65 (fun s63 h64 => ∃ v66 : Slc, cellH h64 (t1_2.add 7) = some (Slc.v v66) ∧ (∃ l69 : List Value, SlcAt h64 v66 l69 ∧ App 5 1 1 [.int .u8 0] h64 s63 v66.len l69 (fun s67 h68 => k s67 h68)))) h_2)))
def ref26_Form_l2 (t1_2 : Addr) (i3 : Slc) (i4 : Int) (k : (Slc) → Heap → Prop) (h : Heap) : Prop :=
  ∃ (I : (Slc × Int) → Heap → Prop) (μ : (Slc × Int) → Heap → Nat), I (i3, i4) h ∧ ∀ (t3_2 : Slc) (t4_2 : Int) (h : Heap), I (t3_2, t4_2) h → ref26_Form_l2b t1_2 t3_2 t4_2 k (fun s h' => I s h' ∧ μ s h' < μ (t3_2, t4_2) h) h
def ref26_Form_j1 (t1_1 : Addr) (t3_1 : Slc) (k : (Slc) → Heap → Prop) (h_1 : Heap) : Prop :=
  ∃ v30 : Slc, cellH h_1 (t1_1.add 6) = some (Slc.v v30) ∧ (ref01_Short (IntKind.u64.wrap (v30.len : Int)) (fun (r31 : Slc) h32 => ∃ l35 : List Value, SlcAt h32 r31 l35 ∧ App 5 1 1 [.int .u8 0] h32 t3_1 r31.len l35 (fun s33 h34 => ref26_Form_l2 t1_1 s33 0 k h34)) h_1)
def ref26_Form (p0 : S_api_Msg) (k : (Slc) → Heap → Prop) (h : Heap) : Prop :=
  ∃ (b1 : Nat) (h2 : Heap), b1 = h.size ∧ h2 = h.push (.cells (S_api_Msg.cs p0).toArray 26) ∧ (∃ v3 : Int, cellH h2 (⟨b1, 0, none⟩ : Addr) = some (.int .i64 v3) ∧ (∃ (b4 : Nat) (h5 : Heap), b4 = h2.size ∧ h5 = h2.push (.cells ([.int .u8 (IntKind.u8.wrap v3)]).toArray 5) ∧ (∃ v6 : Int, cellH h5 ((⟨b1, 0, none⟩ : Addr).add 1) = some (.int .u64 v6) ∧ (ref01_Short v6 (fun (r7 : Slc) h8 => ∃ l11 : List Value, SlcAt h8 r7 l11 ∧ App 5 1 1 [.int .u8 0] h8 (⟨some ⟨b4, 0, none⟩, 1, 1⟩ : Slc) r7.len l11 (fun s9 h10 => ∃ v12 : Int, cellH h10 ((⟨b1, 0, none⟩ : Addr).add 2) = some (.int .u64 v12) ∧ (ref01_Short v12 (fun (r13 : Slc) h14 => ∃ l17 : List Value, SlcAt h14 r13 l17 ∧ App 5 1 1 [.int .u8 0] h14 s9 r13.len l17 (fun s15 h16 => ∃ v18 : Int, cellH h16 ((⟨b1, 0, none⟩ : Addr).add 3) = some (.int .u64 v18) ∧ (ref01_Short v18 (fun (r19 : Slc) h20 => ∃ l23 : List Value, SlcAt h20 r19 l23 ∧ App 5 1 1 [.int .u8 0] h20 s15 r19.len l23 (fun s21 h22 => ∃ v24 : Int, cellH h22 ((⟨b1, 0, none⟩ : Addr).add 4) = some (.int .u64 v24) ∧ (ref01_Short v24 (fun (r25 : Slc) h26 => ∃ l29 : List Value, SlcAt h26 r25 l29 ∧ App 5 1 1 [.int .u8 0] h26 s21 r25.len l29 (fun s27 h28 => ∃ v70 : Bool, cellH h28 ((⟨b1, 0, none⟩ : Addr).add 5) = some (.bool v70) ∧ (if v70 then (∃ (b71 : Nat) (h72 : Heap), b71 = h28.size ∧ h72 = h28.push (.cells ([.int .u8 1]).toArray 5) ∧ (App 5 1 1 [.int .u8 0] h72 s27 1 ([.int .u8 1]) (fun s73 h74 => ref26_Form_j1 (⟨b1, 0, none⟩ : Addr) s73 k h74))) else (∃ (b75 : Nat) (h76 : Heap), b75 = h28.size ∧ h76 = h28.push (.cells ([.int .u8 0]).toArray 5) ∧ (App 5 1 1 [.int .u8 0] h76 s27 1 ([.int .u8 0]) (fun s77 h78 => ref26_Form_j1 (⟨b1, 0, none⟩ : Addr) s77 k h78)))))) h22))) h16))) h10))) h5))))

theorem num_PutShort_ok : CallOk Go.Proofs.Try.prog 31 := ⟨_, Go.Proofs.Try.func31, by kernel_rfl, by kernel_rfl⟩
theorem num_PutShort_ref (p0 : Slc) (p1 : Int) (k : (Slc) → Heap → Prop) (h : Heap) (H : num_PutShort p0 p1 k h) : CallsH Go.Proofs.Try.prog 31 #[Slc.v p0, .int .u64 p1] h (fun v h' => ∃ r : Slc, v = Slc.v r ∧ k r h') := by
  refine f_enter (N := 23) Go.Proofs.Try.func31 rfl rfl rfl (fun w0 => ?_)
  unfold num_PutShort at H
  refine c_weak [(0, Slc.v p0), (1, .int .u64 p1)] ⟨rfl, rfl, trivial⟩ ?_
  refine c_seq ?_
  refine c_region ?_
  refine w_p tok rfl rfl rfl ?_
  refine w_end ?_
  refine x_seq ?_
  refine c_seq ?_
  refine c_region ?_
  refine w_p tok rfl rfl rfl ?_
  refine w_call slices_Clone_byte_byte_ok (slices_Clone_byte_byte_ref _ _ _ H) rfl rfl rfl rfl ?_
  rintro _ h2 ⟨r1, rfl, H⟩
  refine w_p tok rfl rfl rfl ?_
  refine w_end ?_
  refine x_seq ?_
  refine c_seq ?_
  refine c_block ?_
  obtain ⟨I1, μ1, H0, HI⟩ := H
  refine c_loop (σ := Int × Slc) (fun (s : Int × Slc) => [(1, .int .u64 s.1), (5, Slc.v s.2)]) I1 μ1 (p1, r1) H0 ⟨rfl, rfl, trivial⟩ ?_
  rintro ⟨t1_1, t5_1⟩ h_1 H
  replace H := HI t1_1 t5_1 h_1 H
  unfold num_PutShort_l1b at H
  refine c_weak [(1, .int .u64 t1_1), (5, Slc.v t5_1)] ⟨rfl, rfl, trivial⟩ ?_
  refine c_seq ?_
  refine c_seq ?_
  refine c_region ?_
  refine w_p tok rfl rfl rfl ?_
  refine w_p tok rfl rfl rfl ?_
  refine w_end ?_
  refine x_seq ?_
  refine c_if H rfl (fun H => ?_) (fun H => ?_)
  ·
    refine c_skip ?_
    refine x_seq ?_
    refine c_seq ?_
    refine c_block ?_
    refine c_region ?_
    refine w_p tok rfl rfl rfl ?_
    refine w_p tok rfl rfl rfl ?_
    refine w_p tok rfl rfl rfl ?_
    refine w_p tok rfl rfl rfl ?_
    obtain ⟨b3, h4, eb3, eh4, H⟩ := H
    refine w_h (h_bs tok rfl rfl rfl rfl rfl rfl rfl eb3 eh4) rfl rfl ?_
    refine w_a (a_app (s := t5_1) (r := (⟨some ⟨b3, 0, none⟩, 1, 1⟩ : Slc)) tok rfl rfl rfl rfl rfl (slcAt_push eb3 eh4) H) rfl rfl ?_
    rintro _ h6 ⟨s5, rfl, H⟩
    refine w_p tok rfl rfl rfl ?_
    refine w_end ?_
    refine x_blk ?_
    refine x_seq ?_
    refine c_weak [(1, .int .u64 t1_1), (5, Slc.v s5)] ⟨rfl, rfl, trivial⟩ ?_
    refine c_region ?_
    refine w_p tok rfl rfl rfl ?_
    refine w_p tok rfl rfl rfl ?_
    obtain ⟨x7, ex7, H⟩ := H
    refine w_pe tok rfl (congrArg (fun z => (.int .u64 z : Value)) ex7) rfl rfl ?_
    refine w_end ?_
    exact x_join (x7, s5) H ⟨rfl, rfl, trivial⟩
  ·
    refine c_exit ?_
    refine x_te ?_
    refine x_te ?_
    refine x_bh ?_
    refine x_seq ?_
    refine c_seq ?_
    refine c_region ?_
    refine w_p tok rfl rfl rfl ?_
    refine w_p tok rfl rfl rfl ?_
    refine w_p tok rfl rfl rfl ?_
    obtain ⟨b8, h9, eb8, eh9, H⟩ := H
    refine w_h (h_bs tok rfl rfl rfl rfl rfl rfl rfl eb8 eh9) rfl rfl ?_
    refine w_a (a_app (s := t5_1) (r := (⟨some ⟨b8, 0, none⟩, 1, 1⟩ : Slc)) tok rfl rfl rfl rfl rfl (slcAt_push eb8 eh9) H) rfl rfl ?_
    rintro _ h11 ⟨s10, rfl, H⟩
    refine w_p tok rfl rfl rfl ?_
    refine w_end ?_
    refine x_seq ?_
    refine c_weak [(4, Slc.v s10)] ⟨rfl, trivial⟩ ?_
    refine c_ret ?_
    exact x_ret _ rfl _ rfl ⟨s10, rfl, H⟩

theorem num_GetShort_ok : CallOk Go.Proofs.Try.prog 62 := ⟨_, Go.Proofs.Try.func62, by kernel_rfl, by kernel_rfl⟩
theorem num_GetShort_ref (p0 : Slc) (k : (Int × Int × Int) → Heap → Prop) (h : Heap) (H : num_GetShort p0 k h) : CallsH Go.Proofs.Try.prog 62 #[Slc.v p0] h (fun v h' => ∃ r : Int × Int × Int, v = .tuple #[.int .u64 r.1, .int .i64 r.2.1, .int .i64 r.2.2] ∧ k r h') := by
  refine f_enter (N := 41) Go.Proofs.Try.func62 rfl rfl rfl (fun w0 => ?_)
  unfold num_GetShort at H
  refine c_weak [(0, Slc.v p0)] ⟨rfl, trivial⟩ ?_
  refine c_seq ?_
  refine c_region ?_
  refine w_p tok rfl rfl rfl ?_
  refine w_p tok rfl rfl rfl ?_
  refine w_p tok rfl rfl rfl ?_
  refine w_end ?_
  refine x_seq ?_
  refine c_seq ?_
  refine c_seq ?_
  refine c_region ?_
  refine w_p tok rfl rfl rfl ?_
  refine w_p tok rfl rfl rfl ?_
  refine w_p tok rfl rfl rfl ?_
  refine w_end ?_
  refine x_seq ?_
  refine c_block ?_
  obtain ⟨I1, μ1, H0, HI⟩ := H
  refine c_loop (σ := Int × Int) (fun (s : Int × Int) => [(2, .int .u64 s.1), (9, .int .i64 s.2), (7, Slc.v p0), (8, .int .i64 (p0.len : Int))]) I1 μ1 (0, 0) H0 ⟨rfl, rfl, rfl, rfl, trivial⟩ ?_
  rintro ⟨t2_1, t9_1⟩ h_1 H
  replace H := HI t2_1 t9_1 h_1 H
  unfold num_GetShort_l1b at H
  refine c_weak [(2, .int .u64 t2_1), (9, .int .i64 t9_1), (7, Slc.v p0), (8, .int .i64 (p0.len : Int))] ⟨rfl, rfl, rfl, rfl, trivial⟩ ?_
  refine c_seq ?_
  refine c_region ?_
  refine w_p tok rfl rfl rfl ?_
  refine w_end ?_
  refine x_seq ?_
  refine c_seq ?_
  refine c_if H rfl (fun H => ?_) (fun H => ?_)
  ·
    refine c_skip ?_
    refine x_seq ?_
    refine c_seq ?_
    refine c_block ?_
    refine c_seq ?_
    refine c_region ?_
    refine w_p tok rfl rfl rfl ?_
    obtain ⟨a1, ha1, la1, ua1, H⟩ := H
    refine w_y (y_ixa' tok rfl rfl ha1 rfl rfl rfl la1 ua1) rfl rfl ?_
    obtain ⟨v2, hv2, H⟩ := H
    refine w_y (y_ld tok rfl rfl rfl rfl hv2) rfl rfl ?_
    refine w_p tok rfl rfl rfl ?_
    refine w_p tok rfl rfl rfl ?_
    refine w_end ?_
    refine x_seq ?_
    refine c_seq ?_
    refine c_seq ?_
    refine c_region ?_
    refine w_p tok rfl rfl rfl ?_
    refine w_p tok rfl rfl rfl ?_
    refine w_p tok rfl rfl rfl ?_
    refine w_cutU 3 [(19, .bool ((t9_1 == 9) && (decide (v2 > 1)))), (2, .int .u64 t2_1), (5, .int .i64 t9_1), (6, .int .u8 v2), (7, Slc.v p0), (8, .int .i64 (p0.len : Int)), (9, .int .i64 t9_1)] ?_ ?_
    ·
      refine w_end ?_
      refine x_seq ?_
      refine c_if H rfl (fun H => ?_) (fun H => ?_)
      ·
        refine c_seq ?_
        refine c_region ?_
        refine w_p tok rfl rfl rfl ?_
        refine w_p tok rfl rfl rfl ?_
        refine w_p tok rfl rfl rfl ?_
        refine w_end ?_
        refine x_seq ?_
        refine c_ret ?_
        refine x_tr ?_
        refine x_br ?_
        refine x_tr ?_
        refine x_tr ?_
        refine x_br ?_
        refine x_tr ?_
        exact x_ret _ rfl _ rfl ⟨(0, 0, 4), rfl, H⟩
      ·
        refine c_skip ?_
        refine x_seq ?_
        refine c_seq ?_
        refine c_region ?_
        refine w_p tok rfl rfl rfl ?_
        refine w_p tok rfl rfl rfl ?_
        refine w_p tok rfl rfl rfl ?_
        refine w_p tok rfl rfl rfl ?_
        refine w_p tok rfl rfl rfl ?_
        refine w_p tok rfl rfl rfl ?_
        refine w_p tok rfl rfl rfl ?_
        obtain ⟨z3, H⟩ := H
        refine w_y (y_shl rfl rfl rfl z3) rfl rfl ?_
        refine w_p tok rfl rfl rfl ?_
        obtain ⟨x4, ex4, H⟩ := H
        refine w_pe tok rfl (congrArg (fun z => (.int .u64 z : Value)) ex4) rfl rfl ?_
        refine w_end ?_
        refine x_seq ?_
        refine c_weak [(2, .int .u64 x4), (5, .int .i64 t9_1), (6, .int .u8 v2), (7, Slc.v p0), (8, .int .i64 (p0.len : Int)), (9, .int .i64 t9_1)] ⟨rfl, rfl, rfl, rfl, rfl, rfl, trivial⟩ ?_
        refine c_seq ?_
        refine c_seq ?_
        refine c_region ?_
        refine w_p tok rfl rfl rfl ?_
        refine w_p tok rfl rfl rfl ?_
        refine w_end ?_
        refine x_seq ?_
        refine c_if H rfl (fun H => ?_) (fun H => ?_)
        ·
          refine c_exit ?_
          refine x_te ?_
          refine x_bh ?_
          refine x_seq ?_
          refine c_region ?_
          refine w_p tok rfl rfl rfl ?_
          refine w_p tok rfl rfl rfl ?_
          refine w_end ?_
          exact x_join (x4, (IntKind.i64.wrap (t9_1 + 1))) H ⟨rfl, rfl, rfl, rfl, trivial⟩
        ·
          refine c_skip ?_
          refine x_seq ?_
          refine c_seq ?_
          refine c_seq ?_
          refine c_region ?_
          refine w_p tok rfl rfl rfl ?_
          refine w_p tok rfl rfl rfl ?_
          refine w_p tok rfl rfl rfl ?_
          refine w_cutU 3 [(36, .bool ((v2 == 0) && (decide (t9_1 > 0)))), (2, .int .u64 x4), (5, .int .i64 t9_1)] ?_ ?_
          ·
            refine w_end ?_
            refine x_seq ?_
            refine c_if H rfl (fun H => ?_) (fun H => ?_)
            ·
              refine c_seq ?_
              refine c_region ?_
              refine w_p tok rfl rfl rfl ?_
              refine w_p tok rfl rfl rfl ?_
              refine w_p tok rfl rfl rfl ?_
              refine w_end ?_
              refine x_seq ?_
              refine c_ret ?_
              refine x_tr ?_
              refine x_br ?_
              refine x_tr ?_
              refine x_tr ?_
              refine x_br ?_
              refine x_tr ?_
              exact x_ret _ rfl _ rfl ⟨(0, 0, 4), rfl, H⟩
            ·
              refine c_skip ?_
              refine x_seq ?_
              refine c_seq ?_
              refine c_region ?_
              refine w_p tok rfl rfl rfl ?_
              refine w_p tok rfl rfl rfl ?_
              refine w_p tok rfl rfl rfl ?_
              refine w_p tok rfl rfl rfl ?_
              obtain ⟨x5, ex5, H⟩ := H
              refine w_pe tok rfl (congrArg (fun z => (.int .i64 z : Value)) ex5) rfl rfl ?_
              refine w_p tok rfl rfl rfl ?_
              refine w_end ?_
              refine x_seq ?_
              refine c_ret ?_
              refine x_br ?_
              refine x_tr ?_
              refine x_tr ?_
              refine x_br ?_
              refine x_tr ?_
              exact x_ret _ rfl _ rfl ⟨(x4, x5, 0), rfl, H⟩
          ·
            refine w_gs (d := 33) rfl (fun hb => ?_) (fun hb => ?_)
            ·
              refine w_p tok rfl rfl rfl ?_
              refine w_p tok rfl rfl rfl ?_
              refine w_p tok rfl rfl rfl ?_
              refine w_jn () rfl ⟨?_, rfl, rfl, trivial⟩
              exact congrArg (fun b => some (Value.bool b)) (and_t hb)
            ·
              refine w_skip rfl rfl ?_
              refine w_skip rfl rfl ?_
              refine w_p tok rfl rfl rfl ?_
              refine w_jn () rfl ⟨?_, rfl, rfl, trivial⟩
              exact congrArg (fun b => some (Value.bool b)) (and_f hb)
    ·
      refine w_gs (d := 16) rfl (fun hb => ?_) (fun hb => ?_)
      ·
        refine w_p tok rfl rfl rfl ?_
        refine w_p tok rfl rfl rfl ?_
        refine w_p tok rfl rfl rfl ?_
        refine w_jn () rfl ⟨?_, rfl, rfl, rfl, rfl, rfl, rfl, trivial⟩
        exact congrArg (fun b => some (Value.bool b)) (and_t hb)
      ·
        refine w_skip rfl rfl ?_
        refine w_skip rfl rfl ?_
        refine w_p tok rfl rfl rfl ?_
        refine w_jn () rfl ⟨?_, rfl, rfl, rfl, rfl, rfl, rfl, trivial⟩
        exact congrArg (fun b => some (Value.bool b)) (and_f hb)
  ·
    refine c_exit ?_
    refine x_te ?_
    refine x_te ?_
    refine x_bh ?_
    refine x_seq ?_
    refine c_seq ?_
    refine c_region ?_
    refine w_p tok rfl rfl rfl ?_
    refine w_p tok rfl rfl rfl ?_
    refine w_p tok rfl rfl rfl ?_
    refine w_end ?_
    refine x_seq ?_
    refine c_ret ?_
    exact x_ret _ rfl _ rfl ⟨(0, 0, 2), rfl, H⟩

theorem raft_text_ok : CallOk Go.Proofs.Try.prog 32 := ⟨_, Go.Proofs.Try.func32, by kernel_rfl, by kernel_rfl⟩
theorem raft_text_ref (p0 : Slc) (p1 : Slc) (k : (Slc) → Heap → Prop) (h : Heap) (H : raft_text p0 p1 k h) : CallsH Go.Proofs.Try.prog 32 #[Slc.v p0, Slc.v p1] h (fun v h' => ∃ r : Slc, v = Slc.v r ∧ k r h') := by
  refine f_enter (N := 12) Go.Proofs.Try.func32 rfl rfl rfl (fun w0 => ?_)
  unfold raft_text at H
  refine c_weak [(0, Slc.v p0), (1, Slc.v p1)] ⟨rfl, rfl, trivial⟩ ?_
  refine c_seq ?_
  refine c_region ?_
  refine w_p tok rfl rfl rfl ?_
  refine w_end ?_
  refine x_seq ?_
  refine c_seq ?_
  refine c_region ?_
  refine w_p tok rfl rfl rfl ?_
  refine w_p tok rfl rfl rfl ?_
  refine w_p tok rfl rfl rfl ?_
  refine w_p tok rfl rfl rfl ?_
  refine w_call num_PutShort_ok (num_PutShort_ref _ _ _ _ H) rfl rfl rfl rfl ?_
  rintro _ h2 ⟨r1, rfl, H⟩
  refine w_p tok rfl rfl rfl ?_
  obtain ⟨l5, hl5, H⟩ := H
  refine w_a (a_app (s := r1) (r := p1) tok rfl rfl rfl rfl rfl hl5 H) rfl rfl ?_
  rintro _ h4 ⟨s3, rfl, H⟩
  refine w_p tok rfl rfl rfl ?_
  refine w_end ?_
  refine x_seq ?_
  refine c_weak [(4, Slc.v s3)] ⟨rfl, trivial⟩ ?_
  refine c_ret ?_
  exact x_ret _ rfl _ rfl ⟨s3, rfl, H⟩

theorem raft_Put_ok : CallOk Go.Proofs.Try.prog 9 := ⟨_, Go.Proofs.Try.func9, by kernel_rfl, by kernel_rfl⟩
theorem raft_Put_ref (p0 : S_api_Msg) (k : (Slc) → Heap → Prop) (h : Heap) (H : raft_Put p0 k h) : CallsH Go.Proofs.Try.prog 9 #[.agg (S_api_Msg.cs p0).toArray] h (fun v h' => ∃ r : Slc, v = Slc.v r ∧ k r h') := by
  refine f_enter (N := 61) Go.Proofs.Try.func9 rfl rfl rfl (fun w0 => ?_)
  unfold raft_Put at H
  refine c_weak [(0, .agg (S_api_Msg.cs p0).toArray)] ⟨rfl, trivial⟩ ?_
  refine c_seq ?_
  refine c_region ?_
  obtain ⟨b1, h2, eb1, eh2, H⟩ := H
  refine w_h (h_box rfl rfl eb1 eh2) rfl rfl ?_
  refine w_p tok rfl rfl rfl ?_
  refine w_end ?_
  refine x_seq ?_
  refine c_seq ?_
  refine c_region ?_
  refine w_p tok rfl rfl rfl ?_
  obtain ⟨v3, hv3, H⟩ := H
  refine w_y (y_ld tok rfl rfl rfl rfl hv3) rfl rfl ?_
  refine w_p tok rfl rfl rfl ?_
  obtain ⟨b4, h5, eb4, eh5, H⟩ := H
  refine w_h (h_bs tok rfl rfl rfl rfl rfl rfl rfl eb4 eh5) rfl rfl ?_
  refine w_p tok rfl rfl rfl ?_
  refine w_end ?_
  refine x_seq ?_
  refine c_seq ?_
  refine c_seq ?_
  refine c_region ?_
  refine w_p tok rfl rfl rfl ?_
  obtain ⟨v6, hv6, H⟩ := H
  refine w_y (y_ld tok rfl rfl rfl rfl hv6) rfl rfl ?_
  refine w_p tok rfl rfl rfl ?_
  obtain ⟨v7, hv7, H⟩ := H
  refine w_y (y_ld tok rfl rfl rfl rfl hv7) rfl rfl ?_
  refine w_p tok rfl rfl rfl ?_
  obtain ⟨v8, hv8, H⟩ := H
  refine w_y (y_ld tok rfl rfl rfl rfl hv8) rfl rfl ?_
  refine w_p tok rfl rfl rfl ?_
  obtain ⟨v9, hv9, H⟩ := H
  refine w_y (y_ld tok rfl rfl rfl rfl hv9) rfl rfl ?_
  obtain ⟨b10, h11, eb10, eh11, H⟩ := H
  refine w_h (h_bs tok rfl rfl rfl rfl rfl rfl rfl eb10 eh11) rfl rfl ?_
  refine w_p tok rfl rfl rfl ?_
  refine w_p tok rfl rfl rfl ?_
  refine w_end ?_
  refine x_seq ?_
  refine c_weak [(1, .pointer (some (⟨b1, 0, none⟩ : Addr))), (3, Slc.v (⟨some ⟨b4, 0, none⟩, 1, 1⟩ : Slc)), (21, Slc.v (⟨some ⟨b10, 0, none⟩, 4, 4⟩ : Slc)), (22, .int .i64 ((⟨some ⟨b10, 0, none⟩, 4, 4⟩ : Slc).len : Int)), (23, .int .i64 0)] ⟨rfl, rfl, rfl, rfl, rfl, trivial⟩ ?_
  refine c_block ?_
  obtain ⟨I1, μ1, H0, HI⟩ := H
  refine c_loop (σ := Slc × Int) (fun (s : Slc × Int) => [(3, Slc.v s.1), (23, .int .i64 s.2), (1, .pointer (some (⟨b1, 0, none⟩ : Addr))), (21, Slc.v (⟨some ⟨b10, 0, none⟩, 4, 4⟩ : Slc)), (22, .int .i64 ((⟨some ⟨b10, 0, none⟩, 4, 4⟩ : Slc).len : Int))]) I1 μ1 ((⟨some ⟨b4, 0, none⟩, 1, 1⟩ : Slc), 0) H0 ⟨rfl, rfl, rfl, rfl, rfl, trivial⟩ ?_
  rintro ⟨t3_1, t23_1⟩ h_1 H
  replace H := HI t3_1 t23_1 h_1 H
  unfold raft_Put_l1b at H
  refine c_weak [(3, Slc.v t3_1), (23, .int .i64 t23_1), (1, .pointer (some (⟨b1, 0, none⟩ : Addr))), (21, Slc.v (⟨some ⟨b10, 0, none⟩, 4, 4⟩ : Slc)), (22, .int .i64 ((⟨some ⟨b10, 0, none⟩, 4, 4⟩ : Slc).len : Int))] ⟨rfl, rfl, rfl, rfl, rfl, trivial⟩ ?_
  refine c_seq ?_
  refine c_region ?_
  refine w_p tok rfl rfl rfl ?_
  refine w_end ?_
  refine x_seq ?_
  refine c_seq ?_
  refine c_if H rfl (fun H => ?_) (fun H => ?_)
  ·
    refine c_skip ?_
    refine x_seq ?_
    refine c_seq ?_
    refine c_block ?_
    refine c_seq ?_
    refine c_region ?_
    obtain ⟨a12, ha12, la12, ua12, H⟩ := H
    refine w_y (y_ixa' tok rfl rfl ha12 rfl rfl rfl la12 ua12) rfl rfl ?_
    obtain ⟨v13, hv13, H⟩ := H
    refine w_y (y_ld tok rfl rfl rfl rfl hv13) rfl rfl ?_
    refine w_p tok rfl rfl rfl ?_
    refine w_end ?_
    refine x_seq ?_
    refine c_region ?_
    refine w_p tok rfl rfl rfl ?_
    refine w_p tok rfl rfl rfl ?_
    refine w_call num_PutShort_ok (num_PutShort_ref _ _ _ _ H) rfl rfl rfl rfl ?_
    rintro _ h15 ⟨r14, rfl, H⟩
    refine w_p tok rfl rfl rfl ?_
    refine w_end ?_
    refine x_blk ?_
    refine x_seq ?_
    refine c_weak [(3, Slc.v r14), (23, .int .i64 t23_1), (1, .pointer (some (⟨b1, 0, none⟩ : Addr))), (21, Slc.v (⟨some ⟨b10, 0, none⟩, 4, 4⟩ : Slc)), (22, .int .i64 ((⟨some ⟨b10, 0, none⟩, 4, 4⟩ : Slc).len : Int))] ⟨rfl, rfl, rfl, rfl, rfl, trivial⟩ ?_
    refine c_region ?_
    refine w_p tok rfl rfl rfl ?_
    refine w_p tok rfl rfl rfl ?_
    refine w_end ?_
    exact x_join (r14, (IntKind.i64.wrap (t23_1 + 1))) H ⟨rfl, rfl, rfl, rfl, rfl, trivial⟩
  ·
    refine c_exit ?_
    refine x_te ?_
    refine x_te ?_
    refine x_bh ?_
    refine x_seq ?_
    refine c_seq ?_
    refine c_region ?_
    refine w_p tok rfl rfl rfl ?_
    refine w_end ?_
    refine x_seq ?_
    refine c_seqJ (α := Int) (fun (s : Int) => [(6, .int .u8 s), (1, .pointer (some (⟨b1, 0, none⟩ : Addr))), (3, Slc.v t3_1)]) (fun (s : Int) h => raft_Put_j2 (⟨b1, 0, none⟩ : Addr) t3_1 s k (fun s h' => I1 s h' ∧ μ1 s h' < μ1 (t3_1, t23_1) h_1) h) ?_ ?_
    ·
      rintro t6_2 h_2 H
      replace H : raft_Put_j2 (⟨b1, 0, none⟩ : Addr) t3_1 t6_2 k (fun s h' => I1 s h' ∧ μ1 s h' < μ1 (t3_1, t23_1) h_1) h_2 := H
      unfold raft_Put_j2 at H
      refine c_weak [(6, .int .u8 t6_2), (1, .pointer (some (⟨b1, 0, none⟩ : Addr))), (3, Slc.v t3_1)] ⟨rfl, rfl, rfl, trivial⟩ ?_
      refine c_seq ?_
      refine c_sim [(1, .pointer (some (⟨b1, 0, none⟩ : Addr))), (3, Slc.v t3_1), (6, .int .u8 t6_2)] (by kernel_rfl) (by kernel_rfl) ⟨rfl, rfl, rfl, trivial⟩ (fun wf => ?_)
      refine sP 0 [(3, Slc.v t3_1)] (some 33) wf ⟨rfl, trivial⟩ (fun _ => pf_p tok rfl rfl rfl rfl) (fun P_0 => ?_)
      refine sP 1 [(6, .int .u8 t6_2)] (some 34) wf ⟨rfl, trivial⟩ (fun _ => pf_p tok rfl rfl rfl rfl) (fun P_1 => ?_)
      refine sP 4 [(1, .pointer (some (⟨b1, 0, none⟩ : Addr)))] (some 37) wf ⟨rfl, trivial⟩ (fun _ => pf_p tok rfl rfl rfl rfl) (fun P_4 => ?_)
      obtain ⟨v16, hv16, H⟩ := H
      refine sL 5 [(37, .pointer (some ((⟨b1, 0, none⟩ : Addr).add 6)))] (some 38) wf ⟨rfl, trivial⟩ (pf_y rfl rfl rfl (y_ld tok rfl rfl rfl rfl hv16)) (fun P_5 => ?_)
      refine sP 6 [(38, Slc.v v16)] (some 39) wf ⟨rfl, trivial⟩ (fun _ => pf_p tok rfl rfl rfl rfl) (fun P_6 => ?_)
      refine sP 7 [(39, .int .i64 (v16.len : Int))] (some 40) wf ⟨rfl, trivial⟩ (fun _ => pf_p tok rfl rfl rfl rfl) (fun P_7 => ?_)
      obtain ⟨b17, h18, eb17, eh18, H⟩ := H
      refine sim_h 2 [1] [1] (ei := [(34, .int .u8 t6_2)]) wf ⟨P_7 _, P_6 _, P_5, P_4 _, P_1 _, P_0 _, trivial⟩ (by kernel_rfl) ⟨rfl, trivial⟩ (by kernel_rfl) rfl rfl rfl (h_bs tok rfl rfl rfl rfl rfl rfl rfl eb17 eh18) ?_
      obtain ⟨hy19, H⟩ := H
      refine sim_re (x := ⟨5, Slc.v v16, [(37, .pointer (some ((⟨b1, 0, none⟩ : Addr).add 6)))]⟩) (pf_y rfl rfl rfl (y_ld tok rfl rfl rfl rfl hy19)) (fun P_5 => ?_)
      refine sim_a 3 [0, 1, 2] [0, 1] (ei := [(33, Slc.v t3_1), (35, Slc.v (⟨some ⟨b17, 0, none⟩, 1, 1⟩ : Slc))]) wf ⟨P_7 _, P_6 _, P_5, P_4 _, trivial, P_0 _, trivial⟩ (by kernel_rfl) ⟨rfl, rfl, trivial⟩ (by kernel_rfl) rfl rfl rfl (a_app (s := t3_1) (r := (⟨some ⟨b17, 0, none⟩, 1, 1⟩ : Slc)) tok rfl rfl rfl rfl rfl (slcAt_push eb17 eh18) H) ?_
      rintro _ h21 ⟨s20, rfl, H⟩
      obtain ⟨hy22, H⟩ := H
      refine sim_re (x := ⟨5, Slc.v v16, [(37, .pointer (some ((⟨b1, 0, none⟩ : Addr).add 6)))]⟩) (pf_y rfl rfl rfl (y_ld tok rfl rfl rfl rfl hy22)) (fun P_5 => ?_)
      refine sim_c 8 [0, 1, 2, 3, 4, 5, 6, 7] [0, 1, 4, 5, 6, 7] (ei := [(36, Slc.v s20), (40, .int .u64 (IntKind.u64.wrap (v16.len : Int)))]) num_PutShort_ok (num_PutShort_ref _ _ _ _ H) wf ⟨P_7 _, P_6 _, P_5, P_4 _, trivial, trivial, trivial⟩ (by kernel_rfl) ⟨rfl, rfl, trivial⟩ (by kernel_rfl) rfl rfl rfl rfl rfl ?_
      rintro _ h24 ⟨r23, rfl, H⟩
      refine sP 9 [(41, Slc.v r23)] (some 3) wf ⟨rfl, trivial⟩ (fun _ => pf_p tok rfl rfl rfl rfl) (fun P_9 => ?_)
      refine sim_end wf ⟨P_9 _, trivial, trivial, trivial, trivial, trivial, trivial, trivial⟩ (by kernel_rfl) ?_
      clear wf P_0 P_1 P_4 P_5 P_6 P_7 P_9
      refine x_seq ?_
      refine c_weak [(1, .pointer (some (⟨b1, 0, none⟩ : Addr))), (3, Slc.v r23)] ⟨rfl, rfl, trivial⟩ ?_
      refine c_seq ?_
      refine c_seq ?_
      refine c_region ?_
      refine w_p tok rfl rfl rfl ?_
      obtain ⟨v25, hv25, H⟩ := H
      refine w_y (y_ld tok rfl rfl rfl rfl hv25) rfl rfl ?_
      refine w_p tok rfl rfl rfl ?_
      refine w_p tok rfl rfl rfl ?_
      refine w_end ?_
      refine x_seq ?_
      refine c_block ?_
      obtain ⟨I3, μ3, H0, HI⟩ := H
      refine c_loop (σ := Slc × Int) (fun (s : Slc × Int) => [(3, Slc.v s.1), (45, .int .i64 s.2), (1, .pointer (some (⟨b1, 0, none⟩ : Addr))), (43, Slc.v v25), (44, .int .i64 (v25.len : Int))]) I3 μ3 (r23, 0) H0 ⟨rfl, rfl, rfl, rfl, rfl, trivial⟩ ?_
      rintro ⟨t3_3, t45_3⟩ h_3 H
      replace H := HI t3_3 t45_3 h_3 H
      unfold raft_Put_l3b at H
      refine c_weak [(3, Slc.v t3_3), (45, .int .i64 t45_3), (1, .pointer (some (⟨b1, 0, none⟩ : Addr))), (43, Slc.v v25), (44, .int .i64 (v25.len : Int))] ⟨rfl, rfl, rfl, rfl, rfl, trivial⟩ ?_
      refine c_seq ?_
      refine c_region ?_
      refine w_p tok rfl rfl rfl ?_
      refine w_end ?_
      refine x_seq ?_
      refine c_seq ?_
      refine c_if H rfl (fun H => ?_) (fun H => ?_)
      ·
        refine c_skip ?_
        refine x_seq ?_
        refine c_seq ?_
        refine c_block ?_
        refine c_seq ?_
        refine c_region ?_
        obtain ⟨a26, ha26, la26, ua26, H⟩ := H
        refine w_y (y_ixa' tok rfl rfl ha26 rfl rfl rfl la26 ua26) rfl rfl ?_
        obtain ⟨v27, hv27, H⟩ := H
        refine w_y (y_lda tok rfl rfl rfl rfl rfl hv27) rfl rfl ?_
        obtain ⟨b28, h29, eb28, eh29, H⟩ := H
        refine w_h (h_alloc tok rfl rfl eb28 eh29) rfl rfl ?_
        obtain ⟨h30, wh30, eh30, H⟩ := H
        refine w_h (h_sts tok rfl rfl rfl rfl rfl (oneC (by kernel_rfl)) wh30 eh30) rfl rfl ?_
        refine w_end ?_
        refine x_seq ?_
        refine c_sim [(1, .pointer (some (⟨b1, 0, none⟩ : Addr))), (3, Slc.v t3_3), (8, .pointer (some (⟨b28, 0, none⟩ : Addr))), (43, Slc.v v25), (44, .int .i64 (v25.len : Int)), (45, .int .i64 t45_3)] (by kernel_rfl) (by kernel_rfl) ⟨rfl, rfl, rfl, rfl, rfl, rfl, trivial⟩ (fun wf => ?_)
        refine sP 0 [(3, Slc.v t3_3)] (some 49) wf ⟨rfl, trivial⟩ (fun _ => pf_p tok rfl rfl rfl rfl) (fun P_0 => ?_)
        refine sP 1 [(8, .pointer (some (⟨b28, 0, none⟩ : Addr)))] (some 50) wf ⟨rfl, trivial⟩ (fun _ => pf_p tok rfl rfl rfl rfl) (fun P_1 => ?_)
        obtain ⟨v31, hv31, H⟩ := H
        refine sL 2 [(50, .pointer (some (⟨b28, 0, none⟩ : Addr)))] (some 51) wf ⟨rfl, trivial⟩ (pf_y rfl rfl rfl (y_ld tok rfl rfl rfl rfl hv31)) (fun P_2 => ?_)
        refine sP 4 [(8, .pointer (some (⟨b28, 0, none⟩ : Addr)))] (some 53) wf ⟨rfl, trivial⟩ (fun _ => pf_p tok rfl rfl rfl rfl) (fun P_4 => ?_)
        obtain ⟨v32, hv32, H⟩ := H
        refine sL 5 [(53, .pointer (some ((⟨b28, 0, none⟩ : Addr).add 1)))] (some 54) wf ⟨rfl, trivial⟩ (pf_y rfl rfl rfl (y_ld tok rfl rfl rfl rfl hv32)) (fun P_5 => ?_)
        refine sim_c 3 [0, 1, 2] [0, 1, 2] (ei := [(49, Slc.v t3_3), (51, .int .u64 v31)]) num_PutShort_ok (num_PutShort_ref _ _ _ _ H) wf ⟨P_5, P_4 _, P_2, P_1 _, P_0 _, trivial⟩ (by kernel_rfl) ⟨rfl, rfl, trivial⟩ (by kernel_rfl) rfl rfl rfl rfl rfl ?_
        rintro _ h34 ⟨r33, rfl, H⟩
        obtain ⟨hy35, H⟩ := H
        refine sim_re (x := ⟨5, Slc.v v32, [(53, .pointer (some ((⟨b28, 0, none⟩ : Addr).add 1)))]⟩) (pf_y rfl rfl rfl (y_ld tok rfl rfl rfl rfl hy35)) (fun P_5 => ?_)
        refine sim_c 6 [0, 1, 2, 3, 4, 5] [0, 1, 2, 4, 5] (ei := [(52, Slc.v r33), (54, Slc.v v32)]) raft_text_ok (raft_text_ref _ _ _ _ H) wf ⟨P_5, P_4 _, trivial, trivial, trivial, trivial⟩ (by kernel_rfl) ⟨rfl, rfl, trivial⟩ (by kernel_rfl) rfl rfl rfl rfl rfl ?_
        rintro _ h37 ⟨r36, rfl, H⟩
        refine sP 7 [(55, Slc.v r36)] (some 3) wf ⟨rfl, trivial⟩ (fun _ => pf_p tok rfl rfl rfl rfl) (fun P_7 => ?_)
        refine sim_end wf ⟨P_7 _, trivial, trivial, trivial, trivial, trivial, trivial⟩ (by kernel_rfl) ?_
        clear wf P_0 P_1 P_2 P_4 P_5 P_7
        refine x_blk ?_
        refine x_seq ?_
        refine c_weak [(1, .pointer (some (⟨b1, 0, none⟩ : Addr))), (3, Slc.v r36), (43, Slc.v v25), (44, .int .i64 (v25.len : Int)), (45, .int .i64 t45_3)] ⟨rfl, rfl, rfl, rfl, rfl, trivial⟩ ?_
        refine c_region ?_
        refine w_p tok rfl rfl rfl ?_
        refine w_p tok rfl rfl rfl ?_
        refine w_end ?_
        exact x_join (r36, (IntKind.i64.wrap (t45_3 + 1))) H ⟨rfl, rfl, rfl, rfl, rfl, trivial⟩
      ·
        refine c_exit ?_
        refine x_te ?_
        refine x_te ?_
        refine x_bh ?_
        refine x_seq ?_
        refine c_seq ?_
        refine c_region ?_
        refine w_p tok rfl rfl rfl ?_
        refine w_p tok rfl rfl rfl ?_
        obtain ⟨v38, hv38, H⟩ := H
        refine w_y (y_ld tok rfl rfl rfl rfl hv38) rfl rfl ?_
        refine w_call raft_text_ok (raft_text_ref _ _ _ _ H) rfl rfl rfl rfl ?_
        rintro _ h40 ⟨r39, rfl, H⟩
        refine w_p tok rfl rfl rfl ?_
        refine w_end ?_
        refine x_seq ?_
        refine c_weak [(2, Slc.v r39)] ⟨rfl, trivial⟩ ?_
        refine c_ret ?_
        exact x_ret _ rfl _ rfl ⟨r39, rfl, H⟩
    ·
      refine c_seq ?_
      refine c_region ?_
      refine w_p tok rfl rfl rfl ?_
      obtain ⟨v41, hv41, H⟩ := H
      refine w_y (y_ld tok rfl rfl rfl rfl hv41) rfl rfl ?_
      refine w_end ?_
      refine x_seq ?_
      refine c_if H rfl (fun H => ?_) (fun H => ?_)
      ·
        refine c_region ?_
        refine w_p tok rfl rfl rfl ?_
        refine w_end ?_
        exact x_join 1 H ⟨rfl, rfl, rfl, trivial⟩
      ·
        refine c_skip ?_
        exact x_join 0 H ⟨rfl, rfl, rfl, trivial⟩

theorem raft_reader_short_ok : CallOk Go.Proofs.Try.prog 34 := ⟨_, Go.Proofs.Try.func34, by kernel_rfl, by kernel_rfl⟩
theorem raft_reader_short_ref (p0 : Option Addr) (k : (Int) → Heap → Prop) (h : Heap) (H : raft_reader_short p0 k h) : CallsH Go.Proofs.Try.prog 34 #[.pointer p0] h (fun v h' => ∃ r : Int, v = .int .u64 r ∧ k r h') := by
  refine f_enter (N := 36) Go.Proofs.Try.func34 rfl rfl rfl (fun w0 => ?_)
  unfold raft_reader_short at H
  refine c_weak [(0, .pointer p0)] ⟨rfl, trivial⟩ ?_
  refine c_seq ?_
  refine c_region ?_
  refine w_p tok rfl rfl rfl ?_
  refine w_end ?_
  refine x_seq ?_
  refine c_seq ?_
  refine c_region ?_
  refine w_p tok rfl rfl rfl ?_
  obtain ⟨a1, ha1, H⟩ := H
  refine w_y (y_nil' rfl rfl ha1) rfl rfl ?_
  refine w_p tok rfl rfl rfl ?_
  obtain ⟨v2, hv2, H⟩ := H
  refine w_y (y_ld tok rfl rfl rfl rfl hv2) rfl rfl ?_
  refine w_call num_GetShort_ok (num_GetShort_ref _ _ _ H) rfl rfl rfl rfl ?_
  rintro _ h4 ⟨r3, rfl, H⟩
  refine w_p tok rfl rfl rfl ?_
  refine w_p tok rfl rfl rfl ?_
  refine w_p tok rfl rfl rfl ?_
  refine w_p tok rfl rfl rfl ?_
  refine w_p tok rfl rfl rfl ?_
  refine w_p tok rfl rfl rfl ?_
  refine w_p tok rfl rfl rfl ?_
  refine w_end ?_
  refine x_seq ?_
  refine c_weak [(0, .pointer p0), (3, .int .u64 r3.1), (4, .int .i64 r3.2.1), (5, .int .i64 r3.2.2)] ⟨rfl, rfl, rfl, rfl, trivial⟩ ?_
  refine c_seq ?_
  refine c_region ?_
  refine w_p tok rfl rfl rfl ?_
  refine w_p tok rfl rfl rfl ?_
  refine w_y (y_nil' rfl rfl ha1) rfl rfl ?_
  refine w_p tok rfl rfl rfl ?_
  obtain ⟨v5, hv5, H⟩ := H
  refine w_y (y_ld tok rfl rfl rfl rfl hv5) rfl rfl ?_
  refine w_p tok rfl rfl rfl ?_
  refine w_cutU 3 [(23, .bool (v5 || (r3.2.2 != 0))), (0, .pointer p0), (3, .int .u64 r3.1), (4, .int .i64 r3.2.1), (15, .pointer p0)] ?_ ?_
  ·
    refine w_y (y_nil' rfl rfl ha1) rfl rfl ?_
    refine w_p tok rfl rfl rfl ?_
    obtain ⟨h6, wh6, eh6, H⟩ := H
    refine w_h (h_st tok rfl rfl rfl rfl rfl rfl wh6 eh6) rfl rfl ?_
    refine w_end ?_
    refine x_seq ?_
    refine c_seq ?_
    refine c_region ?_
    refine w_p tok rfl rfl rfl ?_
    refine w_p tok rfl rfl rfl ?_
    refine w_y (y_nil' rfl rfl ha1) rfl rfl ?_
    refine w_p tok rfl rfl rfl ?_
    obtain ⟨v7, hv7, H⟩ := H
    refine w_y (y_ld tok rfl rfl rfl rfl hv7) rfl rfl ?_
    refine w_p tok rfl rfl rfl ?_
    obtain ⟨s8, ps8, qs8, rs8, ts8, es8, H⟩ := H
    refine w_ye (y_sl (s := v7) (L := r3.2.1) (H := (v7.len : Int)) (M := (v7.cap : Int)) tok rfl rfl rfl rfl rfl rfl rfl (by simp) ps8 qs8 rs8 ts8) (congrArg Slc.v es8) rfl rfl ?_
    refine w_y (y_nil' rfl rfl ha1) rfl rfl ?_
    refine w_p tok rfl rfl rfl ?_
    obtain ⟨h9, wh9, eh9, H⟩ := H
    refine w_h (h_st tok rfl rfl rfl rfl rfl rfl wh9 eh9) rfl rfl ?_
    refine w_end ?_
    refine x_seq ?_
    refine c_weak [(3, .int .u64 r3.1)] ⟨rfl, trivial⟩ ?_
    refine c_seq ?_
    refine c_region ?_
    refine w_p tok rfl rfl rfl ?_
    refine w_p tok rfl rfl rfl ?_
    refine w_end ?_
    refine x_seq ?_
    refine c_ret ?_
    exact x_ret _ rfl _ rfl ⟨r3.1, rfl, H⟩
  ·
    refine w_gs (d := 20) rfl (fun hb => ?_) (fun hb => ?_)
    ·
      refine w_skip rfl rfl ?_
      refine w_skip rfl rfl ?_
      refine w_p tok rfl rfl rfl ?_
      refine w_jn () rfl ⟨?_, rfl, rfl, rfl, rfl, trivial⟩
      exact congrArg (fun b => some (Value.bool b)) (or_t hb)
    ·
      refine w_p tok rfl rfl rfl ?_
      refine w_p tok rfl rfl rfl ?_
      refine w_p tok rfl rfl rfl ?_
      refine w_jn () rfl ⟨?_, rfl, rfl, rfl, rfl, trivial⟩
      exact congrArg (fun b => some (Value.bool b)) (or_f hb)

theorem raft_reader_bytes_ok : CallOk Go.Proofs.Try.prog 35 := ⟨_, Go.Proofs.Try.func35, by kernel_rfl, by kernel_rfl⟩
theorem raft_reader_bytes_ref (p0 : Option Addr) (p1 : Int) (k : (Slc) → Heap → Prop) (h : Heap) (H : raft_reader_bytes p0 p1 k h) : CallsH Go.Proofs.Try.prog 35 #[.pointer p0, .int .u64 p1] h (fun v h' => ∃ r : Slc, v = Slc.v r ∧ k r h') := by
  refine f_enter (N := 40) Go.Proofs.Try.func35 rfl rfl rfl (fun w0 => ?_)
  unfold raft_reader_bytes at H
  refine c_weak [(0, .pointer p0), (1, .int .u64 p1)] ⟨rfl, rfl, trivial⟩ ?_
  refine c_seq ?_
  refine c_region ?_
  refine w_p tok rfl rfl rfl ?_
  refine w_end ?_
  refine x_seq ?_
  refine c_seq ?_
  refine c_seq ?_
  refine c_region ?_
  refine w_p tok rfl rfl rfl ?_
  obtain ⟨a1, ha1, H⟩ := H
  refine w_y (y_nil' rfl rfl ha1) rfl rfl ?_
  refine w_p tok rfl rfl rfl ?_
  obtain ⟨v2, hv2, H⟩ := H
  refine w_y (y_ld tok rfl rfl rfl rfl hv2) rfl rfl ?_
  refine w_p tok rfl rfl rfl ?_
  refine w_cut 9 (α := Bool) (fun (s : Bool) => [(19, .bool s), (0, .pointer p0), (1, .int .u64 p1)]) (fun (s : Bool) h => raft_reader_bytes_g1 p0 p1 s k h) ?_ ?_
  ·
    rintro t19_1 h_1 H
    replace H : raft_reader_bytes_g1 p0 p1 t19_1 k h_1 := H
    unfold raft_reader_bytes_g1 at H
    refine w_weak [(19, .bool t19_1), (0, .pointer p0), (1, .int .u64 p1)] ⟨rfl, rfl, rfl, trivial⟩ ?_
    refine w_end ?_
    refine x_seq ?_
    refine c_if H rfl (fun H => ?_) (fun H => ?_)
    ·
      refine c_seq ?_
      refine c_region ?_
      refine w_p tok rfl rfl rfl ?_
      obtain ⟨a3, ha3, H⟩ := H
      refine w_y (y_nil' rfl rfl ha3) rfl rfl ?_
      refine w_p tok rfl rfl rfl ?_
      obtain ⟨h4, wh4, eh4, H⟩ := H
      refine w_h (h_st tok rfl rfl rfl rfl rfl rfl wh4 eh4) rfl rfl ?_
      refine w_end ?_
      refine x_seq ?_
      refine c_seq ?_
      refine c_region ?_
      refine w_p tok rfl rfl rfl ?_
      refine w_end ?_
      refine x_seq ?_
      refine c_ret ?_
      refine x_tr ?_
      exact x_ret _ rfl _ rfl ⟨(⟨none, 0, 0⟩ : Slc), rfl, H⟩
    ·
      refine c_skip ?_
      refine x_seq ?_
      refine c_seq ?_
      refine c_region ?_
      refine w_p tok rfl rfl rfl ?_
      obtain ⟨a5, ha5, H⟩ := H
      refine w_y (y_nil' rfl rfl ha5) rfl rfl ?_
      refine w_p tok rfl rfl rfl ?_
      obtain ⟨v6, hv6, H⟩ := H
      refine w_y (y_ld tok rfl rfl rfl rfl hv6) rfl rfl ?_
      refine w_p tok rfl rfl rfl ?_
      obtain ⟨s7, ps7, qs7, rs7, ts7, es7, H⟩ := H
      refine w_ye (y_sl (s := v6) (L := 0) (H := p1) (M := (v6.cap : Int)) tok rfl rfl rfl rfl rfl rfl rfl (by simp) ps7 qs7 rs7 ts7) (congrArg Slc.v es7) rfl rfl ?_
      refine w_call slices_Clone_byte_byte_ok (slices_Clone_byte_byte_ref _ _ _ H) rfl rfl rfl rfl ?_
      rintro _ h9 ⟨r8, rfl, H⟩
      refine w_p tok rfl rfl rfl ?_
      refine w_end ?_
      refine x_seq ?_
      refine c_weak [(0, .pointer p0), (1, .int .u64 p1), (5, Slc.v r8)] ⟨rfl, rfl, rfl, trivial⟩ ?_
      refine c_seq ?_
      refine c_region ?_
      refine w_p tok rfl rfl rfl ?_
      refine w_p tok rfl rfl rfl ?_
      refine w_y (y_nil' rfl rfl ha5) rfl rfl ?_
      refine w_p tok rfl rfl rfl ?_
      obtain ⟨v10, hv10, H⟩ := H
      refine w_y (y_ld tok rfl rfl rfl rfl hv10) rfl rfl ?_
      refine w_p tok rfl rfl rfl ?_
      obtain ⟨s11, ps11, qs11, rs11, ts11, es11, H⟩ := H
      refine w_ye (y_sl (s := v10) (L := p1) (H := (v10.len : Int)) (M := (v10.cap : Int)) tok rfl rfl rfl rfl rfl rfl rfl (by simp) ps11 qs11 rs11 ts11) (congrArg Slc.v es11) rfl rfl ?_
      refine w_y (y_nil' rfl rfl ha5) rfl rfl ?_
      refine w_p tok rfl rfl rfl ?_
      obtain ⟨h12, wh12, eh12, H⟩ := H
      refine w_h (h_st tok rfl rfl rfl rfl rfl rfl wh12 eh12) rfl rfl ?_
      refine w_end ?_
      refine x_seq ?_
      refine c_weak [(5, Slc.v r8)] ⟨rfl, trivial⟩ ?_
      refine c_seq ?_
      refine c_region ?_
      refine w_p tok rfl rfl rfl ?_
      refine w_p tok rfl rfl rfl ?_
      refine w_end ?_
      refine x_seq ?_
      refine c_ret ?_
      exact x_ret _ rfl _ rfl ⟨r8, rfl, H⟩
  ·
    refine w_gif (d := 10) H rfl (fun H => ?_) (fun H => ?_)
    ·
      refine w_skip rfl rfl ?_
      refine w_skip rfl rfl ?_
      refine w_skip rfl rfl ?_
      refine w_skip rfl rfl ?_
      refine w_skip rfl rfl ?_
      refine w_skip rfl rfl ?_
      refine w_skip rfl rfl ?_
      refine w_skip rfl rfl ?_
      refine w_p tok rfl rfl rfl ?_
      exact w_jn true H ⟨rfl, rfl, rfl, trivial⟩
    ·
      refine w_p tok rfl rfl rfl ?_
      refine w_p tok rfl rfl rfl ?_
      refine w_y (y_nil' rfl rfl ha1) rfl rfl ?_
      refine w_p tok rfl rfl rfl ?_
      obtain ⟨v13, hv13, H⟩ := H
      refine w_y (y_ld tok rfl rfl rfl rfl hv13) rfl rfl ?_
      refine w_p tok rfl rfl rfl ?_
      refine w_p tok rfl rfl rfl ?_
      refine w_p tok rfl rfl rfl ?_
      refine w_p tok rfl rfl rfl ?_
      exact w_jn (decide (p1 > (IntKind.u64.wrap (v13.len : Int)))) H ⟨rfl, rfl, rfl, trivial⟩

theorem raft_reader_byte_ok : CallOk Go.Proofs.Try.prog 33 := ⟨_, Go.Proofs.Try.func33, by kernel_rfl, by kernel_rfl⟩
theorem raft_reader_byte_ref (p0 : Option Addr) (k : (Int) → Heap → Prop) (h : Heap) (H : raft_reader_byte p0 k h) : CallsH Go.Proofs.Try.prog 33 #[.pointer p0] h (fun v h' => ∃ r : Int, v = .int .u8 r ∧ k r h') := by
  refine f_enter (N := 12) Go.Proofs.Try.func33 rfl rfl rfl (fun w0 => ?_)
  unfold raft_reader_byte at H
  refine c_weak [(0, .pointer p0)] ⟨rfl, trivial⟩ ?_
  refine c_seq ?_
  refine c_region ?_
  refine w_p tok rfl rfl rfl ?_
  refine w_end ?_
  refine x_seq ?_
  refine c_seq ?_
  refine c_region ?_
  refine w_p tok rfl rfl rfl ?_
  refine w_call raft_reader_bytes_ok (raft_reader_bytes_ref _ _ _ _ H) rfl rfl rfl rfl ?_
  rintro _ h2 ⟨r1, rfl, H⟩
  refine w_p tok rfl rfl rfl ?_
  refine w_end ?_
  refine x_seq ?_
  refine c_seq ?_
  refine c_seq ?_
  refine c_region ?_
  refine w_p tok rfl rfl rfl ?_
  refine w_p tok rfl rfl rfl ?_
  refine w_p tok rfl rfl rfl ?_
  refine w_end ?_
  refine x_seq ?_
  refine c_if H rfl (fun H => ?_) (fun H => ?_)
  ·
    refine c_seq ?_
    refine c_region ?_
    refine w_p tok rfl rfl rfl ?_
    refine w_end ?_
    refine x_seq ?_
    refine c_weak [(2, .int .u8 0)] ⟨rfl, trivial⟩ ?_
    refine c_ret ?_
    refine x_tr ?_
    exact x_ret _ rfl _ rfl ⟨0, rfl, H⟩
  ·
    refine c_skip ?_
    refine x_seq ?_
    refine c_weak [(3, Slc.v r1)] ⟨rfl, trivial⟩ ?_
    refine c_seq ?_
    refine c_region ?_
    refine w_p tok rfl rfl rfl ?_
    obtain ⟨a3, ha3, la3, ua3, H⟩ := H
    refine w_y (y_ixa' tok rfl rfl ha3 rfl rfl rfl la3 ua3) rfl rfl ?_
    obtain ⟨v4, hv4, H⟩ := H
    refine w_y (y_ld tok rfl rfl rfl rfl hv4) rfl rfl ?_
    refine w_p tok rfl rfl rfl ?_
    refine w_end ?_
    refine x_seq ?_
    refine c_ret ?_
    exact x_ret _ rfl _ rfl ⟨v4, rfl, H⟩

theorem raft_Get_ok : CallOk Go.Proofs.Try.prog 10 := ⟨_, Go.Proofs.Try.func10, by kernel_rfl, by kernel_rfl⟩
theorem raft_Get_ref (p0 : Slc) (k : (S_api_Msg × Int) → Heap → Prop) (h : Heap) (H : raft_Get p0 k h) : CallsH Go.Proofs.Try.prog 10 #[Slc.v p0] h (fun v h' => ∃ r : S_api_Msg × Int, v = .tuple #[.agg (S_api_Msg.cs r.1).toArray, .int .i64 r.2] ∧ k r h') := by
  refine f_enter (N := 83) Go.Proofs.Try.func10 rfl rfl rfl (fun w0 => ?_)
  unfold raft_Get at H
  refine c_weak [(0, Slc.v p0)] ⟨rfl, trivial⟩ ?_
  refine c_seq ?_
  refine c_region ?_
  obtain ⟨b1, h2, eb1, eh2, H⟩ := H
  refine w_h (h_alloc tok rfl rfl eb1 eh2) rfl rfl ?_
  refine w_p tok rfl rfl rfl ?_
  refine w_end ?_
  refine x_seq ?_
  refine c_scope ?_
  refine c_seq ?_
  refine c_region ?_
  refine w_p tok rfl rfl rfl ?_
  refine w_y (y_build tok rfl rfl rfl rfl rfl) rfl rfl ?_
  obtain ⟨b3, h4, eb3, eh4, H⟩ := H
  refine w_h (h_box rfl rfl eb3 eh4) rfl rfl ?_
  refine w_p tok rfl rfl rfl ?_
  refine w_end ?_
  refine x_seq ?_
  refine c_seq ?_
  refine c_region ?_
  refine w_p tok rfl rfl rfl ?_
  refine w_call raft_reader_byte_ok (raft_reader_byte_ref _ _ _ H) rfl rfl rfl rfl ?_
  rintro _ h6 ⟨r5, rfl, H⟩
  refine w_p tok rfl rfl rfl ?_
  refine w_p tok rfl rfl rfl ?_
  refine w_call raft_reader_short_ok (raft_reader_short_ref _ _ _ H) rfl rfl rfl rfl ?_
  rintro _ h8 ⟨r7, rfl, H⟩
  refine w_p tok rfl rfl rfl ?_
  refine w_call raft_reader_short_ok (raft_reader_short_ref _ _ _ H) rfl rfl rfl rfl ?_
  rintro _ h10 ⟨r9, rfl, H⟩
  refine w_p tok rfl rfl rfl ?_
  refine w_call raft_reader_short_ok (raft_reader_short_ref _ _ _ H) rfl rfl rfl rfl ?_
  rintro _ h12 ⟨r11, rfl, H⟩
  refine w_p tok rfl rfl rfl ?_
  refine w_call raft_reader_short_ok (raft_reader_short_ref _ _ _ H) rfl rfl rfl rfl ?_
  rintro _ h14 ⟨r13, rfl, H⟩
  refine w_y (y_build tok rfl rfl rfl rfl rfl) rfl rfl ?_
  obtain ⟨b15, h16, eb15, eh16, H⟩ := H
  refine w_h (h_alloc tok rfl rfl eb15 eh16) rfl rfl ?_
  obtain ⟨h17, wh17, eh17, H⟩ := H
  refine w_h (h_sts tok rfl rfl rfl rfl rfl (oneC (by kernel_rfl)) wh17 eh17) rfl rfl ?_
  refine w_end ?_
  refine x_seq ?_
  refine c_weak [(2, .pointer (some (⟨b1, 0, none⟩ : Addr))), (4, .pointer (some (⟨b3, 0, none⟩ : Addr))), (5, .pointer (some (⟨b15, 0, none⟩ : Addr)))] ⟨rfl, rfl, rfl, trivial⟩ ?_
  refine c_seq ?_
  refine c_region ?_
  refine w_p tok rfl rfl rfl ?_
  refine w_call raft_reader_byte_ok (raft_reader_byte_ref _ _ _ H) rfl rfl rfl rfl ?_
  rintro _ h19 ⟨r18, rfl, H⟩
  refine w_p tok rfl rfl rfl ?_
  refine w_end ?_
  refine x_seq ?_
  refine c_seq ?_
  refine c_region ?_
  refine w_p tok rfl rfl rfl ?_
  refine w_p tok rfl rfl rfl ?_
  refine w_p tok rfl rfl rfl ?_
  obtain ⟨h20, wh20, eh20, H⟩ := H
  refine w_h (h_st tok rfl rfl rfl rfl rfl rfl wh20 eh20) rfl rfl ?_
  refine w_end ?_
  refine x_seq ?_
  refine c_seq ?_
  refine c_region ?_
  refine w_p tok rfl rfl rfl ?_
  refine w_p tok rfl rfl rfl ?_
  refine w_y (y_nil rfl rfl) rfl rfl ?_
  refine w_p tok rfl rfl rfl ?_
  obtain ⟨v21, hv21, H⟩ := H
  refine w_y (y_ld tok rfl rfl rfl rfl hv21) rfl rfl ?_
  refine w_p tok rfl rfl rfl ?_
  refine w_cutU 3 [(37, .bool (v21 || (decide (r18 > 1)))), (2, .pointer (some (⟨b1, 0, none⟩ : Addr))), (4, .pointer (some (⟨b3, 0, none⟩ : Addr))), (5, .pointer (some (⟨b15, 0, none⟩ : Addr))), (29, .pointer (some (⟨b3, 0, none⟩ : Addr)))] ?_ ?_
  ·
    refine w_y (y_nil rfl rfl) rfl rfl ?_
    refine w_p tok rfl rfl rfl ?_
    obtain ⟨h22, wh22, eh22, H⟩ := H
    refine w_h (h_st tok rfl rfl rfl rfl rfl rfl wh22 eh22) rfl rfl ?_
    refine w_end ?_
    refine x_seq ?_
    refine c_seq ?_
    refine c_label ?_
    refine x_seq ?_
    refine c_seqJ (α := Unit) (fun (s : Unit) => [(2, .pointer (some (⟨b1, 0, none⟩ : Addr))), (4, .pointer (some (⟨b3, 0, none⟩ : Addr))), (5, .pointer (some (⟨b15, 0, none⟩ : Addr)))]) (fun (s : Unit) h => raft_Get_j1 (⟨b1, 0, none⟩ : Addr) (⟨b3, 0, none⟩ : Addr) (⟨b15, 0, none⟩ : Addr) k h) ?_ ?_
    ·
      rintro _ h_1 H
      replace H : raft_Get_j1 (⟨b1, 0, none⟩ : Addr) (⟨b3, 0, none⟩ : Addr) (⟨b15, 0, none⟩ : Addr) k h_1 := H
      unfold raft_Get_j1 at H
      refine c_weak [(2, .pointer (some (⟨b1, 0, none⟩ : Addr))), (4, .pointer (some (⟨b3, 0, none⟩ : Addr))), (5, .pointer (some (⟨b15, 0, none⟩ : Addr)))] ⟨rfl, rfl, rfl, trivial⟩ ?_
      refine c_seq ?_
      refine c_region ?_
      refine w_p tok rfl rfl rfl ?_
      refine w_p tok rfl rfl rfl ?_
      refine w_call raft_reader_short_ok (raft_reader_short_ref _ _ _ H) rfl rfl rfl rfl ?_
      rintro _ h24 ⟨r23, rfl, H⟩
      refine w_call raft_reader_bytes_ok (raft_reader_bytes_ref _ _ _ _ H) rfl rfl rfl rfl ?_
      rintro _ h26 ⟨r25, rfl, H⟩
      refine w_p tok rfl rfl rfl ?_
      obtain ⟨h27, wh27, eh27, H⟩ := H
      refine w_h (h_st tok rfl rfl rfl rfl rfl rfl wh27 eh27) rfl rfl ?_
      refine w_end ?_
      refine x_seq ?_
      refine c_seq ?_
      refine c_seq ?_
      refine c_region ?_
      refine w_p tok rfl rfl rfl ?_
      refine w_y (y_nil rfl rfl) rfl rfl ?_
      refine w_p tok rfl rfl rfl ?_
      obtain ⟨v28, hv28, H⟩ := H
      refine w_y (y_ld tok rfl rfl rfl rfl hv28) rfl rfl ?_
      refine w_p tok rfl rfl rfl ?_
      refine w_cut 7 (α := Bool) (fun (s : Bool) => [(80, .bool s), (2, .pointer (some (⟨b1, 0, none⟩ : Addr))), (5, .pointer (some (⟨b15, 0, none⟩ : Addr)))]) (fun (s : Bool) h => raft_Get_g2 (⟨b1, 0, none⟩ : Addr) (⟨b15, 0, none⟩ : Addr) s k h) ?_ ?_
      ·
        rintro t80_2 h_2 H
        replace H : raft_Get_g2 (⟨b1, 0, none⟩ : Addr) (⟨b15, 0, none⟩ : Addr) t80_2 k h_2 := H
        unfold raft_Get_g2 at H
        refine w_weak [(80, .bool t80_2), (2, .pointer (some (⟨b1, 0, none⟩ : Addr))), (5, .pointer (some (⟨b15, 0, none⟩ : Addr)))] ⟨rfl, rfl, rfl, trivial⟩ ?_
        refine w_end ?_
        refine x_seq ?_
        refine c_if H rfl (fun H => ?_) (fun H => ?_)
        ·
          refine c_seq ?_
          refine c_region ?_
          refine w_y (y_build tok rfl rfl rfl rfl rfl) rfl rfl ?_
          obtain ⟨h29, wh29, eh29, H⟩ := H
          refine w_h (h_sts tok rfl rfl rfl rfl rfl (oneC (by kernel_rfl)) wh29 eh29) rfl rfl ?_
          refine w_p tok rfl rfl rfl ?_
          refine w_end ?_
          refine x_seq ?_
          refine c_ret ?_
          refine x_tr ?_
          refine x_sr ?_
          obtain ⟨v30, hv30, H⟩ := H
          exact x_retc tok _ rfl [.agg (S_api_Msg.cs v30).toArray, .int .i64 4] ⟨⟨_, _, rfl, rfl, .inr ⟨rfl, _, rfl, rfl, hv30⟩⟩, rfl, trivial⟩ ⟨(v30, 4), rfl, H⟩
        ·
          refine c_skip ?_
          refine x_seq ?_
          refine c_seq ?_
          refine c_region ?_
          obtain ⟨v31, hv31, H⟩ := H
          refine w_y (y_lda tok rfl rfl rfl rfl rfl hv31) rfl rfl ?_
          obtain ⟨h32, wh32, eh32, H⟩ := H
          refine w_h (h_sts tok rfl rfl rfl rfl rfl (oneC (by kernel_rfl)) wh32 eh32) rfl rfl ?_
          refine w_p tok rfl rfl rfl ?_
          refine w_end ?_
          refine x_seq ?_
          refine c_ret ?_
          refine x_sr ?_
          obtain ⟨v33, hv33, H⟩ := H
          exact x_retc tok _ rfl [.agg (S_api_Msg.cs v33).toArray, .int .i64 0] ⟨⟨_, _, rfl, rfl, .inr ⟨rfl, _, rfl, rfl, hv33⟩⟩, rfl, trivial⟩ ⟨(v33, 0), rfl, H⟩
      ·
        refine w_gif (d := 73) H rfl (fun H => ?_) (fun H => ?_)
        ·
          refine w_skip rfl rfl ?_
          refine w_skip rfl rfl ?_
          refine w_skip rfl rfl ?_
          refine w_skip rfl rfl ?_
          refine w_skip rfl rfl ?_
          refine w_skip rfl rfl ?_
          refine w_p tok rfl rfl rfl ?_
          exact w_jn true H ⟨rfl, rfl, rfl, trivial⟩
        ·
          refine w_p tok rfl rfl rfl ?_
          refine w_y (y_nil rfl rfl) rfl rfl ?_
          refine w_p tok rfl rfl rfl ?_
          obtain ⟨v34, hv34, H⟩ := H
          refine w_y (y_ld tok rfl rfl rfl rfl hv34) rfl rfl ?_
          refine w_p tok rfl rfl rfl ?_
          refine w_p tok rfl rfl rfl ?_
          refine w_p tok rfl rfl rfl ?_
          exact w_jn (decide ((v34.len : Int) > 0)) H ⟨rfl, rfl, rfl, trivial⟩
    ·
      refine c_seq ?_
      refine c_region ?_
      refine w_p tok rfl rfl rfl ?_
      refine w_call raft_reader_short_ok (raft_reader_short_ref _ _ _ H) rfl rfl rfl rfl ?_
      rintro _ h36 ⟨r35, rfl, H⟩
      refine w_p tok rfl rfl rfl ?_
      refine w_end ?_
      refine x_seq ?_
      refine c_block ?_
      obtain ⟨I3, μ3, H0, HI⟩ := H
      refine c_loop (σ := Int) (fun (s : Int) => [(7, .int .u64 s), (2, .pointer (some (⟨b1, 0, none⟩ : Addr))), (4, .pointer (some (⟨b3, 0, none⟩ : Addr))), (5, .pointer (some (⟨b15, 0, none⟩ : Addr)))]) I3 μ3 r35 H0 ⟨rfl, rfl, rfl, rfl, trivial⟩ ?_
      rintro t7_3 h_3 H
      replace H := HI t7_3 h_3 H
      unfold raft_Get_l3b at H
      refine c_weak [(7, .int .u64 t7_3), (2, .pointer (some (⟨b1, 0, none⟩ : Addr))), (4, .pointer (some (⟨b3, 0, none⟩ : Addr))), (5, .pointer (some (⟨b15, 0, none⟩ : Addr)))] ⟨rfl, rfl, rfl, rfl, trivial⟩ ?_
      refine c_seq ?_
      refine c_seq ?_
      refine c_region ?_
      refine w_p tok rfl rfl rfl ?_
      refine w_p tok rfl rfl rfl ?_
      refine w_end ?_
      refine x_seq ?_
      refine c_if H rfl (fun H => ?_) (fun H => ?_)
      ·
        refine c_skip ?_
        refine x_seq ?_
        refine c_seq ?_
        refine c_block ?_
        refine c_seq ?_
        refine c_region ?_
        refine w_p tok rfl rfl rfl ?_
        refine w_call raft_reader_short_ok (raft_reader_short_ref _ _ _ H) rfl rfl rfl rfl ?_
        rintro _ h38 ⟨r37, rfl, H⟩
        refine w_y (y_build tok rfl rfl rfl rfl rfl) rfl rfl ?_
        obtain ⟨b39, h40, eb39, eh40, H⟩ := H
        refine w_h (h_alloc tok rfl rfl eb39 eh40) rfl rfl ?_
        obtain ⟨h41, wh41, eh41, H⟩ := H
        refine w_h (h_sts tok rfl rfl rfl rfl rfl (oneC (by kernel_rfl)) wh41 eh41) rfl rfl ?_
        refine w_end ?_
        refine x_seq ?_
        refine c_seq ?_
        refine c_region ?_
        refine w_p tok rfl rfl rfl ?_
        refine w_p tok rfl rfl rfl ?_
        refine w_call raft_reader_short_ok (raft_reader_short_ref _ _ _ H) rfl rfl rfl rfl ?_
        rintro _ h43 ⟨r42, rfl, H⟩
        refine w_call raft_reader_bytes_ok (raft_reader_bytes_ref _ _ _ _ H) rfl rfl rfl rfl ?_
        rintro _ h45 ⟨r44, rfl, H⟩
        refine w_p tok rfl rfl rfl ?_
        obtain ⟨h46, wh46, eh46, H⟩ := H
        refine w_h (h_st tok rfl rfl rfl rfl rfl rfl wh46 eh46) rfl rfl ?_
        refine w_end ?_
        refine x_seq ?_
        refine c_weak [(7, .int .u64 t7_3), (2, .pointer (some (⟨b1, 0, none⟩ : Addr))), (4, .pointer (some (⟨b3, 0, none⟩ : Addr))), (5, .pointer (some (⟨b15, 0, none⟩ : Addr))), (8, .pointer (some (⟨b39, 0, none⟩ : Addr)))] ⟨rfl, rfl, rfl, rfl, rfl, trivial⟩ ?_
        refine c_seq ?_
        refine c_seq ?_
        refine c_region ?_
        refine w_p tok rfl rfl rfl ?_
        refine w_y (y_nil rfl rfl) rfl rfl ?_
        refine w_p tok rfl rfl rfl ?_
        obtain ⟨v47, hv47, H⟩ := H
        refine w_y (y_ld tok rfl rfl rfl rfl hv47) rfl rfl ?_
        refine w_end ?_
        refine x_seq ?_
        refine c_if H rfl (fun H => ?_) (fun H => ?_)
        ·
          refine c_exit ?_
          refine x_te ?_
          refine x_bm rfl ?_
          refine x_te ?_
          refine x_te ?_
          refine x_bh ?_
          exact x_join () H ⟨rfl, rfl, rfl, trivial⟩
        ·
          refine c_skip ?_
          refine x_seq ?_
          refine c_region ?_
          refine w_p tok rfl rfl rfl ?_
          obtain ⟨v48, hv48, H⟩ := H
          refine w_y (y_ld tok rfl rfl rfl rfl hv48) rfl rfl ?_
          obtain ⟨v49, hv49, H⟩ := H
          refine w_y (y_lda tok rfl rfl rfl rfl rfl hv49) rfl rfl ?_
          obtain ⟨b50, h51, eb50, eh51, H⟩ := H
          refine w_h (h_bs tok rfl rfl rfl rfl rfl rfl rfl eb50 eh51) rfl rfl ?_
          refine w_a (a_app (s := v48) (r := (⟨some ⟨b50, 0, none⟩, 1, 1⟩ : Slc)) tok rfl rfl rfl rfl rfl (slcAt_push eb50 eh51) H) rfl rfl ?_
          rintro _ h53 ⟨s52, rfl, H⟩
          refine w_p tok rfl rfl rfl ?_
          obtain ⟨h54, wh54, eh54, H⟩ := H
          refine w_h (h_st tok rfl rfl rfl rfl rfl rfl wh54 eh54) rfl rfl ?_
          refine w_end ?_
          refine x_blk ?_
          refine x_seq ?_
          refine c_weak [(7, .int .u64 t7_3), (2, .pointer (some (⟨b1, 0, none⟩ : Addr))), (4, .pointer (some (⟨b3, 0, none⟩ : Addr))), (5, .pointer (some (⟨b15, 0, none⟩ : Addr)))] ⟨rfl, rfl, rfl, rfl, trivial⟩ ?_
          refine c_region ?_
          refine w_p tok rfl rfl rfl ?_
          refine w_p tok rfl rfl rfl ?_
          obtain ⟨x55, ex55, H⟩ := H
          refine w_pe tok rfl (congrArg (fun z => (.int .u64 z : Value)) ex55) rfl rfl ?_
          refine w_end ?_
          exact x_join x55 H ⟨rfl, rfl, rfl, rfl, trivial⟩
      ·
        refine c_exit ?_
        refine x_te ?_
        refine x_te ?_
        refine x_bh ?_
        exact x_join () H ⟨rfl, rfl, rfl, trivial⟩
  ·
    refine w_gs (d := 34) rfl (fun hb => ?_) (fun hb => ?_)
    ·
      refine w_skip rfl rfl ?_
      refine w_skip rfl rfl ?_
      refine w_p tok rfl rfl rfl ?_
      refine w_jn () rfl ⟨?_, rfl, rfl, rfl, rfl, trivial⟩
      exact congrArg (fun b => some (Value.bool b)) (or_t hb)
    ·
      refine w_p tok rfl rfl rfl ?_
      refine w_p tok rfl rfl rfl ?_
      refine w_p tok rfl rfl rfl ?_
      refine w_jn () rfl ⟨?_, rfl, rfl, rfl, rfl, trivial⟩
      exact congrArg (fun b => some (Value.bool b)) (or_f hb)

theorem ref01_Short_ok : CallOk Go.Proofs.Try.prog 36 := ⟨_, Go.Proofs.Try.func36, by kernel_rfl, by kernel_rfl⟩
theorem ref01_Short_ref (p0 : Int) (k : (Slc) → Heap → Prop) (h : Heap) (H : ref01_Short p0 k h) : CallsH Go.Proofs.Try.prog 36 #[.int .u64 p0] h (fun v h' => ∃ r : Slc, v = Slc.v r ∧ k r h') := by
  refine f_enter (N := 20) Go.Proofs.Try.func36 rfl rfl rfl (fun w0 => ?_)
  unfold ref01_Short at H
  refine c_weak [(0, .int .u64 p0)] ⟨rfl, trivial⟩ ?_
  refine c_seq ?_
  refine c_region ?_
  refine w_p tok rfl rfl rfl ?_
  refine w_end ?_
  refine x_seq ?_
  refine c_seq ?_
  refine c_region ?_
  refine w_p tok rfl rfl rfl ?_
  refine w_end ?_
  refine x_seq ?_
  refine c_seq ?_
  refine c_block ?_
  obtain ⟨I1, μ1, H0, HI⟩ := H
  refine c_loop (σ := Int × Slc) (fun (s : Int × Slc) => [(0, .int .u64 s.1), (3, Slc.v s.2)]) I1 μ1 (p0, (⟨none, 0, 0⟩ : Slc)) H0 ⟨rfl, rfl, trivial⟩ ?_
  rintro ⟨t0_1, t3_1⟩ h_1 H
  replace H := HI t0_1 t3_1 h_1 H
  unfold ref01_Short_l1b at H
  refine c_weak [(0, .int .u64 t0_1), (3, Slc.v t3_1)] ⟨rfl, rfl, trivial⟩ ?_
  refine c_seq ?_
  refine c_seq ?_
  refine c_region ?_
  refine w_p tok rfl rfl rfl ?_
  refine w_p tok rfl rfl rfl ?_
  refine w_end ?_
  refine x_seq ?_
  refine c_if H rfl (fun H => ?_) (fun H => ?_)
  ·
    refine c_skip ?_
    refine x_seq ?_
    refine c_block ?_
    refine c_seq ?_
    refine c_region ?_
    refine w_p tok rfl rfl rfl ?_
    refine w_p tok rfl rfl rfl ?_
    refine w_p tok rfl rfl rfl ?_
    refine w_p tok rfl rfl rfl ?_
    refine w_p tok rfl rfl rfl ?_
    obtain ⟨b1, h2, eb1, eh2, H⟩ := H
    refine w_h (h_bs tok rfl rfl rfl rfl rfl rfl rfl eb1 eh2) rfl rfl ?_
    refine w_a (a_app (s := t3_1) (r := (⟨some ⟨b1, 0, none⟩, 1, 1⟩ : Slc)) tok rfl rfl rfl rfl rfl (slcAt_push eb1 eh2) H) rfl rfl ?_
    rintro _ h4 ⟨s3, rfl, H⟩
    refine w_p tok rfl rfl rfl ?_
    refine w_end ?_
    refine x_seq ?_
    refine c_weak [(0, .int .u64 t0_1), (3, Slc.v s3)] ⟨rfl, rfl, trivial⟩ ?_
    refine c_region ?_
    refine w_p tok rfl rfl rfl ?_
    refine w_p tok rfl rfl rfl ?_
    obtain ⟨x5, ex5, H⟩ := H
    refine w_pe tok rfl (congrArg (fun z => (.int .u64 z : Value)) ex5) rfl rfl ?_
    refine w_end ?_
    refine x_blk ?_
    exact x_join (x5, s3) H ⟨rfl, rfl, trivial⟩
  ·
    refine c_exit ?_
    refine x_te ?_
    refine x_te ?_
    refine x_bh ?_
    refine x_seq ?_
    refine c_seq ?_
    refine c_region ?_
    refine w_p tok rfl rfl rfl ?_
    refine w_p tok rfl rfl rfl ?_
    refine w_p tok rfl rfl rfl ?_
    obtain ⟨b6, h7, eb6, eh7, H⟩ := H
    refine w_h (h_bs tok rfl rfl rfl rfl rfl rfl rfl eb6 eh7) rfl rfl ?_
    refine w_a (a_app (s := t3_1) (r := (⟨some ⟨b6, 0, none⟩, 1, 1⟩ : Slc)) tok rfl rfl rfl rfl rfl (slcAt_push eb6 eh7) H) rfl rfl ?_
    rintro _ h9 ⟨s8, rfl, H⟩
    refine w_p tok rfl rfl rfl ?_
    refine w_end ?_
    refine x_seq ?_
    refine c_weak [(2, Slc.v s8)] ⟨rfl, trivial⟩ ?_
    refine c_ret ?_
    exact x_ret _ rfl _ rfl ⟨s8, rfl, H⟩

theorem ref26_Form_ok : CallOk Go.Proofs.Try.prog 12 := ⟨_, Go.Proofs.Try.func12, by kernel_rfl, by kernel_rfl⟩
theorem ref26_Form_ref (p0 : S_api_Msg) (k : (Slc) → Heap → Prop) (h : Heap) (H : ref26_Form p0 k h) : CallsH Go.Proofs.Try.prog 12 #[.agg (S_api_Msg.cs p0).toArray] h (fun v h' => ∃ r : Slc, v = Slc.v r ∧ k r h') := by
  refine f_enter (N := 90) Go.Proofs.Try.func12 rfl rfl rfl (fun w0 => ?_)
  unfold ref26_Form at H
  refine c_weak [(0, .agg (S_api_Msg.cs p0).toArray)] ⟨rfl, trivial⟩ ?_
  refine c_seq ?_
  refine c_region ?_
  obtain ⟨b1, h2, eb1, eh2, H⟩ := H
  refine w_h (h_box rfl rfl eb1 eh2) rfl rfl ?_
  refine w_p tok rfl rfl rfl ?_
  refine w_end ?_
  refine x_seq ?_
  refine c_seq ?_
  refine c_region ?_
  refine w_p tok rfl rfl rfl ?_
  obtain ⟨v3, hv3, H⟩ := H
  refine w_y (y_ld tok rfl rfl rfl rfl hv3) rfl rfl ?_
  refine w_p tok rfl rfl rfl ?_
  obtain ⟨b4, h5, eb4, eh5, H⟩ := H
  refine w_h (h_bs tok rfl rfl rfl rfl rfl rfl rfl eb4 eh5) rfl rfl ?_
  refine w_p tok rfl rfl rfl ?_
  refine w_end ?_
  refine x_seq ?_
  refine c_seq ?_
  refine c_region ?_
  refine w_p tok rfl rfl rfl ?_
  refine w_p tok rfl rfl rfl ?_
  obtain ⟨v6, hv6, H⟩ := H
  refine w_y (y_ld tok rfl rfl rfl rfl hv6) rfl rfl ?_
  refine w_call ref01_Short_ok (ref01_Short_ref _ _ _ H) rfl rfl rfl rfl ?_
  rintro _ h8 ⟨r7, rfl, H⟩
  obtain ⟨l11, hl11, H⟩ := H
  refine w_a (a_app (s := (⟨some ⟨b4, 0, none⟩, 1, 1⟩ : Slc)) (r := r7) tok rfl rfl rfl rfl rfl hl11 H) rfl rfl ?_
  rintro _ h10 ⟨s9, rfl, H⟩
  refine w_p tok rfl rfl rfl ?_
  refine w_end ?_
  refine x_seq ?_
  refine c_weak [(1, .pointer (some (⟨b1, 0, none⟩ : Addr))), (3, Slc.v s9)] ⟨rfl, rfl, trivial⟩ ?_
  refine c_seq ?_
  refine c_region ?_
  refine w_p tok rfl rfl rfl ?_
  refine w_p tok rfl rfl rfl ?_
  obtain ⟨v12, hv12, H⟩ := H
  refine w_y (y_ld tok rfl rfl rfl rfl hv12) rfl rfl ?_
  refine w_call ref01_Short_ok (ref01_Short_ref _ _ _ H) rfl rfl rfl rfl ?_
  rintro _ h14 ⟨r13, rfl, H⟩
  obtain ⟨l17, hl17, H⟩ := H
  refine w_a (a_app (s := s9) (r := r13) tok rfl rfl rfl rfl rfl hl17 H) rfl rfl ?_
  rintro _ h16 ⟨s15, rfl, H⟩
  refine w_p tok rfl rfl rfl ?_
  refine w_end ?_
  refine x_seq ?_
  refine c_seq ?_
  refine c_region ?_
  refine w_p tok rfl rfl rfl ?_
  refine w_p tok rfl rfl rfl ?_
  obtain ⟨v18, hv18, H⟩ := H
  refine w_y (y_ld tok rfl rfl rfl rfl hv18) rfl rfl ?_
  refine w_call ref01_Short_ok (ref01_Short_ref _ _ _ H) rfl rfl rfl rfl ?_
  rintro _ h20 ⟨r19, rfl, H⟩
  obtain ⟨l23, hl23, H⟩ := H
  refine w_a (a_app (s := s15) (r := r19) tok rfl rfl rfl rfl rfl hl23 H) rfl rfl ?_
  rintro _ h22 ⟨s21, rfl, H⟩
  refine w_p tok rfl rfl rfl ?_
  refine w_end ?_
  refine x_seq ?_
  refine c_weak [(1, .pointer (some (⟨b1, 0, none⟩ : Addr))), (3, Slc.v s21)] ⟨rfl, rfl, trivial⟩ ?_
  refine c_seq ?_
  refine c_region ?_
  refine w_p tok rfl rfl rfl ?_
  refine w_p tok rfl rfl rfl ?_
  obtain ⟨v24, hv24, H⟩ := H
  refine w_y (y_ld tok rfl rfl rfl rfl hv24) rfl rfl ?_
  refine w_call ref01_Short_ok (ref01_Short_ref _ _ _ H) rfl rfl rfl rfl ?_
  rintro _ h26 ⟨r25, rfl, H⟩
  obtain ⟨l29, hl29, H⟩ := H
  refine w_a (a_app (s := s21) (r := r25) tok rfl rfl rfl rfl rfl hl29 H) rfl rfl ?_
  rintro _ h28 ⟨s27, rfl, H⟩
  refine w_p tok rfl rfl rfl ?_
  refine w_end ?_
  refine x_seq ?_
  refine c_seqJ (α := Slc) (fun (s : Slc) => [(3, Slc.v s), (1, .pointer (some (⟨b1, 0, none⟩ : Addr)))]) (fun (s : Slc) h => ref26_Form_j1 (⟨b1, 0, none⟩ : Addr) s k h) ?_ ?_
  ·
    rintro t3_1 h_1 H
    replace H : ref26_Form_j1 (⟨b1, 0, none⟩ : Addr) t3_1 k h_1 := H
    unfold ref26_Form_j1 at H
    refine c_weak [(3, Slc.v t3_1), (1, .pointer (some (⟨b1, 0, none⟩ : Addr)))] ⟨rfl, rfl, trivial⟩ ?_
    refine c_seq ?_
    refine c_region ?_
    refine w_p tok rfl rfl rfl ?_
    refine w_p tok rfl rfl rfl ?_
    obtain ⟨v30, hv30, H⟩ := H
    refine w_y (y_ld tok rfl rfl rfl rfl hv30) rfl rfl ?_
    refine w_p tok rfl rfl rfl ?_
    refine w_p tok rfl rfl rfl ?_
    refine w_call ref01_Short_ok (ref01_Short_ref _ _ _ H) rfl rfl rfl rfl ?_
    rintro _ h32 ⟨r31, rfl, H⟩
    obtain ⟨l35, hl35, H⟩ := H
    refine w_a (a_app (s := t3_1) (r := r31) tok rfl rfl rfl rfl rfl hl35 H) rfl rfl ?_
    rintro _ h34 ⟨s33, rfl, H⟩
    refine w_p tok rfl rfl rfl ?_
    refine w_end ?_
    refine x_seq ?_
    refine c_weak [(3, Slc.v s33), (1, .pointer (some (⟨b1, 0, none⟩ : Addr)))] ⟨rfl, rfl, trivial⟩ ?_
    refine c_seq ?_
    refine c_seq ?_
    refine c_region ?_
    refine w_p tok rfl rfl rfl ?_
    refine w_end ?_
    refine x_seq ?_
    refine c_block ?_
    obtain ⟨I2, μ2, H0, HI⟩ := H
    refine c_loop (σ := Slc × Int) (fun (s : Slc × Int) => [(3, Slc.v s.1), (4, .int .i64 s.2), (1, .pointer (some (⟨b1, 0, none⟩ : Addr)))]) I2 μ2 (s33, 0) H0 ⟨rfl, rfl, rfl, trivial⟩ ?_
    rintro ⟨t3_2, t4_2⟩ h_2 H
    replace H := HI t3_2 t4_2 h_2 H
    unfold ref26_Form_l2b at H
    refine c_weak [(3, Slc.v t3_2), (4, .int .i64 t4_2), (1, .pointer (some (⟨b1, 0, none⟩ : Addr)))] ⟨rfl, rfl, rfl, trivial⟩ ?_
    refine c_seq ?_
    refine c_seq ?_
    refine c_region ?_
    refine w_p tok rfl rfl rfl ?_
    refine w_p tok rfl rfl rfl ?_
    obtain ⟨v36, hv36, H⟩ := H
    refine w_y (y_ld tok rfl rfl rfl rfl hv36) rfl rfl ?_
    refine w_p tok rfl rfl rfl ?_
    refine w_p tok rfl rfl rfl ?_
    refine w_end ?_
    refine x_seq ?_
    refine c_if H rfl (fun H => ?_) (fun H => ?_)
    ·
      refine c_skip ?_
      refine x_seq ?_
      refine c_seq ?_
      refine c_block ?_
      refine c_seq ?_
      refine c_region ?_
      refine w_p tok rfl rfl rfl ?_
      refine w_p tok rfl rfl rfl ?_
      obtain ⟨v37, hv37, H⟩ := H
      refine w_y (y_ld tok rfl rfl rfl rfl hv37) rfl rfl ?_
      refine w_p tok rfl rfl rfl ?_
      obtain ⟨a38, ha38, la38, ua38, H⟩ := H
      refine w_y (y_ixa' tok rfl rfl ha38 rfl rfl rfl la38 ua38) rfl rfl ?_
      refine w_p tok rfl rfl rfl ?_
      obtain ⟨v39, hv39, H⟩ := H
      refine w_y (y_ld tok rfl rfl rfl rfl hv39) rfl rfl ?_
      refine w_call ref01_Short_ok (ref01_Short_ref _ _ _ H) rfl rfl rfl rfl ?_
      rintro _ h41 ⟨r40, rfl, H⟩
      obtain ⟨l44, hl44, H⟩ := H
      refine w_a (a_app (s := t3_2) (r := r40) tok rfl rfl rfl rfl rfl hl44 H) rfl rfl ?_
      rintro _ h43 ⟨s42, rfl, H⟩
      refine w_p tok rfl rfl rfl ?_
      refine w_end ?_
      refine x_seq ?_
      refine c_weak [(3, Slc.v s42), (4, .int .i64 t4_2), (1, .pointer (some (⟨b1, 0, none⟩ : Addr)))] ⟨rfl, rfl, rfl, trivial⟩ ?_
      refine c_seq ?_
      refine c_region ?_
      refine w_p tok rfl rfl rfl ?_
      refine w_p tok rfl rfl rfl ?_
      obtain ⟨v45, hv45, H⟩ := H
      refine w_y (y_ld tok rfl rfl rfl rfl hv45) rfl rfl ?_
      refine w_p tok rfl rfl rfl ?_
      obtain ⟨a46, ha46, la46, ua46, H⟩ := H
      refine w_y (y_ixa' tok rfl rfl ha46 rfl rfl rfl la46 ua46) rfl rfl ?_
      refine w_p tok rfl rfl rfl ?_
      obtain ⟨v47, hv47, H⟩ := H
      refine w_y (y_ld tok rfl rfl rfl rfl hv47) rfl rfl ?_
      refine w_p tok rfl rfl rfl ?_
      refine w_p tok rfl rfl rfl ?_
      refine w_call ref01_Short_ok (ref01_Short_ref _ _ _ H) rfl rfl rfl rfl ?_
      rintro _ h49 ⟨r48, rfl, H⟩
      obtain ⟨l52, hl52, H⟩ := H
      refine w_a (a_app (s := s42) (r := r48) tok rfl rfl rfl rfl rfl hl52 H) rfl rfl ?_
      rintro _ h51 ⟨s50, rfl, H⟩
      refine w_p tok rfl rfl rfl ?_
      refine w_end ?_
      refine x_seq ?_
      refine c_weak [(3, Slc.v s50), (4, .int .i64 t4_2), (1, .pointer (some (⟨b1, 0, none⟩ : Addr)))] ⟨rfl, rfl, rfl, trivial⟩ ?_
      refine c_region ?_
      refine w_p tok rfl rfl rfl ?_
      refine w_p tok rfl rfl rfl ?_
      obtain ⟨v53, hv53, H⟩ := H
      refine w_y (y_ld tok rfl rfl rfl rfl hv53) rfl rfl ?_
      refine w_p tok rfl rfl rfl ?_
      obtain ⟨a54, ha54, la54, ua54, H⟩ := H
      refine w_y (y_ixa' tok rfl rfl ha54 rfl rfl rfl la54 ua54) rfl rfl ?_
      refine w_p tok rfl rfl rfl ?_
      obtain ⟨v55, hv55, H⟩ := H
      refine w_y (y_ld tok rfl rfl rfl rfl hv55) rfl rfl ?_
      obtain ⟨l58, hl58, H⟩ := H
      refine w_a (a_app (s := s50) (r := v55) tok rfl rfl rfl rfl rfl hl58 H) rfl rfl ?_
      rintro _ h57 ⟨s56, rfl, H⟩
      refine w_p tok rfl rfl rfl ?_
      refine w_end ?_
      refine x_blk ?_
      refine x_seq ?_
      refine c_weak [(3, Slc.v s56), (4, .int .i64 t4_2), (1, .pointer (some (⟨b1, 0, none⟩ : Addr)))] ⟨rfl, rfl, rfl, trivial⟩ ?_
      refine c_region ?_
      refine w_p tok rfl rfl rfl ?_
      refine w_p tok rfl rfl rfl ?_
      obtain ⟨x59, ex59, H⟩ := H
      refine w_pe tok rfl (congrArg (fun z => (.int .i64 z : Value)) ex59) rfl rfl ?_
      refine w_end ?_
      exact x_join (s56, x59) H ⟨rfl, rfl, rfl, trivial⟩
    ·
      refine c_exit ?_
      refine x_te ?_
      refine x_te ?_
      refine x_bh ?_
      refine x_seq ?_
      refine c_seq ?_
      refine c_region ?_
      refine w_p tok rfl rfl rfl ?_
      refine w_p tok rfl rfl rfl ?_
      obtain ⟨v60, hv60, H⟩ := H
      refine w_y (y_ld tok rfl rfl rfl rfl hv60) rfl rfl ?_
      refine w_p tok rfl rfl rfl ?_
      refine w_p tok rfl rfl rfl ?_
      refine w_call ref01_Short_ok (ref01_Short_ref _ _ _ H) rfl rfl rfl rfl ?_
      rintro _ h62 ⟨r61, rfl, H⟩
      obtain ⟨l65, hl65, H⟩ := H
      refine w_a (a_app (s := t3_2) (r := r61) tok rfl rfl rfl rfl rfl hl65 H) rfl rfl ?_
      rintro _ h64 ⟨s63, rfl, H⟩
      refine w_p tok rfl rfl rfl ?_
      refine w_end ?_
      refine x_seq ?_
      refine c_weak [(3, Slc.v s63), (1, .pointer (some (⟨b1, 0, none⟩ : Addr)))] ⟨rfl, rfl, trivial⟩ ?_
      refine c_seq ?_
      refine c_region ?_
      refine w_p tok rfl rfl rfl ?_
      refine w_p tok rfl rfl rfl ?_
      obtain ⟨v66, hv66, H⟩ := H
      refine w_y (y_ld tok rfl rfl rfl rfl hv66) rfl rfl ?_
      obtain ⟨l69, hl69, H⟩ := H
      refine w_a (a_app (s := s63) (r := v66) tok rfl rfl rfl rfl rfl hl69 H) rfl rfl ?_
      rintro _ h68 ⟨s67, rfl, H⟩
      refine w_p tok rfl rfl rfl ?_
      refine w_end ?_
      refine x_seq ?_
      refine c_ret ?_
      exact x_ret _ rfl _ rfl ⟨s67, rfl, H⟩
  ·
    refine c_seq ?_
    refine c_region ?_
    refine w_p tok rfl rfl rfl ?_
    obtain ⟨v70, hv70, H⟩ := H
    refine w_y (y_ld tok rfl rfl rfl rfl hv70) rfl rfl ?_
    refine w_end ?_
    refine x_seq ?_
    refine c_if H rfl (fun H => ?_) (fun H => ?_)
    ·
      refine c_region ?_
      refine w_p tok rfl rfl rfl ?_
      obtain ⟨b71, h72, eb71, eh72, H⟩ := H
      refine w_h (h_bs tok rfl rfl rfl rfl rfl rfl rfl eb71 eh72) rfl rfl ?_
      refine w_a (a_app (s := s27) (r := (⟨some ⟨b71, 0, none⟩, 1, 1⟩ : Slc)) tok rfl rfl rfl rfl rfl (slcAt_push eb71 eh72) H) rfl rfl ?_
      rintro _ h74 ⟨s73, rfl, H⟩
      refine w_p tok rfl rfl rfl ?_
      refine w_end ?_
      exact x_join s73 H ⟨rfl, rfl, trivial⟩
    ·
      refine c_region ?_
      refine w_p tok rfl rfl rfl ?_
      obtain ⟨b75, h76, eb75, eh76, H⟩ := H
      refine w_h (h_bs tok rfl rfl rfl rfl rfl rfl rfl eb75 eh76) rfl rfl ?_
      refine w_a (a_app (s := s27) (r := (⟨some ⟨b75, 0, none⟩, 1, 1⟩ : Slc)) tok rfl rfl rfl rfl rfl (slcAt_push eb75 eh76) H) rfl rfl ?_
      rintro _ h78 ⟨s77, rfl, H⟩
      refine w_p tok rfl rfl rfl ?_
      refine w_end ?_
      exact x_join s77 H ⟨rfl, rfl, trivial⟩
end Go.Q.Yh

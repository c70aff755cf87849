/- A part of the proof of statements of this seat: lemmas, no statement of their own. -/
import Derived.Test.YtoapfefofjfifaaGreatYcTab
import Derived.Test.YtoapfefofjfifaaGreatYcR
set_option linter.unusedVariables false
set_option maxRecDepth 100000
set_option maxHeartbeats 1000000
namespace Go.Q.Yc
/-- (*quaestor quorum.Desk).Yes -/
def quorum_Desk_Yes_j3 (k : (Bool) → Heap → Prop) (h_3 : Heap) : Prop :=
  k true h_3
def quorum_Desk_Yes_j2 (t9_2 : Option Addr) (k : (Bool) → Heap → Prop) (h_2 : Heap) : Prop :=
  ∃ a10 : Addr, t9_2 = some a10 ∧ (∃ v11 : Slc, cellH h_2 (a10.add 28) = some (Slc.v v11) ∧ (∃ v12 : S_api_Op, CellsAt h_2 a10 (S_api_Op.cs v12) ∧ (quorum_Needs v12 (fun (r13 : Int) h14 => cellH h14 (a10.add 28) = some (Slc.v v11) ∧ (if (decide ((v11.len : Int) < r13)) then (k true h14) else (∃ h16 : Heap, WrH h14 (a10.add 30) ∧ h16 = setH h14 (a10.add 30) (.bool true) ∧ (∃ v17 : Int, cellH h16 (a10.add 1) = some (.int .i64 v17) ∧ (if (v17 == 2) then (∃ v18 : S_api_Query, CellsAt h16 (a10.add 4) (S_api_Query.cs v18) ∧ (∃ v19 : Slc, cellH h16 (a10.add 3) = some (Slc.v v19) ∧ (∃ v20 : Int, cellH h16 (a10.add 26) = some (.int .i64 v20) ∧ (query_Run v18 v19 v20 (fun (r21 : Slc × Int) h22 => ∃ h23 : Heap, WrH h22 (a10.add 32) ∧ h23 = setH h22 (a10.add 32) (Slc.v r21.1) ∧ (∃ h24 : Heap, WrH h23 (a10.add 31) ∧ h24 = setH h23 (a10.add 31) (.int .i64 r21.2) ∧ (quorum_Desk_Yes_j3 k h24))) h16)))) else (quorum_Desk_Yes_j3 k h16)))))) h_2)))
def quorum_Desk_Yes_g1 (t2_1 : Int) (t3_1 : Slc) (t9_1 : Option Addr) (t27_1 : Bool) (k : (Bool) → Heap → Prop) (h_1 : Heap) : Prop :=
  if t27_1 then (k false h_1) else (∃ a3 : Addr, t9_1 = some a3 ∧ (∃ v4 : Slc, cellH h_1 (a3.add 28) = some (Slc.v v4) ∧ (∃ (b5 : Nat) (h6 : Heap), b5 = h_1.size ∧ h6 = h_1.push (.cells ([.int .i64 t2_1]).toArray 3) ∧ (App 3 1 8 [.int .i64 0] h6 v4 1 ([.int .i64 t2_1]) (fun s7 h8 => ∃ h9 : Heap, WrH h8 (a3.add 28) ∧ h9 = setH h8 (a3.add 28) (Slc.v s7) ∧ (∃ v25 : Int, cellH h9 (a3.add 1) = some (.int .i64 v25) ∧ (if (v25 == 2) then (∃ v26 : Slc, cellH h9 (a3.add 3) = some (Slc.v v26) ∧ (∃ (b27 : Nat) (h28 : Heap), b27 = h9.size ∧ h28 = h9.push (.cells ([Slc.v v26, Slc.v t3_1]).toArray 30) ∧ (piece_Merge (⟨some ⟨b27, 0, none⟩, 2, 2⟩ : Slc) (fun (r29 : Slc) h30 => ∃ h31 : Heap, WrH h30 (a3.add 3) ∧ h31 = setH h30 (a3.add 3) (Slc.v r29) ∧ (quorum_Desk_Yes_j2 t9_1 k h31)) h28))) else (quorum_Desk_Yes_j2 t9_1 k h9))))))))
def quorum_Desk_Yes (p0 : Option Addr) (p1 : Int) (p2 : Int) (p3 : Slc) (k : (Bool) → Heap → Prop) (h : Heap) : Prop :=
  quorum_Desk_open p0 p1 p2 (fun (r1 : Option Addr × Bool) h2 => if (!r1.2) then (quorum_Desk_Yes_g1 p2 p3 r1.1 true k h2) else (∃ a32 : Addr, r1.1 = some a32 ∧ (∃ v33 : Slc, cellH h2 (a32.add 28) = some (Slc.v v33) ∧ (slices_Contains_int_int v33 p2 (fun (r34 : Bool) h35 => quorum_Desk_Yes_g1 p2 p3 r1.1 r34 k h35) h2)))) h

/-- quaestor quaestorlaw31.awake -/
def law31_awake_g2 (t52_2 : Bool) (k : (Bool) → Heap → Prop) (h_2 : Heap) : Prop :=
  k t52_2 h_2
def law31_awake_g1 (t7_1 : Addr) (t47_1 : Bool) (k : (Bool) → Heap → Prop) (h_1 : Heap) : Prop :=
  if t47_1 then (∃ v21 : Int, cellH h_1 (t7_1.add 31) = some (.int .i64 v21) ∧ (law31_awake_g2 (v21 == 0) k h_1)) else (law31_awake_g2 false k h_1)
def law31_awake (k : (Bool) → Heap → Prop) (h : Heap) : Prop :=
  quorum_New  (fun (r1 : Option Addr) h2 => ∃ (b3 : Nat) (h4 : Heap), b3 = h2.size ∧ h4 = h2.push (.cells ([.int .i64 2, .int .i64 0, .int .i64 4]).toArray 3) ∧ (quorum_Desk_Start r1 (⟨5, 1, ByteArray.empty, (⟨none, 0, 0⟩ : Slc), (⟨ByteArray.empty, 0, 0, 0, 0⟩ : S_api_Query), (⟨0, ByteArray.empty, 0, ([] : List Int), (⟨none, 0, 0⟩ : Slc), 0⟩ : S_api_Command), 0, (⟨some ⟨b3, 0, none⟩, 3, 3⟩ : Slc), (⟨none, 0, 0⟩ : Slc), 0, false, 0, (⟨none, 0, 0⟩ : Slc)⟩ : S_api_Op) (fun (r5 : Int) h6 => quorum_Desk_Yes r1 5 0 (⟨none, 0, 0⟩ : Slc) (fun (r7 : Bool) h8 => quorum_Desk_Result r1 5 (fun (r9 : S_api_Op × Int) h10 => ∃ (b11 : Nat) (h12 : Heap), b11 = h10.size ∧ h12 = h10.push (.cells (S_api_Op.cs (⟨0, 0, ByteArray.empty, (⟨none, 0, 0⟩ : Slc), (⟨ByteArray.empty, 0, 0, 0, 0⟩ : S_api_Query), (⟨0, ByteArray.empty, 0, ([] : List Int), (⟨none, 0, 0⟩ : Slc), 0⟩ : S_api_Command), 0, (⟨none, 0, 0⟩ : Slc), (⟨none, 0, 0⟩ : Slc), 0, false, 0, (⟨none, 0, 0⟩ : Slc)⟩ : S_api_Op)).toArray 40) ∧ (∃ h13 : Heap, WrsAt h12 (⟨b11, 0, none⟩ : Addr) 33 ∧ h13 = setsH h12 (⟨b11, 0, none⟩ : Addr) 0 (S_api_Op.cs r9.1) ∧ (quorum_Desk_Yes r1 5 2 (⟨none, 0, 0⟩ : Slc) (fun (r14 : Bool) h15 => quorum_Desk_Result r1 5 (fun (r16 : S_api_Op × Int) h17 => ∃ (b18 : Nat) (h19 : Heap), b18 = h17.size ∧ h19 = h17.push (.cells (S_api_Op.cs (⟨0, 0, ByteArray.empty, (⟨none, 0, 0⟩ : Slc), (⟨ByteArray.empty, 0, 0, 0, 0⟩ : S_api_Query), (⟨0, ByteArray.empty, 0, ([] : List Int), (⟨none, 0, 0⟩ : Slc), 0⟩ : S_api_Command), 0, (⟨none, 0, 0⟩ : Slc), (⟨none, 0, 0⟩ : Slc), 0, false, 0, (⟨none, 0, 0⟩ : Slc)⟩ : S_api_Op)).toArray 40) ∧ (∃ h20 : Heap, WrsAt h19 (⟨b18, 0, none⟩ : Addr) 33 ∧ h20 = setsH h19 (⟨b18, 0, none⟩ : Addr) 0 (S_api_Op.cs r16.1) ∧ (if (((((r5 == 0) && r7) && r14) && (r9.2 == 14)) && (r16.2 == 0)) then (∃ v22 : Bool, cellH h20 ((⟨b18, 0, none⟩ : Addr).add 30) = some (.bool v22) ∧ (law31_awake_g1 (⟨b18, 0, none⟩ : Addr) v22 k h20)) else (law31_awake_g1 (⟨b18, 0, none⟩ : Addr) false k h20)))) h15) h13))) h8) h6) h4)) h

/-- quaestor quaestorlaw31.QuorumMeets -/
def law31_QuorumMeets_l6b (t22_6 : Addr) (t24_6 : Addr) (t26_6 : Int) (t27_6 : Int) (k : (Bool) → Heap → Prop) (nx1 : (Slc × Int) → Heap → Prop) (nx3 : (Int) → Heap → Prop) (nx4 : (Int) → Heap → Prop) (nx5 : (Int) → Heap → Prop) (nx6 : (Int) → Heap → Prop) (h_6 : Heap) : Prop :=
  ∃ v41 : Slc, cellH h_6 (t24_6.add 28) = some (Slc.v v41) ∧ (if (decide (t27_6 < (v41.len : Int))) then (∃ v42 : Slc, cellH h_6 (t22_6.add 28) = some (Slc.v v42) ∧ (∃ a43 : Addr, v42.a = some a43 ∧ (0 : Int) ≤ t26_6 ∧ t26_6 < (v42.len : Int) ∧ (∃ v44 : Int, cellH h_6 (a43.add (t26_6.toNat * 1)) = some (.int .i64 v44) ∧ (∃ v45 : Slc, cellH h_6 (t24_6.add 28) = some (Slc.v v45) ∧ (∃ a46 : Addr, v45.a = some a46 ∧ (0 : Int) ≤ t27_6 ∧ t27_6 < (v45.len : Int) ∧ (∃ v47 : Int, cellH h_6 (a46.add (t27_6.toNat * 1)) = some (.int .i64 v47) ∧ (if (v44 == v47) then (law31_awake  (fun (r48 : Bool) h49 => k r48 h49) h_6) else (∃ x50 : Int, x50 = (IntKind.i64.wrap (t27_6 + 1)) ∧ (nx6 x50 h_6))))))))) else (∃ x51 : Int, x51 = (IntKind.i64.wrap (t26_6 + 1)) ∧ (nx5 x51 h_6)))
def law31_QuorumMeets_l6 (t22_6 : Addr) (t24_6 : Addr) (t26_6 : Int) (i27 : Int) (k : (Bool) → Heap → Prop) (nx1 : (Slc × Int) → Heap → Prop) (nx3 : (Int) → Heap → Prop) (nx4 : (Int) → Heap → Prop) (nx5 : (Int) → Heap → Prop) (h : Heap) : Prop :=
  ∃ (I : Int → Heap → Prop) (μ : Int → Heap → Nat), I i27 h ∧ ∀ (t27_6 : Int) (h : Heap), I t27_6 h → law31_QuorumMeets_l6b t22_6 t24_6 t26_6 t27_6 k nx1 nx3 nx4 nx5 (fun s h' => I s h' ∧ μ s h' < μ t27_6 h) h
def law31_QuorumMeets_l5b (t22_5 : Addr) (t24_5 : Addr) (t26_5 : Int) (k : (Bool) → Heap → Prop) (nx1 : (Slc × Int) → Heap → Prop) (nx3 : (Int) → Heap → Prop) (nx4 : (Int) → Heap → Prop) (nx5 : (Int) → Heap → Prop) (h_5 : Heap) : Prop :=
  ∃ v40 : Slc, cellH h_5 (t22_5.add 28) = some (Slc.v v40) ∧ (if (decide (t26_5 < (v40.len : Int))) then (law31_QuorumMeets_l6 t22_5 t24_5 t26_5 0 k nx1 nx3 nx4 nx5 h_5) else (k false h_5))
def law31_QuorumMeets_l5 (t22_5 : Addr) (t24_5 : Addr) (i26 : Int) (k : (Bool) → Heap → Prop) (nx1 : (Slc × Int) → Heap → Prop) (nx3 : (Int) → Heap → Prop) (nx4 : (Int) → Heap → Prop) (h : Heap) : Prop :=
  ∃ (I : Int → Heap → Prop) (μ : Int → Heap → Nat), I i26 h ∧ ∀ (t26_5 : Int) (h : Heap), I t26_5 h → law31_QuorumMeets_l5b t22_5 t24_5 t26_5 k nx1 nx3 nx4 (fun s h' => I s h' ∧ μ s h' < μ t26_5 h) h
def law31_QuorumMeets_l4b (t5_4 : Slc) (t17_4 : Option Addr) (t21_4 : Int) (k : (Bool) → Heap → Prop) (nx1 : (Slc × Int) → Heap → Prop) (nx3 : (Int) → Heap → Prop) (nx4 : (Int) → Heap → Prop) (h_4 : Heap) : Prop :=
  if (decide (t21_4 < (t5_4.len : Int))) then (∃ a23 : Addr, t5_4.a = some a23 ∧ (0 : Int) ≤ t21_4 ∧ t21_4 < (t5_4.len : Int) ∧ (∃ v24 : Int, cellH h_4 (a23.add (t21_4.toNat * 1)) = some (.int .u8 v24) ∧ (quorum_Desk_Yes t17_4 2 (IntKind.i64.wrap v24) (⟨none, 0, 0⟩ : Slc) (fun (r25 : Bool) h26 => ∃ x27 : Int, x27 = (IntKind.i64.wrap (t21_4 + 1)) ∧ (nx4 x27 h26)) h_4))) else (quorum_Desk_Result t17_4 1 (fun (r28 : S_api_Op × Int) h29 => ∃ (b30 : Nat) (h31 : Heap), b30 = h29.size ∧ h31 = h29.push (.cells (S_api_Op.cs (⟨0, 0, ByteArray.empty, (⟨none, 0, 0⟩ : Slc), (⟨ByteArray.empty, 0, 0, 0, 0⟩ : S_api_Query), (⟨0, ByteArray.empty, 0, ([] : List Int), (⟨none, 0, 0⟩ : Slc), 0⟩ : S_api_Command), 0, (⟨none, 0, 0⟩ : Slc), (⟨none, 0, 0⟩ : Slc), 0, false, 0, (⟨none, 0, 0⟩ : Slc)⟩ : S_api_Op)).toArray 40) ∧ (∃ h32 : Heap, WrsAt h31 (⟨b30, 0, none⟩ : Addr) 33 ∧ h32 = setsH h31 (⟨b30, 0, none⟩ : Addr) 0 (S_api_Op.cs r28.1) ∧ (quorum_Desk_Result t17_4 2 (fun (r33 : S_api_Op × Int) h34 => ∃ (b35 : Nat) (h36 : Heap), b35 = h34.size ∧ h36 = h34.push (.cells (S_api_Op.cs (⟨0, 0, ByteArray.empty, (⟨none, 0, 0⟩ : Slc), (⟨ByteArray.empty, 0, 0, 0, 0⟩ : S_api_Query), (⟨0, ByteArray.empty, 0, ([] : List Int), (⟨none, 0, 0⟩ : Slc), 0⟩ : S_api_Command), 0, (⟨none, 0, 0⟩ : Slc), (⟨none, 0, 0⟩ : Slc), 0, false, 0, (⟨none, 0, 0⟩ : Slc)⟩ : S_api_Op)).toArray 40) ∧ (∃ h37 : Heap, WrsAt h36 (⟨b35, 0, none⟩ : Addr) 33 ∧ h37 = setsH h36 (⟨b35, 0, none⟩ : Addr) 0 (S_api_Op.cs r33.1) ∧ (if ((r28.2 != 0) || (r33.2 != 0)) then (law31_awake  (fun (r38 : Bool) h39 => k r38 h39) h37) else (law31_QuorumMeets_l5 (⟨b30, 0, none⟩ : Addr) (⟨b35, 0, none⟩ : Addr) 0 k nx1 nx3 nx4 h37)))) h32))) h_4)
def law31_QuorumMeets_l4 (t5_4 : Slc) (t17_4 : Option Addr) (i21 : Int) (k : (Bool) → Heap → Prop) (nx1 : (Slc × Int) → Heap → Prop) (nx3 : (Int) → Heap → Prop) (h : Heap) : Prop :=
  ∃ (I : Int → Heap → Prop) (μ : Int → Heap → Nat), I i21 h ∧ ∀ (t21_4 : Int) (h : Heap), I t21_4 h → law31_QuorumMeets_l4b t5_4 t17_4 t21_4 k nx1 nx3 (fun s h' => I s h' ∧ μ s h' < μ t21_4 h) h
def law31_QuorumMeets_l3b (t4_3 : Slc) (t5_3 : Slc) (t17_3 : Option Addr) (t20_3 : Int) (k : (Bool) → Heap → Prop) (nx1 : (Slc × Int) → Heap → Prop) (nx3 : (Int) → Heap → Prop) (h_3 : Heap) : Prop :=
  if (decide (t20_3 < (t4_3.len : Int))) then (∃ a18 : Addr, t4_3.a = some a18 ∧ (0 : Int) ≤ t20_3 ∧ t20_3 < (t4_3.len : Int) ∧ (∃ v19 : Int, cellH h_3 (a18.add (t20_3.toNat * 1)) = some (.int .u8 v19) ∧ (quorum_Desk_Yes t17_3 1 (IntKind.i64.wrap v19) (⟨none, 0, 0⟩ : Slc) (fun (r20 : Bool) h21 => ∃ x22 : Int, x22 = (IntKind.i64.wrap (t20_3 + 1)) ∧ (nx3 x22 h21)) h_3))) else (law31_QuorumMeets_l4 t5_3 t17_3 0 k nx1 nx3 h_3)
def law31_QuorumMeets_l3 (t4_3 : Slc) (t5_3 : Slc) (t17_3 : Option Addr) (i20 : Int) (k : (Bool) → Heap → Prop) (nx1 : (Slc × Int) → Heap → Prop) (h : Heap) : Prop :=
  ∃ (I : Int → Heap → Prop) (μ : Int → Heap → Nat), I i20 h ∧ ∀ (t20_3 : Int) (h : Heap), I t20_3 h → law31_QuorumMeets_l3b t4_3 t5_3 t17_3 t20_3 k nx1 (fun s h' => I s h' ∧ μ s h' < μ t20_3 h) h
def law31_QuorumMeets_g2 (t4_2 : Slc) (t5_2 : Slc) (t17_2 : Option Addr) (t92_2 : Bool) (k : (Bool) → Heap → Prop) (nx1 : (Slc × Int) → Heap → Prop) (h_2 : Heap) : Prop :=
  if t92_2 then (k false h_2) else (law31_QuorumMeets_l3 t4_2 t5_2 t17_2 0 k nx1 h_2)
def law31_QuorumMeets_l1b (t4_1 : Slc) (t5_1 : Slc) (t13_1 : Int) (t14_1 : Int) (t15_1 : Int) (t16_1 : Int) (t17_1 : Option Addr) (t18_1 : Slc) (t19_1 : Int) (k : (Bool) → Heap → Prop) (nx1 : (Slc × Int) → Heap → Prop) (h_1 : Heap) : Prop :=
  if (decide (t19_1 < t13_1)) then (∃ (b9 : Nat) (h10 : Heap), b9 = h_1.size ∧ h10 = h_1.push (.cells ([.int .i64 t19_1]).toArray 3) ∧ (App 3 1 8 [.int .i64 0] h10 t18_1 1 ([.int .i64 t19_1]) (fun s11 h12 => ∃ x13 : Int, x13 = (IntKind.i64.wrap (t19_1 + 1)) ∧ (nx1 (s11, x13) h12)))) else (∃ (b14 : Nat) (h15 : Heap), b14 = h_1.size ∧ h15 = h_1.push (.cells ([.int .i64 t14_1, .int .i64 t15_1, .int .i64 t16_1]).toArray 3) ∧ (quorum_Desk_Start t17_1 (⟨1, 1, ByteArray.empty, (⟨none, 0, 0⟩ : Slc), (⟨ByteArray.empty, 0, 0, 0, 0⟩ : S_api_Query), (⟨0, ByteArray.empty, 0, ([] : List Int), (⟨none, 0, 0⟩ : Slc), 0⟩ : S_api_Command), 0, (⟨some ⟨b14, 0, none⟩, 3, 3⟩ : Slc), (⟨none, 0, 0⟩ : Slc), 0, false, 0, (⟨none, 0, 0⟩ : Slc)⟩ : S_api_Op) (fun (r16 : Int) h17 => if (r16 != 0) then (law31_QuorumMeets_g2 t4_1 t5_1 t17_1 true k nx1 h17) else (quorum_Desk_Start t17_1 (⟨2, 2, ByteArray.empty, (⟨none, 0, 0⟩ : Slc), (⟨ByteArray.empty, 0, 0, 0, 0⟩ : S_api_Query), (⟨0, ByteArray.empty, 0, ([] : List Int), (⟨none, 0, 0⟩ : Slc), 0⟩ : S_api_Command), 0, t18_1, (⟨none, 0, 0⟩ : Slc), 0, false, 0, (⟨none, 0, 0⟩ : Slc)⟩ : S_api_Op) (fun (r52 : Int) h53 => law31_QuorumMeets_g2 t4_1 t5_1 t17_1 (r52 != 0) k nx1 h53) h17)) h15))
def law31_QuorumMeets_l1 (t4_1 : Slc) (t5_1 : Slc) (t13_1 : Int) (t14_1 : Int) (t15_1 : Int) (t16_1 : Int) (t17_1 : Option Addr) (i18 : Slc) (i19 : Int) (k : (Bool) → Heap → Prop) (h : Heap) : Prop :=
  ∃ (I : (Slc × Int) → Heap → Prop) (μ : (Slc × Int) → Heap → Nat), I (i18, i19) h ∧ ∀ (t18_1 : Slc) (t19_1 : Int) (h : Heap), I (t18_1, t19_1) h → law31_QuorumMeets_l1b t4_1 t5_1 t13_1 t14_1 t15_1 t16_1 t17_1 t18_1 t19_1 k (fun s h' => I s h' ∧ μ s h' < μ (t18_1, t19_1) h) h
def law31_QuorumMeets (p0 : Int) (p1 : Int) (p2 : Int) (p3 : Int) (p4 : Slc) (p5 : Slc) (k : (Bool) → Heap → Prop) (h : Heap) : Prop :=
  ∃ x1 : Int, x1 = (IntKind.i64.wrap (3 + (IntKind.i64.wrap (Int.tmod p0 30)))) ∧ (x1 ≠ 0 ∧ (x1 ≠ 0 ∧ (x1 ≠ 0 ∧ (if ((((((Int.tmod (IntKind.i64.wrap p1) x1) == (Int.tmod (IntKind.i64.wrap p2) x1)) || ((Int.tmod (IntKind.i64.wrap p2) x1) == (Int.tmod (IntKind.i64.wrap p3) x1))) || ((Int.tmod (IntKind.i64.wrap p1) x1) == (Int.tmod (IntKind.i64.wrap p3) x1))) || (decide ((p4.len : Int) > 60))) || (decide ((p5.len : Int) > 60))) then (law31_awake  (fun (r5 : Bool) h6 => k r5 h6) h) else (quorum_New  (fun (r7 : Option Addr) h8 => law31_QuorumMeets_l1 p4 p5 x1 (Int.tmod (IntKind.i64.wrap p1) x1) (Int.tmod (IntKind.i64.wrap p2) x1) (Int.tmod (IntKind.i64.wrap p3) x1) r7 (⟨none, 0, 0⟩ : Slc) 0 k h8) h)))))

theorem quorum_Desk_Yes_ok : CallOk Go.Proofs.Tryz.prog 8 := ⟨_, Go.Proofs.Tryz.func8, by kernel_rfl, by kernel_rfl⟩
theorem quorum_Desk_Yes_ref (p0 : Option Addr) (p1 : Int) (p2 : Int) (p3 : Slc) (k : (Bool) → Heap → Prop) (h : Heap) (H : quorum_Desk_Yes p0 p1 p2 p3 k h) : CallsH Go.Proofs.Tryz.prog 8 #[.pointer p0, .int .u64 p1, .int .i64 p2, Slc.v p3] h (fun v h' => ∃ r : Bool, v = .bool r ∧ k r h') := by
  refine f_enter (N := 93) Go.Proofs.Tryz.func8 rfl rfl rfl (fun w0 => ?_)
  unfold quorum_Desk_Yes at H
  refine c_weak [(0, .pointer p0), (1, .int .u64 p1), (2, .int .i64 p2), (3, Slc.v p3)] ⟨rfl, rfl, rfl, rfl, trivial⟩ ?_
  refine c_seq ?_
  refine c_region ?_
  refine w_p tok rfl rfl rfl ?_
  refine w_end ?_
  refine x_seq ?_
  refine c_seq ?_
  refine c_region ?_
  refine w_p tok rfl rfl rfl ?_
  refine w_p tok rfl rfl rfl ?_
  refine w_p tok rfl rfl rfl ?_
  refine w_call quorum_Desk_open_ok (quorum_Desk_open_ref _ _ _ _ _ H) rfl rfl rfl rfl ?_
  rintro _ h2 ⟨r1, rfl, H⟩
  refine w_p tok rfl rfl rfl ?_
  refine w_p tok rfl rfl rfl ?_
  refine w_p tok rfl rfl rfl ?_
  refine w_p tok rfl rfl rfl ?_
  refine w_p tok rfl rfl rfl ?_
  refine w_end ?_
  refine x_seq ?_
  refine c_weak [(2, .int .i64 p2), (3, Slc.v p3), (9, .pointer r1.1), (10, .bool r1.2)] ⟨rfl, rfl, rfl, rfl, trivial⟩ ?_
  refine c_seq ?_
  refine c_seq ?_
  refine c_region ?_
  refine w_p tok rfl rfl rfl ?_
  refine w_p tok rfl rfl rfl ?_
  refine w_p tok rfl rfl rfl ?_
  refine w_cut 7 (α := Bool) (fun (s : Bool) => [(27, .bool s), (2, .int .i64 p2), (3, Slc.v p3), (9, .pointer r1.1)]) (fun (s : Bool) h => quorum_Desk_Yes_g1 p2 p3 r1.1 s k h) ?_ ?_
  ·
    rintro t27_1 h_1 H
    replace H : quorum_Desk_Yes_g1 p2 p3 r1.1 t27_1 k h_1 := H
    unfold quorum_Desk_Yes_g1 at H
    refine w_weak [(27, .bool t27_1), (2, .int .i64 p2), (3, Slc.v p3), (9, .pointer r1.1)] ⟨rfl, rfl, rfl, rfl, trivial⟩ ?_
    refine w_end ?_
    refine x_seq ?_
    refine c_if H rfl (fun H => ?_) (fun H => ?_)
    ·
      refine c_seq ?_
      refine c_region ?_
      refine w_p tok rfl rfl rfl ?_
      refine w_end ?_
      refine x_seq ?_
      refine c_ret ?_
      refine x_tr ?_
      exact x_ret _ rfl _ rfl ⟨false, rfl, H⟩
    ·
      refine c_skip ?_
      refine x_seq ?_
      refine c_seq ?_
      refine c_region ?_
      refine w_p tok rfl rfl rfl ?_
      refine w_p tok rfl rfl rfl ?_
      obtain ⟨a3, ha3, H⟩ := H
      refine w_y (y_nil' rfl rfl ha3) rfl rfl ?_
      refine w_p tok rfl rfl rfl ?_
      obtain ⟨v4, hv4, H⟩ := H
      refine w_y (y_ld tok rfl rfl rfl rfl hv4) rfl rfl ?_
      refine w_p tok rfl rfl rfl ?_
      obtain ⟨b5, h6, eb5, eh6, H⟩ := H
      refine w_h (h_bs tok rfl rfl rfl rfl rfl rfl rfl eb5 eh6) rfl rfl ?_
      refine w_a (a_app (s := v4) (r := (⟨some ⟨b5, 0, none⟩, 1, 1⟩ : Slc)) tok rfl rfl rfl rfl rfl (slcAt_push eb5 eh6) H) rfl rfl ?_
      rintro _ h8 ⟨s7, rfl, H⟩
      refine w_y (y_nil' rfl rfl ha3) rfl rfl ?_
      refine w_p tok rfl rfl rfl ?_
      obtain ⟨h9, wh9, eh9, H⟩ := H
      refine w_h (h_st tok rfl rfl rfl rfl rfl rfl wh9 eh9) rfl rfl ?_
      refine w_end ?_
      refine x_seq ?_
      refine c_weak [(3, Slc.v p3), (9, .pointer r1.1)] ⟨rfl, rfl, trivial⟩ ?_
      refine c_seqJ (α := Unit) (fun (s : Unit) => [(9, .pointer r1.1)]) (fun (s : Unit) h => quorum_Desk_Yes_j2 r1.1 k h) ?_ ?_
      ·
        rintro _ h_2 H
        replace H : quorum_Desk_Yes_j2 r1.1 k h_2 := H
        unfold quorum_Desk_Yes_j2 at H
        refine c_weak [(9, .pointer r1.1)] ⟨rfl, trivial⟩ ?_
        refine c_seq ?_
        refine c_seq ?_
        refine c_sim [(9, .pointer r1.1)] (by kernel_rfl) (by kernel_rfl) ⟨rfl, trivial⟩ (fun wf => ?_)
        refine sim_p 0 (ei := [(9, .pointer r1.1)]) (d := (some 53)) wf (by kernel_rfl) ⟨rfl, trivial⟩ (by kernel_rfl) (by kernel_rfl) (fun _ => pf_p tok rfl rfl rfl rfl) (fun P_0 => ?_)
        obtain ⟨a10, ha10, H⟩ := H
        refine sim_p 1 (ei := [(53, .pointer r1.1)]) (d := (some 54)) wf (by kernel_rfl) ⟨rfl, trivial⟩ (by kernel_rfl) (by kernel_rfl) (fun _ => pf_y rfl rfl rfl (y_nil' rfl rfl ha10)) (fun P_1 => ?_)
        refine sim_p 2 (ei := [(54, .pointer (some a10))]) (d := (some 55)) wf (by kernel_rfl) ⟨rfl, trivial⟩ (by kernel_rfl) (by kernel_rfl) (fun _ => pf_p tok rfl rfl rfl rfl) (fun P_2 => ?_)
        obtain ⟨v11, hv11, H⟩ := H
        refine sim_l 3 (ei := [(55, .pointer (some (a10.add 28)))]) (d := (some 56)) wf (by kernel_rfl) ⟨rfl, trivial⟩ (by kernel_rfl) (by kernel_rfl) (pf_y rfl rfl rfl (y_ld tok rfl rfl rfl rfl hv11)) (fun P_3 => ?_)
        refine sim_p 4 (ei := [(56, Slc.v v11)]) (d := (some 57)) wf (by kernel_rfl) ⟨rfl, trivial⟩ (by kernel_rfl) (by kernel_rfl) (fun _ => pf_p tok rfl rfl rfl rfl) (fun P_4 => ?_)
        refine sim_p 5 (ei := [(9, .pointer r1.1)]) (d := (some 58)) wf (by kernel_rfl) ⟨rfl, trivial⟩ (by kernel_rfl) (by kernel_rfl) (fun _ => pf_p tok rfl rfl rfl rfl) (fun P_5 => ?_)
        refine sim_p 6 (ei := [(58, .pointer r1.1)]) (d := (some 59)) wf (by kernel_rfl) ⟨rfl, trivial⟩ (by kernel_rfl) (by kernel_rfl) (fun _ => pf_y rfl rfl rfl (y_nil' rfl rfl ha10)) (fun P_6 => ?_)
        obtain ⟨v12, hv12, H⟩ := H
        refine sim_l 7 (ei := [(59, .pointer (some a10))]) (d := (some 60)) wf (by kernel_rfl) ⟨rfl, trivial⟩ (by kernel_rfl) (by kernel_rfl) (pf_y rfl rfl rfl (y_lda tok rfl rfl rfl rfl rfl hv12)) (fun P_7 => ?_)
        refine sim_c 8 [5, 6, 7] [5, 6, 7] (ei := [(60, .agg (S_api_Op.cs v12).toArray)]) quorum_Needs_ok (quorum_Needs_ref _ _ _ H) wf ⟨P_7, P_6 _, P_5 _, P_4 _, P_3, P_2 _, P_1 _, P_0 _, trivial⟩ (by kernel_rfl) ⟨rfl, trivial⟩ (by kernel_rfl) rfl rfl rfl rfl rfl ?_
        rintro _ h14 ⟨r13, rfl, H⟩
        obtain ⟨hy15, H⟩ := H
        refine sim_re (x := ⟨3, Slc.v v11, [(55, .pointer (some (a10.add 28)))]⟩) (pf_y rfl rfl rfl (y_ld tok rfl rfl rfl rfl hy15)) (fun P_3 => ?_)
        refine sim_p 9 (ei := [(57, .int .i64 (v11.len : Int)), (61, .int .i64 r13)]) (d := (some 62)) wf (by kernel_rfl) ⟨rfl, rfl, trivial⟩ (by kernel_rfl) (by kernel_rfl) (fun _ => pf_p tok rfl rfl rfl rfl) (fun P_9 => ?_)
        refine sim_end wf ⟨P_9 _, trivial, trivial, trivial, P_4 _, P_3, P_2 _, P_1 _, P_0 _, trivial⟩ (by kernel_rfl) ?_
        clear wf P_0 P_1 P_2 P_3 P_4 P_5 P_6 P_7 P_9
        refine x_seq ?_
        refine c_weak [(9, .pointer r1.1), (62, .bool (decide ((v11.len : Int) < r13)))] ⟨rfl, rfl, trivial⟩ ?_
        refine c_if H rfl (fun H => ?_) (fun H => ?_)
        ·
          refine c_seq ?_
          refine c_region ?_
          refine w_p tok rfl rfl rfl ?_
          refine w_end ?_
          refine x_seq ?_
          refine c_ret ?_
          refine x_tr ?_
          exact x_ret _ rfl _ rfl ⟨true, rfl, H⟩
        ·
          refine c_skip ?_
          refine x_seq ?_
          refine c_seq ?_
          refine c_region ?_
          refine w_p tok rfl rfl rfl ?_
          refine w_y (y_nil' rfl rfl ha10) rfl rfl ?_
          refine w_p tok rfl rfl rfl ?_
          obtain ⟨h16, wh16, eh16, H⟩ := H
          refine w_h (h_st tok rfl rfl rfl rfl rfl rfl wh16 eh16) rfl rfl ?_
          refine w_end ?_
          refine x_seq ?_
          refine c_seqJ (α := Unit) (fun (s : Unit) => []) (fun (s : Unit) h => quorum_Desk_Yes_j3 k h) ?_ ?_
          ·
            rintro _ h_3 H
            replace H : quorum_Desk_Yes_j3 k h_3 := H
            unfold quorum_Desk_Yes_j3 at H
            refine c_weak [] trivial ?_
            refine c_seq ?_
            refine c_region ?_
            refine w_p tok rfl rfl rfl ?_
            refine w_end ?_
            refine x_seq ?_
            refine c_ret ?_
            exact x_ret _ rfl _ rfl ⟨true, rfl, H⟩
          ·
            refine c_seq ?_
            refine c_region ?_
            refine w_p tok rfl rfl rfl ?_
            refine w_y (y_nil' rfl rfl ha10) rfl rfl ?_
            refine w_p tok rfl rfl rfl ?_
            obtain ⟨v17, hv17, H⟩ := H
            refine w_y (y_ld tok rfl rfl rfl rfl hv17) rfl rfl ?_
            refine w_p tok rfl rfl rfl ?_
            refine w_end ?_
            refine x_seq ?_
            refine c_weak [(9, .pointer r1.1), (70, .bool (v17 == 2))] ⟨rfl, rfl, trivial⟩ ?_
            refine c_if H rfl (fun H => ?_) (fun H => ?_)
            ·
              refine c_sim [(9, .pointer r1.1)] (by kernel_rfl) (by kernel_rfl) ⟨rfl, trivial⟩ (fun wf => ?_)
              refine sim_p 0 (ei := [(9, .pointer r1.1)]) (d := (some 72)) wf (by kernel_rfl) ⟨rfl, trivial⟩ (by kernel_rfl) (by kernel_rfl) (fun _ => pf_p tok rfl rfl rfl rfl) (fun P_0 => ?_)
              refine sim_p 1 (ei := [(9, .pointer r1.1)]) (d := (some 73)) wf (by kernel_rfl) ⟨rfl, trivial⟩ (by kernel_rfl) (by kernel_rfl) (fun _ => pf_p tok rfl rfl rfl rfl) (fun P_1 => ?_)
              refine sim_p 2 (ei := [(9, .pointer r1.1)]) (d := (some 74)) wf (by kernel_rfl) ⟨rfl, trivial⟩ (by kernel_rfl) (by kernel_rfl) (fun _ => pf_p tok rfl rfl rfl rfl) (fun P_2 => ?_)
              refine sim_p 3 (ei := [(74, .pointer r1.1)]) (d := (some 75)) wf (by kernel_rfl) ⟨rfl, trivial⟩ (by kernel_rfl) (by kernel_rfl) (fun _ => pf_y rfl rfl rfl (y_nil' rfl rfl ha10)) (fun P_3 => ?_)
              refine sim_p 4 (ei := [(75, .pointer (some a10))]) (d := (some 76)) wf (by kernel_rfl) ⟨rfl, trivial⟩ (by kernel_rfl) (by kernel_rfl) (fun _ => pf_p tok rfl rfl rfl rfl) (fun P_4 => ?_)
              obtain ⟨v18, hv18, H⟩ := H
              refine sim_l 5 (ei := [(76, .pointer (some (a10.add 4)))]) (d := (some 77)) wf (by kernel_rfl) ⟨rfl, trivial⟩ (by kernel_rfl) (by kernel_rfl) (pf_y rfl rfl rfl (y_lda tok rfl rfl rfl rfl rfl hv18)) (fun P_5 => ?_)
              refine sim_p 6 (ei := [(9, .pointer r1.1)]) (d := (some 78)) wf (by kernel_rfl) ⟨rfl, trivial⟩ (by kernel_rfl) (by kernel_rfl) (fun _ => pf_p tok rfl rfl rfl rfl) (fun P_6 => ?_)
              refine sim_p 7 (ei := [(78, .pointer r1.1)]) (d := (some 79)) wf (by kernel_rfl) ⟨rfl, trivial⟩ (by kernel_rfl) (by kernel_rfl) (fun _ => pf_y rfl rfl rfl (y_nil' rfl rfl ha10)) (fun P_7 => ?_)
              refine sim_p 8 (ei := [(79, .pointer (some a10))]) (d := (some 80)) wf (by kernel_rfl) ⟨rfl, trivial⟩ (by kernel_rfl) (by kernel_rfl) (fun _ => pf_p tok rfl rfl rfl rfl) (fun P_8 => ?_)
              obtain ⟨v19, hv19, H⟩ := H
              refine sim_l 9 (ei := [(80, .pointer (some (a10.add 3)))]) (d := (some 81)) wf (by kernel_rfl) ⟨rfl, trivial⟩ (by kernel_rfl) (by kernel_rfl) (pf_y rfl rfl rfl (y_ld tok rfl rfl rfl rfl hv19)) (fun P_9 => ?_)
              refine sim_p 10 (ei := [(9, .pointer r1.1)]) (d := (some 82)) wf (by kernel_rfl) ⟨rfl, trivial⟩ (by kernel_rfl) (by kernel_rfl) (fun _ => pf_p tok rfl rfl rfl rfl) (fun P_10 => ?_)
              refine sim_p 11 (ei := [(82, .pointer r1.1)]) (d := (some 83)) wf (by kernel_rfl) ⟨rfl, trivial⟩ (by kernel_rfl) (by kernel_rfl) (fun _ => pf_y rfl rfl rfl (y_nil' rfl rfl ha10)) (fun P_11 => ?_)
              refine sim_p 12 (ei := [(83, .pointer (some a10))]) (d := (some 84)) wf (by kernel_rfl) ⟨rfl, trivial⟩ (by kernel_rfl) (by kernel_rfl) (fun _ => pf_p tok rfl rfl rfl rfl) (fun P_12 => ?_)
              obtain ⟨v20, hv20, H⟩ := H
              refine sim_l 13 (ei := [(84, .pointer (some (a10.add 26)))]) (d := (some 85)) wf (by kernel_rfl) ⟨rfl, trivial⟩ (by kernel_rfl) (by kernel_rfl) (pf_y rfl rfl rfl (y_ld tok rfl rfl rfl rfl hv20)) (fun P_13 => ?_)
              refine sim_c 14 [2, 3, 4, 5, 6, 7, 8, 9, 10, 11, 12, 13] [2, 3, 4, 5, 6, 7, 8, 9, 10, 11, 12, 13] (ei := [(77, .agg (S_api_Query.cs v18).toArray), (81, Slc.v v19), (85, .int .i64 v20)]) query_Run_ok (query_Run_ref _ _ _ _ _ H) wf ⟨P_13, P_12 _, P_11 _, P_10 _, P_9, P_8 _, P_7 _, P_6 _, P_5, P_4 _, P_3 _, P_2 _, P_1 _, P_0 _, trivial⟩ (by kernel_rfl) ⟨rfl, rfl, rfl, trivial⟩ (by kernel_rfl) rfl rfl rfl rfl rfl ?_
              rintro _ h22 ⟨r21, rfl, H⟩
              refine sim_p 15 (ei := [(86, .tuple #[Slc.v r21.1, .int .i64 r21.2])]) (d := (some 71)) wf (by kernel_rfl) ⟨rfl, trivial⟩ (by kernel_rfl) (by kernel_rfl) (fun _ => pf_p tok rfl rfl rfl rfl) (fun P_15 => ?_)
              refine sim_p 16 (ei := [(71, .tuple #[Slc.v r21.1, .int .i64 r21.2])]) (d := (some 87)) wf (by kernel_rfl) ⟨rfl, trivial⟩ (by kernel_rfl) (by kernel_rfl) (fun _ => pf_p tok rfl rfl rfl rfl) (fun P_16 => ?_)
              refine sim_p 17 (ei := [(71, .tuple #[Slc.v r21.1, .int .i64 r21.2])]) (d := (some 88)) wf (by kernel_rfl) ⟨rfl, trivial⟩ (by kernel_rfl) (by kernel_rfl) (fun _ => pf_p tok rfl rfl rfl rfl) (fun P_17 => ?_)
              refine sim_p 18 (ei := [(72, .pointer r1.1)]) (d := (some 89)) wf (by kernel_rfl) ⟨rfl, trivial⟩ (by kernel_rfl) (by kernel_rfl) (fun _ => pf_y rfl rfl rfl (y_nil' rfl rfl ha10)) (fun P_18 => ?_)
              refine sim_p 19 (ei := [(89, .pointer (some a10))]) (d := (some 90)) wf (by kernel_rfl) ⟨rfl, trivial⟩ (by kernel_rfl) (by kernel_rfl) (fun _ => pf_p tok rfl rfl rfl rfl) (fun P_19 => ?_)
              obtain ⟨h23, wh23, eh23, H⟩ := H
              refine sim_h 20 [0, 2, 3, 4, 5, 6, 7, 8, 9, 10, 11, 12, 13, 14, 15, 16, 18, 19] [0, 2, 3, 4, 5, 6, 7, 8, 9, 10, 11, 12, 13, 15, 16, 18, 19] (ei := [(87, Slc.v r21.1), (90, .pointer (some (a10.add 32)))]) wf ⟨P_19 _, P_18 _, P_17 _, P_16 _, P_15 _, trivial, trivial, trivial, trivial, trivial, trivial, trivial, trivial, trivial, trivial, trivial, trivial, P_1 _, P_0 _, trivial⟩ (by kernel_rfl) ⟨rfl, rfl, trivial⟩ (by kernel_rfl) rfl rfl rfl (h_st tok rfl rfl rfl rfl rfl rfl wh23 eh23) ?_
              refine sim_p 21 (ei := [(73, .pointer r1.1)]) (d := (some 91)) wf (by kernel_rfl) ⟨rfl, trivial⟩ (by kernel_rfl) (by kernel_rfl) (fun _ => pf_y rfl rfl rfl (y_nil' rfl rfl ha10)) (fun P_21 => ?_)
              refine sim_p 22 (ei := [(91, .pointer (some a10))]) (d := (some 92)) wf (by kernel_rfl) ⟨rfl, trivial⟩ (by kernel_rfl) (by kernel_rfl) (fun _ => pf_p tok rfl rfl rfl rfl) (fun P_22 => ?_)
              obtain ⟨h24, wh24, eh24, H⟩ := H
              refine sim_h 23 [0, 1, 2, 3, 4, 5, 6, 7, 8, 9, 10, 11, 12, 13, 14, 15, 16, 17, 18, 19, 20, 21, 22] [0, 1, 2, 3, 4, 5, 6, 7, 8, 9, 10, 11, 12, 13, 15, 16, 17, 18, 19, 21, 22] (ei := [(88, .int .i64 r21.2), (92, .pointer (some (a10.add 31)))]) wf ⟨P_22 _, P_21 _, trivial, trivial, P_17 _, trivial, trivial, trivial, trivial, trivial, trivial, trivial, trivial, trivial, trivial, trivial, trivial, trivial, trivial, P_1 _, trivial, trivial⟩ (by kernel_rfl) ⟨rfl, rfl, trivial⟩ (by kernel_rfl) rfl rfl rfl (h_st tok rfl rfl rfl rfl rfl rfl wh24 eh24) ?_
              refine sim_end wf ⟨trivial, trivial, trivial, trivial, trivial, trivial, trivial, trivial, trivial, trivial, trivial, trivial, trivial, trivial, trivial, trivial, trivial, trivial, trivial, trivial, trivial, trivial⟩ (by kernel_rfl) ?_
              clear wf P_0 P_1 P_10 P_11 P_12 P_13 P_15 P_16 P_17 P_18 P_19 P_2 P_21 P_22 P_3 P_4 P_5 P_6 P_7 P_8 P_9
              exact x_join () H trivial
            ·
              refine c_skip ?_
              exact x_join () H trivial
      ·
        refine c_seq ?_
        refine c_region ?_
        refine w_p tok rfl rfl rfl ?_
        refine w_y (y_nil' rfl rfl ha3) rfl rfl ?_
        refine w_p tok rfl rfl rfl ?_
        obtain ⟨v25, hv25, H⟩ := H
        refine w_y (y_ld tok rfl rfl rfl rfl hv25) rfl rfl ?_
        refine w_p tok rfl rfl rfl ?_
        refine w_end ?_
        refine x_seq ?_
        refine c_if H rfl (fun H => ?_) (fun H => ?_)
        ·
          refine c_region ?_
          refine w_p tok rfl rfl rfl ?_
          refine w_p tok rfl rfl rfl ?_
          refine w_y (y_nil' rfl rfl ha3) rfl rfl ?_
          refine w_p tok rfl rfl rfl ?_
          obtain ⟨v26, hv26, H⟩ := H
          refine w_y (y_ld tok rfl rfl rfl rfl hv26) rfl rfl ?_
          refine w_p tok rfl rfl rfl ?_
          obtain ⟨b27, h28, eb27, eh28, H⟩ := H
          refine w_h (h_bs tok rfl rfl rfl rfl rfl rfl rfl eb27 eh28) rfl rfl ?_
          refine w_call piece_Merge_ok (piece_Merge_ref _ _ _ H) rfl rfl rfl rfl ?_
          rintro _ h30 ⟨r29, rfl, H⟩
          refine w_y (y_nil' rfl rfl ha3) rfl rfl ?_
          refine w_p tok rfl rfl rfl ?_
          obtain ⟨h31, wh31, eh31, H⟩ := H
          refine w_h (h_st tok rfl rfl rfl rfl rfl rfl wh31 eh31) rfl rfl ?_
          refine w_end ?_
          exact x_join () H ⟨rfl, trivial⟩
        ·
          refine c_skip ?_
          exact x_join () H ⟨rfl, trivial⟩
  ·
    refine w_gif (d := 20) H rfl (fun H => ?_) (fun H => ?_)
    ·
      refine w_skip rfl rfl ?_
      refine w_skip rfl rfl ?_
      refine w_skip rfl rfl ?_
      refine w_skip rfl rfl ?_
      refine w_skip rfl rfl ?_
      refine w_skip rfl rfl ?_
      refine w_p tok rfl rfl rfl ?_
      exact w_jn true H ⟨rfl, rfl, rfl, rfl, trivial⟩
    ·
      refine w_p tok rfl rfl rfl ?_
      obtain ⟨a32, ha32, H⟩ := H
      refine w_y (y_nil' rfl rfl ha32) rfl rfl ?_
      refine w_p tok rfl rfl rfl ?_
      obtain ⟨v33, hv33, H⟩ := H
      refine w_y (y_ld tok rfl rfl rfl rfl hv33) rfl rfl ?_
      refine w_p tok rfl rfl rfl ?_
      refine w_call slices_Contains_int_int_ok (slices_Contains_int_int_ref _ _ _ _ H) rfl rfl rfl rfl ?_
      rintro _ h35 ⟨r34, rfl, H⟩
      refine w_p tok rfl rfl rfl ?_
      exact w_jn r34 H ⟨rfl, rfl, rfl, rfl, trivial⟩

theorem law31_awake_ok : CallOk Go.Proofs.Tryz.prog 5 := ⟨_, Go.Proofs.Tryz.func5, by kernel_rfl, by kernel_rfl⟩
theorem law31_awake_ref (k : (Bool) → Heap → Prop) (h : Heap) (H : law31_awake k h) : CallsH Go.Proofs.Tryz.prog 5 #[] h (fun v h' => ∃ r : Bool, v = .bool r ∧ k r h') := by
  refine f_enter (N := 53) Go.Proofs.Tryz.func5 rfl rfl rfl (fun w0 => ?_)
  unfold law31_awake at H
  refine c_seq ?_
  refine c_region ?_
  refine w_p tok rfl rfl rfl ?_
  refine w_end ?_
  refine x_seq ?_
  refine c_seq ?_
  refine c_region ?_
  refine w_call quorum_New_ok (quorum_New_ref  _ _ H) rfl rfl rfl rfl ?_
  rintro _ h2 ⟨r1, rfl, H⟩
  refine w_p tok rfl rfl rfl ?_
  refine w_end ?_
  refine x_seq ?_
  refine c_seq ?_
  refine c_region ?_
  refine w_p tok rfl rfl rfl ?_
  obtain ⟨b3, h4, eb3, eh4, H⟩ := H
  refine w_h (h_bs tok rfl rfl rfl rfl rfl rfl rfl eb3 eh4) rfl rfl ?_
  refine w_y (y_build tok rfl rfl rfl rfl rfl) rfl rfl ?_
  refine w_call quorum_Desk_Start_ok (quorum_Desk_Start_ref _ _ _ _ H) rfl rfl rfl rfl ?_
  rintro _ h6 ⟨r5, rfl, H⟩
  refine w_p tok rfl rfl rfl ?_
  refine w_end ?_
  refine x_seq ?_
  refine c_seq ?_
  refine c_region ?_
  refine w_p tok rfl rfl rfl ?_
  refine w_call quorum_Desk_Yes_ok (quorum_Desk_Yes_ref _ _ _ _ _ _ H) rfl rfl rfl rfl ?_
  rintro _ h8 ⟨r7, rfl, H⟩
  refine w_p tok rfl rfl rfl ?_
  refine w_end ?_
  refine x_seq ?_
  refine c_weak [(1, .pointer r1), (2, .int .i64 r5), (3, .bool r7)] ⟨rfl, rfl, rfl, trivial⟩ ?_
  refine c_seq ?_
  refine c_region ?_
  refine w_p tok rfl rfl rfl ?_
  refine w_call quorum_Desk_Result_ok (quorum_Desk_Result_ref _ _ _ _ H) rfl rfl rfl rfl ?_
  rintro _ h10 ⟨r9, rfl, H⟩
  refine w_p tok rfl rfl rfl ?_
  refine w_p tok rfl rfl rfl ?_
  refine w_p tok rfl rfl rfl ?_
  obtain ⟨b11, h12, eb11, eh12, H⟩ := H
  refine w_h (h_alloc tok rfl rfl eb11 eh12) rfl rfl ?_
  obtain ⟨h13, wh13, eh13, H⟩ := H
  refine w_h (h_sts tok rfl rfl rfl rfl rfl (oneC (by kernel_rfl)) wh13 eh13) rfl rfl ?_
  refine w_p tok rfl rfl rfl ?_
  refine w_end ?_
  refine x_seq ?_
  refine c_seq ?_
  refine c_region ?_
  refine w_p tok rfl rfl rfl ?_
  refine w_call quorum_Desk_Yes_ok (quorum_Desk_Yes_ref _ _ _ _ _ _ H) rfl rfl rfl rfl ?_
  rintro _ h15 ⟨r14, rfl, H⟩
  refine w_p tok rfl rfl rfl ?_
  refine w_end ?_
  refine x_seq ?_
  refine c_weak [(1, .pointer r1), (2, .int .i64 r5), (3, .bool r7), (5, .int .i64 r9.2), (6, .bool r14)] ⟨rfl, rfl, rfl, rfl, rfl, trivial⟩ ?_
  refine c_seq ?_
  refine c_region ?_
  refine w_p tok rfl rfl rfl ?_
  refine w_call quorum_Desk_Result_ok (quorum_Desk_Result_ref _ _ _ _ H) rfl rfl rfl rfl ?_
  rintro _ h17 ⟨r16, rfl, H⟩
  refine w_p tok rfl rfl rfl ?_
  refine w_p tok rfl rfl rfl ?_
  refine w_p tok rfl rfl rfl ?_
  obtain ⟨b18, h19, eb18, eh19, H⟩ := H
  refine w_h (h_alloc tok rfl rfl eb18 eh19) rfl rfl ?_
  obtain ⟨h20, wh20, eh20, H⟩ := H
  refine w_h (h_sts tok rfl rfl rfl rfl rfl (oneC (by kernel_rfl)) wh20 eh20) rfl rfl ?_
  refine w_p tok rfl rfl rfl ?_
  refine w_end ?_
  refine x_seq ?_
  refine c_seq ?_
  refine c_region ?_
  refine w_p tok rfl rfl rfl ?_
  refine w_p tok rfl rfl rfl ?_
  refine w_p tok rfl rfl rfl ?_
  refine w_cutU 2 [(32, .bool ((r5 == 0) && r7)), (5, .int .i64 r9.2), (6, .bool r14), (7, .pointer (some (⟨b18, 0, none⟩ : Addr))), (8, .int .i64 r16.2)] ?_ ?_
  ·
    refine w_p tok rfl rfl rfl ?_
    refine w_cutU 2 [(35, .bool (((r5 == 0) && r7) && r14)), (5, .int .i64 r9.2), (7, .pointer (some (⟨b18, 0, none⟩ : Addr))), (8, .int .i64 r16.2)] ?_ ?_
    ·
      refine w_p tok rfl rfl rfl ?_
      refine w_cutU 3 [(39, .bool ((((r5 == 0) && r7) && r14) && (r9.2 == 14))), (7, .pointer (some (⟨b18, 0, none⟩ : Addr))), (8, .int .i64 r16.2)] ?_ ?_
      ·
        refine w_p tok rfl rfl rfl ?_
        refine w_cutU 3 [(43, .bool (((((r5 == 0) && r7) && r14) && (r9.2 == 14)) && (r16.2 == 0))), (7, .pointer (some (⟨b18, 0, none⟩ : Addr)))] ?_ ?_
        ·
          refine w_p tok rfl rfl rfl ?_
          refine w_cut 3 (α := Bool) (fun (s : Bool) => [(47, .bool s), (7, .pointer (some (⟨b18, 0, none⟩ : Addr)))]) (fun (s : Bool) h => law31_awake_g1 (⟨b18, 0, none⟩ : Addr) s k h) ?_ ?_
          ·
            rintro t47_1 h_1 H
            replace H : law31_awake_g1 (⟨b18, 0, none⟩ : Addr) t47_1 k h_1 := H
            unfold law31_awake_g1 at H
            refine w_weak [(47, .bool t47_1), (7, .pointer (some (⟨b18, 0, none⟩ : Addr)))] ⟨rfl, rfl, trivial⟩ ?_
            refine w_p tok rfl rfl rfl ?_
            refine w_cut 4 (α := Bool) (fun (s : Bool) => [(52, .bool s)]) (fun (s : Bool) h => law31_awake_g2 s k h) ?_ ?_
            ·
              rintro t52_2 h_2 H
              replace H : law31_awake_g2 t52_2 k h_2 := H
              unfold law31_awake_g2 at H
              refine w_weak [(52, .bool t52_2)] ⟨rfl, trivial⟩ ?_
              refine w_p tok rfl rfl rfl ?_
              refine w_end ?_
              refine x_seq ?_
              refine c_ret ?_
              exact x_ret _ rfl _ rfl ⟨t52_2, rfl, H⟩
            ·
              refine w_gif (d := 48) H rfl (fun H => ?_) (fun H => ?_)
              ·
                refine w_p tok rfl rfl rfl ?_
                obtain ⟨v21, hv21, H⟩ := H
                refine w_y (y_ld tok rfl rfl rfl rfl hv21) rfl rfl ?_
                refine w_p tok rfl rfl rfl ?_
                refine w_p tok rfl rfl rfl ?_
                exact w_jn (v21 == 0) H ⟨rfl, trivial⟩
              ·
                refine w_skip rfl rfl ?_
                refine w_skip rfl rfl ?_
                refine w_skip rfl rfl ?_
                refine w_p tok rfl rfl rfl ?_
                exact w_jn false H ⟨rfl, trivial⟩
          ·
            refine w_gif (d := 44) H rfl (fun H => ?_) (fun H => ?_)
            ·
              refine w_p tok rfl rfl rfl ?_
              obtain ⟨v22, hv22, H⟩ := H
              refine w_y (y_ld tok rfl rfl rfl rfl hv22) rfl rfl ?_
              refine w_p tok rfl rfl rfl ?_
              exact w_jn v22 H ⟨rfl, rfl, trivial⟩
            ·
              refine w_skip rfl rfl ?_
              refine w_skip rfl rfl ?_
              refine w_p tok rfl rfl rfl ?_
              exact w_jn false H ⟨rfl, rfl, trivial⟩
        ·
          refine w_gs (d := 40) rfl (fun hb => ?_) (fun hb => ?_)
          ·
            refine w_p tok rfl rfl rfl ?_
            refine w_p tok rfl rfl rfl ?_
            refine w_p tok rfl rfl rfl ?_
            refine w_jn () rfl ⟨?_, rfl, trivial⟩
            exact congrArg (fun b => some (Value.bool b)) (and_t hb)
          ·
            refine w_skip rfl rfl ?_
            refine w_skip rfl rfl ?_
            refine w_p tok rfl rfl rfl ?_
            refine w_jn () rfl ⟨?_, rfl, trivial⟩
            exact congrArg (fun b => some (Value.bool b)) (and_f hb)
      ·
        refine w_gs (d := 36) rfl (fun hb => ?_) (fun hb => ?_)
        ·
          refine w_p tok rfl rfl rfl ?_
          refine w_p tok rfl rfl rfl ?_
          refine w_p tok rfl rfl rfl ?_
          refine w_jn () rfl ⟨?_, rfl, rfl, trivial⟩
          exact congrArg (fun b => some (Value.bool b)) (and_t hb)
        ·
          refine w_skip rfl rfl ?_
          refine w_skip rfl rfl ?_
          refine w_p tok rfl rfl rfl ?_
          refine w_jn () rfl ⟨?_, rfl, rfl, trivial⟩
          exact congrArg (fun b => some (Value.bool b)) (and_f hb)
    ·
      refine w_gs (d := 33) rfl (fun hb => ?_) (fun hb => ?_)
      ·
        refine w_p tok rfl rfl rfl ?_
        refine w_p tok rfl rfl rfl ?_
        refine w_jn () rfl ⟨?_, rfl, rfl, rfl, trivial⟩
        exact congrArg (fun b => some (Value.bool b)) (and_t hb)
      ·
        refine w_skip rfl rfl ?_
        refine w_p tok rfl rfl rfl ?_
        refine w_jn () rfl ⟨?_, rfl, rfl, rfl, trivial⟩
        exact congrArg (fun b => some (Value.bool b)) (and_f hb)
  ·
    refine w_gs (d := 30) rfl (fun hb => ?_) (fun hb => ?_)
    ·
      refine w_p tok rfl rfl rfl ?_
      refine w_p tok rfl rfl rfl ?_
      refine w_jn () rfl ⟨?_, rfl, rfl, rfl, rfl, trivial⟩
      exact congrArg (fun b => some (Value.bool b)) (and_t hb)
    ·
      refine w_skip rfl rfl ?_
      refine w_p tok rfl rfl rfl ?_
      refine w_jn () rfl ⟨?_, rfl, rfl, rfl, rfl, trivial⟩
      exact congrArg (fun b => some (Value.bool b)) (and_f hb)

theorem law31_QuorumMeets_ok : CallOk Go.Proofs.Tryz.prog 3 := ⟨_, Go.Proofs.Tryz.func3, by kernel_rfl, by kernel_rfl⟩
theorem law31_QuorumMeets_ref (p0 : Int) (p1 : Int) (p2 : Int) (p3 : Int) (p4 : Slc) (p5 : Slc) (k : (Bool) → Heap → Prop) (h : Heap) (H : law31_QuorumMeets p0 p1 p2 p3 p4 p5 k h) : CallsH Go.Proofs.Tryz.prog 3 #[.int .u8 p0, .int .u8 p1, .int .u8 p2, .int .u8 p3, Slc.v p4, Slc.v p5] h (fun v h' => ∃ r : Bool, v = .bool r ∧ k r h') := by
  refine f_enter (N := 162) Go.Proofs.Tryz.func3 rfl rfl rfl (fun w0 => ?_)
  unfold law31_QuorumMeets at H
  refine c_weak [(0, .int .u8 p0), (1, .int .u8 p1), (2, .int .u8 p2), (3, .int .u8 p3), (4, Slc.v p4), (5, Slc.v p5)] ⟨rfl, rfl, rfl, rfl, rfl, rfl, trivial⟩ ?_
  refine c_seq ?_
  refine c_region ?_
  refine w_p tok rfl rfl rfl ?_
  refine w_end ?_
  refine x_seq ?_
  refine c_seq ?_
  refine c_region ?_
  refine w_p tok rfl rfl rfl ?_
  refine w_p tok rfl rfl rfl ?_
  refine w_p tok rfl rfl rfl ?_
  refine w_p tok rfl rfl rfl ?_
  obtain ⟨x1, ex1, H⟩ := H
  refine w_pe tok rfl (congrArg (fun z => (.int .i64 z : Value)) ex1) rfl rfl ?_
  refine w_end ?_
  refine x_seq ?_
  refine c_seq ?_
  refine c_draw (by kernel_rfl) (by kernel_rfl) ?_
  refine q_p tok rfl rfl rfl ?_
  refine q_p tok rfl rfl rfl ?_
  refine q_p tok rfl rfl rfl ?_
  obtain ⟨z2, H⟩ := H
  refine q_y (y_rem rfl rfl rfl z2) rfl rfl ?_
  refine q_p tok rfl rfl rfl ?_
  refine q_p tok rfl rfl rfl ?_
  refine q_p tok rfl rfl rfl ?_
  obtain ⟨z3, H⟩ := H
  refine q_y (y_rem rfl rfl rfl z3) rfl rfl ?_
  refine q_p tok rfl rfl rfl ?_
  refine q_p tok rfl rfl rfl ?_
  refine q_p tok rfl rfl rfl ?_
  obtain ⟨z4, H⟩ := H
  refine q_y (y_rem rfl rfl rfl z4) rfl rfl ?_
  refine q_p tok rfl rfl rfl ?_
  refine q_p tok rfl rfl rfl ?_
  refine q_p tok rfl rfl rfl ?_
  refine q_end ?_
  refine x_seq ?_
  refine c_weak [(4, Slc.v p4), (5, Slc.v p5), (13, .int .i64 x1), (14, .int .i64 (Int.tmod (IntKind.i64.wrap p1) x1)), (15, .int .i64 (Int.tmod (IntKind.i64.wrap p2) x1)), (16, .int .i64 (Int.tmod (IntKind.i64.wrap p3) x1))] ⟨rfl, rfl, rfl, rfl, rfl, rfl, trivial⟩ ?_
  refine c_seq ?_
  refine c_seq ?_
  refine c_region ?_
  refine w_p tok rfl rfl rfl ?_
  refine w_p tok rfl rfl rfl ?_
  refine w_p tok rfl rfl rfl ?_
  refine w_p tok rfl rfl rfl ?_
  refine w_cutU 4 [(51, .bool (((Int.tmod (IntKind.i64.wrap p1) x1) == (Int.tmod (IntKind.i64.wrap p2) x1)) || ((Int.tmod (IntKind.i64.wrap p2) x1) == (Int.tmod (IntKind.i64.wrap p3) x1)))), (4, Slc.v p4), (5, Slc.v p5), (13, .int .i64 x1), (14, .int .i64 (Int.tmod (IntKind.i64.wrap p1) x1)), (15, .int .i64 (Int.tmod (IntKind.i64.wrap p2) x1)), (16, .int .i64 (Int.tmod (IntKind.i64.wrap p3) x1))] ?_ ?_
  ·
    refine w_p tok rfl rfl rfl ?_
    refine w_cutU 4 [(56, .bool ((((Int.tmod (IntKind.i64.wrap p1) x1) == (Int.tmod (IntKind.i64.wrap p2) x1)) || ((Int.tmod (IntKind.i64.wrap p2) x1) == (Int.tmod (IntKind.i64.wrap p3) x1))) || ((Int.tmod (IntKind.i64.wrap p1) x1) == (Int.tmod (IntKind.i64.wrap p3) x1)))), (4, Slc.v p4), (5, Slc.v p5), (13, .int .i64 x1), (14, .int .i64 (Int.tmod (IntKind.i64.wrap p1) x1)), (15, .int .i64 (Int.tmod (IntKind.i64.wrap p2) x1)), (16, .int .i64 (Int.tmod (IntKind.i64.wrap p3) x1))] ?_ ?_
    ·
      refine w_p tok rfl rfl rfl ?_
      refine w_cutU 4 [(61, .bool (((((Int.tmod (IntKind.i64.wrap p1) x1) == (Int.tmod (IntKind.i64.wrap p2) x1)) || ((Int.tmod (IntKind.i64.wrap p2) x1) == (Int.tmod (IntKind.i64.wrap p3) x1))) || ((Int.tmod (IntKind.i64.wrap p1) x1) == (Int.tmod (IntKind.i64.wrap p3) x1))) || (decide ((p4.len : Int) > 60)))), (4, Slc.v p4), (5, Slc.v p5), (13, .int .i64 x1), (14, .int .i64 (Int.tmod (IntKind.i64.wrap p1) x1)), (15, .int .i64 (Int.tmod (IntKind.i64.wrap p2) x1)), (16, .int .i64 (Int.tmod (IntKind.i64.wrap p3) x1))] ?_ ?_
      ·
        refine w_p tok rfl rfl rfl ?_
        refine w_cutU 4 [(66, .bool ((((((Int.tmod (IntKind.i64.wrap p1) x1) == (Int.tmod (IntKind.i64.wrap p2) x1)) || ((Int.tmod (IntKind.i64.wrap p2) x1) == (Int.tmod (IntKind.i64.wrap p3) x1))) || ((Int.tmod (IntKind.i64.wrap p1) x1) == (Int.tmod (IntKind.i64.wrap p3) x1))) || (decide ((p4.len : Int) > 60))) || (decide ((p5.len : Int) > 60)))), (4, Slc.v p4), (5, Slc.v p5), (13, .int .i64 x1), (14, .int .i64 (Int.tmod (IntKind.i64.wrap p1) x1)), (15, .int .i64 (Int.tmod (IntKind.i64.wrap p2) x1)), (16, .int .i64 (Int.tmod (IntKind.i64.wrap p3) x1))] ?_ ?_
        ·
          refine w_end ?_
          refine x_seq ?_
          refine c_if H rfl (fun H => ?_) (fun H => ?_)
          ·
            refine c_seq ?_
            refine c_region ?_
            refine w_call law31_awake_ok (law31_awake_ref  _ _ H) rfl rfl rfl rfl ?_
            rintro _ h6 ⟨r5, rfl, H⟩
            refine w_p tok rfl rfl rfl ?_
            refine w_end ?_
            refine x_seq ?_
            refine c_weak [(12, .bool r5)] ⟨rfl, trivial⟩ ?_
            refine c_ret ?_
            refine x_tr ?_
            exact x_ret _ rfl _ rfl ⟨r5, rfl, H⟩
          ·
            refine c_skip ?_
            refine x_seq ?_
            refine c_seq ?_
            refine c_region ?_
            refine w_call quorum_New_ok (quorum_New_ref  _ _ H) rfl rfl rfl rfl ?_
            rintro _ h8 ⟨r7, rfl, H⟩
            refine w_p tok rfl rfl rfl ?_
            refine w_end ?_
            refine x_seq ?_
            refine c_seq ?_
            refine c_region ?_
            refine w_p tok rfl rfl rfl ?_
            refine w_end ?_
            refine x_seq ?_
            refine c_seq ?_
            refine c_seq ?_
            refine c_region ?_
            refine w_p tok rfl rfl rfl ?_
            refine w_end ?_
            refine x_seq ?_
            refine c_block ?_
            obtain ⟨I1, μ1, H0, HI⟩ := H
            refine c_loop (σ := Slc × Int) (fun (s : Slc × Int) => [(18, Slc.v s.1), (19, .int .i64 s.2), (4, Slc.v p4), (5, Slc.v p5), (13, .int .i64 x1), (14, .int .i64 (Int.tmod (IntKind.i64.wrap p1) x1)), (15, .int .i64 (Int.tmod (IntKind.i64.wrap p2) x1)), (16, .int .i64 (Int.tmod (IntKind.i64.wrap p3) x1)), (17, .pointer r7)]) I1 μ1 ((⟨none, 0, 0⟩ : Slc), 0) H0 ⟨rfl, rfl, rfl, rfl, rfl, rfl, rfl, rfl, rfl, trivial⟩ ?_
            rintro ⟨t18_1, t19_1⟩ h_1 H
            replace H := HI t18_1 t19_1 h_1 H
            unfold law31_QuorumMeets_l1b at H
            refine c_weak [(18, Slc.v t18_1), (19, .int .i64 t19_1), (4, Slc.v p4), (5, Slc.v p5), (13, .int .i64 x1), (14, .int .i64 (Int.tmod (IntKind.i64.wrap p1) x1)), (15, .int .i64 (Int.tmod (IntKind.i64.wrap p2) x1)), (16, .int .i64 (Int.tmod (IntKind.i64.wrap p3) x1)), (17, .pointer r7)] ⟨rfl, rfl, rfl, rfl, rfl, rfl, rfl, rfl, rfl, trivial⟩ ?_
            refine c_seq ?_
            refine c_seq ?_
            refine c_region ?_
            refine w_p tok rfl rfl rfl ?_
            refine w_p tok rfl rfl rfl ?_
            refine w_p tok rfl rfl rfl ?_
            refine w_end ?_
            refine x_seq ?_
            refine c_if H rfl (fun H => ?_) (fun H => ?_)
            ·
              refine c_skip ?_
              refine x_seq ?_
              refine c_seq ?_
              refine c_block ?_
              refine c_region ?_
              refine w_p tok rfl rfl rfl ?_
              refine w_p tok rfl rfl rfl ?_
              obtain ⟨b9, h10, eb9, eh10, H⟩ := H
              refine w_h (h_bs tok rfl rfl rfl rfl rfl rfl rfl eb9 eh10) rfl rfl ?_
              refine w_a (a_app (s := t18_1) (r := (⟨some ⟨b9, 0, none⟩, 1, 1⟩ : Slc)) tok rfl rfl rfl rfl rfl (slcAt_push eb9 eh10) H) rfl rfl ?_
              rintro _ h12 ⟨s11, rfl, H⟩
              refine w_p tok rfl rfl rfl ?_
              refine w_end ?_
              refine x_blk ?_
              refine x_seq ?_
              refine c_weak [(18, Slc.v s11), (19, .int .i64 t19_1), (4, Slc.v p4), (5, Slc.v p5), (13, .int .i64 x1), (14, .int .i64 (Int.tmod (IntKind.i64.wrap p1) x1)), (15, .int .i64 (Int.tmod (IntKind.i64.wrap p2) x1)), (16, .int .i64 (Int.tmod (IntKind.i64.wrap p3) x1)), (17, .pointer r7)] ⟨rfl, rfl, rfl, rfl, rfl, rfl, rfl, rfl, rfl, trivial⟩ ?_
              refine c_region ?_
              refine w_p tok rfl rfl rfl ?_
              refine w_p tok rfl rfl rfl ?_
              obtain ⟨x13, ex13, H⟩ := H
              refine w_pe tok rfl (congrArg (fun z => (.int .i64 z : Value)) ex13) rfl rfl ?_
              refine w_end ?_
              exact x_join (s11, x13) H ⟨rfl, rfl, rfl, rfl, rfl, rfl, rfl, rfl, rfl, trivial⟩
            ·
              refine c_exit ?_
              refine x_te ?_
              refine x_te ?_
              refine x_bh ?_
              refine x_seq ?_
              refine c_seq ?_
              refine c_seq ?_
              refine c_region ?_
              refine w_p tok rfl rfl rfl ?_
              refine w_p tok rfl rfl rfl ?_
              refine w_p tok rfl rfl rfl ?_
              refine w_p tok rfl rfl rfl ?_
              obtain ⟨b14, h15, eb14, eh15, H⟩ := H
              refine w_h (h_bs tok rfl rfl rfl rfl rfl rfl rfl eb14 eh15) rfl rfl ?_
              refine w_y (y_build tok rfl rfl rfl rfl rfl) rfl rfl ?_
              refine w_call quorum_Desk_Start_ok (quorum_Desk_Start_ref _ _ _ _ H) rfl rfl rfl rfl ?_
              rintro _ h17 ⟨r16, rfl, H⟩
              refine w_p tok rfl rfl rfl ?_
              refine w_p tok rfl rfl rfl ?_
              refine w_cut 6 (α := Bool) (fun (s : Bool) => [(92, .bool s), (4, Slc.v p4), (5, Slc.v p5), (17, .pointer r7)]) (fun (s : Bool) h => law31_QuorumMeets_g2 p4 p5 r7 s k (fun s h' => I1 s h' ∧ μ1 s h' < μ1 (t18_1, t19_1) h_1) h) ?_ ?_
              ·
                rintro t92_2 h_2 H
                replace H : law31_QuorumMeets_g2 p4 p5 r7 t92_2 k (fun s h' => I1 s h' ∧ μ1 s h' < μ1 (t18_1, t19_1) h_1) h_2 := H
                unfold law31_QuorumMeets_g2 at H
                refine w_weak [(92, .bool t92_2), (4, Slc.v p4), (5, Slc.v p5), (17, .pointer r7)] ⟨rfl, rfl, rfl, rfl, trivial⟩ ?_
                refine w_end ?_
                refine x_seq ?_
                refine c_if H rfl (fun H => ?_) (fun H => ?_)
                ·
                  refine c_seq ?_
                  refine c_region ?_
                  refine w_p tok rfl rfl rfl ?_
                  refine w_end ?_
                  refine x_seq ?_
                  refine c_ret ?_
                  refine x_tr ?_
                  exact x_ret _ rfl _ rfl ⟨false, rfl, H⟩
                ·
                  refine c_skip ?_
                  refine x_seq ?_
                  refine c_seq ?_
                  refine c_seq ?_
                  refine c_region ?_
                  refine w_p tok rfl rfl rfl ?_
                  refine w_end ?_
                  refine x_seq ?_
                  refine c_block ?_
                  obtain ⟨I3, μ3, H0, HI⟩ := H
                  refine c_loop (σ := Int) (fun (s : Int) => [(20, .int .i64 s), (4, Slc.v p4), (5, Slc.v p5), (17, .pointer r7)]) I3 μ3 0 H0 ⟨rfl, rfl, rfl, rfl, trivial⟩ ?_
                  rintro t20_3 h_3 H
                  replace H := HI t20_3 h_3 H
                  unfold law31_QuorumMeets_l3b at H
                  refine c_weak [(20, .int .i64 t20_3), (4, Slc.v p4), (5, Slc.v p5), (17, .pointer r7)] ⟨rfl, rfl, rfl, rfl, trivial⟩ ?_
                  refine c_seq ?_
                  refine c_seq ?_
                  refine c_region ?_
                  refine w_p tok rfl rfl rfl ?_
                  refine w_p tok rfl rfl rfl ?_
                  refine w_p tok rfl rfl rfl ?_
                  refine w_p tok rfl rfl rfl ?_
                  refine w_end ?_
                  refine x_seq ?_
                  refine c_if H rfl (fun H => ?_) (fun H => ?_)
                  ·
                    refine c_skip ?_
                    refine x_seq ?_
                    refine c_seq ?_
                    refine c_block ?_
                    refine c_region ?_
                    refine w_p tok rfl rfl rfl ?_
                    refine w_p tok rfl rfl rfl ?_
                    refine w_p tok rfl rfl rfl ?_
                    obtain ⟨a18, ha18, la18, ua18, H⟩ := H
                    refine w_y (y_ixa' tok rfl rfl ha18 rfl rfl rfl la18 ua18) rfl rfl ?_
                    obtain ⟨v19, hv19, H⟩ := H
                    refine w_y (y_ld tok rfl rfl rfl rfl hv19) rfl rfl ?_
                    refine w_p tok rfl rfl rfl ?_
                    refine w_call quorum_Desk_Yes_ok (quorum_Desk_Yes_ref _ _ _ _ _ _ H) rfl rfl rfl rfl ?_
                    rintro _ h21 ⟨r20, rfl, H⟩
                    refine w_end ?_
                    refine x_blk ?_
                    refine x_seq ?_
                    refine c_weak [(20, .int .i64 t20_3), (4, Slc.v p4), (5, Slc.v p5), (17, .pointer r7)] ⟨rfl, rfl, rfl, rfl, trivial⟩ ?_
                    refine c_region ?_
                    refine w_p tok rfl rfl rfl ?_
                    refine w_p tok rfl rfl rfl ?_
                    obtain ⟨x22, ex22, H⟩ := H
                    refine w_pe tok rfl (congrArg (fun z => (.int .i64 z : Value)) ex22) rfl rfl ?_
                    refine w_end ?_
                    exact x_join x22 H ⟨rfl, rfl, rfl, rfl, trivial⟩
                  ·
                    refine c_exit ?_
                    refine x_te ?_
                    refine x_te ?_
                    refine x_bh ?_
                    refine x_seq ?_
                    refine c_seq ?_
                    refine c_seq ?_
                    refine c_region ?_
                    refine w_p tok rfl rfl rfl ?_
                    refine w_end ?_
                    refine x_seq ?_
                    refine c_block ?_
                    obtain ⟨I4, μ4, H0, HI⟩ := H
                    refine c_loop (σ := Int) (fun (s : Int) => [(21, .int .i64 s), (5, Slc.v p5), (17, .pointer r7)]) I4 μ4 0 H0 ⟨rfl, rfl, rfl, trivial⟩ ?_
                    rintro t21_4 h_4 H
                    replace H := HI t21_4 h_4 H
                    unfold law31_QuorumMeets_l4b at H
                    refine c_weak [(21, .int .i64 t21_4), (5, Slc.v p5), (17, .pointer r7)] ⟨rfl, rfl, rfl, trivial⟩ ?_
                    refine c_seq ?_
                    refine c_seq ?_
                    refine c_region ?_
                    refine w_p tok rfl rfl rfl ?_
                    refine w_p tok rfl rfl rfl ?_
                    refine w_p tok rfl rfl rfl ?_
                    refine w_p tok rfl rfl rfl ?_
                    refine w_end ?_
                    refine x_seq ?_
                    refine c_if H rfl (fun H => ?_) (fun H => ?_)
                    ·
                      refine c_skip ?_
                      refine x_seq ?_
                      refine c_seq ?_
                      refine c_block ?_
                      refine c_region ?_
                      refine w_p tok rfl rfl rfl ?_
                      refine w_p tok rfl rfl rfl ?_
                      refine w_p tok rfl rfl rfl ?_
                      obtain ⟨a23, ha23, la23, ua23, H⟩ := H
                      refine w_y (y_ixa' tok rfl rfl ha23 rfl rfl rfl la23 ua23) rfl rfl ?_
                      obtain ⟨v24, hv24, H⟩ := H
                      refine w_y (y_ld tok rfl rfl rfl rfl hv24) rfl rfl ?_
                      refine w_p tok rfl rfl rfl ?_
                      refine w_call quorum_Desk_Yes_ok (quorum_Desk_Yes_ref _ _ _ _ _ _ H) rfl rfl rfl rfl ?_
                      rintro _ h26 ⟨r25, rfl, H⟩
                      refine w_end ?_
                      refine x_blk ?_
                      refine x_seq ?_
                      refine c_weak [(21, .int .i64 t21_4), (5, Slc.v p5), (17, .pointer r7)] ⟨rfl, rfl, rfl, trivial⟩ ?_
                      refine c_region ?_
                      refine w_p tok rfl rfl rfl ?_
                      refine w_p tok rfl rfl rfl ?_
                      obtain ⟨x27, ex27, H⟩ := H
                      refine w_pe tok rfl (congrArg (fun z => (.int .i64 z : Value)) ex27) rfl rfl ?_
                      refine w_end ?_
                      exact x_join x27 H ⟨rfl, rfl, rfl, trivial⟩
                    ·
                      refine c_exit ?_
                      refine x_te ?_
                      refine x_te ?_
                      refine x_bh ?_
                      refine x_seq ?_
                      refine c_seq ?_
                      refine c_region ?_
                      refine w_p tok rfl rfl rfl ?_
                      refine w_call quorum_Desk_Result_ok (quorum_Desk_Result_ref _ _ _ _ H) rfl rfl rfl rfl ?_
                      rintro _ h29 ⟨r28, rfl, H⟩
                      refine w_p tok rfl rfl rfl ?_
                      refine w_p tok rfl rfl rfl ?_
                      refine w_p tok rfl rfl rfl ?_
                      obtain ⟨b30, h31, eb30, eh31, H⟩ := H
                      refine w_h (h_alloc tok rfl rfl eb30 eh31) rfl rfl ?_
                      obtain ⟨h32, wh32, eh32, H⟩ := H
                      refine w_h (h_sts tok rfl rfl rfl rfl rfl (oneC (by kernel_rfl)) wh32 eh32) rfl rfl ?_
                      refine w_p tok rfl rfl rfl ?_
                      refine w_end ?_
                      refine x_seq ?_
                      refine c_weak [(17, .pointer r7), (22, .pointer (some (⟨b30, 0, none⟩ : Addr))), (23, .int .i64 r28.2)] ⟨rfl, rfl, rfl, trivial⟩ ?_
                      refine c_seq ?_
                      refine c_region ?_
                      refine w_p tok rfl rfl rfl ?_
                      refine w_call quorum_Desk_Result_ok (quorum_Desk_Result_ref _ _ _ _ H) rfl rfl rfl rfl ?_
                      rintro _ h34 ⟨r33, rfl, H⟩
                      refine w_p tok rfl rfl rfl ?_
                      refine w_p tok rfl rfl rfl ?_
                      refine w_p tok rfl rfl rfl ?_
                      obtain ⟨b35, h36, eb35, eh36, H⟩ := H
                      refine w_h (h_alloc tok rfl rfl eb35 eh36) rfl rfl ?_
                      obtain ⟨h37, wh37, eh37, H⟩ := H
                      refine w_h (h_sts tok rfl rfl rfl rfl rfl (oneC (by kernel_rfl)) wh37 eh37) rfl rfl ?_
                      refine w_p tok rfl rfl rfl ?_
                      refine w_end ?_
                      refine x_seq ?_
                      refine c_seq ?_
                      refine c_seq ?_
                      refine c_region ?_
                      refine w_p tok rfl rfl rfl ?_
                      refine w_p tok rfl rfl rfl ?_
                      refine w_p tok rfl rfl rfl ?_
                      refine w_cutU 3 [(134, .bool ((r28.2 != 0) || (r33.2 != 0))), (22, .pointer (some (⟨b30, 0, none⟩ : Addr))), (24, .pointer (some (⟨b35, 0, none⟩ : Addr)))] ?_ ?_
                      ·
                        refine w_end ?_
                        refine x_seq ?_
                        refine c_if H rfl (fun H => ?_) (fun H => ?_)
                        ·
                          refine c_seq ?_
                          refine c_region ?_
                          refine w_call law31_awake_ok (law31_awake_ref  _ _ H) rfl rfl rfl rfl ?_
                          rintro _ h39 ⟨r38, rfl, H⟩
                          refine w_p tok rfl rfl rfl ?_
                          refine w_end ?_
                          refine x_seq ?_
                          refine c_ret ?_
                          refine x_tr ?_
                          exact x_ret _ rfl _ rfl ⟨r38, rfl, H⟩
                        ·
                          refine c_skip ?_
                          refine x_seq ?_
                          refine c_seq ?_
                          refine c_seq ?_
                          refine c_region ?_
                          refine w_p tok rfl rfl rfl ?_
                          refine w_end ?_
                          refine x_seq ?_
                          refine c_block ?_
                          obtain ⟨I5, μ5, H0, HI⟩ := H
                          refine c_loop (σ := Int) (fun (s : Int) => [(26, .int .i64 s), (22, .pointer (some (⟨b30, 0, none⟩ : Addr))), (24, .pointer (some (⟨b35, 0, none⟩ : Addr)))]) I5 μ5 0 H0 ⟨rfl, rfl, rfl, trivial⟩ ?_
                          rintro t26_5 h_5 H
                          replace H := HI t26_5 h_5 H
                          unfold law31_QuorumMeets_l5b at H
                          refine c_weak [(26, .int .i64 t26_5), (22, .pointer (some (⟨b30, 0, none⟩ : Addr))), (24, .pointer (some (⟨b35, 0, none⟩ : Addr)))] ⟨rfl, rfl, rfl, trivial⟩ ?_
                          refine c_seq ?_
                          refine c_seq ?_
                          refine c_region ?_
                          refine w_p tok rfl rfl rfl ?_
                          refine w_p tok rfl rfl rfl ?_
                          obtain ⟨v40, hv40, H⟩ := H
                          refine w_y (y_ld tok rfl rfl rfl rfl hv40) rfl rfl ?_
                          refine w_p tok rfl rfl rfl ?_
                          refine w_p tok rfl rfl rfl ?_
                          refine w_end ?_
                          refine x_seq ?_
                          refine c_if H rfl (fun H => ?_) (fun H => ?_)
                          ·
                            refine c_skip ?_
                            refine x_seq ?_
                            refine c_seq ?_
                            refine c_block ?_
                            refine c_seq ?_
                            refine c_region ?_
                            refine w_p tok rfl rfl rfl ?_
                            refine w_end ?_
                            refine x_seq ?_
                            refine c_block ?_
                            obtain ⟨I6, μ6, H0, HI⟩ := H
                            refine c_loop (σ := Int) (fun (s : Int) => [(27, .int .i64 s), (22, .pointer (some (⟨b30, 0, none⟩ : Addr))), (24, .pointer (some (⟨b35, 0, none⟩ : Addr))), (26, .int .i64 t26_5)]) I6 μ6 0 H0 ⟨rfl, rfl, rfl, rfl, trivial⟩ ?_
                            rintro t27_6 h_6 H
                            replace H := HI t27_6 h_6 H
                            unfold law31_QuorumMeets_l6b at H
                            refine c_weak [(27, .int .i64 t27_6), (22, .pointer (some (⟨b30, 0, none⟩ : Addr))), (24, .pointer (some (⟨b35, 0, none⟩ : Addr))), (26, .int .i64 t26_5)] ⟨rfl, rfl, rfl, rfl, trivial⟩ ?_
                            refine c_seq ?_
                            refine c_seq ?_
                            refine c_region ?_
                            refine w_p tok rfl rfl rfl ?_
                            refine w_p tok rfl rfl rfl ?_
                            obtain ⟨v41, hv41, H⟩ := H
                            refine w_y (y_ld tok rfl rfl rfl rfl hv41) rfl rfl ?_
                            refine w_p tok rfl rfl rfl ?_
                            refine w_p tok rfl rfl rfl ?_
                            refine w_end ?_
                            refine x_seq ?_
                            refine c_if H rfl (fun H => ?_) (fun H => ?_)
                            ·
                              refine c_skip ?_
                              refine x_seq ?_
                              refine c_seq ?_
                              refine c_block ?_
                              refine c_seq ?_
                              refine c_draw (by kernel_rfl) (by kernel_rfl) ?_
                              refine q_p tok rfl rfl rfl ?_
                              obtain ⟨v42, hv42, H⟩ := H
                              refine q_y (y_ld tok rfl rfl rfl rfl hv42) rfl rfl ?_
                              refine q_p tok rfl rfl rfl ?_
                              obtain ⟨a43, ha43, la43, ua43, H⟩ := H
                              refine q_y (y_ixa' tok rfl rfl ha43 rfl rfl rfl la43 ua43) rfl rfl ?_
                              obtain ⟨v44, hv44, H⟩ := H
                              refine q_y (y_ld tok rfl rfl rfl rfl hv44) rfl rfl ?_
                              refine q_p tok rfl rfl rfl ?_
                              obtain ⟨v45, hv45, H⟩ := H
                              refine q_y (y_ld tok rfl rfl rfl rfl hv45) rfl rfl ?_
                              refine q_p tok rfl rfl rfl ?_
                              obtain ⟨a46, ha46, la46, ua46, H⟩ := H
                              refine q_y (y_ixa' tok rfl rfl ha46 rfl rfl rfl la46 ua46) rfl rfl ?_
                              obtain ⟨v47, hv47, H⟩ := H
                              refine q_y (y_ld tok rfl rfl rfl rfl hv47) rfl rfl ?_
                              refine q_p tok rfl rfl rfl ?_
                              refine q_end ?_
                              refine x_seq ?_
                              refine c_weak [(27, .int .i64 t27_6), (22, .pointer (some (⟨b30, 0, none⟩ : Addr))), (24, .pointer (some (⟨b35, 0, none⟩ : Addr))), (26, .int .i64 t26_5), (160, .bool (v44 == v47))] ⟨rfl, rfl, rfl, rfl, rfl, trivial⟩ ?_
                              refine c_if H rfl (fun H => ?_) (fun H => ?_)
                              ·
                                refine c_seq ?_
                                refine c_region ?_
                                refine w_call law31_awake_ok (law31_awake_ref  _ _ H) rfl rfl rfl rfl ?_
                                rintro _ h49 ⟨r48, rfl, H⟩
                                refine w_p tok rfl rfl rfl ?_
                                refine w_end ?_
                                refine x_seq ?_
                                refine c_ret ?_
                                refine x_br ?_
                                refine x_tr ?_
                                refine x_tr ?_
                                refine x_br ?_
                                refine x_br ?_
                                refine x_tr ?_
                                refine x_tr ?_
                                refine x_br ?_
                                refine x_tr ?_
                                exact x_ret _ rfl _ rfl ⟨r48, rfl, H⟩
                              ·
                                refine c_skip ?_
                                refine x_blk ?_
                                refine x_seq ?_
                                refine c_region ?_
                                refine w_p tok rfl rfl rfl ?_
                                refine w_p tok rfl rfl rfl ?_
                                obtain ⟨x50, ex50, H⟩ := H
                                refine w_pe tok rfl (congrArg (fun z => (.int .i64 z : Value)) ex50) rfl rfl ?_
                                refine w_end ?_
                                exact x_join x50 H ⟨rfl, rfl, rfl, rfl, trivial⟩
                            ·
                              refine c_exit ?_
                              refine x_te ?_
                              refine x_te ?_
                              refine x_bh ?_
                              refine x_blk ?_
                              refine x_seq ?_
                              refine c_region ?_
                              refine w_p tok rfl rfl rfl ?_
                              refine w_p tok rfl rfl rfl ?_
                              obtain ⟨x51, ex51, H⟩ := H
                              refine w_pe tok rfl (congrArg (fun z => (.int .i64 z : Value)) ex51) rfl rfl ?_
                              refine w_end ?_
                              exact x_join x51 H ⟨rfl, rfl, rfl, trivial⟩
                          ·
                            refine c_exit ?_
                            refine x_te ?_
                            refine x_te ?_
                            refine x_bh ?_
                            refine x_seq ?_
                            refine c_weak [] trivial ?_
                            refine c_seq ?_
                            refine c_region ?_
                            refine w_p tok rfl rfl rfl ?_
                            refine w_end ?_
                            refine x_seq ?_
                            refine c_ret ?_
                            exact x_ret _ rfl _ rfl ⟨false, rfl, H⟩
                      ·
                        refine w_gs (d := 131) rfl (fun hb => ?_) (fun hb => ?_)
                        ·
                          refine w_skip rfl rfl ?_
                          refine w_skip rfl rfl ?_
                          refine w_p tok rfl rfl rfl ?_
                          refine w_jn () rfl ⟨?_, rfl, rfl, trivial⟩
                          exact congrArg (fun b => some (Value.bool b)) (or_t hb)
                        ·
                          refine w_p tok rfl rfl rfl ?_
                          refine w_p tok rfl rfl rfl ?_
                          refine w_p tok rfl rfl rfl ?_
                          refine w_jn () rfl ⟨?_, rfl, rfl, trivial⟩
                          exact congrArg (fun b => some (Value.bool b)) (or_f hb)
              ·
                refine w_gif (d := 86) H rfl (fun H => ?_) (fun H => ?_)
                ·
                  refine w_skip rfl rfl ?_
                  refine w_skip rfl rfl ?_
                  refine w_skip rfl rfl ?_
                  refine w_skip rfl rfl ?_
                  refine w_skip rfl rfl ?_
                  refine w_p tok rfl rfl rfl ?_
                  exact w_jn true H ⟨rfl, rfl, rfl, rfl, trivial⟩
                ·
                  refine w_p tok rfl rfl rfl ?_
                  refine w_p tok rfl rfl rfl ?_
                  refine w_y (y_build tok rfl rfl rfl rfl rfl) rfl rfl ?_
                  refine w_call quorum_Desk_Start_ok (quorum_Desk_Start_ref _ _ _ _ H) rfl rfl rfl rfl ?_
                  rintro _ h53 ⟨r52, rfl, H⟩
                  refine w_p tok rfl rfl rfl ?_
                  refine w_p tok rfl rfl rfl ?_
                  exact w_jn (r52 != 0) H ⟨rfl, rfl, rfl, rfl, trivial⟩
        ·
          refine w_gs (d := 62) rfl (fun hb => ?_) (fun hb => ?_)
          ·
            refine w_skip rfl rfl ?_
            refine w_skip rfl rfl ?_
            refine w_skip rfl rfl ?_
            refine w_p tok rfl rfl rfl ?_
            refine w_jn () rfl ⟨?_, rfl, rfl, rfl, rfl, rfl, rfl, trivial⟩
            exact congrArg (fun b => some (Value.bool b)) (or_t hb)
          ·
            refine w_p tok rfl rfl rfl ?_
            refine w_p tok rfl rfl rfl ?_
            refine w_p tok rfl rfl rfl ?_
            refine w_p tok rfl rfl rfl ?_
            refine w_jn () rfl ⟨?_, rfl, rfl, rfl, rfl, rfl, rfl, trivial⟩
            exact congrArg (fun b => some (Value.bool b)) (or_f hb)
      ·
        refine w_gs (d := 57) rfl (fun hb => ?_) (fun hb => ?_)
        ·
          refine w_skip rfl rfl ?_
          refine w_skip rfl rfl ?_
          refine w_skip rfl rfl ?_
          refine w_p tok rfl rfl rfl ?_
          refine w_jn () rfl ⟨?_, rfl, rfl, rfl, rfl, rfl, rfl, trivial⟩
          exact congrArg (fun b => some (Value.bool b)) (or_t hb)
        ·
          refine w_p tok rfl rfl rfl ?_
          refine w_p tok rfl rfl rfl ?_
          refine w_p tok rfl rfl rfl ?_
          refine w_p tok rfl rfl rfl ?_
          refine w_jn () rfl ⟨?_, rfl, rfl, rfl, rfl, rfl, rfl, trivial⟩
          exact congrArg (fun b => some (Value.bool b)) (or_f hb)
    ·
      refine w_gs (d := 52) rfl (fun hb => ?_) (fun hb => ?_)
      ·
        refine w_skip rfl rfl ?_
        refine w_skip rfl rfl ?_
        refine w_skip rfl rfl ?_
        refine w_p tok rfl rfl rfl ?_
        refine w_jn () rfl ⟨?_, rfl, rfl, rfl, rfl, rfl, rfl, trivial⟩
        exact congrArg (fun b => some (Value.bool b)) (or_t hb)
      ·
        refine w_p tok rfl rfl rfl ?_
        refine w_p tok rfl rfl rfl ?_
        refine w_p tok rfl rfl rfl ?_
        refine w_p tok rfl rfl rfl ?_
        refine w_jn () rfl ⟨?_, rfl, rfl, rfl, rfl, rfl, rfl, trivial⟩
        exact congrArg (fun b => some (Value.bool b)) (or_f hb)
  ·
    refine w_gs (d := 47) rfl (fun hb => ?_) (fun hb => ?_)
    ·
      refine w_skip rfl rfl ?_
      refine w_skip rfl rfl ?_
      refine w_skip rfl rfl ?_
      refine w_p tok rfl rfl rfl ?_
      refine w_jn () rfl ⟨?_, rfl, rfl, rfl, rfl, rfl, rfl, trivial⟩
      exact congrArg (fun b => some (Value.bool b)) (or_t hb)
    ·
      refine w_p tok rfl rfl rfl ?_
      refine w_p tok rfl rfl rfl ?_
      refine w_p tok rfl rfl rfl ?_
      refine w_p tok rfl rfl rfl ?_
      refine w_jn () rfl ⟨?_, rfl, rfl, rfl, rfl, rfl, rfl, trivial⟩
      exact congrArg (fun b => some (Value.bool b)) (or_f hb)
end Go.Q.Yc

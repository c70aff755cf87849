/- A part of the proof of statements of this seat: lemmas, no statement of their own. -/
import Derived.Test.YthjafnfadiijgaaYhTab
import Derived.Test.YthjafnfadiijgaaYhLa
import Derived.Test.YthjafnfadiijgaaYhRt
-- squeezed
set_option linter.unusedVariables false
set_option maxRecDepth 100000
set_option maxHeartbeats 1000000
namespace Go.Q.Yh
/-- quaestor quaestorlaw26.RaftTakes -/
def law26_RaftTakes_g4 (t61_4 : Bool) (k : (Bool) → Heap → Prop) (h_4 : Heap) : Prop :=
 k t61_4 h_4
def law26_RaftTakes_g3 (t58_3 : Bool) (k : (Bool) → Heap → Prop) (h_3 : Heap) : Prop :=
 if t58_3 then (law26_awake  (fun (r3 : Bool) h4 => law26_RaftTakes_g4 r3 k h4) h_3) else (law26_RaftTakes_g4 false k h_3)
def law26_RaftTakes_g2 (t13_2 : Option Addr) (t53_2 : Bool) (k : (Bool) → Heap → Prop) (h_2 : Heap) : Prop :=
 if t53_2 then (raft_Raft_Leader t13_2 (fun (r5 : Int) h6 => law26_RaftTakes_g3 (r5 == (-1)) k h6) h_2) else (law26_RaftTakes_g3 false k h_2)
def law26_RaftTakes_g1 (t13_1 : Option Addr) (t46_1 : Bool) (k : (Bool) → Heap → Prop) (h_1 : Heap) : Prop :=
 if t46_1 then (raft_Raft_Take t13_1 0 (⟨1, 0, 0, 0, 0, false, (⟨none, 0, 0⟩ : Slc), (⟨none, 0, 0⟩ : Slc)⟩ : S_api_Msg) (fun (r7 : Slc) h8 => law26_RaftTakes_g2 t13_1 ((r7.len : Int) == 0) k h8) h_1) else (law26_RaftTakes_g2 t13_1 false k h_1)
def law26_RaftTakes_j8 (t0_8 : Int) (t1_8 : Int) (t4_8 : Slc) (t5_8 : Slc) (t13_8 : Option Addr) (t14_8 : Int) (t15_8 : Int) (t16_8 : Int) (t17_8 : Slc) (t18_8 : Int) (t204_8 : Bool) (k : (Bool) → Heap → Prop) (nx5 : (Int) → Heap → Prop) (nx7 : (Int) → Heap → Prop) (h_8 : Heap) : Prop :=
 if t204_8 then (k false h_8) else (∃ x27 : Int, x27 = (IntKind.i64.wrap (t18_8 + 1)) ∧ (nx7 x27 h_8))
def law26_RaftTakes_g9 (t0_9 : Int) (t1_9 : Int) (t4_9 : Slc) (t5_9 : Slc) (t13_9 : Option Addr) (t14_9 : Int) (t214_9 : Bool) (k : (Bool) → Heap → Prop) (nx5 : (Int) → Heap → Prop) (nx7 : (Int) → Heap → Prop) (h_9 : Heap) : Prop :=
 if t214_9 then (k false h_9) else (raft_Raft_Tick t13_9 (fun (r74 : Slc) h75 => ∃ x76 : Int, x76 = (IntKind.i64.wrap (t14_9 + 1)) ∧ (nx5 x76 h75)) h_9)
def law26_RaftTakes_l7b (t0_7 : Int) (t1_7 : Int) (t4_7 : Slc) (t5_7 : Slc) (t13_7 : Option Addr) (t14_7 : Int) (t15_7 : Int) (t16_7 : Int) (t17_7 : Slc) (t18_7 : Int) (k : (Bool) → Heap → Prop) (nx5 : (Int) → Heap → Prop) (nx7 : (Int) → Heap → Prop) (h_7 : Heap) : Prop :=
 if (decide (t18_7 < (t17_7.len : Int))) then (∃ a28 : Addr, t17_7.a = some a28 ∧ (0 : Int) ≤ t18_7 ∧ t18_7 < (t17_7.len : Int) ∧ (∃ v29 : Int, cellH h_7 (a28.add (t18_7.toNat * 9)) = some (.int .i64 v29) ∧ (if (decide (v29 < 0)) then (if true then (if true then (law26_RaftTakes_j8 t0_7 t1_7 t4_7 t5_7 t13_7 t14_7 t15_7 t16_7 t17_7 t18_7 true k nx5 nx7 h_7) else (∃ a30 : Addr, t17_7.a = some a30 ∧ (0 : Int) ≤ t18_7 ∧ t18_7 < (t17_7.len : Int) ∧ (∃ v31 : Int, cellH h_7 (((a30.add (t18_7.toNat * 9)).add 1).add 1) = some (.int .u64 v31) ∧ (∃ a32 : Addr, t5_7.a = some a32 ∧ (0 : Int) ≤ t14_7 ∧ t14_7 < (t5_7.len : Int) ∧ (∃ v33 : Int, cellH h_7 ((a32.add (t14_7.toNat * 8)).add 1) = some (.int .u64 v33) ∧ (if (decide (v31 < v33)) then (∃ a34 : Addr, t17_7.a = some a34 ∧ (0 : Int) ≤ t18_7 ∧ t18_7 < (t17_7.len : Int) ∧ (∃ v35 : Int, cellH h_7 (((a34.add (t18_7.toNat * 9)).add 1).add 1) = some (.int .u64 v35) ∧ (raft_Raft_Term t13_7 (fun (r36 : Int) h37 => cellH h37 (((a34.add (t18_7.toNat * 9)).add 1).add 1) = some (.int .u64 v35) ∧ (law26_RaftTakes_j8 t0_7 t1_7 t4_7 t5_7 t13_7 t14_7 t15_7 t16_7 t17_7 t18_7 (decide (v35 < r36)) k nx5 nx7 h37)) h_7))) else (law26_RaftTakes_j8 t0_7 t1_7 t4_7 t5_7 t13_7 t14_7 t15_7 t16_7 t17_7 t18_7 false k nx5 nx7 h_7))))))) else (∃ a39 : Addr, t17_7.a = some a39 ∧ (0 : Int) ≤ t18_7 ∧ t18_7 < (t17_7.len : Int) ∧ (∃ v40 : Int, cellH h_7 (a39.add (t18_7.toNat * 9)) = some (.int .i64 v40) ∧ (if (v40 == t0_7) then (law26_RaftTakes_j8 t0_7 t1_7 t4_7 t5_7 t13_7 t14_7 t15_7 t16_7 t17_7 t18_7 true k nx5 nx7 h_7) else (∃ a41 : Addr, t17_7.a = some a41 ∧ (0 : Int) ≤ t18_7 ∧ t18_7 < (t17_7.len : Int) ∧ (∃ v42 : Int, cellH h_7 (((a41.add (t18_7.toNat * 9)).add 1).add 1) = some (.int .u64 v42) ∧ (∃ a43 : Addr, t5_7.a = some a43 ∧ (0 : Int) ≤ t14_7 ∧ t14_7 < (t5_7.len : Int) ∧ (∃ v44 : Int, cellH h_7 ((a43.add (t14_7.toNat * 8)).add 1) = some (.int .u64 v44) ∧ (if (decide (v42 < v44)) then (∃ a45 : Addr, t17_7.a = some a45 ∧ (0 : Int) ≤ t18_7 ∧ t18_7 < (t17_7.len : Int) ∧ (∃ v46 : Int, cellH h_7 (((a45.add (t18_7.toNat * 9)).add 1).add 1) = some (.int .u64 v46) ∧ (raft_Raft_Term t13_7 (fun (r47 : Int) h48 => cellH h48 (((a45.add (t18_7.toNat * 9)).add 1).add 1) = some (.int .u64 v46) ∧ (law26_RaftTakes_j8 t0_7 t1_7 t4_7 t5_7 t13_7 t14_7 t15_7 t16_7 t17_7 t18_7 (decide (v46 < r47)) k nx5 nx7 h48)) h_7))) else (law26_RaftTakes_j8 t0_7 t1_7 t4_7 t5_7 t13_7 t14_7 t15_7 t16_7 t17_7 t18_7 false k nx5 nx7 h_7)))))))))) else (∃ a50 : Addr, t17_7.a = some a50 ∧ (0 : Int) ≤ t18_7 ∧ t18_7 < (t17_7.len : Int) ∧ (∃ v51 : Int, cellH h_7 (a50.add (t18_7.toNat * 9)) = some (.int .i64 v51) ∧ (if (decide (v51 ≥ t1_7)) then (if true then (law26_RaftTakes_j8 t0_7 t1_7 t4_7 t5_7 t13_7 t14_7 t15_7 t16_7 t17_7 t18_7 true k nx5 nx7 h_7) else (∃ a52 : Addr, t17_7.a = some a52 ∧ (0 : Int) ≤ t18_7 ∧ t18_7 < (t17_7.len : Int) ∧ (∃ v53 : Int, cellH h_7 (((a52.add (t18_7.toNat * 9)).add 1).add 1) = some (.int .u64 v53) ∧ (∃ a54 : Addr, t5_7.a = some a54 ∧ (0 : Int) ≤ t14_7 ∧ t14_7 < (t5_7.len : Int) ∧ (∃ v55 : Int, cellH h_7 ((a54.add (t14_7.toNat * 8)).add 1) = some (.int .u64 v55) ∧ (if (decide (v53 < v55)) then (∃ a56 : Addr, t17_7.a = some a56 ∧ (0 : Int) ≤ t18_7 ∧ t18_7 < (t17_7.len : Int) ∧ (∃ v57 : Int, cellH h_7 (((a56.add (t18_7.toNat * 9)).add 1).add 1) = some (.int .u64 v57) ∧ (raft_Raft_Term t13_7 (fun (r58 : Int) h59 => cellH h59 (((a56.add (t18_7.toNat * 9)).add 1).add 1) = some (.int .u64 v57) ∧ (law26_RaftTakes_j8 t0_7 t1_7 t4_7 t5_7 t13_7 t14_7 t15_7 t16_7 t17_7 t18_7 (decide (v57 < r58)) k nx5 nx7 h59)) h_7))) else (law26_RaftTakes_j8 t0_7 t1_7 t4_7 t5_7 t13_7 t14_7 t15_7 t16_7 t17_7 t18_7 false k nx5 nx7 h_7))))))) else (∃ a61 : Addr, t17_7.a = some a61 ∧ (0 : Int) ≤ t18_7 ∧ t18_7 < (t17_7.len : Int) ∧ (∃ v62 : Int, cellH h_7 (a61.add (t18_7.toNat * 9)) = some (.int .i64 v62) ∧ (if (v62 == t0_7) then (law26_RaftTakes_j8 t0_7 t1_7 t4_7 t5_7 t13_7 t14_7 t15_7 t16_7 t17_7 t18_7 true k nx5 nx7 h_7) else (∃ a63 : Addr, t17_7.a = some a63 ∧ (0 : Int) ≤ t18_7 ∧ t18_7 < (t17_7.len : Int) ∧ (∃ v64 : Int, cellH h_7 (((a63.add (t18_7.toNat * 9)).add 1).add 1) = some (.int .u64 v64) ∧ (∃ a65 : Addr, t5_7.a = some a65 ∧ (0 : Int) ≤ t14_7 ∧ t14_7 < (t5_7.len : Int) ∧ (∃ v66 : Int, cellH h_7 ((a65.add (t14_7.toNat * 8)).add 1) = some (.int .u64 v66) ∧ (if (decide (v64 < v66)) then (∃ a67 : Addr, t17_7.a = some a67 ∧ (0 : Int) ≤ t18_7 ∧ t18_7 < (t17_7.len : Int) ∧ (∃ v68 : Int, cellH h_7 (((a67.add (t18_7.toNat * 9)).add 1).add 1) = some (.int .u64 v68) ∧ (raft_Raft_Term t13_7 (fun (r69 : Int) h70 => cellH h70 (((a67.add (t18_7.toNat * 9)).add 1).add 1) = some (.int .u64 v68) ∧ (law26_RaftTakes_j8 t0_7 t1_7 t4_7 t5_7 t13_7 t14_7 t15_7 t16_7 t17_7 t18_7 (decide (v68 < r69)) k nx5 nx7 h70)) h_7))) else (law26_RaftTakes_j8 t0_7 t1_7 t4_7 t5_7 t13_7 t14_7 t15_7 t16_7 t17_7 t18_7 false k nx5 nx7 h_7))))))))))))))) else (raft_Raft_Term t13_7 (fun (r72 : Int) h73 => if (decide (r72 < t15_7)) then (law26_RaftTakes_g9 t0_7 t1_7 t4_7 t5_7 t13_7 t14_7 true k nx5 nx7 h73) else (raft_Raft_Committed t13_7 (fun (r77 : Int) h78 => law26_RaftTakes_g9 t0_7 t1_7 t4_7 t5_7 t13_7 t14_7 (decide (r77 < t16_7)) k nx5 nx7 h78) h73)) h_7)
def law26_RaftTakes_l7 (t0_7 : Int) (t1_7 : Int) (t4_7 : Slc) (t5_7 : Slc) (t13_7 : Option Addr) (t14_7 : Int) (t15_7 : Int) (t16_7 : Int) (t17_7 : Slc) (i18 : Int) (k : (Bool) → Heap → Prop) (nx5 : (Int) → Heap → Prop) (h : Heap) : Prop :=
 ∃ (I : Int → Heap → Prop) (μ : Int → Heap → Nat), I i18 h ∧ ∀ (t18_7 : Int) (h : Heap), I t18_7 h → law26_RaftTakes_l7b t0_7 t1_7 t4_7 t5_7 t13_7 t14_7 t15_7 t16_7 t17_7 t18_7 k nx5 (fun s h' => I s h' ∧ μ s h' < μ t18_7 h) h
def law26_RaftTakes_j6 (t0_6 : Int) (t1_6 : Int) (t4_6 : Slc) (t5_6 : Slc) (t13_6 : Option Addr) (t14_6 : Int) (t15_6 : Int) (t16_6 : Int) (t17_6 : Slc) (k : (Bool) → Heap → Prop) (nx5 : (Int) → Heap → Prop) (h_6 : Heap) : Prop :=
 law26_RaftTakes_l7 t0_6 t1_6 t4_6 t5_6 t13_6 t14_6 t15_6 t16_6 t17_6 0 k nx5 h_6
def law26_RaftTakes_g15 (t0_15 : Int) (t1_15 : Int) (t4_15 : Slc) (t5_15 : Slc) (t13_15 : Option Addr) (t14_15 : Int) (t15_15 : Int) (t16_15 : Int) (t17_15 : Slc) (t149_15 : Bool) (k : (Bool) → Heap → Prop) (nx5 : (Int) → Heap → Prop) (h_15 : Heap) : Prop :=
 if t149_15 then (k false h_15) else (law26_RaftTakes_j6 t0_15 t1_15 t4_15 t5_15 t13_15 t14_15 t15_15 t16_15 t17_15 k nx5 h_15)
def law26_RaftTakes_g14 (t0_14 : Int) (t1_14 : Int) (t4_14 : Slc) (t5_14 : Slc) (t13_14 : Option Addr) (t14_14 : Int) (t15_14 : Int) (t16_14 : Int) (t17_14 : Slc) (t143_14 : Bool) (k : (Bool) → Heap → Prop) (nx5 : (Int) → Heap → Prop) (h_14 : Heap) : Prop :=
 if t143_14 then (law26_RaftTakes_g15 t0_14 t1_14 t4_14 t5_14 t13_14 t14_14 t15_14 t16_14 t17_14 true k nx5 h_14) else (raft_Raft_Committed t13_14 (fun (r81 : Int) h82 => law26_RaftTakes_g15 t0_14 t1_14 t4_14 t5_14 t13_14 t14_14 t15_14 t16_14 t17_14 (r81 != t16_14) k nx5 h82) h_14)
def law26_RaftTakes_g13 (t0_13 : Int) (t1_13 : Int) (t4_13 : Slc) (t5_13 : Slc) (t13_13 : Option Addr) (t14_13 : Int) (t15_13 : Int) (t16_13 : Int) (t17_13 : Slc) (t134_13 : Bool) (k : (Bool) → Heap → Prop) (nx5 : (Int) → Heap → Prop) (h_13 : Heap) : Prop :=
 if t134_13 then (if (decide ((t17_13.len : Int) > 0)) then (law26_RaftTakes_g14 t0_13 t1_13 t4_13 t5_13 t13_13 t14_13 t15_13 t16_13 t17_13 true k nx5 h_13) else (raft_Raft_Term t13_13 (fun (r83 : Int) h84 => law26_RaftTakes_g14 t0_13 t1_13 t4_13 t5_13 t13_13 t14_13 t15_13 t16_13 t17_13 (r83 != t15_13) k nx5 h84) h_13)) else (law26_RaftTakes_j6 t0_13 t1_13 t4_13 t5_13 t13_13 t14_13 t15_13 t16_13 t17_13 k nx5 h_13)
def law26_RaftTakes_g12 (t0_12 : Int) (t1_12 : Int) (t4_12 : Slc) (t5_12 : Slc) (t13_12 : Option Addr) (t14_12 : Int) (t15_12 : Int) (t16_12 : Int) (t17_12 : Slc) (t126_12 : Bool) (k : (Bool) → Heap → Prop) (nx5 : (Int) → Heap → Prop) (h_12 : Heap) : Prop :=
 if t126_12 then (law26_RaftTakes_g13 t0_12 t1_12 t4_12 t5_12 t13_12 t14_12 t15_12 t16_12 t17_12 true k nx5 h_12) else (∃ a85 : Addr, t5_12.a = some a85 ∧ (0 : Int) ≤ t14_12 ∧ t14_12 < (t5_12.len : Int) ∧ (∃ v86 : Int, cellH h_12 (a85.add (t14_12.toNat * 8)) = some (.int .i64 v86) ∧ (law26_RaftTakes_g13 t0_12 t1_12 t4_12 t5_12 t13_12 t14_12 t15_12 t16_12 t17_12 (decide (v86 > 5)) k nx5 h_12)))
def law26_RaftTakes_g11 (t0_11 : Int) (t1_11 : Int) (t4_11 : Slc) (t5_11 : Slc) (t13_11 : Option Addr) (t14_11 : Int) (t15_11 : Int) (t16_11 : Int) (t17_11 : Slc) (t118_11 : Bool) (k : (Bool) → Heap → Prop) (nx5 : (Int) → Heap → Prop) (h_11 : Heap) : Prop :=
 if t118_11 then (law26_RaftTakes_g12 t0_11 t1_11 t4_11 t5_11 t13_11 t14_11 t15_11 t16_11 t17_11 true k nx5 h_11) else (∃ a87 : Addr, t5_11.a = some a87 ∧ (0 : Int) ≤ t14_11 ∧ t14_11 < (t5_11.len : Int) ∧ (∃ v88 : Int, cellH h_11 (a87.add (t14_11.toNat * 8)) = some (.int .i64 v88) ∧ (law26_RaftTakes_g12 t0_11 t1_11 t4_11 t5_11 t13_11 t14_11 t15_11 t16_11 t17_11 (decide (v88 < 1)) k nx5 h_11)))
def law26_RaftTakes_g10 (t0_10 : Int) (t1_10 : Int) (t4_10 : Slc) (t5_10 : Slc) (t13_10 : Option Addr) (t14_10 : Int) (t15_10 : Int) (t16_10 : Int) (t17_10 : Slc) (t110_10 : Bool) (k : (Bool) → Heap → Prop) (nx5 : (Int) → Heap → Prop) (h_10 : Heap) : Prop :=
 if t110_10 then (law26_RaftTakes_g11 t0_10 t1_10 t4_10 t5_10 t13_10 t14_10 t15_10 t16_10 t17_10 true k nx5 h_10) else (∃ a89 : Addr, t4_10.a = some a89 ∧ (0 : Int) ≤ t14_10 ∧ t14_10 < (t4_10.len : Int) ∧ (∃ v90 : Int, cellH h_10 (a89.add (t14_10.toNat * 1)) = some (.int .i64 v90) ∧ (law26_RaftTakes_g11 t0_10 t1_10 t4_10 t5_10 t13_10 t14_10 t15_10 t16_10 t17_10 (v90 == t0_10) k nx5 h_10)))
def law26_RaftTakes_l5b (t0_5 : Int) (t1_5 : Int) (t4_5 : Slc) (t5_5 : Slc) (t13_5 : Option Addr) (t14_5 : Int) (k : (Bool) → Heap → Prop) (nx5 : (Int) → Heap → Prop) (h_5 : Heap) : Prop :=
 if (((decide (t14_5 < (t5_5.len : Int))) && (decide (t14_5 < (t4_5.len : Int)))) && (decide (t14_5 < 40))) then (∃ a11 : Addr, t5_5.a = some a11 ∧ (0 : Int) ≤ t14_5 ∧ t14_5 < (t5_5.len : Int) ∧ (∃ v12 : S_api_Msg, CellsAt h_5 (a11.add (t14_5.toNat * 8)) (S_api_Msg.cs v12) ∧ (ref26_Great v12 (fun (r13 : Bool) h14 => if r13 then (law26_awake  (fun (r15 : Bool) h16 => k r15 h16) h14) else (raft_Raft_Term t13_5 (fun (r17 : Int) h18 => raft_Raft_Committed t13_5 (fun (r19 : Int) h20 => ∃ a21 : Addr, t4_5.a = some a21 ∧ (0 : Int) ≤ t14_5 ∧ t14_5 < (t4_5.len : Int) ∧ (∃ v22 : Int, cellH h20 (a21.add (t14_5.toNat * 1)) = some (.int .i64 v22) ∧ (∃ a23 : Addr, t5_5.a = some a23 ∧ (0 : Int) ≤ t14_5 ∧ t14_5 < (t5_5.len : Int) ∧ (∃ v24 : S_api_Msg, CellsAt h20 (a23.add (t14_5.toNat * 8)) (S_api_Msg.cs v24) ∧ (raft_Raft_Take t13_5 v22 v24 (fun (r25 : Slc) h26 => ∃ a79 : Addr, t4_5.a = some a79 ∧ (0 : Int) ≤ t14_5 ∧ t14_5 < (t4_5.len : Int) ∧ (∃ v80 : Int, cellH h26 (a79.add (t14_5.toNat * 1)) = some (.int .i64 v80) ∧ (if (decide (v80 < 0)) then (law26_RaftTakes_g10 t0_5 t1_5 t4_5 t5_5 t13_5 t14_5 r17 r19 r25 true k nx5 h26) else (∃ a91 : Addr, t4_5.a = some a91 ∧ (0 : Int) ≤ t14_5 ∧ t14_5 < (t4_5.len : Int) ∧ (∃ v92 : Int, cellH h26 (a91.add (t14_5.toNat * 1)) = some (.int .i64 v92) ∧ (law26_RaftTakes_g10 t0_5 t1_5 t4_5 t5_5 t13_5 t14_5 r17 r19 r25 (decide (v92 ≥ t1_5)) k nx5 h26)))))) h20))))) h18) h14)) h_5))) else (law26_awake  (fun (r93 : Bool) h94 => k r93 h94) h_5)
def law26_RaftTakes_l5 (t0_5 : Int) (t1_5 : Int) (t4_5 : Slc) (t5_5 : Slc) (t13_5 : Option Addr) (i14 : Int) (k : (Bool) → Heap → Prop) (h : Heap) : Prop :=
 ∃ (I : Int → Heap → Prop) (μ : Int → Heap → Nat), I i14 h ∧ ∀ (t14_5 : Int) (h : Heap), I t14_5 h → law26_RaftTakes_l5b t0_5 t1_5 t4_5 t5_5 t13_5 t14_5 k (fun s h' => I s h' ∧ μ s h' < μ t14_5 h) h
def law26_RaftTakes (p0 : Int) (p1 : Int) (p2 : Int) (p3 : Int) (p4 : Slc) (p5 : Slc) (k : (Bool) → Heap → Prop) (h : Heap) : Prop :=
 raft_New p0 p1 p2 p3 none (⟨none, 0, 0⟩ : Slc) (fun (r1 : Option Addr) h2 => if ((((decide (p1 < 1)) || (decide (p1 > 32))) || (decide (p0 < 0))) || (decide (p0 ≥ p1))) then (if (r1.isNone) then (raft_Raft_Tick r1 (fun (r9 : Slc) h10 => law26_RaftTakes_g1 r1 ((r9.len : Int) == 0) k h10) h2) else (law26_RaftTakes_g1 r1 false k h2)) else (law26_RaftTakes_l5 p0 p1 p4 p5 r1 0 k h2)) h

theorem law26_RaftTakes_ref (p0 : Int) (p1 : Int) (p2 : Int) (p3 : Int) (p4 : Slc) (p5 : Slc) (k : (Bool) → Heap → Prop) (h : Heap) (H : law26_RaftTakes p0 p1 p2 p3 p4 p5 k h) : CallsH Go.Proofs.Try.prog 4 #[.int .i64 p0, .int .i64 p1, .int .u64 p2, .int .i64 p3, Slc.v p4, Slc.v p5] h (fun v h' => ∃ r : Bool, v = .bool r ∧ k r h') := by
 refine f_enter (N := 218) Go.Proofs.Try.func4 rfl rfl rfl (fun w0 => ?_)
 unfold law26_RaftTakes at H
 refine c_weak [(0, .int .i64 p0), (1, .int .i64 p1), (2, .int .u64 p2), (3, .int .i64 p3), (4, Slc.v p4), (5, Slc.v p5)] ⟨rfl, rfl, rfl, rfl, rfl, rfl, trivial⟩ ?_
 refine c_seq (c_region ?_)
 refine wP tok ?_
 refine w_end (x_seq ?_)
 refine c_seq (c_region ?_)
 iterate 4 refine wP tok ?_
 refine w_call raft_New_ok (raft_New_ref _ _ _ _ _ _ _ _ H) rfl rfl rfl rfl ?_
 rintro _ h2 ⟨r1, rfl, H⟩
 refine wP tok ?_
 refine w_end (x_seq ?_)
 refine c_weak [(0, .int .i64 p0), (1, .int .i64 p1), (4, Slc.v p4), (5, Slc.v p5), (13, .pointer r1)] ⟨rfl, rfl, rfl, rfl, rfl, trivial⟩ ?_
 refine c_seq (c_seq (c_region ?_))
 iterate 3 refine wP tok ?_
 refine w_cutU 3 [(29, .bool ((decide (p1 < 1)) || (decide (p1 > 32)))), (0, .int .i64 p0), (1, .int .i64 p1), (4, Slc.v p4), (5, Slc.v p5), (13, .pointer r1)] ?_ ?_
 ·
  refine wP tok ?_
  refine w_cutU 3 [(33, .bool (((decide (p1 < 1)) || (decide (p1 > 32))) || (decide (p0 < 0)))), (0, .int .i64 p0), (1, .int .i64 p1), (4, Slc.v p4), (5, Slc.v p5), (13, .pointer r1)] ?_ ?_
  ·
   refine wP tok ?_
   refine w_cutU 4 [(38, .bool ((((decide (p1 < 1)) || (decide (p1 > 32))) || (decide (p0 < 0))) || (decide (p0 ≥ p1)))), (0, .int .i64 p0), (1, .int .i64 p1), (4, Slc.v p4), (5, Slc.v p5), (13, .pointer r1)] ?_ ?_
   ·
    refine w_end (x_seq ?_)
    refine c_if H rfl (fun H => ?_) (fun H => ?_)
    ·
     refine c_seq (c_region ?_)
     iterate 3 refine wP tok ?_
     refine w_cut 5 (α := Bool) (fun (s : Bool) => [(46, .bool s), (13, .pointer r1)]) (fun (s : Bool) h => law26_RaftTakes_g1 r1 s k h) ?_ ?_
     ·
      rintro t46_1 h_1 H
      replace H : law26_RaftTakes_g1 r1 t46_1 k h_1 := H
      unfold law26_RaftTakes_g1 at H
      refine w_weak [(46, .bool t46_1), (13, .pointer r1)] ⟨rfl, rfl, trivial⟩ ?_
      refine wP tok ?_
      refine w_cut 6 (α := Bool) (fun (s : Bool) => [(53, .bool s), (13, .pointer r1)]) (fun (s : Bool) h => law26_RaftTakes_g2 r1 s k h) ?_ ?_
      ·
       rintro t53_2 h_2 H
       replace H : law26_RaftTakes_g2 r1 t53_2 k h_2 := H
       unfold law26_RaftTakes_g2 at H
       refine w_weak [(53, .bool t53_2), (13, .pointer r1)] ⟨rfl, rfl, trivial⟩ ?_
       refine wP tok ?_
       refine w_cut 4 (α := Bool) (fun (s : Bool) => [(58, .bool s)]) (fun (s : Bool) h => law26_RaftTakes_g3 s k h) ?_ ?_
       ·
        rintro t58_3 h_3 H
        replace H : law26_RaftTakes_g3 t58_3 k h_3 := H
        unfold law26_RaftTakes_g3 at H
        refine w_weak [(58, .bool t58_3)] ⟨rfl, trivial⟩ ?_
        refine wP tok ?_
        refine w_cut 2 (α := Bool) (fun (s : Bool) => [(61, .bool s)]) (fun (s : Bool) h => law26_RaftTakes_g4 s k h) ?_ ?_
        ·
         rintro t61_4 h_4 H
         replace H : law26_RaftTakes_g4 t61_4 k h_4 := H
         unfold law26_RaftTakes_g4 at H
         refine w_weak [(61, .bool t61_4)] ⟨rfl, trivial⟩ ?_
         refine wP tok ?_
         refine w_end (x_seq ?_)
         refine c_ret (x_tr ?_)
         exact x_ret _ rfl _ rfl ⟨t61_4, rfl, H⟩
        ·
         refine w_gif (d := 59) H rfl (fun H => ?_) (fun H => ?_)
         ·
          refine w_call law26_awake_ok (law26_awake_ref  _ _ H) rfl rfl rfl rfl ?_
          rintro _ h4 ⟨r3, rfl, H⟩
          refine wP tok ?_
          exact w_jn r3 H ⟨rfl, trivial⟩
         ·
          refine w_skip rfl rfl ?_
          refine wP tok ?_
          exact w_jn false H ⟨rfl, trivial⟩
       ·
        refine w_gif (d := 54) H rfl (fun H => ?_) (fun H => ?_)
        ·
         refine wP tok ?_
         refine w_call raft_Raft_Leader_ok (raft_Raft_Leader_ref _ _ _ H) rfl rfl rfl rfl ?_
         rintro _ h6 ⟨r5, rfl, H⟩
         iterate 2 refine wP tok ?_
         exact w_jn (r5 == (-1)) H ⟨rfl, trivial⟩
        ·
         iterate 3 refine w_skip rfl rfl ?_
         refine wP tok ?_
         exact w_jn false H ⟨rfl, trivial⟩
      ·
       refine w_gif (d := 47) H rfl (fun H => ?_) (fun H => ?_)
       ·
        refine wP tok ?_
        refine w_y (y_build tok rfl rfl rfl rfl rfl) rfl rfl ?_
        refine w_call raft_Raft_Take_ok (raft_Raft_Take_ref _ _ _ _ _ H) rfl rfl rfl rfl ?_
        rintro _ h8 ⟨r7, rfl, H⟩
        iterate 3 refine wP tok ?_
        exact w_jn ((r7.len : Int) == 0) H ⟨rfl, rfl, trivial⟩
       ·
        iterate 5 refine w_skip rfl rfl ?_
        refine wP tok ?_
        exact w_jn false H ⟨rfl, rfl, trivial⟩
     ·
      refine w_gif (d := 41) H rfl (fun H => ?_) (fun H => ?_)
      ·
       refine wP tok ?_
       refine w_call raft_Raft_Tick_ok (raft_Raft_Tick_ref _ _ _ H) rfl rfl rfl rfl ?_
       rintro _ h10 ⟨r9, rfl, H⟩
       iterate 3 refine wP tok ?_
       exact w_jn ((r9.len : Int) == 0) H ⟨rfl, rfl, trivial⟩
      ·
       iterate 4 refine w_skip rfl rfl ?_
       refine wP tok ?_
       exact w_jn false H ⟨rfl, rfl, trivial⟩
    ·
     refine c_skip (x_seq ?_)
     refine c_seq (c_seq (c_region ?_))
     refine wP tok ?_
     refine w_end (x_seq (c_block ?_))
     obtain ⟨I5, μ5, H0, HI⟩ := H
     refine c_loop (σ := Int) (fun (s : Int) => [(14, .int .i64 s), (0, .int .i64 p0), (1, .int .i64 p1), (4, Slc.v p4), (5, Slc.v p5), (13, .pointer r1)]) I5 μ5 0 H0 ⟨rfl, rfl, rfl, rfl, rfl, rfl, trivial⟩ ?_
     rintro t14_5 h_5 H
     replace H := HI t14_5 h_5 H
     unfold law26_RaftTakes_l5b at H
     refine c_weak [(14, .int .i64 t14_5), (0, .int .i64 p0), (1, .int .i64 p1), (4, Slc.v p4), (5, Slc.v p5), (13, .pointer r1)] ⟨rfl, rfl, rfl, rfl, rfl, rfl, trivial⟩ ?_
     refine c_seq (c_seq (c_region ?_))
     iterate 5 refine wP tok ?_
     refine w_cutU 5 [(71, .bool ((decide (t14_5 < (p5.len : Int))) && (decide (t14_5 < (p4.len : Int))))), (0, .int .i64 p0), (1, .int .i64 p1), (4, Slc.v p4), (5, Slc.v p5), (13, .pointer r1), (14, .int .i64 t14_5)] ?_ ?_
     ·
      refine wP tok ?_
      refine w_cutU 3 [(75, .bool (((decide (t14_5 < (p5.len : Int))) && (decide (t14_5 < (p4.len : Int)))) && (decide (t14_5 < 40)))), (0, .int .i64 p0), (1, .int .i64 p1), (4, Slc.v p4), (5, Slc.v p5), (13, .pointer r1), (14, .int .i64 t14_5)] ?_ ?_
      ·
       refine w_end (x_seq ?_)
       refine c_if H rfl (fun H => ?_) (fun H => ?_)
       ·
        refine c_skip (x_seq ?_)
        refine c_seq (c_block ?_)
        refine c_seq (c_seq (c_region ?_))
        iterate 2 refine wP tok ?_
        obtain ⟨a11, ha11, la11, ua11, H⟩ := H
        refine w_y (y_ixa' tok rfl rfl ha11 rfl rfl rfl la11 ua11) rfl rfl ?_
        obtain ⟨v12, hv12, H⟩ := H
        refine w_y (y_lda tok rfl rfl rfl rfl rfl hv12) rfl rfl ?_
        refine w_call ref26_Great_ok (ref26_Great_ref _ _ _ H) rfl rfl rfl rfl ?_
        rintro _ h14 ⟨r13, rfl, H⟩
        refine w_end (x_seq ?_)
        refine c_if H rfl (fun H => ?_) (fun H => ?_)
        ·
         refine c_seq (c_region ?_)
         refine w_call law26_awake_ok (law26_awake_ref  _ _ H) rfl rfl rfl rfl ?_
         rintro _ h16 ⟨r15, rfl, H⟩
         refine wP tok ?_
         refine w_end (x_seq ?_)
         refine c_weak [(12, .bool r15)] ⟨rfl, trivial⟩ ?_
         refine c_ret (x_tr ?_)
         refine x_br ?_
         refine x_tr (x_tr ?_)
         refine x_br ?_
         refine x_tr ?_
         exact x_ret _ rfl _ rfl ⟨r15, rfl, H⟩
        ·
         refine c_skip (x_seq ?_)
         refine c_seq (c_region ?_)
         refine wP tok ?_
         refine w_call raft_Raft_Term_ok (raft_Raft_Term_ref _ _ _ H) rfl rfl rfl rfl ?_
         rintro _ h18 ⟨r17, rfl, H⟩
         refine wP tok ?_
         refine w_call raft_Raft_Committed_ok (raft_Raft_Committed_ref _ _ _ H) rfl rfl rfl rfl ?_
         rintro _ h20 ⟨r19, rfl, H⟩
         iterate 2 refine wP tok ?_
         refine w_end (x_seq ?_)
         refine c_weak [(0, .int .i64 p0), (1, .int .i64 p1), (4, Slc.v p4), (5, Slc.v p5), (13, .pointer r1), (14, .int .i64 t14_5), (15, .int .u64 r17), (16, .int .u64 r19)] ⟨rfl, rfl, rfl, rfl, rfl, rfl, rfl, rfl, trivial⟩ ?_
         refine c_seq ?_
         refine c_sim [(0, .int .i64 p0), (1, .int .i64 p1), (4, Slc.v p4), (5, Slc.v p5), (13, .pointer r1), (14, .int .i64 t14_5), (15, .int .u64 r17), (16, .int .u64 r19)] (by kernel_rfl) (by kernel_rfl) ⟨rfl, rfl, rfl, rfl, rfl, rfl, rfl, rfl, trivial⟩ (fun wf => ?_)
         refine sQ 0 [(13, .pointer r1)] (some 88) tok wf ⟨rfl, trivial⟩ (fun P_0 => ?_)
         refine sQ 1 [(4, Slc.v p4)] (some 89) tok wf ⟨rfl, trivial⟩ (fun P_1 => ?_)
         refine sQ 2 [(14, .int .i64 t14_5)] (some 90) tok wf ⟨rfl, trivial⟩ (fun P_2 => ?_)
         obtain ⟨a21, ha21, la21, ua21, H⟩ := H
         refine sP 3 [(89, Slc.v p4), (90, .int .i64 t14_5)] (some 91) wf ⟨rfl, rfl, trivial⟩ (fun _ => pf_y rfl rfl rfl (y_ixa' tok rfl rfl ha21 rfl rfl rfl la21 ua21)) (fun P_3 => ?_)
         obtain ⟨v22, hv22, H⟩ := H
         refine sL 4 [(91, .pointer (some (a21.add (t14_5.toNat * 1))))] (some 92) wf ⟨rfl, trivial⟩ (pf_y rfl rfl rfl (y_ld tok rfl rfl rfl rfl hv22)) (fun P_4 => ?_)
         refine sQ 5 [(5, Slc.v p5)] (some 93) tok wf ⟨rfl, trivial⟩ (fun P_5 => ?_)
         refine sQ 6 [(14, .int .i64 t14_5)] (some 94) tok wf ⟨rfl, trivial⟩ (fun P_6 => ?_)
         obtain ⟨a23, ha23, la23, ua23, H⟩ := H
         refine sP 7 [(93, Slc.v p5), (94, .int .i64 t14_5)] (some 95) wf ⟨rfl, rfl, trivial⟩ (fun _ => pf_y rfl rfl rfl (y_ixa' tok rfl rfl ha23 rfl rfl rfl la23 ua23)) (fun P_7 => ?_)
         obtain ⟨v24, hv24, H⟩ := H
         refine sL 8 [(95, .pointer (some (a23.add (t14_5.toNat * 8))))] (some 96) wf ⟨rfl, trivial⟩ (pf_y rfl rfl rfl (y_lda tok rfl rfl rfl rfl rfl hv24)) (fun P_8 => ?_)
         refine sim_c 9 [0, 1, 2, 3, 4, 5, 6, 7, 8] [0, 1, 2, 3, 4, 5, 6, 7, 8] (ei := [(88, .pointer r1), (92, .int .i64 v22), (96, .agg (S_api_Msg.cs v24).toArray)]) raft_Raft_Take_ok (raft_Raft_Take_ref _ _ _ _ _ H) wf ⟨P_8, P_7 _, P_6 _, P_5 _, P_4, P_3 _, P_2 _, P_1 _, P_0 _, trivial⟩ (by kernel_rfl) ⟨rfl, rfl, rfl, trivial⟩ (by kernel_rfl) rfl rfl rfl rfl rfl ?_
         rintro _ h26 ⟨r25, rfl, H⟩
         refine sQ 10 [(97, Slc.v r25)] (some 17) tok wf ⟨rfl, trivial⟩ (fun P_10 => ?_)
         refine sim_end wf ⟨P_10 _, trivial, trivial, trivial, trivial, trivial, trivial, trivial, trivial, trivial, trivial⟩ (by kernel_rfl) ?_
         clear wf P_0 P_1 P_10 P_2 P_3 P_4 P_5 P_6 P_7 P_8
         refine x_seq ?_
         refine c_weak [(0, .int .i64 p0), (1, .int .i64 p1), (4, Slc.v p4), (5, Slc.v p5), (13, .pointer r1), (14, .int .i64 t14_5), (15, .int .u64 r17), (16, .int .u64 r19), (17, Slc.v r25)] ⟨rfl, rfl, rfl, rfl, rfl, rfl, rfl, rfl, rfl, trivial⟩ ?_
         refine c_seqJ (α := Unit) (fun (s : Unit) => [(0, .int .i64 p0), (1, .int .i64 p1), (4, Slc.v p4), (5, Slc.v p5), (13, .pointer r1), (14, .int .i64 t14_5), (15, .int .u64 r17), (16, .int .u64 r19), (17, Slc.v r25)]) (fun (s : Unit) h => law26_RaftTakes_j6 p0 p1 p4 p5 r1 t14_5 r17 r19 r25 k (fun s h' => I5 s h' ∧ μ5 s h' < μ5 t14_5 h_5) h) ?_ ?_
         ·
          rintro _ h_6 H
          replace H : law26_RaftTakes_j6 p0 p1 p4 p5 r1 t14_5 r17 r19 r25 k (fun s h' => I5 s h' ∧ μ5 s h' < μ5 t14_5 h_5) h_6 := H
          unfold law26_RaftTakes_j6 at H
          refine c_weak [(0, .int .i64 p0), (1, .int .i64 p1), (4, Slc.v p4), (5, Slc.v p5), (13, .pointer r1), (14, .int .i64 t14_5), (15, .int .u64 r17), (16, .int .u64 r19), (17, Slc.v r25)] ⟨rfl, rfl, rfl, rfl, rfl, rfl, rfl, rfl, rfl, trivial⟩ ?_
          refine c_seq (c_seq (c_region ?_))
          refine wP tok ?_
          refine w_end (x_seq (c_block ?_))
          obtain ⟨I7, μ7, H0, HI⟩ := H
          refine c_loop (σ := Int) (fun (s : Int) => [(18, .int .i64 s), (0, .int .i64 p0), (1, .int .i64 p1), (4, Slc.v p4), (5, Slc.v p5), (13, .pointer r1), (14, .int .i64 t14_5), (15, .int .u64 r17), (16, .int .u64 r19), (17, Slc.v r25)]) I7 μ7 0 H0 ⟨rfl, rfl, rfl, rfl, rfl, rfl, rfl, rfl, rfl, rfl, trivial⟩ ?_
          rintro t18_7 h_7 H
          replace H := HI t18_7 h_7 H
          unfold law26_RaftTakes_l7b at H
          refine c_weak [(18, .int .i64 t18_7), (0, .int .i64 p0), (1, .int .i64 p1), (4, Slc.v p4), (5, Slc.v p5), (13, .pointer r1), (14, .int .i64 t14_5), (15, .int .u64 r17), (16, .int .u64 r19), (17, Slc.v r25)] ⟨rfl, rfl, rfl, rfl, rfl, rfl, rfl, rfl, rfl, rfl, trivial⟩ ?_
          refine c_seq (c_seq (c_region ?_))
          iterate 4 refine wP tok ?_
          refine w_end (x_seq ?_)
          refine c_if H rfl (fun H => ?_) (fun H => ?_)
          ·
           refine c_skip (x_seq ?_)
           refine c_seq (c_block ?_)
           refine c_seqJ (α := Bool) (fun (s : Bool) => [(204, .bool s), (0, .int .i64 p0), (1, .int .i64 p1), (4, Slc.v p4), (5, Slc.v p5), (13, .pointer r1), (14, .int .i64 t14_5), (15, .int .u64 r17), (16, .int .u64 r19), (17, Slc.v r25), (18, .int .i64 t18_7)]) (fun (s : Bool) h => law26_RaftTakes_j8 p0 p1 p4 p5 r1 t14_5 r17 r19 r25 t18_7 s k (fun s h' => I5 s h' ∧ μ5 s h' < μ5 t14_5 h_5) (fun s h' => I7 s h' ∧ μ7 s h' < μ7 t18_7 h_7) h) ?_ ?_
           ·
            rintro t204_8 h_8 H
            replace H : law26_RaftTakes_j8 p0 p1 p4 p5 r1 t14_5 r17 r19 r25 t18_7 t204_8 k (fun s h' => I5 s h' ∧ μ5 s h' < μ5 t14_5 h_5) (fun s h' => I7 s h' ∧ μ7 s h' < μ7 t18_7 h_7) h_8 := H
            unfold law26_RaftTakes_j8 at H
            refine c_weak [(204, .bool t204_8), (0, .int .i64 p0), (1, .int .i64 p1), (4, Slc.v p4), (5, Slc.v p5), (13, .pointer r1), (14, .int .i64 t14_5), (15, .int .u64 r17), (16, .int .u64 r19), (17, Slc.v r25), (18, .int .i64 t18_7)] ⟨rfl, rfl, rfl, rfl, rfl, rfl, rfl, rfl, rfl, rfl, rfl, trivial⟩ ?_
            refine c_if H rfl (fun H => ?_) (fun H => ?_)
            ·
             refine c_seq (c_region ?_)
             refine wP tok ?_
             refine w_end (x_seq ?_)
             refine c_weak [(12, .bool false)] ⟨rfl, trivial⟩ ?_
             refine c_ret ?_
             refine x_br ?_
             refine x_tr (x_tr ?_)
             refine x_br ?_
             refine x_tr ?_
             refine x_br ?_
             refine x_tr (x_tr ?_)
             refine x_br ?_
             refine x_tr ?_
             exact x_ret _ rfl _ rfl ⟨false, rfl, H⟩
            ·
             refine c_skip ?_
             refine x_blk ?_
             refine x_seq (c_region ?_)
             iterate 2 refine wP tok ?_
             obtain ⟨x27, ex27, H⟩ := H
             refine w_pe tok rfl (congrArg (fun z => (.int .i64 z : Value)) ex27) rfl rfl ?_
             refine w_end ?_
             exact x_join x27 H ⟨rfl, rfl, rfl, rfl, rfl, rfl, rfl, rfl, rfl, rfl, trivial⟩
           ·
            refine c_sim [(0, .int .i64 p0), (1, .int .i64 p1), (4, Slc.v p4), (5, Slc.v p5), (13, .pointer r1), (14, .int .i64 t14_5), (15, .int .u64 r17), (16, .int .u64 r19), (17, Slc.v r25), (18, .int .i64 t18_7)] (by kernel_rfl) (by kernel_rfl) ⟨rfl, rfl, rfl, rfl, rfl, rfl, rfl, rfl, rfl, rfl, trivial⟩ (fun wf => ?_)
            refine sQ 0 [(17, Slc.v r25)] (some 156) tok wf ⟨rfl, trivial⟩ (fun P_0 => ?_)
            refine sQ 1 [(18, .int .i64 t18_7)] (some 157) tok wf ⟨rfl, trivial⟩ (fun P_1 => ?_)
            obtain ⟨a28, ha28, la28, ua28, H⟩ := H
            refine sP 2 [(156, Slc.v r25), (157, .int .i64 t18_7)] (some 158) wf ⟨rfl, rfl, trivial⟩ (fun _ => pf_y rfl rfl rfl (y_ixa' tok rfl rfl ha28 rfl rfl rfl la28 ua28)) (fun P_2 => ?_)
            refine sQ 3 [(158, .pointer (some (a28.add (t18_7.toNat * 9))))] (some 159) tok wf ⟨rfl, trivial⟩ (fun P_3 => ?_)
            obtain ⟨v29, hv29, H⟩ := H
            refine sL 4 [(159, .pointer (some (a28.add (t18_7.toNat * 9))))] (some 160) wf ⟨rfl, trivial⟩ (pf_y rfl rfl rfl (y_ld tok rfl rfl rfl rfl hv29)) (fun P_4 => ?_)
            refine sQ 5 [(160, .int .i64 v29)] (some 161) tok wf ⟨rfl, trivial⟩ (fun P_5 => ?_)
            refine sQ 6 [(161, .bool (decide (v29 < 0)))] (some 162) tok wf ⟨rfl, trivial⟩ (fun P_6 => ?_)
            refine sim_gif 162 H rfl (fun hb H => ?_) (fun hb H => ?_)
            ·
             refine sim_p 7 (v := undef) (ei := [(17, Slc.v r25), (162, .bool true)]) (d := (some 163)) wf (by kernel_rfl) ⟨rfl, rfl, trivial⟩ (by kernel_rfl) (by kernel_rfl) (fun _ => pf_s rfl rfl rfl) (fun P_7 => ?_)
             refine sim_p 8 (v := undef) (ei := [(18, .int .i64 t18_7), (162, .bool true)]) (d := (some 164)) wf (by kernel_rfl) ⟨rfl, rfl, trivial⟩ (by kernel_rfl) (by kernel_rfl) (fun _ => pf_s rfl rfl rfl) (fun P_8 => ?_)
             refine sim_p 9 (v := undef) (ei := [(162, .bool true), (163, undef), (164, undef)]) (d := (some 165)) wf (by kernel_rfl) ⟨rfl, rfl, rfl, trivial⟩ (by kernel_rfl) (by kernel_rfl) (fun _ => pf_s rfl rfl rfl) (fun P_9 => ?_)
             refine sim_p 10 (v := undef) (ei := [(162, .bool true), (165, undef)]) (d := (some 166)) wf (by kernel_rfl) ⟨rfl, rfl, trivial⟩ (by kernel_rfl) (by kernel_rfl) (fun _ => pf_s rfl rfl rfl) (fun P_10 => ?_)
             refine sim_p 11 (v := undef) (ei := [(162, .bool true), (166, undef)]) (d := (some 167)) wf (by kernel_rfl) ⟨rfl, rfl, trivial⟩ (by kernel_rfl) (by kernel_rfl) (fun _ => pf_s rfl rfl rfl) (fun P_11 => ?_)
             refine sim_p 12 (v := undef) (ei := [(1, .int .i64 p1), (162, .bool true)]) (d := (some 168)) wf (by kernel_rfl) ⟨rfl, rfl, trivial⟩ (by kernel_rfl) (by kernel_rfl) (fun _ => pf_s rfl rfl rfl) (fun P_12 => ?_)
             refine sim_p 13 (v := undef) (ei := [(162, .bool true), (167, undef), (168, undef)]) (d := (some 169)) wf (by kernel_rfl) ⟨rfl, rfl, rfl, trivial⟩ (by kernel_rfl) (by kernel_rfl) (fun _ => pf_s rfl rfl rfl) (fun P_13 => ?_)
             refine sQ 14 [(162, .bool true), (169, undef)] (some 170) tok wf ⟨rfl, rfl, trivial⟩ (fun P_14 => ?_)
             refine sQ 15 [(170, .bool true)] (some 171) tok wf ⟨rfl, trivial⟩ (fun P_15 => ?_)
             refine sim_gif 171 H rfl (fun hb H => ?_) (fun hb H => ?_)
             ·
              refine sim_p 16 (v := undef) (ei := [(17, Slc.v r25), (171, .bool true)]) (d := (some 172)) wf (by kernel_rfl) ⟨rfl, rfl, trivial⟩ (by kernel_rfl) (by kernel_rfl) (fun _ => pf_s rfl rfl rfl) (fun P_16 => ?_)
              refine sim_p 17 (v := undef) (ei := [(18, .int .i64 t18_7), (171, .bool true)]) (d := (some 173)) wf (by kernel_rfl) ⟨rfl, rfl, trivial⟩ (by kernel_rfl) (by kernel_rfl) (fun _ => pf_s rfl rfl rfl) (fun P_17 => ?_)
              refine sim_p 18 (v := undef) (ei := [(171, .bool true), (172, undef), (173, undef)]) (d := (some 174)) wf (by kernel_rfl) ⟨rfl, rfl, rfl, trivial⟩ (by kernel_rfl) (by kernel_rfl) (fun _ => pf_s rfl rfl rfl) (fun P_18 => ?_)
              refine sim_p 19 (v := undef) (ei := [(171, .bool true), (174, undef)]) (d := (some 175)) wf (by kernel_rfl) ⟨rfl, rfl, trivial⟩ (by kernel_rfl) (by kernel_rfl) (fun _ => pf_s rfl rfl rfl) (fun P_19 => ?_)
              refine sim_p 20 (v := undef) (ei := [(171, .bool true), (175, undef)]) (d := (some 176)) wf (by kernel_rfl) ⟨rfl, rfl, trivial⟩ (by kernel_rfl) (by kernel_rfl) (fun _ => pf_s rfl rfl rfl) (fun P_20 => ?_)
              refine sim_p 21 (v := undef) (ei := [(0, .int .i64 p0), (171, .bool true)]) (d := (some 177)) wf (by kernel_rfl) ⟨rfl, rfl, trivial⟩ (by kernel_rfl) (by kernel_rfl) (fun _ => pf_s rfl rfl rfl) (fun P_21 => ?_)
              refine sim_p 22 (v := undef) (ei := [(171, .bool true), (176, undef), (177, undef)]) (d := (some 178)) wf (by kernel_rfl) ⟨rfl, rfl, rfl, trivial⟩ (by kernel_rfl) (by kernel_rfl) (fun _ => pf_s rfl rfl rfl) (fun P_22 => ?_)
              refine sQ 23 [(171, .bool true), (178, undef)] (some 179) tok wf ⟨rfl, rfl, trivial⟩ (fun P_23 => ?_)
              refine sQ 24 [(179, .bool true)] (some 180) tok wf ⟨rfl, trivial⟩ (fun P_24 => ?_)
              refine sim_gif 180 H rfl (fun hb H => ?_) (fun hb H => ?_)
              ·
               refine sim_p 25 (v := undef) (ei := [(17, Slc.v r25), (180, .bool true)]) (d := (some 181)) wf (by kernel_rfl) ⟨rfl, rfl, trivial⟩ (by kernel_rfl) (by kernel_rfl) (fun _ => pf_s rfl rfl rfl) (fun P_25 => ?_)
               refine sim_p 26 (v := undef) (ei := [(18, .int .i64 t18_7), (180, .bool true)]) (d := (some 182)) wf (by kernel_rfl) ⟨rfl, rfl, trivial⟩ (by kernel_rfl) (by kernel_rfl) (fun _ => pf_s rfl rfl rfl) (fun P_26 => ?_)
               refine sim_p 27 (v := undef) (ei := [(180, .bool true), (181, undef), (182, undef)]) (d := (some 183)) wf (by kernel_rfl) ⟨rfl, rfl, rfl, trivial⟩ (by kernel_rfl) (by kernel_rfl) (fun _ => pf_s rfl rfl rfl) (fun P_27 => ?_)
               refine sim_p 28 (v := undef) (ei := [(180, .bool true), (183, undef)]) (d := (some 184)) wf (by kernel_rfl) ⟨rfl, rfl, trivial⟩ (by kernel_rfl) (by kernel_rfl) (fun _ => pf_s rfl rfl rfl) (fun P_28 => ?_)
               refine sim_p 29 (v := undef) (ei := [(180, .bool true), (184, undef)]) (d := (some 185)) wf (by kernel_rfl) ⟨rfl, rfl, trivial⟩ (by kernel_rfl) (by kernel_rfl) (fun _ => pf_s rfl rfl rfl) (fun P_29 => ?_)
               refine sim_p 30 (v := undef) (ei := [(180, .bool true), (185, undef)]) (d := (some 186)) wf (by kernel_rfl) ⟨rfl, rfl, trivial⟩ (by kernel_rfl) (by kernel_rfl) (fun _ => pf_s rfl rfl rfl) (fun P_30 => ?_)
               refine sim_p 31 (v := undef) (ei := [(5, Slc.v p5), (180, .bool true)]) (d := (some 187)) wf (by kernel_rfl) ⟨rfl, rfl, trivial⟩ (by kernel_rfl) (by kernel_rfl) (fun _ => pf_s rfl rfl rfl) (fun P_31 => ?_)
               refine sim_p 32 (v := undef) (ei := [(14, .int .i64 t14_5), (180, .bool true)]) (d := (some 188)) wf (by kernel_rfl) ⟨rfl, rfl, trivial⟩ (by kernel_rfl) (by kernel_rfl) (fun _ => pf_s rfl rfl rfl) (fun P_32 => ?_)
               refine sim_p 33 (v := undef) (ei := [(180, .bool true), (187, undef), (188, undef)]) (d := (some 189)) wf (by kernel_rfl) ⟨rfl, rfl, rfl, trivial⟩ (by kernel_rfl) (by kernel_rfl) (fun _ => pf_s rfl rfl rfl) (fun P_33 => ?_)
               refine sim_p 34 (v := undef) (ei := [(180, .bool true), (189, undef)]) (d := (some 190)) wf (by kernel_rfl) ⟨rfl, rfl, trivial⟩ (by kernel_rfl) (by kernel_rfl) (fun _ => pf_s rfl rfl rfl) (fun P_34 => ?_)
               refine sim_p 35 (v := undef) (ei := [(180, .bool true), (190, undef)]) (d := (some 191)) wf (by kernel_rfl) ⟨rfl, rfl, trivial⟩ (by kernel_rfl) (by kernel_rfl) (fun _ => pf_s rfl rfl rfl) (fun P_35 => ?_)
               refine sim_p 36 (v := undef) (ei := [(180, .bool true), (186, undef), (191, undef)]) (d := (some 192)) wf (by kernel_rfl) ⟨rfl, rfl, rfl, trivial⟩ (by kernel_rfl) (by kernel_rfl) (fun _ => pf_s rfl rfl rfl) (fun P_36 => ?_)
               refine sim_p 37 (v := undef) (ei := [(180, .bool true), (192, undef)]) (d := (some 193)) wf (by kernel_rfl) ⟨rfl, rfl, trivial⟩ (by kernel_rfl) (by kernel_rfl) (fun _ => pf_s rfl rfl rfl) (fun P_37 => ?_)
               refine sim_p 38 (v := undef) (ei := [(17, Slc.v r25), (193, undef)]) (d := (some 194)) wf (by kernel_rfl) ⟨rfl, rfl, trivial⟩ (by kernel_rfl) (by kernel_rfl) (fun _ => pf_s rfl rfl rfl) (fun P_38 => ?_)
               refine sim_p 39 (v := undef) (ei := [(18, .int .i64 t18_7), (193, undef)]) (d := (some 195)) wf (by kernel_rfl) ⟨rfl, rfl, trivial⟩ (by kernel_rfl) (by kernel_rfl) (fun _ => pf_s rfl rfl rfl) (fun P_39 => ?_)
               refine sim_p 40 (v := undef) (ei := [(193, undef), (194, undef), (195, undef)]) (d := (some 196)) wf (by kernel_rfl) ⟨rfl, rfl, rfl, trivial⟩ (by kernel_rfl) (by kernel_rfl) (fun _ => pf_s rfl rfl rfl) (fun P_40 => ?_)
               refine sim_p 41 (v := undef) (ei := [(193, undef), (196, undef)]) (d := (some 197)) wf (by kernel_rfl) ⟨rfl, rfl, trivial⟩ (by kernel_rfl) (by kernel_rfl) (fun _ => pf_s rfl rfl rfl) (fun P_41 => ?_)
               refine sim_p 42 (v := undef) (ei := [(193, undef), (197, undef)]) (d := (some 198)) wf (by kernel_rfl) ⟨rfl, rfl, trivial⟩ (by kernel_rfl) (by kernel_rfl) (fun _ => pf_s rfl rfl rfl) (fun P_42 => ?_)
               refine sim_p 43 (v := undef) (ei := [(193, undef), (198, undef)]) (d := (some 199)) wf (by kernel_rfl) ⟨rfl, rfl, trivial⟩ (by kernel_rfl) (by kernel_rfl) (fun _ => pf_s rfl rfl rfl) (fun P_43 => ?_)
               refine sim_p 44 (v := undef) (ei := [(13, .pointer r1), (193, undef)]) (d := (some 200)) wf (by kernel_rfl) ⟨rfl, rfl, trivial⟩ (by kernel_rfl) (by kernel_rfl) (fun _ => pf_s rfl rfl rfl) (fun P_44 => ?_)
               refine sim_p 45 (v := undef) (ei := [(193, undef), (200, undef)]) (d := (some 201)) wf (by kernel_rfl) ⟨rfl, rfl, trivial⟩ (by kernel_rfl) (by kernel_rfl) (fun _ => pf_s rfl rfl rfl) (fun P_45 => ?_)
               refine sim_p 46 (v := undef) (ei := [(193, undef), (199, undef), (201, undef)]) (d := (some 202)) wf (by kernel_rfl) ⟨rfl, rfl, rfl, trivial⟩ (by kernel_rfl) (by kernel_rfl) (fun _ => pf_s rfl rfl rfl) (fun P_46 => ?_)
               refine sim_p 47 (v := undef) (ei := [(180, .bool true), (193, undef), (202, undef)]) (d := (some 203)) wf (by kernel_rfl) ⟨rfl, rfl, rfl, trivial⟩ (by kernel_rfl) (by kernel_rfl) (fun _ => pf_s rfl rfl rfl) (fun P_47 => ?_)
               refine sQ 48 [(180, .bool true), (203, undef)] (some 204) tok wf ⟨rfl, rfl, trivial⟩ (fun P_48 => ?_)
               refine sim_end wf ⟨P_48 _, P_47 _, P_46 _, P_45 _, P_44 _, P_43 _, P_42 _, P_41 _, P_40 _, P_39 _, P_38 _, P_37 _, P_36 _, P_35 _, P_34 _, P_33 _, P_32 _, P_31 _, P_30 _, P_29 _, P_28 _, P_27 _, P_26 _, P_25 _, P_24 _, P_23 _, P_22 _, P_21 _, P_20 _, P_19 _, P_18 _, P_17 _, P_16 _, P_15 _, P_14 _, P_13 _, P_12 _, P_11 _, P_10 _, P_9 _, P_8 _, P_7 _, P_6 _, P_5 _, P_4, P_3 _, P_2 _, P_1 _, P_0 _, trivial⟩ (by kernel_rfl) ?_
               clear wf P_0 P_1 P_10 P_11 P_12 P_13 P_14 P_15 P_16 P_17 P_18 P_19 P_2 P_20 P_21 P_22 P_23 P_24 P_25 P_26 P_27 P_28 P_29 P_3 P_30 P_31 P_32 P_33 P_34 P_35 P_36 P_37 P_38 P_39 P_4 P_40 P_41 P_42 P_43 P_44 P_45 P_46 P_47 P_48 P_5 P_6 P_7 P_8 P_9
               exact x_join true H ⟨rfl, rfl, rfl, rfl, rfl, rfl, rfl, rfl, rfl, rfl, rfl, trivial⟩
              ·
               refine sQ 25 [(17, Slc.v r25), (180, .bool false)] (some 181) tok wf ⟨rfl, rfl, trivial⟩ (fun P_25 => ?_)
               refine sQ 26 [(18, .int .i64 t18_7), (180, .bool false)] (some 182) tok wf ⟨rfl, rfl, trivial⟩ (fun P_26 => ?_)
               obtain ⟨a30, ha30, la30, ua30, H⟩ := H
               refine sP 27 [(180, .bool false), (181, Slc.v r25), (182, .int .i64 t18_7)] (some 183) wf ⟨rfl, rfl, rfl, trivial⟩ (fun _ => pf_y rfl rfl rfl (y_ixa' tok rfl rfl ha30 rfl rfl rfl la30 ua30)) (fun P_27 => ?_)
               refine sQ 28 [(180, .bool false), (183, .pointer (some (a30.add (t18_7.toNat * 9))))] (some 184) tok wf ⟨rfl, rfl, trivial⟩ (fun P_28 => ?_)
               refine sQ 29 [(180, .bool false), (184, .pointer (some ((a30.add (t18_7.toNat * 9)).add 1)))] (some 185) tok wf ⟨rfl, rfl, trivial⟩ (fun P_29 => ?_)
               obtain ⟨v31, hv31, H⟩ := H
               refine sL 30 [(180, .bool false), (185, .pointer (some (((a30.add (t18_7.toNat * 9)).add 1).add 1)))] (some 186) wf ⟨rfl, rfl, trivial⟩ (pf_y rfl rfl rfl (y_ld tok rfl rfl rfl rfl hv31)) (fun P_30 => ?_)
               refine sQ 31 [(5, Slc.v p5), (180, .bool false)] (some 187) tok wf ⟨rfl, rfl, trivial⟩ (fun P_31 => ?_)
               refine sQ 32 [(14, .int .i64 t14_5), (180, .bool false)] (some 188) tok wf ⟨rfl, rfl, trivial⟩ (fun P_32 => ?_)
               obtain ⟨a32, ha32, la32, ua32, H⟩ := H
               refine sP 33 [(180, .bool false), (187, Slc.v p5), (188, .int .i64 t14_5)] (some 189) wf ⟨rfl, rfl, rfl, trivial⟩ (fun _ => pf_y rfl rfl rfl (y_ixa' tok rfl rfl ha32 rfl rfl rfl la32 ua32)) (fun P_33 => ?_)
               refine sQ 34 [(180, .bool false), (189, .pointer (some (a32.add (t14_5.toNat * 8))))] (some 190) tok wf ⟨rfl, rfl, trivial⟩ (fun P_34 => ?_)
               obtain ⟨v33, hv33, H⟩ := H
               refine sL 35 [(180, .bool false), (190, .pointer (some ((a32.add (t14_5.toNat * 8)).add 1)))] (some 191) wf ⟨rfl, rfl, trivial⟩ (pf_y rfl rfl rfl (y_ld tok rfl rfl rfl rfl hv33)) (fun P_35 => ?_)
               refine sQ 36 [(180, .bool false), (186, .int .u64 v31), (191, .int .u64 v33)] (some 192) tok wf ⟨rfl, rfl, rfl, trivial⟩ (fun P_36 => ?_)
               refine sQ 37 [(180, .bool false), (192, .bool (decide (v31 < v33)))] (some 193) tok wf ⟨rfl, rfl, trivial⟩ (fun P_37 => ?_)
               refine sim_gif 193 H rfl (fun hb H => ?_) (fun hb H => ?_)
               ·
                refine sQ 38 [(17, Slc.v r25), (193, .bool true)] (some 194) tok wf ⟨rfl, rfl, trivial⟩ (fun P_38 => ?_)
                refine sQ 39 [(18, .int .i64 t18_7), (193, .bool true)] (some 195) tok wf ⟨rfl, rfl, trivial⟩ (fun P_39 => ?_)
                obtain ⟨a34, ha34, la34, ua34, H⟩ := H
                refine sP 40 [(193, .bool true), (194, Slc.v r25), (195, .int .i64 t18_7)] (some 196) wf ⟨rfl, rfl, rfl, trivial⟩ (fun _ => pf_y rfl rfl rfl (y_ixa' tok rfl rfl ha34 rfl rfl rfl la34 ua34)) (fun P_40 => ?_)
                refine sQ 41 [(193, .bool true), (196, .pointer (some (a34.add (t18_7.toNat * 9))))] (some 197) tok wf ⟨rfl, rfl, trivial⟩ (fun P_41 => ?_)
                refine sQ 42 [(193, .bool true), (197, .pointer (some ((a34.add (t18_7.toNat * 9)).add 1)))] (some 198) tok wf ⟨rfl, rfl, trivial⟩ (fun P_42 => ?_)
                obtain ⟨v35, hv35, H⟩ := H
                refine sL 43 [(193, .bool true), (198, .pointer (some (((a34.add (t18_7.toNat * 9)).add 1).add 1)))] (some 199) wf ⟨rfl, rfl, trivial⟩ (pf_y rfl rfl rfl (y_ld tok rfl rfl rfl rfl hv35)) (fun P_43 => ?_)
                refine sQ 44 [(13, .pointer r1), (193, .bool true)] (some 200) tok wf ⟨rfl, rfl, trivial⟩ (fun P_44 => ?_)
                refine sim_c 45 [0, 1, 2, 3, 4, 5, 6, 7, 8, 9, 10, 11, 12, 13, 14, 15, 16, 17, 18, 19, 20, 21, 22, 23, 24, 25, 26, 27, 28, 29, 30, 31, 32, 33, 34, 35, 36, 37, 44] [0, 1, 2, 3, 4, 5, 6, 7, 8, 9, 10, 11, 12, 13, 14, 15, 16, 17, 18, 19, 20, 21, 22, 23, 24, 25, 26, 27, 28, 29, 30, 31, 32, 33, 34, 35, 36, 37, 44] (ei := [(193, .bool true), (200, .pointer r1)]) raft_Raft_Term_ok (raft_Raft_Term_ref _ _ _ H) wf ⟨P_44 _, P_43, P_42 _, P_41 _, P_40 _, P_39 _, P_38 _, P_37 _, P_36 _, P_35, P_34 _, P_33 _, P_32 _, P_31 _, P_30, P_29 _, P_28 _, P_27 _, P_26 _, P_25 _, P_24 _, P_23 _, P_22 _, P_21 _, P_20 _, P_19 _, P_18 _, P_17 _, P_16 _, P_15 _, P_14 _, P_13 _, P_12 _, P_11 _, P_10 _, P_9 _, P_8 _, P_7 _, P_6 _, P_5 _, P_4, P_3 _, P_2 _, P_1 _, P_0 _, trivial⟩ (by kernel_rfl) ⟨rfl, rfl, trivial⟩ (by kernel_rfl) rfl rfl rfl rfl rfl ?_
                rintro _ h37 ⟨r36, rfl, H⟩
                obtain ⟨hy38, H⟩ := H
                refine sim_re (x := ⟨43, .int .u64 v35, [(193, .bool true), (198, .pointer (some (((a34.add (t18_7.toNat * 9)).add 1).add 1)))]⟩) (pf_y rfl rfl rfl (y_ld tok rfl rfl rfl rfl hy38)) (fun P_43 => ?_)
                refine sQ 46 [(193, .bool true), (199, .int .u64 v35), (201, .int .u64 r36)] (some 202) tok wf ⟨rfl, rfl, rfl, trivial⟩ (fun P_46 => ?_)
                refine sQ 47 [(180, .bool false), (193, .bool true), (202, .bool (decide (v35 < r36)))] (some 203) tok wf ⟨rfl, rfl, rfl, trivial⟩ (fun P_47 => ?_)
                refine sQ 48 [(180, .bool false), (203, .bool (decide (v35 < r36)))] (some 204) tok wf ⟨rfl, rfl, trivial⟩ (fun P_48 => ?_)
                refine sim_end wf ⟨P_48 _, P_47 _, P_46 _, trivial, P_43, P_42 _, P_41 _, P_40 _, P_39 _, P_38 _, trivial, trivial, trivial, trivial, trivial, trivial, trivial, trivial, trivial, trivial, trivial, trivial, trivial, trivial, trivial, trivial, trivial, trivial, trivial, trivial, trivial, trivial, trivial, trivial, trivial, trivial, trivial, trivial, trivial, trivial, trivial, trivial, trivial, trivial, trivial, trivial, trivial, trivial, trivial⟩ (by kernel_rfl) ?_
                clear wf P_0 P_1 P_10 P_11 P_12 P_13 P_14 P_15 P_16 P_17 P_18 P_19 P_2 P_20 P_21 P_22 P_23 P_24 P_25 P_26 P_27 P_28 P_29 P_3 P_30 P_31 P_32 P_33 P_34 P_35 P_36 P_37 P_38 P_39 P_4 P_40 P_41 P_42 P_43 P_44 P_46 P_47 P_48 P_5 P_6 P_7 P_8 P_9
                exact x_join (decide (v35 < r36)) H ⟨rfl, rfl, rfl, rfl, rfl, rfl, rfl, rfl, rfl, rfl, rfl, trivial⟩
               ·
                refine sim_p 38 (v := undef) (ei := [(17, Slc.v r25), (193, .bool false)]) (d := (some 194)) wf (by kernel_rfl) ⟨rfl, rfl, trivial⟩ (by kernel_rfl) (by kernel_rfl) (fun _ => pf_s rfl rfl rfl) (fun P_38 => ?_)
                refine sim_p 39 (v := undef) (ei := [(18, .int .i64 t18_7), (193, .bool false)]) (d := (some 195)) wf (by kernel_rfl) ⟨rfl, rfl, trivial⟩ (by kernel_rfl) (by kernel_rfl) (fun _ => pf_s rfl rfl rfl) (fun P_39 => ?_)
                refine sim_p 40 (v := undef) (ei := [(193, .bool false), (194, undef), (195, undef)]) (d := (some 196)) wf (by kernel_rfl) ⟨rfl, rfl, rfl, trivial⟩ (by kernel_rfl) (by kernel_rfl) (fun _ => pf_s rfl rfl rfl) (fun P_40 => ?_)
                refine sim_p 41 (v := undef) (ei := [(193, .bool false), (196, undef)]) (d := (some 197)) wf (by kernel_rfl) ⟨rfl, rfl, trivial⟩ (by kernel_rfl) (by kernel_rfl) (fun _ => pf_s rfl rfl rfl) (fun P_41 => ?_)
                refine sim_p 42 (v := undef) (ei := [(193, .bool false), (197, undef)]) (d := (some 198)) wf (by kernel_rfl) ⟨rfl, rfl, trivial⟩ (by kernel_rfl) (by kernel_rfl) (fun _ => pf_s rfl rfl rfl) (fun P_42 => ?_)
                refine sim_p 43 (v := undef) (ei := [(193, .bool false), (198, undef)]) (d := (some 199)) wf (by kernel_rfl) ⟨rfl, rfl, trivial⟩ (by kernel_rfl) (by kernel_rfl) (fun _ => pf_s rfl rfl rfl) (fun P_43 => ?_)
                refine sim_p 44 (v := undef) (ei := [(13, .pointer r1), (193, .bool false)]) (d := (some 200)) wf (by kernel_rfl) ⟨rfl, rfl, trivial⟩ (by kernel_rfl) (by kernel_rfl) (fun _ => pf_s rfl rfl rfl) (fun P_44 => ?_)
                refine sim_p 45 (v := undef) (ei := [(193, .bool false), (200, undef)]) (d := (some 201)) wf (by kernel_rfl) ⟨rfl, rfl, trivial⟩ (by kernel_rfl) (by kernel_rfl) (fun _ => pf_s rfl rfl rfl) (fun P_45 => ?_)
                refine sim_p 46 (v := undef) (ei := [(193, .bool false), (199, undef), (201, undef)]) (d := (some 202)) wf (by kernel_rfl) ⟨rfl, rfl, rfl, trivial⟩ (by kernel_rfl) (by kernel_rfl) (fun _ => pf_s rfl rfl rfl) (fun P_46 => ?_)
                refine sQ 47 [(180, .bool false), (193, .bool false), (202, undef)] (some 203) tok wf ⟨rfl, rfl, rfl, trivial⟩ (fun P_47 => ?_)
                refine sQ 48 [(180, .bool false), (203, .bool false)] (some 204) tok wf ⟨rfl, rfl, trivial⟩ (fun P_48 => ?_)
                refine sim_end wf ⟨P_48 _, P_47 _, P_46 _, P_45 _, P_44 _, P_43 _, P_42 _, P_41 _, P_40 _, P_39 _, P_38 _, P_37 _, P_36 _, P_35, P_34 _, P_33 _, P_32 _, P_31 _, P_30, P_29 _, P_28 _, P_27 _, P_26 _, P_25 _, P_24 _, P_23 _, P_22 _, P_21 _, P_20 _, P_19 _, P_18 _, P_17 _, P_16 _, P_15 _, P_14 _, P_13 _, P_12 _, P_11 _, P_10 _, P_9 _, P_8 _, P_7 _, P_6 _, P_5 _, P_4, P_3 _, P_2 _, P_1 _, P_0 _, trivial⟩ (by kernel_rfl) ?_
                clear wf P_0 P_1 P_10 P_11 P_12 P_13 P_14 P_15 P_16 P_17 P_18 P_19 P_2 P_20 P_21 P_22 P_23 P_24 P_25 P_26 P_27 P_28 P_29 P_3 P_30 P_31 P_32 P_33 P_34 P_35 P_36 P_37 P_38 P_39 P_4 P_40 P_41 P_42 P_43 P_44 P_45 P_46 P_47 P_48 P_5 P_6 P_7 P_8 P_9
                exact x_join false H ⟨rfl, rfl, rfl, rfl, rfl, rfl, rfl, rfl, rfl, rfl, rfl, trivial⟩
             ·
              refine sQ 16 [(17, Slc.v r25), (171, .bool false)] (some 172) tok wf ⟨rfl, rfl, trivial⟩ (fun P_16 => ?_)
              refine sQ 17 [(18, .int .i64 t18_7), (171, .bool false)] (some 173) tok wf ⟨rfl, rfl, trivial⟩ (fun P_17 => ?_)
              obtain ⟨a39, ha39, la39, ua39, H⟩ := H
              refine sP 18 [(171, .bool false), (172, Slc.v r25), (173, .int .i64 t18_7)] (some 174) wf ⟨rfl, rfl, rfl, trivial⟩ (fun _ => pf_y rfl rfl rfl (y_ixa' tok rfl rfl ha39 rfl rfl rfl la39 ua39)) (fun P_18 => ?_)
              refine sQ 19 [(171, .bool false), (174, .pointer (some (a39.add (t18_7.toNat * 9))))] (some 175) tok wf ⟨rfl, rfl, trivial⟩ (fun P_19 => ?_)
              obtain ⟨v40, hv40, H⟩ := H
              refine sL 20 [(171, .bool false), (175, .pointer (some (a39.add (t18_7.toNat * 9))))] (some 176) wf ⟨rfl, rfl, trivial⟩ (pf_y rfl rfl rfl (y_ld tok rfl rfl rfl rfl hv40)) (fun P_20 => ?_)
              refine sQ 21 [(0, .int .i64 p0), (171, .bool false)] (some 177) tok wf ⟨rfl, rfl, trivial⟩ (fun P_21 => ?_)
              refine sQ 22 [(171, .bool false), (176, .int .i64 v40), (177, .int .i64 p0)] (some 178) tok wf ⟨rfl, rfl, rfl, trivial⟩ (fun P_22 => ?_)
              refine sQ 23 [(171, .bool false), (178, .bool (v40 == p0))] (some 179) tok wf ⟨rfl, rfl, trivial⟩ (fun P_23 => ?_)
              refine sQ 24 [(179, .bool (v40 == p0))] (some 180) tok wf ⟨rfl, trivial⟩ (fun P_24 => ?_)
              refine sim_gif 180 H rfl (fun hb H => ?_) (fun hb H => ?_)
              ·
               refine sim_p 25 (v := undef) (ei := [(17, Slc.v r25), (180, .bool true)]) (d := (some 181)) wf (by kernel_rfl) ⟨rfl, rfl, trivial⟩ (by kernel_rfl) (by kernel_rfl) (fun _ => pf_s rfl rfl rfl) (fun P_25 => ?_)
               refine sim_p 26 (v := undef) (ei := [(18, .int .i64 t18_7), (180, .bool true)]) (d := (some 182)) wf (by kernel_rfl) ⟨rfl, rfl, trivial⟩ (by kernel_rfl) (by kernel_rfl) (fun _ => pf_s rfl rfl rfl) (fun P_26 => ?_)
               refine sim_p 27 (v := undef) (ei := [(180, .bool true), (181, undef), (182, undef)]) (d := (some 183)) wf (by kernel_rfl) ⟨rfl, rfl, rfl, trivial⟩ (by kernel_rfl) (by kernel_rfl) (fun _ => pf_s rfl rfl rfl) (fun P_27 => ?_)
               refine sim_p 28 (v := undef) (ei := [(180, .bool true), (183, undef)]) (d := (some 184)) wf (by kernel_rfl) ⟨rfl, rfl, trivial⟩ (by kernel_rfl) (by kernel_rfl) (fun _ => pf_s rfl rfl rfl) (fun P_28 => ?_)
               refine sim_p 29 (v := undef) (ei := [(180, .bool true), (184, undef)]) (d := (some 185)) wf (by kernel_rfl) ⟨rfl, rfl, trivial⟩ (by kernel_rfl) (by kernel_rfl) (fun _ => pf_s rfl rfl rfl) (fun P_29 => ?_)
               refine sim_p 30 (v := undef) (ei := [(180, .bool true), (185, undef)]) (d := (some 186)) wf (by kernel_rfl) ⟨rfl, rfl, trivial⟩ (by kernel_rfl) (by kernel_rfl) (fun _ => pf_s rfl rfl rfl) (fun P_30 => ?_)
               refine sim_p 31 (v := undef) (ei := [(5, Slc.v p5), (180, .bool true)]) (d := (some 187)) wf (by kernel_rfl) ⟨rfl, rfl, trivial⟩ (by kernel_rfl) (by kernel_rfl) (fun _ => pf_s rfl rfl rfl) (fun P_31 => ?_)
               refine sim_p 32 (v := undef) (ei := [(14, .int .i64 t14_5), (180, .bool true)]) (d := (some 188)) wf (by kernel_rfl) ⟨rfl, rfl, trivial⟩ (by kernel_rfl) (by kernel_rfl) (fun _ => pf_s rfl rfl rfl) (fun P_32 => ?_)
               refine sim_p 33 (v := undef) (ei := [(180, .bool true), (187, undef), (188, undef)]) (d := (some 189)) wf (by kernel_rfl) ⟨rfl, rfl, rfl, trivial⟩ (by kernel_rfl) (by kernel_rfl) (fun _ => pf_s rfl rfl rfl) (fun P_33 => ?_)
               refine sim_p 34 (v := undef) (ei := [(180, .bool true), (189, undef)]) (d := (some 190)) wf (by kernel_rfl) ⟨rfl, rfl, trivial⟩ (by kernel_rfl) (by kernel_rfl) (fun _ => pf_s rfl rfl rfl) (fun P_34 => ?_)
               refine sim_p 35 (v := undef) (ei := [(180, .bool true), (190, undef)]) (d := (some 191)) wf (by kernel_rfl) ⟨rfl, rfl, trivial⟩ (by kernel_rfl) (by kernel_rfl) (fun _ => pf_s rfl rfl rfl) (fun P_35 => ?_)
               refine sim_p 36 (v := undef) (ei := [(180, .bool true), (186, undef), (191, undef)]) (d := (some 192)) wf (by kernel_rfl) ⟨rfl, rfl, rfl, trivial⟩ (by kernel_rfl) (by kernel_rfl) (fun _ => pf_s rfl rfl rfl) (fun P_36 => ?_)
               refine sim_p 37 (v := undef) (ei := [(180, .bool true), (192, undef)]) (d := (some 193)) wf (by kernel_rfl) ⟨rfl, rfl, trivial⟩ (by kernel_rfl) (by kernel_rfl) (fun _ => pf_s rfl rfl rfl) (fun P_37 => ?_)
               refine sim_p 38 (v := undef) (ei := [(17, Slc.v r25), (193, undef)]) (d := (some 194)) wf (by kernel_rfl) ⟨rfl, rfl, trivial⟩ (by kernel_rfl) (by kernel_rfl) (fun _ => pf_s rfl rfl rfl) (fun P_38 => ?_)
               refine sim_p 39 (v := undef) (ei := [(18, .int .i64 t18_7), (193, undef)]) (d := (some 195)) wf (by kernel_rfl) ⟨rfl, rfl, trivial⟩ (by kernel_rfl) (by kernel_rfl) (fun _ => pf_s rfl rfl rfl) (fun P_39 => ?_)
               refine sim_p 40 (v := undef) (ei := [(193, undef), (194, undef), (195, undef)]) (d := (some 196)) wf (by kernel_rfl) ⟨rfl, rfl, rfl, trivial⟩ (by kernel_rfl) (by kernel_rfl) (fun _ => pf_s rfl rfl rfl) (fun P_40 => ?_)
               refine sim_p 41 (v := undef) (ei := [(193, undef), (196, undef)]) (d := (some 197)) wf (by kernel_rfl) ⟨rfl, rfl, trivial⟩ (by kernel_rfl) (by kernel_rfl) (fun _ => pf_s rfl rfl rfl) (fun P_41 => ?_)
               refine sim_p 42 (v := undef) (ei := [(193, undef), (197, undef)]) (d := (some 198)) wf (by kernel_rfl) ⟨rfl, rfl, trivial⟩ (by kernel_rfl) (by kernel_rfl) (fun _ => pf_s rfl rfl rfl) (fun P_42 => ?_)
               refine sim_p 43 (v := undef) (ei := [(193, undef), (198, undef)]) (d := (some 199)) wf (by kernel_rfl) ⟨rfl, rfl, trivial⟩ (by kernel_rfl) (by kernel_rfl) (fun _ => pf_s rfl rfl rfl) (fun P_43 => ?_)
               refine sim_p 44 (v := undef) (ei := [(13, .pointer r1), (193, undef)]) (d := (some 200)) wf (by kernel_rfl) ⟨rfl, rfl, trivial⟩ (by kernel_rfl) (by kernel_rfl) (fun _ => pf_s rfl rfl rfl) (fun P_44 => ?_)
               refine sim_p 45 (v := undef) (ei := [(193, undef), (200, undef)]) (d := (some 201)) wf (by kernel_rfl) ⟨rfl, rfl, trivial⟩ (by kernel_rfl) (by kernel_rfl) (fun _ => pf_s rfl rfl rfl) (fun P_45 => ?_)
               refine sim_p 46 (v := undef) (ei := [(193, undef), (199, undef), (201, undef)]) (d := (some 202)) wf (by kernel_rfl) ⟨rfl, rfl, rfl, trivial⟩ (by kernel_rfl) (by kernel_rfl) (fun _ => pf_s rfl rfl rfl) (fun P_46 => ?_)
               refine sim_p 47 (v := undef) (ei := [(180, .bool true), (193, undef), (202, undef)]) (d := (some 203)) wf (by kernel_rfl) ⟨rfl, rfl, rfl, trivial⟩ (by kernel_rfl) (by kernel_rfl) (fun _ => pf_s rfl rfl rfl) (fun P_47 => ?_)
               refine sQ 48 [(180, .bool true), (203, undef)] (some 204) tok wf ⟨rfl, rfl, trivial⟩ (fun P_48 => ?_)
               refine sim_end wf ⟨P_48 _, P_47 _, P_46 _, P_45 _, P_44 _, P_43 _, P_42 _, P_41 _, P_40 _, P_39 _, P_38 _, P_37 _, P_36 _, P_35 _, P_34 _, P_33 _, P_32 _, P_31 _, P_30 _, P_29 _, P_28 _, P_27 _, P_26 _, P_25 _, P_24 _, P_23 _, P_22 _, P_21 _, P_20, P_19 _, P_18 _, P_17 _, P_16 _, P_15 _, P_14 _, P_13 _, P_12 _, P_11 _, P_10 _, P_9 _, P_8 _, P_7 _, P_6 _, P_5 _, P_4, P_3 _, P_2 _, P_1 _, P_0 _, trivial⟩ (by kernel_rfl) ?_
               clear wf P_0 P_1 P_10 P_11 P_12 P_13 P_14 P_15 P_16 P_17 P_18 P_19 P_2 P_20 P_21 P_22 P_23 P_24 P_25 P_26 P_27 P_28 P_29 P_3 P_30 P_31 P_32 P_33 P_34 P_35 P_36 P_37 P_38 P_39 P_4 P_40 P_41 P_42 P_43 P_44 P_45 P_46 P_47 P_48 P_5 P_6 P_7 P_8 P_9
               exact x_join true H ⟨rfl, rfl, rfl, rfl, rfl, rfl, rfl, rfl, rfl, rfl, rfl, trivial⟩
              ·
               refine sQ 25 [(17, Slc.v r25), (180, .bool false)] (some 181) tok wf ⟨rfl, rfl, trivial⟩ (fun P_25 => ?_)
               refine sQ 26 [(18, .int .i64 t18_7), (180, .bool false)] (some 182) tok wf ⟨rfl, rfl, trivial⟩ (fun P_26 => ?_)
               obtain ⟨a41, ha41, la41, ua41, H⟩ := H
               refine sP 27 [(180, .bool false), (181, Slc.v r25), (182, .int .i64 t18_7)] (some 183) wf ⟨rfl, rfl, rfl, trivial⟩ (fun _ => pf_y rfl rfl rfl (y_ixa' tok rfl rfl ha41 rfl rfl rfl la41 ua41)) (fun P_27 => ?_)
               refine sQ 28 [(180, .bool false), (183, .pointer (some (a41.add (t18_7.toNat * 9))))] (some 184) tok wf ⟨rfl, rfl, trivial⟩ (fun P_28 => ?_)
               refine sQ 29 [(180, .bool false), (184, .pointer (some ((a41.add (t18_7.toNat * 9)).add 1)))] (some 185) tok wf ⟨rfl, rfl, trivial⟩ (fun P_29 => ?_)
               obtain ⟨v42, hv42, H⟩ := H
               refine sL 30 [(180, .bool false), (185, .pointer (some (((a41.add (t18_7.toNat * 9)).add 1).add 1)))] (some 186) wf ⟨rfl, rfl, trivial⟩ (pf_y rfl rfl rfl (y_ld tok rfl rfl rfl rfl hv42)) (fun P_30 => ?_)
               refine sQ 31 [(5, Slc.v p5), (180, .bool false)] (some 187) tok wf ⟨rfl, rfl, trivial⟩ (fun P_31 => ?_)
               refine sQ 32 [(14, .int .i64 t14_5), (180, .bool false)] (some 188) tok wf ⟨rfl, rfl, trivial⟩ (fun P_32 => ?_)
               obtain ⟨a43, ha43, la43, ua43, H⟩ := H
               refine sP 33 [(180, .bool false), (187, Slc.v p5), (188, .int .i64 t14_5)] (some 189) wf ⟨rfl, rfl, rfl, trivial⟩ (fun _ => pf_y rfl rfl rfl (y_ixa' tok rfl rfl ha43 rfl rfl rfl la43 ua43)) (fun P_33 => ?_)
               refine sQ 34 [(180, .bool false), (189, .pointer (some (a43.add (t14_5.toNat * 8))))] (some 190) tok wf ⟨rfl, rfl, trivial⟩ (fun P_34 => ?_)
               obtain ⟨v44, hv44, H⟩ := H
               refine sL 35 [(180, .bool false), (190, .pointer (some ((a43.add (t14_5.toNat * 8)).add 1)))] (some 191) wf ⟨rfl, rfl, trivial⟩ (pf_y rfl rfl rfl (y_ld tok rfl rfl rfl rfl hv44)) (fun P_35 => ?_)
               refine sQ 36 [(180, .bool false), (186, .int .u64 v42), (191, .int .u64 v44)] (some 192) tok wf ⟨rfl, rfl, rfl, trivial⟩ (fun P_36 => ?_)
               refine sQ 37 [(180, .bool false), (192, .bool (decide (v42 < v44)))] (some 193) tok wf ⟨rfl, rfl, trivial⟩ (fun P_37 => ?_)
               refine sim_gif 193 H rfl (fun hb H => ?_) (fun hb H => ?_)
               ·
                refine sQ 38 [(17, Slc.v r25), (193, .bool true)] (some 194) tok wf ⟨rfl, rfl, trivial⟩ (fun P_38 => ?_)
                refine sQ 39 [(18, .int .i64 t18_7), (193, .bool true)] (some 195) tok wf ⟨rfl, rfl, trivial⟩ (fun P_39 => ?_)
                obtain ⟨a45, ha45, la45, ua45, H⟩ := H
                refine sP 40 [(193, .bool true), (194, Slc.v r25), (195, .int .i64 t18_7)] (some 196) wf ⟨rfl, rfl, rfl, trivial⟩ (fun _ => pf_y rfl rfl rfl (y_ixa' tok rfl rfl ha45 rfl rfl rfl la45 ua45)) (fun P_40 => ?_)
                refine sQ 41 [(193, .bool true), (196, .pointer (some (a45.add (t18_7.toNat * 9))))] (some 197) tok wf ⟨rfl, rfl, trivial⟩ (fun P_41 => ?_)
                refine sQ 42 [(193, .bool true), (197, .pointer (some ((a45.add (t18_7.toNat * 9)).add 1)))] (some 198) tok wf ⟨rfl, rfl, trivial⟩ (fun P_42 => ?_)
                obtain ⟨v46, hv46, H⟩ := H
                refine sL 43 [(193, .bool true), (198, .pointer (some (((a45.add (t18_7.toNat * 9)).add 1).add 1)))] (some 199) wf ⟨rfl, rfl, trivial⟩ (pf_y rfl rfl rfl (y_ld tok rfl rfl rfl rfl hv46)) (fun P_43 => ?_)
                refine sQ 44 [(13, .pointer r1), (193, .bool true)] (some 200) tok wf ⟨rfl, rfl, trivial⟩ (fun P_44 => ?_)
                refine sim_c 45 [0, 1, 2, 3, 4, 5, 6, 7, 8, 9, 10, 11, 12, 13, 14, 15, 16, 17, 18, 19, 20, 21, 22, 23, 24, 25, 26, 27, 28, 29, 30, 31, 32, 33, 34, 35, 36, 37, 44] [0, 1, 2, 3, 4, 5, 6, 7, 8, 9, 10, 11, 12, 13, 14, 15, 16, 17, 18, 19, 20, 21, 22, 23, 24, 25, 26, 27, 28, 29, 30, 31, 32, 33, 34, 35, 36, 37, 44] (ei := [(193, .bool true), (200, .pointer r1)]) raft_Raft_Term_ok (raft_Raft_Term_ref _ _ _ H) wf ⟨P_44 _, P_43, P_42 _, P_41 _, P_40 _, P_39 _, P_38 _, P_37 _, P_36 _, P_35, P_34 _, P_33 _, P_32 _, P_31 _, P_30, P_29 _, P_28 _, P_27 _, P_26 _, P_25 _, P_24 _, P_23 _, P_22 _, P_21 _, P_20, P_19 _, P_18 _, P_17 _, P_16 _, P_15 _, P_14 _, P_13 _, P_12 _, P_11 _, P_10 _, P_9 _, P_8 _, P_7 _, P_6 _, P_5 _, P_4, P_3 _, P_2 _, P_1 _, P_0 _, trivial⟩ (by kernel_rfl) ⟨rfl, rfl, trivial⟩ (by kernel_rfl) rfl rfl rfl rfl rfl ?_
                rintro _ h48 ⟨r47, rfl, H⟩
                obtain ⟨hy49, H⟩ := H
                refine sim_re (x := ⟨43, .int .u64 v46, [(193, .bool true), (198, .pointer (some (((a45.add (t18_7.toNat * 9)).add 1).add 1)))]⟩) (pf_y rfl rfl rfl (y_ld tok rfl rfl rfl rfl hy49)) (fun P_43 => ?_)
                refine sQ 46 [(193, .bool true), (199, .int .u64 v46), (201, .int .u64 r47)] (some 202) tok wf ⟨rfl, rfl, rfl, trivial⟩ (fun P_46 => ?_)
                refine sQ 47 [(180, .bool false), (193, .bool true), (202, .bool (decide (v46 < r47)))] (some 203) tok wf ⟨rfl, rfl, rfl, trivial⟩ (fun P_47 => ?_)
                refine sQ 48 [(180, .bool false), (203, .bool (decide (v46 < r47)))] (some 204) tok wf ⟨rfl, rfl, trivial⟩ (fun P_48 => ?_)
                refine sim_end wf ⟨P_48 _, P_47 _, P_46 _, trivial, P_43, P_42 _, P_41 _, P_40 _, P_39 _, P_38 _, trivial, trivial, trivial, trivial, trivial, trivial, trivial, trivial, trivial, trivial, trivial, trivial, trivial, trivial, trivial, trivial, trivial, trivial, trivial, trivial, trivial, trivial, trivial, trivial, trivial, trivial, trivial, trivial, trivial, trivial, trivial, trivial, trivial, trivial, trivial, trivial, trivial, trivial, trivial⟩ (by kernel_rfl) ?_
                clear wf P_0 P_1 P_10 P_11 P_12 P_13 P_14 P_15 P_16 P_17 P_18 P_19 P_2 P_20 P_21 P_22 P_23 P_24 P_25 P_26 P_27 P_28 P_29 P_3 P_30 P_31 P_32 P_33 P_34 P_35 P_36 P_37 P_38 P_39 P_4 P_40 P_41 P_42 P_43 P_44 P_46 P_47 P_48 P_5 P_6 P_7 P_8 P_9
                exact x_join (decide (v46 < r47)) H ⟨rfl, rfl, rfl, rfl, rfl, rfl, rfl, rfl, rfl, rfl, rfl, trivial⟩
               ·
                refine sim_p 38 (v := undef) (ei := [(17, Slc.v r25), (193, .bool false)]) (d := (some 194)) wf (by kernel_rfl) ⟨rfl, rfl, trivial⟩ (by kernel_rfl) (by kernel_rfl) (fun _ => pf_s rfl rfl rfl) (fun P_38 => ?_)
                refine sim_p 39 (v := undef) (ei := [(18, .int .i64 t18_7), (193, .bool false)]) (d := (some 195)) wf (by kernel_rfl) ⟨rfl, rfl, trivial⟩ (by kernel_rfl) (by kernel_rfl) (fun _ => pf_s rfl rfl rfl) (fun P_39 => ?_)
                refine sim_p 40 (v := undef) (ei := [(193, .bool false), (194, undef), (195, undef)]) (d := (some 196)) wf (by kernel_rfl) ⟨rfl, rfl, rfl, trivial⟩ (by kernel_rfl) (by kernel_rfl) (fun _ => pf_s rfl rfl rfl) (fun P_40 => ?_)
                refine sim_p 41 (v := undef) (ei := [(193, .bool false), (196, undef)]) (d := (some 197)) wf (by kernel_rfl) ⟨rfl, rfl, trivial⟩ (by kernel_rfl) (by kernel_rfl) (fun _ => pf_s rfl rfl rfl) (fun P_41 => ?_)
                refine sim_p 42 (v := undef) (ei := [(193, .bool false), (197, undef)]) (d := (some 198)) wf (by kernel_rfl) ⟨rfl, rfl, trivial⟩ (by kernel_rfl) (by kernel_rfl) (fun _ => pf_s rfl rfl rfl) (fun P_42 => ?_)
                refine sim_p 43 (v := undef) (ei := [(193, .bool false), (198, undef)]) (d := (some 199)) wf (by kernel_rfl) ⟨rfl, rfl, trivial⟩ (by kernel_rfl) (by kernel_rfl) (fun _ => pf_s rfl rfl rfl) (fun P_43 => ?_)
                refine sim_p 44 (v := undef) (ei := [(13, .pointer r1), (193, .bool false)]) (d := (some 200)) wf (by kernel_rfl) ⟨rfl, rfl, trivial⟩ (by kernel_rfl) (by kernel_rfl) (fun _ => pf_s rfl rfl rfl) (fun P_44 => ?_)
                refine sim_p 45 (v := undef) (ei := [(193, .bool false), (200, undef)]) (d := (some 201)) wf (by kernel_rfl) ⟨rfl, rfl, trivial⟩ (by kernel_rfl) (by kernel_rfl) (fun _ => pf_s rfl rfl rfl) (fun P_45 => ?_)
                refine sim_p 46 (v := undef) (ei := [(193, .bool false), (199, undef), (201, undef)]) (d := (some 202)) wf (by kernel_rfl) ⟨rfl, rfl, rfl, trivial⟩ (by kernel_rfl) (by kernel_rfl) (fun _ => pf_s rfl rfl rfl) (fun P_46 => ?_)
                refine sQ 47 [(180, .bool false), (193, .bool false), (202, undef)] (some 203) tok wf ⟨rfl, rfl, rfl, trivial⟩ (fun P_47 => ?_)
                refine sQ 48 [(180, .bool false), (203, .bool false)] (some 204) tok wf ⟨rfl, rfl, trivial⟩ (fun P_48 => ?_)
                refine sim_end wf ⟨P_48 _, P_47 _, P_46 _, P_45 _, P_44 _, P_43 _, P_42 _, P_41 _, P_40 _, P_39 _, P_38 _, P_37 _, P_36 _, P_35, P_34 _, P_33 _, P_32 _, P_31 _, P_30, P_29 _, P_28 _, P_27 _, P_26 _, P_25 _, P_24 _, P_23 _, P_22 _, P_21 _, P_20, P_19 _, P_18 _, P_17 _, P_16 _, P_15 _, P_14 _, P_13 _, P_12 _, P_11 _, P_10 _, P_9 _, P_8 _, P_7 _, P_6 _, P_5 _, P_4, P_3 _, P_2 _, P_1 _, P_0 _, trivial⟩ (by kernel_rfl) ?_
                clear wf P_0 P_1 P_10 P_11 P_12 P_13 P_14 P_15 P_16 P_17 P_18 P_19 P_2 P_20 P_21 P_22 P_23 P_24 P_25 P_26 P_27 P_28 P_29 P_3 P_30 P_31 P_32 P_33 P_34 P_35 P_36 P_37 P_38 P_39 P_4 P_40 P_41 P_42 P_43 P_44 P_45 P_46 P_47 P_48 P_5 P_6 P_7 P_8 P_9
                exact x_join false H ⟨rfl, rfl, rfl, rfl, rfl, rfl, rfl, rfl, rfl, rfl, rfl, trivial⟩
            ·
             refine sQ 7 [(17, Slc.v r25), (162, .bool false)] (some 163) tok wf ⟨rfl, rfl, trivial⟩ (fun P_7 => ?_)
             refine sQ 8 [(18, .int .i64 t18_7), (162, .bool false)] (some 164) tok wf ⟨rfl, rfl, trivial⟩ (fun P_8 => ?_)
             obtain ⟨a50, ha50, la50, ua50, H⟩ := H
             refine sP 9 [(162, .bool false), (163, Slc.v r25), (164, .int .i64 t18_7)] (some 165) wf ⟨rfl, rfl, rfl, trivial⟩ (fun _ => pf_y rfl rfl rfl (y_ixa' tok rfl rfl ha50 rfl rfl rfl la50 ua50)) (fun P_9 => ?_)
             refine sQ 10 [(162, .bool false), (165, .pointer (some (a50.add (t18_7.toNat * 9))))] (some 166) tok wf ⟨rfl, rfl, trivial⟩ (fun P_10 => ?_)
             obtain ⟨v51, hv51, H⟩ := H
             refine sL 11 [(162, .bool false), (166, .pointer (some (a50.add (t18_7.toNat * 9))))] (some 167) wf ⟨rfl, rfl, trivial⟩ (pf_y rfl rfl rfl (y_ld tok rfl rfl rfl rfl hv51)) (fun P_11 => ?_)
             refine sQ 12 [(1, .int .i64 p1), (162, .bool false)] (some 168) tok wf ⟨rfl, rfl, trivial⟩ (fun P_12 => ?_)
             refine sQ 13 [(162, .bool false), (167, .int .i64 v51), (168, .int .i64 p1)] (some 169) tok wf ⟨rfl, rfl, rfl, trivial⟩ (fun P_13 => ?_)
             refine sQ 14 [(162, .bool false), (169, .bool (decide (v51 ≥ p1)))] (some 170) tok wf ⟨rfl, rfl, trivial⟩ (fun P_14 => ?_)
             refine sQ 15 [(170, .bool (decide (v51 ≥ p1)))] (some 171) tok wf ⟨rfl, trivial⟩ (fun P_15 => ?_)
             refine sim_gif 171 H rfl (fun hb H => ?_) (fun hb H => ?_)
             ·
              refine sim_p 16 (v := undef) (ei := [(17, Slc.v r25), (171, .bool true)]) (d := (some 172)) wf (by kernel_rfl) ⟨rfl, rfl, trivial⟩ (by kernel_rfl) (by kernel_rfl) (fun _ => pf_s rfl rfl rfl) (fun P_16 => ?_)
              refine sim_p 17 (v := undef) (ei := [(18, .int .i64 t18_7), (171, .bool true)]) (d := (some 173)) wf (by kernel_rfl) ⟨rfl, rfl, trivial⟩ (by kernel_rfl) (by kernel_rfl) (fun _ => pf_s rfl rfl rfl) (fun P_17 => ?_)
              refine sim_p 18 (v := undef) (ei := [(171, .bool true), (172, undef), (173, undef)]) (d := (some 174)) wf (by kernel_rfl) ⟨rfl, rfl, rfl, trivial⟩ (by kernel_rfl) (by kernel_rfl) (fun _ => pf_s rfl rfl rfl) (fun P_18 => ?_)
              refine sim_p 19 (v := undef) (ei := [(171, .bool true), (174, undef)]) (d := (some 175)) wf (by kernel_rfl) ⟨rfl, rfl, trivial⟩ (by kernel_rfl) (by kernel_rfl) (fun _ => pf_s rfl rfl rfl) (fun P_19 => ?_)
              refine sim_p 20 (v := undef) (ei := [(171, .bool true), (175, undef)]) (d := (some 176)) wf (by kernel_rfl) ⟨rfl, rfl, trivial⟩ (by kernel_rfl) (by kernel_rfl) (fun _ => pf_s rfl rfl rfl) (fun P_20 => ?_)
              refine sim_p 21 (v := undef) (ei := [(0, .int .i64 p0), (171, .bool true)]) (d := (some 177)) wf (by kernel_rfl) ⟨rfl, rfl, trivial⟩ (by kernel_rfl) (by kernel_rfl) (fun _ => pf_s rfl rfl rfl) (fun P_21 => ?_)
              refine sim_p 22 (v := undef) (ei := [(171, .bool true), (176, undef), (177, undef)]) (d := (some 178)) wf (by kernel_rfl) ⟨rfl, rfl, rfl, trivial⟩ (by kernel_rfl) (by kernel_rfl) (fun _ => pf_s rfl rfl rfl) (fun P_22 => ?_)
              refine sQ 23 [(171, .bool true), (178, undef)] (some 179) tok wf ⟨rfl, rfl, trivial⟩ (fun P_23 => ?_)
              refine sQ 24 [(179, .bool true)] (some 180) tok wf ⟨rfl, trivial⟩ (fun P_24 => ?_)
              refine sim_gif 180 H rfl (fun hb H => ?_) (fun hb H => ?_)
              ·
               refine sim_p 25 (v := undef) (ei := [(17, Slc.v r25), (180, .bool true)]) (d := (some 181)) wf (by kernel_rfl) ⟨rfl, rfl, trivial⟩ (by kernel_rfl) (by kernel_rfl) (fun _ => pf_s rfl rfl rfl) (fun P_25 => ?_)
               refine sim_p 26 (v := undef) (ei := [(18, .int .i64 t18_7), (180, .bool true)]) (d := (some 182)) wf (by kernel_rfl) ⟨rfl, rfl, trivial⟩ (by kernel_rfl) (by kernel_rfl) (fun _ => pf_s rfl rfl rfl) (fun P_26 => ?_)
               refine sim_p 27 (v := undef) (ei := [(180, .bool true), (181, undef), (182, undef)]) (d := (some 183)) wf (by kernel_rfl) ⟨rfl, rfl, rfl, trivial⟩ (by kernel_rfl) (by kernel_rfl) (fun _ => pf_s rfl rfl rfl) (fun P_27 => ?_)
               refine sim_p 28 (v := undef) (ei := [(180, .bool true), (183, undef)]) (d := (some 184)) wf (by kernel_rfl) ⟨rfl, rfl, trivial⟩ (by kernel_rfl) (by kernel_rfl) (fun _ => pf_s rfl rfl rfl) (fun P_28 => ?_)
               refine sim_p 29 (v := undef) (ei := [(180, .bool true), (184, undef)]) (d := (some 185)) wf (by kernel_rfl) ⟨rfl, rfl, trivial⟩ (by kernel_rfl) (by kernel_rfl) (fun _ => pf_s rfl rfl rfl) (fun P_29 => ?_)
               refine sim_p 30 (v := undef) (ei := [(180, .bool true), (185, undef)]) (d := (some 186)) wf (by kernel_rfl) ⟨rfl, rfl, trivial⟩ (by kernel_rfl) (by kernel_rfl) (fun _ => pf_s rfl rfl rfl) (fun P_30 => ?_)
               refine sim_p 31 (v := undef) (ei := [(5, Slc.v p5), (180, .bool true)]) (d := (some 187)) wf (by kernel_rfl) ⟨rfl, rfl, trivial⟩ (by kernel_rfl) (by kernel_rfl) (fun _ => pf_s rfl rfl rfl) (fun P_31 => ?_)
               refine sim_p 32 (v := undef) (ei := [(14, .int .i64 t14_5), (180, .bool true)]) (d := (some 188)) wf (by kernel_rfl) ⟨rfl, rfl, trivial⟩ (by kernel_rfl) (by kernel_rfl) (fun _ => pf_s rfl rfl rfl) (fun P_32 => ?_)
               refine sim_p 33 (v := undef) (ei := [(180, .bool true), (187, undef), (188, undef)]) (d := (some 189)) wf (by kernel_rfl) ⟨rfl, rfl, rfl, trivial⟩ (by kernel_rfl) (by kernel_rfl) (fun _ => pf_s rfl rfl rfl) (fun P_33 => ?_)
               refine sim_p 34 (v := undef) (ei := [(180, .bool true), (189, undef)]) (d := (some 190)) wf (by kernel_rfl) ⟨rfl, rfl, trivial⟩ (by kernel_rfl) (by kernel_rfl) (fun _ => pf_s rfl rfl rfl) (fun P_34 => ?_)
               refine sim_p 35 (v := undef) (ei := [(180, .bool true), (190, undef)]) (d := (some 191)) wf (by kernel_rfl) ⟨rfl, rfl, trivial⟩ (by kernel_rfl) (by kernel_rfl) (fun _ => pf_s rfl rfl rfl) (fun P_35 => ?_)
               refine sim_p 36 (v := undef) (ei := [(180, .bool true), (186, undef), (191, undef)]) (d := (some 192)) wf (by kernel_rfl) ⟨rfl, rfl, rfl, trivial⟩ (by kernel_rfl) (by kernel_rfl) (fun _ => pf_s rfl rfl rfl) (fun P_36 => ?_)
               refine sim_p 37 (v := undef) (ei := [(180, .bool true), (192, undef)]) (d := (some 193)) wf (by kernel_rfl) ⟨rfl, rfl, trivial⟩ (by kernel_rfl) (by kernel_rfl) (fun _ => pf_s rfl rfl rfl) (fun P_37 => ?_)
               refine sim_p 38 (v := undef) (ei := [(17, Slc.v r25), (193, undef)]) (d := (some 194)) wf (by kernel_rfl) ⟨rfl, rfl, trivial⟩ (by kernel_rfl) (by kernel_rfl) (fun _ => pf_s rfl rfl rfl) (fun P_38 => ?_)
               refine sim_p 39 (v := undef) (ei := [(18, .int .i64 t18_7), (193, undef)]) (d := (some 195)) wf (by kernel_rfl) ⟨rfl, rfl, trivial⟩ (by kernel_rfl) (by kernel_rfl) (fun _ => pf_s rfl rfl rfl) (fun P_39 => ?_)
               refine sim_p 40 (v := undef) (ei := [(193, undef), (194, undef), (195, undef)]) (d := (some 196)) wf (by kernel_rfl) ⟨rfl, rfl, rfl, trivial⟩ (by kernel_rfl) (by kernel_rfl) (fun _ => pf_s rfl rfl rfl) (fun P_40 => ?_)
               refine sim_p 41 (v := undef) (ei := [(193, undef), (196, undef)]) (d := (some 197)) wf (by kernel_rfl) ⟨rfl, rfl, trivial⟩ (by kernel_rfl) (by kernel_rfl) (fun _ => pf_s rfl rfl rfl) (fun P_41 => ?_)
               refine sim_p 42 (v := undef) (ei := [(193, undef), (197, undef)]) (d := (some 198)) wf (by kernel_rfl) ⟨rfl, rfl, trivial⟩ (by kernel_rfl) (by kernel_rfl) (fun _ => pf_s rfl rfl rfl) (fun P_42 => ?_)
               refine sim_p 43 (v := undef) (ei := [(193, undef), (198, undef)]) (d := (some 199)) wf (by kernel_rfl) ⟨rfl, rfl, trivial⟩ (by kernel_rfl) (by kernel_rfl) (fun _ => pf_s rfl rfl rfl) (fun P_43 => ?_)
               refine sim_p 44 (v := undef) (ei := [(13, .pointer r1), (193, undef)]) (d := (some 200)) wf (by kernel_rfl) ⟨rfl, rfl, trivial⟩ (by kernel_rfl) (by kernel_rfl) (fun _ => pf_s rfl rfl rfl) (fun P_44 => ?_)
               refine sim_p 45 (v := undef) (ei := [(193, undef), (200, undef)]) (d := (some 201)) wf (by kernel_rfl) ⟨rfl, rfl, trivial⟩ (by kernel_rfl) (by kernel_rfl) (fun _ => pf_s rfl rfl rfl) (fun P_45 => ?_)
               refine sim_p 46 (v := undef) (ei := [(193, undef), (199, undef), (201, undef)]) (d := (some 202)) wf (by kernel_rfl) ⟨rfl, rfl, rfl, trivial⟩ (by kernel_rfl) (by kernel_rfl) (fun _ => pf_s rfl rfl rfl) (fun P_46 => ?_)
               refine sim_p 47 (v := undef) (ei := [(180, .bool true), (193, undef), (202, undef)]) (d := (some 203)) wf (by kernel_rfl) ⟨rfl, rfl, rfl, trivial⟩ (by kernel_rfl) (by kernel_rfl) (fun _ => pf_s rfl rfl rfl) (fun P_47 => ?_)
               refine sQ 48 [(180, .bool true), (203, undef)] (some 204) tok wf ⟨rfl, rfl, trivial⟩ (fun P_48 => ?_)
               refine sim_end wf ⟨P_48 _, P_47 _, P_46 _, P_45 _, P_44 _, P_43 _, P_42 _, P_41 _, P_40 _, P_39 _, P_38 _, P_37 _, P_36 _, P_35 _, P_34 _, P_33 _, P_32 _, P_31 _, P_30 _, P_29 _, P_28 _, P_27 _, P_26 _, P_25 _, P_24 _, P_23 _, P_22 _, P_21 _, P_20 _, P_19 _, P_18 _, P_17 _, P_16 _, P_15 _, P_14 _, P_13 _, P_12 _, P_11, P_10 _, P_9 _, P_8 _, P_7 _, P_6 _, P_5 _, P_4, P_3 _, P_2 _, P_1 _, P_0 _, trivial⟩ (by kernel_rfl) ?_
               clear wf P_0 P_1 P_10 P_11 P_12 P_13 P_14 P_15 P_16 P_17 P_18 P_19 P_2 P_20 P_21 P_22 P_23 P_24 P_25 P_26 P_27 P_28 P_29 P_3 P_30 P_31 P_32 P_33 P_34 P_35 P_36 P_37 P_38 P_39 P_4 P_40 P_41 P_42 P_43 P_44 P_45 P_46 P_47 P_48 P_5 P_6 P_7 P_8 P_9
               exact x_join true H ⟨rfl, rfl, rfl, rfl, rfl, rfl, rfl, rfl, rfl, rfl, rfl, trivial⟩
              ·
               refine sQ 25 [(17, Slc.v r25), (180, .bool false)] (some 181) tok wf ⟨rfl, rfl, trivial⟩ (fun P_25 => ?_)
               refine sQ 26 [(18, .int .i64 t18_7), (180, .bool false)] (some 182) tok wf ⟨rfl, rfl, trivial⟩ (fun P_26 => ?_)
               obtain ⟨a52, ha52, la52, ua52, H⟩ := H
               refine sP 27 [(180, .bool false), (181, Slc.v r25), (182, .int .i64 t18_7)] (some 183) wf ⟨rfl, rfl, rfl, trivial⟩ (fun _ => pf_y rfl rfl rfl (y_ixa' tok rfl rfl ha52 rfl rfl rfl la52 ua52)) (fun P_27 => ?_)
               refine sQ 28 [(180, .bool false), (183, .pointer (some (a52.add (t18_7.toNat * 9))))] (some 184) tok wf ⟨rfl, rfl, trivial⟩ (fun P_28 => ?_)
               refine sQ 29 [(180, .bool false), (184, .pointer (some ((a52.add (t18_7.toNat * 9)).add 1)))] (some 185) tok wf ⟨rfl, rfl, trivial⟩ (fun P_29 => ?_)
               obtain ⟨v53, hv53, H⟩ := H
               refine sL 30 [(180, .bool false), (185, .pointer (some (((a52.add (t18_7.toNat * 9)).add 1).add 1)))] (some 186) wf ⟨rfl, rfl, trivial⟩ (pf_y rfl rfl rfl (y_ld tok rfl rfl rfl rfl hv53)) (fun P_30 => ?_)
               refine sQ 31 [(5, Slc.v p5), (180, .bool false)] (some 187) tok wf ⟨rfl, rfl, trivial⟩ (fun P_31 => ?_)
               refine sQ 32 [(14, .int .i64 t14_5), (180, .bool false)] (some 188) tok wf ⟨rfl, rfl, trivial⟩ (fun P_32 => ?_)
               obtain ⟨a54, ha54, la54, ua54, H⟩ := H
               refine sP 33 [(180, .bool false), (187, Slc.v p5), (188, .int .i64 t14_5)] (some 189) wf ⟨rfl, rfl, rfl, trivial⟩ (fun _ => pf_y rfl rfl rfl (y_ixa' tok rfl rfl ha54 rfl rfl rfl la54 ua54)) (fun P_33 => ?_)
               refine sQ 34 [(180, .bool false), (189, .pointer (some (a54.add (t14_5.toNat * 8))))] (some 190) tok wf ⟨rfl, rfl, trivial⟩ (fun P_34 => ?_)
               obtain ⟨v55, hv55, H⟩ := H
               refine sL 35 [(180, .bool false), (190, .pointer (some ((a54.add (t14_5.toNat * 8)).add 1)))] (some 191) wf ⟨rfl, rfl, trivial⟩ (pf_y rfl rfl rfl (y_ld tok rfl rfl rfl rfl hv55)) (fun P_35 => ?_)
               refine sQ 36 [(180, .bool false), (186, .int .u64 v53), (191, .int .u64 v55)] (some 192) tok wf ⟨rfl, rfl, rfl, trivial⟩ (fun P_36 => ?_)
               refine sQ 37 [(180, .bool false), (192, .bool (decide (v53 < v55)))] (some 193) tok wf ⟨rfl, rfl, trivial⟩ (fun P_37 => ?_)
               refine sim_gif 193 H rfl (fun hb H => ?_) (fun hb H => ?_)
               ·
                refine sQ 38 [(17, Slc.v r25), (193, .bool true)] (some 194) tok wf ⟨rfl, rfl, trivial⟩ (fun P_38 => ?_)
                refine sQ 39 [(18, .int .i64 t18_7), (193, .bool true)] (some 195) tok wf ⟨rfl, rfl, trivial⟩ (fun P_39 => ?_)
                obtain ⟨a56, ha56, la56, ua56, H⟩ := H
                refine sP 40 [(193, .bool true), (194, Slc.v r25), (195, .int .i64 t18_7)] (some 196) wf ⟨rfl, rfl, rfl, trivial⟩ (fun _ => pf_y rfl rfl rfl (y_ixa' tok rfl rfl ha56 rfl rfl rfl la56 ua56)) (fun P_40 => ?_)
                refine sQ 41 [(193, .bool true), (196, .pointer (some (a56.add (t18_7.toNat * 9))))] (some 197) tok wf ⟨rfl, rfl, trivial⟩ (fun P_41 => ?_)
                refine sQ 42 [(193, .bool true), (197, .pointer (some ((a56.add (t18_7.toNat * 9)).add 1)))] (some 198) tok wf ⟨rfl, rfl, trivial⟩ (fun P_42 => ?_)
                obtain ⟨v57, hv57, H⟩ := H
                refine sL 43 [(193, .bool true), (198, .pointer (some (((a56.add (t18_7.toNat * 9)).add 1).add 1)))] (some 199) wf ⟨rfl, rfl, trivial⟩ (pf_y rfl rfl rfl (y_ld tok rfl rfl rfl rfl hv57)) (fun P_43 => ?_)
                refine sQ 44 [(13, .pointer r1), (193, .bool true)] (some 200) tok wf ⟨rfl, rfl, trivial⟩ (fun P_44 => ?_)
                refine sim_c 45 [0, 1, 2, 3, 4, 5, 6, 7, 8, 9, 10, 11, 12, 13, 14, 15, 16, 17, 18, 19, 20, 21, 22, 23, 24, 25, 26, 27, 28, 29, 30, 31, 32, 33, 34, 35, 36, 37, 44] [0, 1, 2, 3, 4, 5, 6, 7, 8, 9, 10, 11, 12, 13, 14, 15, 16, 17, 18, 19, 20, 21, 22, 23, 24, 25, 26, 27, 28, 29, 30, 31, 32, 33, 34, 35, 36, 37, 44] (ei := [(193, .bool true), (200, .pointer r1)]) raft_Raft_Term_ok (raft_Raft_Term_ref _ _ _ H) wf ⟨P_44 _, P_43, P_42 _, P_41 _, P_40 _, P_39 _, P_38 _, P_37 _, P_36 _, P_35, P_34 _, P_33 _, P_32 _, P_31 _, P_30, P_29 _, P_28 _, P_27 _, P_26 _, P_25 _, P_24 _, P_23 _, P_22 _, P_21 _, P_20 _, P_19 _, P_18 _, P_17 _, P_16 _, P_15 _, P_14 _, P_13 _, P_12 _, P_11, P_10 _, P_9 _, P_8 _, P_7 _, P_6 _, P_5 _, P_4, P_3 _, P_2 _, P_1 _, P_0 _, trivial⟩ (by kernel_rfl) ⟨rfl, rfl, trivial⟩ (by kernel_rfl) rfl rfl rfl rfl rfl ?_
                rintro _ h59 ⟨r58, rfl, H⟩
                obtain ⟨hy60, H⟩ := H
                refine sim_re (x := ⟨43, .int .u64 v57, [(193, .bool true), (198, .pointer (some (((a56.add (t18_7.toNat * 9)).add 1).add 1)))]⟩) (pf_y rfl rfl rfl (y_ld tok rfl rfl rfl rfl hy60)) (fun P_43 => ?_)
                refine sQ 46 [(193, .bool true), (199, .int .u64 v57), (201, .int .u64 r58)] (some 202) tok wf ⟨rfl, rfl, rfl, trivial⟩ (fun P_46 => ?_)
                refine sQ 47 [(180, .bool false), (193, .bool true), (202, .bool (decide (v57 < r58)))] (some 203) tok wf ⟨rfl, rfl, rfl, trivial⟩ (fun P_47 => ?_)
                refine sQ 48 [(180, .bool false), (203, .bool (decide (v57 < r58)))] (some 204) tok wf ⟨rfl, rfl, trivial⟩ (fun P_48 => ?_)
                refine sim_end wf ⟨P_48 _, P_47 _, P_46 _, trivial, P_43, P_42 _, P_41 _, P_40 _, P_39 _, P_38 _, trivial, trivial, trivial, trivial, trivial, trivial, trivial, trivial, trivial, trivial, trivial, trivial, trivial, trivial, trivial, trivial, trivial, trivial, trivial, trivial, trivial, trivial, trivial, trivial, trivial, trivial, trivial, trivial, trivial, trivial, trivial, trivial, trivial, trivial, trivial, trivial, trivial, trivial, trivial⟩ (by kernel_rfl) ?_
                clear wf P_0 P_1 P_10 P_11 P_12 P_13 P_14 P_15 P_16 P_17 P_18 P_19 P_2 P_20 P_21 P_22 P_23 P_24 P_25 P_26 P_27 P_28 P_29 P_3 P_30 P_31 P_32 P_33 P_34 P_35 P_36 P_37 P_38 P_39 P_4 P_40 P_41 P_42 P_43 P_44 P_46 P_47 P_48 P_5 P_6 P_7 P_8 P_9
                exact x_join (decide (v57 < r58)) H ⟨rfl, rfl, rfl, rfl, rfl, rfl, rfl, rfl, rfl, rfl, rfl, trivial⟩
               ·
                refine sim_p 38 (v := undef) (ei := [(17, Slc.v r25), (193, .bool false)]) (d := (some 194)) wf (by kernel_rfl) ⟨rfl, rfl, trivial⟩ (by kernel_rfl) (by kernel_rfl) (fun _ => pf_s rfl rfl rfl) (fun P_38 => ?_)
                refine sim_p 39 (v := undef) (ei := [(18, .int .i64 t18_7), (193, .bool false)]) (d := (some 195)) wf (by kernel_rfl) ⟨rfl, rfl, trivial⟩ (by kernel_rfl) (by kernel_rfl) (fun _ => pf_s rfl rfl rfl) (fun P_39 => ?_)
                refine sim_p 40 (v := undef) (ei := [(193, .bool false), (194, undef), (195, undef)]) (d := (some 196)) wf (by kernel_rfl) ⟨rfl, rfl, rfl, trivial⟩ (by kernel_rfl) (by kernel_rfl) (fun _ => pf_s rfl rfl rfl) (fun P_40 => ?_)
                refine sim_p 41 (v := undef) (ei := [(193, .bool false), (196, undef)]) (d := (some 197)) wf (by kernel_rfl) ⟨rfl, rfl, trivial⟩ (by kernel_rfl) (by kernel_rfl) (fun _ => pf_s rfl rfl rfl) (fun P_41 => ?_)
                refine sim_p 42 (v := undef) (ei := [(193, .bool false), (197, undef)]) (d := (some 198)) wf (by kernel_rfl) ⟨rfl, rfl, trivial⟩ (by kernel_rfl) (by kernel_rfl) (fun _ => pf_s rfl rfl rfl) (fun P_42 => ?_)
                refine sim_p 43 (v := undef) (ei := [(193, .bool false), (198, undef)]) (d := (some 199)) wf (by kernel_rfl) ⟨rfl, rfl, trivial⟩ (by kernel_rfl) (by kernel_rfl) (fun _ => pf_s rfl rfl rfl) (fun P_43 => ?_)
                refine sim_p 44 (v := undef) (ei := [(13, .pointer r1), (193, .bool false)]) (d := (some 200)) wf (by kernel_rfl) ⟨rfl, rfl, trivial⟩ (by kernel_rfl) (by kernel_rfl) (fun _ => pf_s rfl rfl rfl) (fun P_44 => ?_)
                refine sim_p 45 (v := undef) (ei := [(193, .bool false), (200, undef)]) (d := (some 201)) wf (by kernel_rfl) ⟨rfl, rfl, trivial⟩ (by kernel_rfl) (by kernel_rfl) (fun _ => pf_s rfl rfl rfl) (fun P_45 => ?_)
                refine sim_p 46 (v := undef) (ei := [(193, .bool false), (199, undef), (201, undef)]) (d := (some 202)) wf (by kernel_rfl) ⟨rfl, rfl, rfl, trivial⟩ (by kernel_rfl) (by kernel_rfl) (fun _ => pf_s rfl rfl rfl) (fun P_46 => ?_)
                refine sQ 47 [(180, .bool false), (193, .bool false), (202, undef)] (some 203) tok wf ⟨rfl, rfl, rfl, trivial⟩ (fun P_47 => ?_)
                refine sQ 48 [(180, .bool false), (203, .bool false)] (some 204) tok wf ⟨rfl, rfl, trivial⟩ (fun P_48 => ?_)
                refine sim_end wf ⟨P_48 _, P_47 _, P_46 _, P_45 _, P_44 _, P_43 _, P_42 _, P_41 _, P_40 _, P_39 _, P_38 _, P_37 _, P_36 _, P_35, P_34 _, P_33 _, P_32 _, P_31 _, P_30, P_29 _, P_28 _, P_27 _, P_26 _, P_25 _, P_24 _, P_23 _, P_22 _, P_21 _, P_20 _, P_19 _, P_18 _, P_17 _, P_16 _, P_15 _, P_14 _, P_13 _, P_12 _, P_11, P_10 _, P_9 _, P_8 _, P_7 _, P_6 _, P_5 _, P_4, P_3 _, P_2 _, P_1 _, P_0 _, trivial⟩ (by kernel_rfl) ?_
                clear wf P_0 P_1 P_10 P_11 P_12 P_13 P_14 P_15 P_16 P_17 P_18 P_19 P_2 P_20 P_21 P_22 P_23 P_24 P_25 P_26 P_27 P_28 P_29 P_3 P_30 P_31 P_32 P_33 P_34 P_35 P_36 P_37 P_38 P_39 P_4 P_40 P_41 P_42 P_43 P_44 P_45 P_46 P_47 P_48 P_5 P_6 P_7 P_8 P_9
                exact x_join false H ⟨rfl, rfl, rfl, rfl, rfl, rfl, rfl, rfl, rfl, rfl, rfl, trivial⟩
             ·
              refine sQ 16 [(17, Slc.v r25), (171, .bool false)] (some 172) tok wf ⟨rfl, rfl, trivial⟩ (fun P_16 => ?_)
              refine sQ 17 [(18, .int .i64 t18_7), (171, .bool false)] (some 173) tok wf ⟨rfl, rfl, trivial⟩ (fun P_17 => ?_)
              obtain ⟨a61, ha61, la61, ua61, H⟩ := H
              refine sP 18 [(171, .bool false), (172, Slc.v r25), (173, .int .i64 t18_7)] (some 174) wf ⟨rfl, rfl, rfl, trivial⟩ (fun _ => pf_y rfl rfl rfl (y_ixa' tok rfl rfl ha61 rfl rfl rfl la61 ua61)) (fun P_18 => ?_)
              refine sQ 19 [(171, .bool false), (174, .pointer (some (a61.add (t18_7.toNat * 9))))] (some 175) tok wf ⟨rfl, rfl, trivial⟩ (fun P_19 => ?_)
              obtain ⟨v62, hv62, H⟩ := H
              refine sL 20 [(171, .bool false), (175, .pointer (some (a61.add (t18_7.toNat * 9))))] (some 176) wf ⟨rfl, rfl, trivial⟩ (pf_y rfl rfl rfl (y_ld tok rfl rfl rfl rfl hv62)) (fun P_20 => ?_)
              refine sQ 21 [(0, .int .i64 p0), (171, .bool false)] (some 177) tok wf ⟨rfl, rfl, trivial⟩ (fun P_21 => ?_)
              refine sQ 22 [(171, .bool false), (176, .int .i64 v62), (177, .int .i64 p0)] (some 178) tok wf ⟨rfl, rfl, rfl, trivial⟩ (fun P_22 => ?_)
              refine sQ 23 [(171, .bool false), (178, .bool (v62 == p0))] (some 179) tok wf ⟨rfl, rfl, trivial⟩ (fun P_23 => ?_)
              refine sQ 24 [(179, .bool (v62 == p0))] (some 180) tok wf ⟨rfl, trivial⟩ (fun P_24 => ?_)
              refine sim_gif 180 H rfl (fun hb H => ?_) (fun hb H => ?_)
              ·
               refine sim_p 25 (v := undef) (ei := [(17, Slc.v r25), (180, .bool true)]) (d := (some 181)) wf (by kernel_rfl) ⟨rfl, rfl, trivial⟩ (by kernel_rfl) (by kernel_rfl) (fun _ => pf_s rfl rfl rfl) (fun P_25 => ?_)
               refine sim_p 26 (v := undef) (ei := [(18, .int .i64 t18_7), (180, .bool true)]) (d := (some 182)) wf (by kernel_rfl) ⟨rfl, rfl, trivial⟩ (by kernel_rfl) (by kernel_rfl) (fun _ => pf_s rfl rfl rfl) (fun P_26 => ?_)
               refine sim_p 27 (v := undef) (ei := [(180, .bool true), (181, undef), (182, undef)]) (d := (some 183)) wf (by kernel_rfl) ⟨rfl, rfl, rfl, trivial⟩ (by kernel_rfl) (by kernel_rfl) (fun _ => pf_s rfl rfl rfl) (fun P_27 => ?_)
               refine sim_p 28 (v := undef) (ei := [(180, .bool true), (183, undef)]) (d := (some 184)) wf (by kernel_rfl) ⟨rfl, rfl, trivial⟩ (by kernel_rfl) (by kernel_rfl) (fun _ => pf_s rfl rfl rfl) (fun P_28 => ?_)
               refine sim_p 29 (v := undef) (ei := [(180, .bool true), (184, undef)]) (d := (some 185)) wf (by kernel_rfl) ⟨rfl, rfl, trivial⟩ (by kernel_rfl) (by kernel_rfl) (fun _ => pf_s rfl rfl rfl) (fun P_29 => ?_)
               refine sim_p 30 (v := undef) (ei := [(180, .bool true), (185, undef)]) (d := (some 186)) wf (by kernel_rfl) ⟨rfl, rfl, trivial⟩ (by kernel_rfl) (by kernel_rfl) (fun _ => pf_s rfl rfl rfl) (fun P_30 => ?_)
               refine sim_p 31 (v := undef) (ei := [(5, Slc.v p5), (180, .bool true)]) (d := (some 187)) wf (by kernel_rfl) ⟨rfl, rfl, trivial⟩ (by kernel_rfl) (by kernel_rfl) (fun _ => pf_s rfl rfl rfl) (fun P_31 => ?_)
               refine sim_p 32 (v := undef) (ei := [(14, .int .i64 t14_5), (180, .bool true)]) (d := (some 188)) wf (by kernel_rfl) ⟨rfl, rfl, trivial⟩ (by kernel_rfl) (by kernel_rfl) (fun _ => pf_s rfl rfl rfl) (fun P_32 => ?_)
               refine sim_p 33 (v := undef) (ei := [(180, .bool true), (187, undef), (188, undef)]) (d := (some 189)) wf (by kernel_rfl) ⟨rfl, rfl, rfl, trivial⟩ (by kernel_rfl) (by kernel_rfl) (fun _ => pf_s rfl rfl rfl) (fun P_33 => ?_)
               refine sim_p 34 (v := undef) (ei := [(180, .bool true), (189, undef)]) (d := (some 190)) wf (by kernel_rfl) ⟨rfl, rfl, trivial⟩ (by kernel_rfl) (by kernel_rfl) (fun _ => pf_s rfl rfl rfl) (fun P_34 => ?_)
               refine sim_p 35 (v := undef) (ei := [(180, .bool true), (190, undef)]) (d := (some 191)) wf (by kernel_rfl) ⟨rfl, rfl, trivial⟩ (by kernel_rfl) (by kernel_rfl) (fun _ => pf_s rfl rfl rfl) (fun P_35 => ?_)
               refine sim_p 36 (v := undef) (ei := [(180, .bool true), (186, undef), (191, undef)]) (d := (some 192)) wf (by kernel_rfl) ⟨rfl, rfl, rfl, trivial⟩ (by kernel_rfl) (by kernel_rfl) (fun _ => pf_s rfl rfl rfl) (fun P_36 => ?_)
               refine sim_p 37 (v := undef) (ei := [(180, .bool true), (192, undef)]) (d := (some 193)) wf (by kernel_rfl) ⟨rfl, rfl, trivial⟩ (by kernel_rfl) (by kernel_rfl) (fun _ => pf_s rfl rfl rfl) (fun P_37 => ?_)
               refine sim_p 38 (v := undef) (ei := [(17, Slc.v r25), (193, undef)]) (d := (some 194)) wf (by kernel_rfl) ⟨rfl, rfl, trivial⟩ (by kernel_rfl) (by kernel_rfl) (fun _ => pf_s rfl rfl rfl) (fun P_38 => ?_)
               refine sim_p 39 (v := undef) (ei := [(18, .int .i64 t18_7), (193, undef)]) (d := (some 195)) wf (by kernel_rfl) ⟨rfl, rfl, trivial⟩ (by kernel_rfl) (by kernel_rfl) (fun _ => pf_s rfl rfl rfl) (fun P_39 => ?_)
               refine sim_p 40 (v := undef) (ei := [(193, undef), (194, undef), (195, undef)]) (d := (some 196)) wf (by kernel_rfl) ⟨rfl, rfl, rfl, trivial⟩ (by kernel_rfl) (by kernel_rfl) (fun _ => pf_s rfl rfl rfl) (fun P_40 => ?_)
               refine sim_p 41 (v := undef) (ei := [(193, undef), (196, undef)]) (d := (some 197)) wf (by kernel_rfl) ⟨rfl, rfl, trivial⟩ (by kernel_rfl) (by kernel_rfl) (fun _ => pf_s rfl rfl rfl) (fun P_41 => ?_)
               refine sim_p 42 (v := undef) (ei := [(193, undef), (197, undef)]) (d := (some 198)) wf (by kernel_rfl) ⟨rfl, rfl, trivial⟩ (by kernel_rfl) (by kernel_rfl) (fun _ => pf_s rfl rfl rfl) (fun P_42 => ?_)
               refine sim_p 43 (v := undef) (ei := [(193, undef), (198, undef)]) (d := (some 199)) wf (by kernel_rfl) ⟨rfl, rfl, trivial⟩ (by kernel_rfl) (by kernel_rfl) (fun _ => pf_s rfl rfl rfl) (fun P_43 => ?_)
               refine sim_p 44 (v := undef) (ei := [(13, .pointer r1), (193, undef)]) (d := (some 200)) wf (by kernel_rfl) ⟨rfl, rfl, trivial⟩ (by kernel_rfl) (by kernel_rfl) (fun _ => pf_s rfl rfl rfl) (fun P_44 => ?_)
               refine sim_p 45 (v := undef) (ei := [(193, undef), (200, undef)]) (d := (some 201)) wf (by kernel_rfl) ⟨rfl, rfl, trivial⟩ (by kernel_rfl) (by kernel_rfl) (fun _ => pf_s rfl rfl rfl) (fun P_45 => ?_)
               refine sim_p 46 (v := undef) (ei := [(193, undef), (199, undef), (201, undef)]) (d := (some 202)) wf (by kernel_rfl) ⟨rfl, rfl, rfl, trivial⟩ (by kernel_rfl) (by kernel_rfl) (fun _ => pf_s rfl rfl rfl) (fun P_46 => ?_)
               refine sim_p 47 (v := undef) (ei := [(180, .bool true), (193, undef), (202, undef)]) (d := (some 203)) wf (by kernel_rfl) ⟨rfl, rfl, rfl, trivial⟩ (by kernel_rfl) (by kernel_rfl) (fun _ => pf_s rfl rfl rfl) (fun P_47 => ?_)
               refine sQ 48 [(180, .bool true), (203, undef)] (some 204) tok wf ⟨rfl, rfl, trivial⟩ (fun P_48 => ?_)
               refine sim_end wf ⟨P_48 _, P_47 _, P_46 _, P_45 _, P_44 _, P_43 _, P_42 _, P_41 _, P_40 _, P_39 _, P_38 _, P_37 _, P_36 _, P_35 _, P_34 _, P_33 _, P_32 _, P_31 _, P_30 _, P_29 _, P_28 _, P_27 _, P_26 _, P_25 _, P_24 _, P_23 _, P_22 _, P_21 _, P_20, P_19 _, P_18 _, P_17 _, P_16 _, P_15 _, P_14 _, P_13 _, P_12 _, P_11, P_10 _, P_9 _, P_8 _, P_7 _, P_6 _, P_5 _, P_4, P_3 _, P_2 _, P_1 _, P_0 _, trivial⟩ (by kernel_rfl) ?_
               clear wf P_0 P_1 P_10 P_11 P_12 P_13 P_14 P_15 P_16 P_17 P_18 P_19 P_2 P_20 P_21 P_22 P_23 P_24 P_25 P_26 P_27 P_28 P_29 P_3 P_30 P_31 P_32 P_33 P_34 P_35 P_36 P_37 P_38 P_39 P_4 P_40 P_41 P_42 P_43 P_44 P_45 P_46 P_47 P_48 P_5 P_6 P_7 P_8 P_9
               exact x_join true H ⟨rfl, rfl, rfl, rfl, rfl, rfl, rfl, rfl, rfl, rfl, rfl, trivial⟩
              ·
               refine sQ 25 [(17, Slc.v r25), (180, .bool false)] (some 181) tok wf ⟨rfl, rfl, trivial⟩ (fun P_25 => ?_)
               refine sQ 26 [(18, .int .i64 t18_7), (180, .bool false)] (some 182) tok wf ⟨rfl, rfl, trivial⟩ (fun P_26 => ?_)
               obtain ⟨a63, ha63, la63, ua63, H⟩ := H
               refine sP 27 [(180, .bool false), (181, Slc.v r25), (182, .int .i64 t18_7)] (some 183) wf ⟨rfl, rfl, rfl, trivial⟩ (fun _ => pf_y rfl rfl rfl (y_ixa' tok rfl rfl ha63 rfl rfl rfl la63 ua63)) (fun P_27 => ?_)
               refine sQ 28 [(180, .bool false), (183, .pointer (some (a63.add (t18_7.toNat * 9))))] (some 184) tok wf ⟨rfl, rfl, trivial⟩ (fun P_28 => ?_)
               refine sQ 29 [(180, .bool false), (184, .pointer (some ((a63.add (t18_7.toNat * 9)).add 1)))] (some 185) tok wf ⟨rfl, rfl, trivial⟩ (fun P_29 => ?_)
               obtain ⟨v64, hv64, H⟩ := H
               refine sL 30 [(180, .bool false), (185, .pointer (some (((a63.add (t18_7.toNat * 9)).add 1).add 1)))] (some 186) wf ⟨rfl, rfl, trivial⟩ (pf_y rfl rfl rfl (y_ld tok rfl rfl rfl rfl hv64)) (fun P_30 => ?_)
               refine sQ 31 [(5, Slc.v p5), (180, .bool false)] (some 187) tok wf ⟨rfl, rfl, trivial⟩ (fun P_31 => ?_)
               refine sQ 32 [(14, .int .i64 t14_5), (180, .bool false)] (some 188) tok wf ⟨rfl, rfl, trivial⟩ (fun P_32 => ?_)
               obtain ⟨a65, ha65, la65, ua65, H⟩ := H
               refine sP 33 [(180, .bool false), (187, Slc.v p5), (188, .int .i64 t14_5)] (some 189) wf ⟨rfl, rfl, rfl, trivial⟩ (fun _ => pf_y rfl rfl rfl (y_ixa' tok rfl rfl ha65 rfl rfl rfl la65 ua65)) (fun P_33 => ?_)
               refine sQ 34 [(180, .bool false), (189, .pointer (some (a65.add (t14_5.toNat * 8))))] (some 190) tok wf ⟨rfl, rfl, trivial⟩ (fun P_34 => ?_)
               obtain ⟨v66, hv66, H⟩ := H
               refine sL 35 [(180, .bool false), (190, .pointer (some ((a65.add (t14_5.toNat * 8)).add 1)))] (some 191) wf ⟨rfl, rfl, trivial⟩ (pf_y rfl rfl rfl (y_ld tok rfl rfl rfl rfl hv66)) (fun P_35 => ?_)
               refine sQ 36 [(180, .bool false), (186, .int .u64 v64), (191, .int .u64 v66)] (some 192) tok wf ⟨rfl, rfl, rfl, trivial⟩ (fun P_36 => ?_)
               refine sQ 37 [(180, .bool false), (192, .bool (decide (v64 < v66)))] (some 193) tok wf ⟨rfl, rfl, trivial⟩ (fun P_37 => ?_)
               refine sim_gif 193 H rfl (fun hb H => ?_) (fun hb H => ?_)
               ·
                refine sQ 38 [(17, Slc.v r25), (193, .bool true)] (some 194) tok wf ⟨rfl, rfl, trivial⟩ (fun P_38 => ?_)
                refine sQ 39 [(18, .int .i64 t18_7), (193, .bool true)] (some 195) tok wf ⟨rfl, rfl, trivial⟩ (fun P_39 => ?_)
                obtain ⟨a67, ha67, la67, ua67, H⟩ := H
                refine sP 40 [(193, .bool true), (194, Slc.v r25), (195, .int .i64 t18_7)] (some 196) wf ⟨rfl, rfl, rfl, trivial⟩ (fun _ => pf_y rfl rfl rfl (y_ixa' tok rfl rfl ha67 rfl rfl rfl la67 ua67)) (fun P_40 => ?_)
                refine sQ 41 [(193, .bool true), (196, .pointer (some (a67.add (t18_7.toNat * 9))))] (some 197) tok wf ⟨rfl, rfl, trivial⟩ (fun P_41 => ?_)
                refine sQ 42 [(193, .bool true), (197, .pointer (some ((a67.add (t18_7.toNat * 9)).add 1)))] (some 198) tok wf ⟨rfl, rfl, trivial⟩ (fun P_42 => ?_)
                obtain ⟨v68, hv68, H⟩ := H
                refine sL 43 [(193, .bool true), (198, .pointer (some (((a67.add (t18_7.toNat * 9)).add 1).add 1)))] (some 199) wf ⟨rfl, rfl, trivial⟩ (pf_y rfl rfl rfl (y_ld tok rfl rfl rfl rfl hv68)) (fun P_43 => ?_)
                refine sQ 44 [(13, .pointer r1), (193, .bool true)] (some 200) tok wf ⟨rfl, rfl, trivial⟩ (fun P_44 => ?_)
                refine sim_c 45 [0, 1, 2, 3, 4, 5, 6, 7, 8, 9, 10, 11, 12, 13, 14, 15, 16, 17, 18, 19, 20, 21, 22, 23, 24, 25, 26, 27, 28, 29, 30, 31, 32, 33, 34, 35, 36, 37, 44] [0, 1, 2, 3, 4, 5, 6, 7, 8, 9, 10, 11, 12, 13, 14, 15, 16, 17, 18, 19, 20, 21, 22, 23, 24, 25, 26, 27, 28, 29, 30, 31, 32, 33, 34, 35, 36, 37, 44] (ei := [(193, .bool true), (200, .pointer r1)]) raft_Raft_Term_ok (raft_Raft_Term_ref _ _ _ H) wf ⟨P_44 _, P_43, P_42 _, P_41 _, P_40 _, P_39 _, P_38 _, P_37 _, P_36 _, P_35, P_34 _, P_33 _, P_32 _, P_31 _, P_30, P_29 _, P_28 _, P_27 _, P_26 _, P_25 _, P_24 _, P_23 _, P_22 _, P_21 _, P_20, P_19 _, P_18 _, P_17 _, P_16 _, P_15 _, P_14 _, P_13 _, P_12 _, P_11, P_10 _, P_9 _, P_8 _, P_7 _, P_6 _, P_5 _, P_4, P_3 _, P_2 _, P_1 _, P_0 _, trivial⟩ (by kernel_rfl) ⟨rfl, rfl, trivial⟩ (by kernel_rfl) rfl rfl rfl rfl rfl ?_
                rintro _ h70 ⟨r69, rfl, H⟩
                obtain ⟨hy71, H⟩ := H
                refine sim_re (x := ⟨43, .int .u64 v68, [(193, .bool true), (198, .pointer (some (((a67.add (t18_7.toNat * 9)).add 1).add 1)))]⟩) (pf_y rfl rfl rfl (y_ld tok rfl rfl rfl rfl hy71)) (fun P_43 => ?_)
                refine sQ 46 [(193, .bool true), (199, .int .u64 v68), (201, .int .u64 r69)] (some 202) tok wf ⟨rfl, rfl, rfl, trivial⟩ (fun P_46 => ?_)
                refine sQ 47 [(180, .bool false), (193, .bool true), (202, .bool (decide (v68 < r69)))] (some 203) tok wf ⟨rfl, rfl, rfl, trivial⟩ (fun P_47 => ?_)
                refine sQ 48 [(180, .bool false), (203, .bool (decide (v68 < r69)))] (some 204) tok wf ⟨rfl, rfl, trivial⟩ (fun P_48 => ?_)
                refine sim_end wf ⟨P_48 _, P_47 _, P_46 _, trivial, P_43, P_42 _, P_41 _, P_40 _, P_39 _, P_38 _, trivial, trivial, trivial, trivial, trivial, trivial, trivial, trivial, trivial, trivial, trivial, trivial, trivial, trivial, trivial, trivial, trivial, trivial, trivial, trivial, trivial, trivial, trivial, trivial, trivial, trivial, trivial, trivial, trivial, trivial, trivial, trivial, trivial, trivial, trivial, trivial, trivial, trivial, trivial⟩ (by kernel_rfl) ?_
                clear wf P_0 P_1 P_10 P_11 P_12 P_13 P_14 P_15 P_16 P_17 P_18 P_19 P_2 P_20 P_21 P_22 P_23 P_24 P_25 P_26 P_27 P_28 P_29 P_3 P_30 P_31 P_32 P_33 P_34 P_35 P_36 P_37 P_38 P_39 P_4 P_40 P_41 P_42 P_43 P_44 P_46 P_47 P_48 P_5 P_6 P_7 P_8 P_9
                exact x_join (decide (v68 < r69)) H ⟨rfl, rfl, rfl, rfl, rfl, rfl, rfl, rfl, rfl, rfl, rfl, trivial⟩
               ·
                refine sim_p 38 (v := undef) (ei := [(17, Slc.v r25), (193, .bool false)]) (d := (some 194)) wf (by kernel_rfl) ⟨rfl, rfl, trivial⟩ (by kernel_rfl) (by kernel_rfl) (fun _ => pf_s rfl rfl rfl) (fun P_38 => ?_)
                refine sim_p 39 (v := undef) (ei := [(18, .int .i64 t18_7), (193, .bool false)]) (d := (some 195)) wf (by kernel_rfl) ⟨rfl, rfl, trivial⟩ (by kernel_rfl) (by kernel_rfl) (fun _ => pf_s rfl rfl rfl) (fun P_39 => ?_)
                refine sim_p 40 (v := undef) (ei := [(193, .bool false), (194, undef), (195, undef)]) (d := (some 196)) wf (by kernel_rfl) ⟨rfl, rfl, rfl, trivial⟩ (by kernel_rfl) (by kernel_rfl) (fun _ => pf_s rfl rfl rfl) (fun P_40 => ?_)
                refine sim_p 41 (v := undef) (ei := [(193, .bool false), (196, undef)]) (d := (some 197)) wf (by kernel_rfl) ⟨rfl, rfl, trivial⟩ (by kernel_rfl) (by kernel_rfl) (fun _ => pf_s rfl rfl rfl) (fun P_41 => ?_)
                refine sim_p 42 (v := undef) (ei := [(193, .bool false), (197, undef)]) (d := (some 198)) wf (by kernel_rfl) ⟨rfl, rfl, trivial⟩ (by kernel_rfl) (by kernel_rfl) (fun _ => pf_s rfl rfl rfl) (fun P_42 => ?_)
                refine sim_p 43 (v := undef) (ei := [(193, .bool false), (198, undef)]) (d := (some 199)) wf (by kernel_rfl) ⟨rfl, rfl, trivial⟩ (by kernel_rfl) (by kernel_rfl) (fun _ => pf_s rfl rfl rfl) (fun P_43 => ?_)
                refine sim_p 44 (v := undef) (ei := [(13, .pointer r1), (193, .bool false)]) (d := (some 200)) wf (by kernel_rfl) ⟨rfl, rfl, trivial⟩ (by kernel_rfl) (by kernel_rfl) (fun _ => pf_s rfl rfl rfl) (fun P_44 => ?_)
                refine sim_p 45 (v := undef) (ei := [(193, .bool false), (200, undef)]) (d := (some 201)) wf (by kernel_rfl) ⟨rfl, rfl, trivial⟩ (by kernel_rfl) (by kernel_rfl) (fun _ => pf_s rfl rfl rfl) (fun P_45 => ?_)
                refine sim_p 46 (v := undef) (ei := [(193, .bool false), (199, undef), (201, undef)]) (d := (some 202)) wf (by kernel_rfl) ⟨rfl, rfl, rfl, trivial⟩ (by kernel_rfl) (by kernel_rfl) (fun _ => pf_s rfl rfl rfl) (fun P_46 => ?_)
                refine sQ 47 [(180, .bool false), (193, .bool false), (202, undef)] (some 203) tok wf ⟨rfl, rfl, rfl, trivial⟩ (fun P_47 => ?_)
                refine sQ 48 [(180, .bool false), (203, .bool false)] (some 204) tok wf ⟨rfl, rfl, trivial⟩ (fun P_48 => ?_)
                refine sim_end wf ⟨P_48 _, P_47 _, P_46 _, P_45 _, P_44 _, P_43 _, P_42 _, P_41 _, P_40 _, P_39 _, P_38 _, P_37 _, P_36 _, P_35, P_34 _, P_33 _, P_32 _, P_31 _, P_30, P_29 _, P_28 _, P_27 _, P_26 _, P_25 _, P_24 _, P_23 _, P_22 _, P_21 _, P_20, P_19 _, P_18 _, P_17 _, P_16 _, P_15 _, P_14 _, P_13 _, P_12 _, P_11, P_10 _, P_9 _, P_8 _, P_7 _, P_6 _, P_5 _, P_4, P_3 _, P_2 _, P_1 _, P_0 _, trivial⟩ (by kernel_rfl) ?_
                clear wf P_0 P_1 P_10 P_11 P_12 P_13 P_14 P_15 P_16 P_17 P_18 P_19 P_2 P_20 P_21 P_22 P_23 P_24 P_25 P_26 P_27 P_28 P_29 P_3 P_30 P_31 P_32 P_33 P_34 P_35 P_36 P_37 P_38 P_39 P_4 P_40 P_41 P_42 P_43 P_44 P_45 P_46 P_47 P_48 P_5 P_6 P_7 P_8 P_9
                exact x_join false H ⟨rfl, rfl, rfl, rfl, rfl, rfl, rfl, rfl, rfl, rfl, rfl, trivial⟩
          ·
           refine c_exit ?_
           refine x_te (x_te ?_)
           refine x_bh ?_
           refine x_seq (c_seq ?_)
           refine c_seq (c_region ?_)
           refine wP tok ?_
           refine w_call raft_Raft_Term_ok (raft_Raft_Term_ref _ _ _ H) rfl rfl rfl rfl ?_
           rintro _ h73 ⟨r72, rfl, H⟩
           iterate 3 refine wP tok ?_
           refine w_cut 5 (α := Bool) (fun (s : Bool) => [(214, .bool s), (0, .int .i64 p0), (1, .int .i64 p1), (4, Slc.v p4), (5, Slc.v p5), (13, .pointer r1), (14, .int .i64 t14_5)]) (fun (s : Bool) h => law26_RaftTakes_g9 p0 p1 p4 p5 r1 t14_5 s k (fun s h' => I5 s h' ∧ μ5 s h' < μ5 t14_5 h_5) (fun s h' => I7 s h' ∧ μ7 s h' < μ7 t18_7 h_7) h) ?_ ?_
           ·
            rintro t214_9 h_9 H
            replace H : law26_RaftTakes_g9 p0 p1 p4 p5 r1 t14_5 t214_9 k (fun s h' => I5 s h' ∧ μ5 s h' < μ5 t14_5 h_5) (fun s h' => I7 s h' ∧ μ7 s h' < μ7 t18_7 h_7) h_9 := H
            unfold law26_RaftTakes_g9 at H
            refine w_weak [(214, .bool t214_9), (0, .int .i64 p0), (1, .int .i64 p1), (4, Slc.v p4), (5, Slc.v p5), (13, .pointer r1), (14, .int .i64 t14_5)] ⟨rfl, rfl, rfl, rfl, rfl, rfl, rfl, trivial⟩ ?_
            refine w_end (x_seq ?_)
            refine c_if H rfl (fun H => ?_) (fun H => ?_)
            ·
             refine c_seq (c_region ?_)
             refine wP tok ?_
             refine w_end (x_seq ?_)
             refine c_weak [(12, .bool false)] ⟨rfl, trivial⟩ ?_
             refine c_ret (x_tr ?_)
             refine x_br ?_
             refine x_tr (x_tr ?_)
             refine x_br ?_
             refine x_tr ?_
             exact x_ret _ rfl _ rfl ⟨false, rfl, H⟩
            ·
             refine c_skip (x_seq (c_region ?_))
             refine wP tok ?_
             refine w_call raft_Raft_Tick_ok (raft_Raft_Tick_ref _ _ _ H) rfl rfl rfl rfl ?_
             rintro _ h75 ⟨r74, rfl, H⟩
             refine w_end ?_
             refine x_blk ?_
             refine x_seq (c_region ?_)
             iterate 2 refine wP tok ?_
             obtain ⟨x76, ex76, H⟩ := H
             refine w_pe tok rfl (congrArg (fun z => (.int .i64 z : Value)) ex76) rfl rfl ?_
             refine w_end ?_
             exact x_join x76 H ⟨rfl, rfl, rfl, rfl, rfl, rfl, trivial⟩
           ·
            refine w_gif (d := 209) H rfl (fun H => ?_) (fun H => ?_)
            ·
             iterate 4 refine w_skip rfl rfl ?_
             refine wP tok ?_
             exact w_jn true H ⟨rfl, rfl, rfl, rfl, rfl, rfl, rfl, trivial⟩
            ·
             refine wP tok ?_
             refine w_call raft_Raft_Committed_ok (raft_Raft_Committed_ref _ _ _ H) rfl rfl rfl rfl ?_
             rintro _ h78 ⟨r77, rfl, H⟩
             iterate 3 refine wP tok ?_
             exact w_jn (decide (r77 < r19)) H ⟨rfl, rfl, rfl, rfl, rfl, rfl, rfl, trivial⟩
         ·
          refine c_seq (c_region ?_)
          iterate 2 refine wP tok ?_
          obtain ⟨a79, ha79, la79, ua79, H⟩ := H
          refine w_y (y_ixa' tok rfl rfl ha79 rfl rfl rfl la79 ua79) rfl rfl ?_
          obtain ⟨v80, hv80, H⟩ := H
          refine w_y (y_ld tok rfl rfl rfl rfl hv80) rfl rfl ?_
          iterate 2 refine wP tok ?_
          refine w_cut 7 (α := Bool) (fun (s : Bool) => [(110, .bool s), (0, .int .i64 p0), (1, .int .i64 p1), (4, Slc.v p4), (5, Slc.v p5), (13, .pointer r1), (14, .int .i64 t14_5), (15, .int .u64 r17), (16, .int .u64 r19), (17, Slc.v r25)]) (fun (s : Bool) h => law26_RaftTakes_g10 p0 p1 p4 p5 r1 t14_5 r17 r19 r25 s k (fun s h' => I5 s h' ∧ μ5 s h' < μ5 t14_5 h_5) h) ?_ ?_
          ·
           rintro t110_10 h_10 H
           replace H : law26_RaftTakes_g10 p0 p1 p4 p5 r1 t14_5 r17 r19 r25 t110_10 k (fun s h' => I5 s h' ∧ μ5 s h' < μ5 t14_5 h_5) h_10 := H
           unfold law26_RaftTakes_g10 at H
           refine w_weak [(110, .bool t110_10), (0, .int .i64 p0), (1, .int .i64 p1), (4, Slc.v p4), (5, Slc.v p5), (13, .pointer r1), (14, .int .i64 t14_5), (15, .int .u64 r17), (16, .int .u64 r19), (17, Slc.v r25)] ⟨rfl, rfl, rfl, rfl, rfl, rfl, rfl, rfl, rfl, rfl, trivial⟩ ?_
           refine wP tok ?_
           refine w_cut 7 (α := Bool) (fun (s : Bool) => [(118, .bool s), (0, .int .i64 p0), (1, .int .i64 p1), (4, Slc.v p4), (5, Slc.v p5), (13, .pointer r1), (14, .int .i64 t14_5), (15, .int .u64 r17), (16, .int .u64 r19), (17, Slc.v r25)]) (fun (s : Bool) h => law26_RaftTakes_g11 p0 p1 p4 p5 r1 t14_5 r17 r19 r25 s k (fun s h' => I5 s h' ∧ μ5 s h' < μ5 t14_5 h_5) h) ?_ ?_
           ·
            rintro t118_11 h_11 H
            replace H : law26_RaftTakes_g11 p0 p1 p4 p5 r1 t14_5 r17 r19 r25 t118_11 k (fun s h' => I5 s h' ∧ μ5 s h' < μ5 t14_5 h_5) h_11 := H
            unfold law26_RaftTakes_g11 at H
            refine w_weak [(118, .bool t118_11), (0, .int .i64 p0), (1, .int .i64 p1), (4, Slc.v p4), (5, Slc.v p5), (13, .pointer r1), (14, .int .i64 t14_5), (15, .int .u64 r17), (16, .int .u64 r19), (17, Slc.v r25)] ⟨rfl, rfl, rfl, rfl, rfl, rfl, rfl, rfl, rfl, rfl, trivial⟩ ?_
            refine wP tok ?_
            refine w_cut 7 (α := Bool) (fun (s : Bool) => [(126, .bool s), (0, .int .i64 p0), (1, .int .i64 p1), (4, Slc.v p4), (5, Slc.v p5), (13, .pointer r1), (14, .int .i64 t14_5), (15, .int .u64 r17), (16, .int .u64 r19), (17, Slc.v r25)]) (fun (s : Bool) h => law26_RaftTakes_g12 p0 p1 p4 p5 r1 t14_5 r17 r19 r25 s k (fun s h' => I5 s h' ∧ μ5 s h' < μ5 t14_5 h_5) h) ?_ ?_
            ·
             rintro t126_12 h_12 H
             replace H : law26_RaftTakes_g12 p0 p1 p4 p5 r1 t14_5 r17 r19 r25 t126_12 k (fun s h' => I5 s h' ∧ μ5 s h' < μ5 t14_5 h_5) h_12 := H
             unfold law26_RaftTakes_g12 at H
             refine w_weak [(126, .bool t126_12), (0, .int .i64 p0), (1, .int .i64 p1), (4, Slc.v p4), (5, Slc.v p5), (13, .pointer r1), (14, .int .i64 t14_5), (15, .int .u64 r17), (16, .int .u64 r19), (17, Slc.v r25)] ⟨rfl, rfl, rfl, rfl, rfl, rfl, rfl, rfl, rfl, rfl, trivial⟩ ?_
             refine wP tok ?_
             refine w_cut 7 (α := Bool) (fun (s : Bool) => [(134, .bool s), (0, .int .i64 p0), (1, .int .i64 p1), (4, Slc.v p4), (5, Slc.v p5), (13, .pointer r1), (14, .int .i64 t14_5), (15, .int .u64 r17), (16, .int .u64 r19), (17, Slc.v r25)]) (fun (s : Bool) h => law26_RaftTakes_g13 p0 p1 p4 p5 r1 t14_5 r17 r19 r25 s k (fun s h' => I5 s h' ∧ μ5 s h' < μ5 t14_5 h_5) h) ?_ ?_
             ·
              rintro t134_13 h_13 H
              replace H : law26_RaftTakes_g13 p0 p1 p4 p5 r1 t14_5 r17 r19 r25 t134_13 k (fun s h' => I5 s h' ∧ μ5 s h' < μ5 t14_5 h_5) h_13 := H
              unfold law26_RaftTakes_g13 at H
              refine w_weak [(134, .bool t134_13), (0, .int .i64 p0), (1, .int .i64 p1), (4, Slc.v p4), (5, Slc.v p5), (13, .pointer r1), (14, .int .i64 t14_5), (15, .int .u64 r17), (16, .int .u64 r19), (17, Slc.v r25)] ⟨rfl, rfl, rfl, rfl, rfl, rfl, rfl, rfl, rfl, rfl, trivial⟩ ?_
              refine w_end (x_seq ?_)
              refine c_if H rfl (fun H => ?_) (fun H => ?_)
              ·
               refine c_seq (c_region ?_)
               iterate 4 refine wP tok ?_
               refine w_cut 5 (α := Bool) (fun (s : Bool) => [(143, .bool s), (0, .int .i64 p0), (1, .int .i64 p1), (4, Slc.v p4), (5, Slc.v p5), (13, .pointer r1), (14, .int .i64 t14_5), (15, .int .u64 r17), (16, .int .u64 r19), (17, Slc.v r25)]) (fun (s : Bool) h => law26_RaftTakes_g14 p0 p1 p4 p5 r1 t14_5 r17 r19 r25 s k (fun s h' => I5 s h' ∧ μ5 s h' < μ5 t14_5 h_5) h) ?_ ?_
               ·
                rintro t143_14 h_14 H
                replace H : law26_RaftTakes_g14 p0 p1 p4 p5 r1 t14_5 r17 r19 r25 t143_14 k (fun s h' => I5 s h' ∧ μ5 s h' < μ5 t14_5 h_5) h_14 := H
                unfold law26_RaftTakes_g14 at H
                refine w_weak [(143, .bool t143_14), (0, .int .i64 p0), (1, .int .i64 p1), (4, Slc.v p4), (5, Slc.v p5), (13, .pointer r1), (14, .int .i64 t14_5), (15, .int .u64 r17), (16, .int .u64 r19), (17, Slc.v r25)] ⟨rfl, rfl, rfl, rfl, rfl, rfl, rfl, rfl, rfl, rfl, trivial⟩ ?_
                refine wP tok ?_
                refine w_cut 5 (α := Bool) (fun (s : Bool) => [(149, .bool s), (0, .int .i64 p0), (1, .int .i64 p1), (4, Slc.v p4), (5, Slc.v p5), (13, .pointer r1), (14, .int .i64 t14_5), (15, .int .u64 r17), (16, .int .u64 r19), (17, Slc.v r25)]) (fun (s : Bool) h => law26_RaftTakes_g15 p0 p1 p4 p5 r1 t14_5 r17 r19 r25 s k (fun s h' => I5 s h' ∧ μ5 s h' < μ5 t14_5 h_5) h) ?_ ?_
                ·
                 rintro t149_15 h_15 H
                 replace H : law26_RaftTakes_g15 p0 p1 p4 p5 r1 t14_5 r17 r19 r25 t149_15 k (fun s h' => I5 s h' ∧ μ5 s h' < μ5 t14_5 h_5) h_15 := H
                 unfold law26_RaftTakes_g15 at H
                 refine w_weak [(149, .bool t149_15), (0, .int .i64 p0), (1, .int .i64 p1), (4, Slc.v p4), (5, Slc.v p5), (13, .pointer r1), (14, .int .i64 t14_5), (15, .int .u64 r17), (16, .int .u64 r19), (17, Slc.v r25)] ⟨rfl, rfl, rfl, rfl, rfl, rfl, rfl, rfl, rfl, rfl, trivial⟩ ?_
                 refine w_end (x_seq ?_)
                 refine c_if H rfl (fun H => ?_) (fun H => ?_)
                 ·
                  refine c_seq (c_region ?_)
                  refine wP tok ?_
                  refine w_end (x_seq ?_)
                  refine c_weak [(12, .bool false)] ⟨rfl, trivial⟩ ?_
                  refine c_ret (x_tr ?_)
                  refine x_br ?_
                  refine x_tr (x_tr ?_)
                  refine x_br ?_
                  refine x_tr ?_
                  exact x_ret _ rfl _ rfl ⟨false, rfl, H⟩
                 ·
                  refine c_skip ?_
                  exact x_join () H ⟨rfl, rfl, rfl, rfl, rfl, rfl, rfl, rfl, rfl, trivial⟩
                ·
                 refine w_gif (d := 144) H rfl (fun H => ?_) (fun H => ?_)
                 ·
                  iterate 4 refine w_skip rfl rfl ?_
                  refine wP tok ?_
                  exact w_jn true H ⟨rfl, rfl, rfl, rfl, rfl, rfl, rfl, rfl, rfl, rfl, trivial⟩
                 ·
                  refine wP tok ?_
                  refine w_call raft_Raft_Committed_ok (raft_Raft_Committed_ref _ _ _ H) rfl rfl rfl rfl ?_
                  rintro _ h82 ⟨r81, rfl, H⟩
                  iterate 3 refine wP tok ?_
                  exact w_jn (r81 != r19) H ⟨rfl, rfl, rfl, rfl, rfl, rfl, rfl, rfl, rfl, rfl, trivial⟩
               ·
                refine w_gif (d := 138) H rfl (fun H => ?_) (fun H => ?_)
                ·
                 iterate 4 refine w_skip rfl rfl ?_
                 refine wP tok ?_
                 exact w_jn true H ⟨rfl, rfl, rfl, rfl, rfl, rfl, rfl, rfl, rfl, rfl, trivial⟩
                ·
                 refine wP tok ?_
                 refine w_call raft_Raft_Term_ok (raft_Raft_Term_ref _ _ _ H) rfl rfl rfl rfl ?_
                 rintro _ h84 ⟨r83, rfl, H⟩
                 iterate 3 refine wP tok ?_
                 exact w_jn (r83 != r17) H ⟨rfl, rfl, rfl, rfl, rfl, rfl, rfl, rfl, rfl, rfl, trivial⟩
              ·
               refine c_skip ?_
               exact x_join () H ⟨rfl, rfl, rfl, rfl, rfl, rfl, rfl, rfl, rfl, trivial⟩
             ·
              refine w_gif (d := 127) H rfl (fun H => ?_) (fun H => ?_)
              ·
               iterate 6 refine w_skip rfl rfl ?_
               refine wP tok ?_
               exact w_jn true H ⟨rfl, rfl, rfl, rfl, rfl, rfl, rfl, rfl, rfl, rfl, trivial⟩
              ·
               iterate 2 refine wP tok ?_
               obtain ⟨a85, ha85, la85, ua85, H⟩ := H
               refine w_y (y_ixa' tok rfl rfl ha85 rfl rfl rfl la85 ua85) rfl rfl ?_
               refine wP tok ?_
               obtain ⟨v86, hv86, H⟩ := H
               refine w_y (y_ld tok rfl rfl rfl rfl hv86) rfl rfl ?_
               iterate 2 refine wP tok ?_
               exact w_jn (decide (v86 > 5)) H ⟨rfl, rfl, rfl, rfl, rfl, rfl, rfl, rfl, rfl, rfl, trivial⟩
            ·
             refine w_gif (d := 119) H rfl (fun H => ?_) (fun H => ?_)
             ·
              iterate 6 refine w_skip rfl rfl ?_
              refine wP tok ?_
              exact w_jn true H ⟨rfl, rfl, rfl, rfl, rfl, rfl, rfl, rfl, rfl, rfl, trivial⟩
             ·
              iterate 2 refine wP tok ?_
              obtain ⟨a87, ha87, la87, ua87, H⟩ := H
              refine w_y (y_ixa' tok rfl rfl ha87 rfl rfl rfl la87 ua87) rfl rfl ?_
              refine wP tok ?_
              obtain ⟨v88, hv88, H⟩ := H
              refine w_y (y_ld tok rfl rfl rfl rfl hv88) rfl rfl ?_
              iterate 2 refine wP tok ?_
              exact w_jn (decide (v88 < 1)) H ⟨rfl, rfl, rfl, rfl, rfl, rfl, rfl, rfl, rfl, rfl, trivial⟩
           ·
            refine w_gif (d := 111) H rfl (fun H => ?_) (fun H => ?_)
            ·
             iterate 6 refine w_skip rfl rfl ?_
             refine wP tok ?_
             exact w_jn true H ⟨rfl, rfl, rfl, rfl, rfl, rfl, rfl, rfl, rfl, rfl, trivial⟩
            ·
             iterate 2 refine wP tok ?_
             obtain ⟨a89, ha89, la89, ua89, H⟩ := H
             refine w_y (y_ixa' tok rfl rfl ha89 rfl rfl rfl la89 ua89) rfl rfl ?_
             obtain ⟨v90, hv90, H⟩ := H
             refine w_y (y_ld tok rfl rfl rfl rfl hv90) rfl rfl ?_
             iterate 3 refine wP tok ?_
             exact w_jn (v90 == p0) H ⟨rfl, rfl, rfl, rfl, rfl, rfl, rfl, rfl, rfl, rfl, trivial⟩
          ·
           refine w_gif (d := 103) H rfl (fun H => ?_) (fun H => ?_)
           ·
            iterate 6 refine w_skip rfl rfl ?_
            refine wP tok ?_
            exact w_jn true H ⟨rfl, rfl, rfl, rfl, rfl, rfl, rfl, rfl, rfl, rfl, trivial⟩
           ·
            iterate 2 refine wP tok ?_
            obtain ⟨a91, ha91, la91, ua91, H⟩ := H
            refine w_y (y_ixa' tok rfl rfl ha91 rfl rfl rfl la91 ua91) rfl rfl ?_
            obtain ⟨v92, hv92, H⟩ := H
            refine w_y (y_ld tok rfl rfl rfl rfl hv92) rfl rfl ?_
            iterate 3 refine wP tok ?_
            exact w_jn (decide (v92 ≥ p1)) H ⟨rfl, rfl, rfl, rfl, rfl, rfl, rfl, rfl, rfl, rfl, trivial⟩
       ·
        refine c_exit ?_
        refine x_te (x_te ?_)
        refine x_bh ?_
        refine x_seq ?_
        refine c_weak [] trivial ?_
        refine c_seq (c_region ?_)
        refine w_call law26_awake_ok (law26_awake_ref  _ _ H) rfl rfl rfl rfl ?_
        rintro _ h94 ⟨r93, rfl, H⟩
        refine wP tok ?_
        refine w_end (x_seq (c_ret ?_))
        exact x_ret _ rfl _ rfl ⟨r93, rfl, H⟩
      ·
       refine w_gs (d := 72) rfl (fun hb => ?_) (fun hb => ?_)
       ·
        iterate 3 refine wP tok ?_
        refine w_jn () rfl ⟨?_, rfl, rfl, rfl, rfl, rfl, rfl, trivial⟩
        exact congrArg (fun b => some (Value.bool b)) (and_t hb)
       ·
        iterate 2 refine w_skip rfl rfl ?_
        refine wP tok ?_
        refine w_jn () rfl ⟨?_, rfl, rfl, rfl, rfl, rfl, rfl, trivial⟩
        exact congrArg (fun b => some (Value.bool b)) (and_f hb)
     ·
      refine w_gs (d := 66) rfl (fun hb => ?_) (fun hb => ?_)
      ·
       iterate 5 refine wP tok ?_
       refine w_jn () rfl ⟨?_, rfl, rfl, rfl, rfl, rfl, rfl, trivial⟩
       exact congrArg (fun b => some (Value.bool b)) (and_t hb)
      ·
       iterate 4 refine w_skip rfl rfl ?_
       refine wP tok ?_
       refine w_jn () rfl ⟨?_, rfl, rfl, rfl, rfl, rfl, rfl, trivial⟩
       exact congrArg (fun b => some (Value.bool b)) (and_f hb)
   ·
    refine w_gs (d := 34) rfl (fun hb => ?_) (fun hb => ?_)
    ·
     iterate 3 refine w_skip rfl rfl ?_
     refine wP tok ?_
     refine w_jn () rfl ⟨?_, rfl, rfl, rfl, rfl, rfl, trivial⟩
     exact congrArg (fun b => some (Value.bool b)) (or_t hb)
    ·
     iterate 4 refine wP tok ?_
     refine w_jn () rfl ⟨?_, rfl, rfl, rfl, rfl, rfl, trivial⟩
     exact congrArg (fun b => some (Value.bool b)) (or_f hb)
  ·
   refine w_gs (d := 30) rfl (fun hb => ?_) (fun hb => ?_)
   ·
    iterate 2 refine w_skip rfl rfl ?_
    refine wP tok ?_
    refine w_jn () rfl ⟨?_, rfl, rfl, rfl, rfl, rfl, trivial⟩
    exact congrArg (fun b => some (Value.bool b)) (or_t hb)
   ·
    iterate 3 refine wP tok ?_
    refine w_jn () rfl ⟨?_, rfl, rfl, rfl, rfl, rfl, trivial⟩
    exact congrArg (fun b => some (Value.bool b)) (or_f hb)
 ·
  refine w_gs (d := 26) rfl (fun hb => ?_) (fun hb => ?_)
  ·
   iterate 2 refine w_skip rfl rfl ?_
   refine wP tok ?_
   refine w_jn () rfl ⟨?_, rfl, rfl, rfl, rfl, rfl, trivial⟩
   exact congrArg (fun b => some (Value.bool b)) (or_t hb)
  ·
   iterate 3 refine wP tok ?_
   refine w_jn () rfl ⟨?_, rfl, rfl, rfl, rfl, rfl, trivial⟩
   exact congrArg (fun b => some (Value.bool b)) (or_f hb)
end Go.Q.Yh

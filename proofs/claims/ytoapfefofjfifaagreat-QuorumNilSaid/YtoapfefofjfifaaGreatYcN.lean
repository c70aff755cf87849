/- A part of the proof of statements of this seat: lemmas, no statement of their own. -/
import Derived.Test.YtoapfefofjfifaaGreatYcTab
import Derived.Test.YtoapfefofjfifaaGreatYc0
set_option linter.unusedVariables false
set_option maxRecDepth 100000
set_option maxHeartbeats 1000000
namespace Go.Q.Yc
/-- (*quaestor quorum.Desk).Yes -/
def quorum_Desk_Yes_j3 (k : (Bool) → Heap → Prop) (h_3 : Heap) : Prop :=
  k true h_3
def quorum_Desk_Yes_j2 (t9_2 : Option Addr) (k : (Bool) → Heap → Prop) (h_2 : Heap) : Prop :=
  ∃ a10 : Addr, t9_2 = some a10 ∧ (∃ v11 : Slc, cellH h_2 (a10.add 28) = some (Slc.v v11) ∧ (∃ v12 : S_api_Op, CellsAt h_2 a10 (S_api_Op.cs v12) ∧ (quorum_Needs v12 (fun (r13 : Int) h14 => cellH h14 (a10.add 28) = some (Slc.v v11) ∧ (if (decide ((v11.len : Int) < r13)) then (k true h14) else (∃ h16 : Heap, WrH h14 (a10.add 30) ∧ h16 = setH h14 (a10.add 30) (.bool true) ∧ (∃ v17 : Int, cellH h16 (a10.add 1) = some (.int .i64 v17) ∧ (if (v17 == 2) then (∃ v18 : S_api_Query, CellsAt h16 (a10.add 4) (S_api_Query.cs v18) ∧ (∃ v19 : Slc, cellH h16 (a10.add 3) = some (Slc.v v19) ∧ (∃ v20 : Int, cellH h16 (a10.add 26) = some (.int .i64 v20) ∧ (False)))) else (quorum_Desk_Yes_j3 k h16)))))) h_2)))
def quorum_Desk_Yes_g1 (t2_1 : Int) (t3_1 : Slc) (t9_1 : Option Addr) (t27_1 : Bool) (k : (Bool) → Heap → Prop) (h_1 : Heap) : Prop :=
  if t27_1 then (k false h_1) else (∃ a3 : Addr, t9_1 = some a3 ∧ (∃ v4 : Slc, cellH h_1 (a3.add 28) = some (Slc.v v4) ∧ (∃ (b5 : Nat) (h6 : Heap), b5 = h_1.size ∧ h6 = h_1.push (.cells ([.int .i64 t2_1]).toArray 3) ∧ (App 3 1 8 [.int .i64 0] h6 v4 1 ([.int .i64 t2_1]) (fun s7 h8 => ∃ h9 : Heap, WrH h8 (a3.add 28) ∧ h9 = setH h8 (a3.add 28) (Slc.v s7) ∧ (∃ v21 : Int, cellH h9 (a3.add 1) = some (.int .i64 v21) ∧ (if (v21 == 2) then (∃ v22 : Slc, cellH h9 (a3.add 3) = some (Slc.v v22) ∧ (∃ (b23 : Nat) (h24 : Heap), b23 = h9.size ∧ h24 = h9.push (.cells ([Slc.v v22, Slc.v t3_1]).toArray 30) ∧ (False))) else (quorum_Desk_Yes_j2 t9_1 k h9))))))))
def quorum_Desk_Yes (p0 : Option Addr) (p1 : Int) (p2 : Int) (p3 : Slc) (k : (Bool) → Heap → Prop) (h : Heap) : Prop :=
  quorum_Desk_open p0 p1 p2 (fun (r1 : Option Addr × Bool) h2 => if (!r1.2) then (quorum_Desk_Yes_g1 p2 p3 r1.1 true k h2) else (∃ a25 : Addr, r1.1 = some a25 ∧ (∃ v26 : Slc, cellH h2 (a25.add 28) = some (Slc.v v26) ∧ (slices_Contains_int_int v26 p2 (fun (r27 : Bool) h28 => quorum_Desk_Yes_g1 p2 p3 r1.1 r27 k h28) h2)))) h

/-- (*quaestor quorum.Desk).numbers -/
def quorum_Desk_numbers (p0 : Option Addr) (k : (Slc) → Heap → Prop) (h : Heap) : Prop :=
  if (p0.isNone) then (k (⟨none, 0, 0⟩ : Slc) h) else (∃ a1 : Addr, p0 = some a1 ∧ (∃ v2 : Option Nat, cellH h a1 = some (.map v2) ∧ (False)))

/-- (*quaestor quorum.Desk).Tick -/
def quorum_Desk_Tick_j2 (t0_2 : Option Addr) (t6_2 : Slc) (t7_2 : Int) (t8_2 : Int) (k : (Unit) → Heap → Prop) (nx1 : (Int) → Heap → Prop) (h_2 : Heap) : Prop :=
  nx1 (IntKind.i64.wrap (t8_2 + 1)) h_2
def quorum_Desk_Tick_l1b (t0_1 : Option Addr) (t6_1 : Slc) (t7_1 : Int) (t8_1 : Int) (k : (Unit) → Heap → Prop) (nx1 : (Int) → Heap → Prop) (h_1 : Heap) : Prop :=
  if (decide (t8_1 < t7_1)) then (∃ a3 : Addr, t6_1.a = some a3 ∧ (0 : Int) ≤ t8_1 ∧ t8_1 < (t6_1.len : Int) ∧ (∃ v4 : Int, cellH h_1 (a3.add (t8_1.toNat * 1)) = some (.int .u64 v4) ∧ (∃ a5 : Addr, t0_1 = some a5 ∧ (∃ v6 : Option Nat, cellH h_1 a5 = some (.map v6) ∧ (∃ l7 : List (Int × Option Addr), MapAt (K := Int) (V := Option Addr) (.int .u64) (Value.int .u64) (fun v : Option Addr => (.pointer v : Value)) h_1 v6 l7 ∧ (∃ a8 : Addr, ((mget l7 v4).getD none) = some a8 ∧ (∃ v9 : Bool, cellH h_1 (a8.add 30) = some (.bool v9) ∧ (if v9 then (quorum_Desk_Tick_j2 t0_1 t6_1 t7_1 t8_1 k nx1 h_1) else (∃ v10 : Int, cellH h_1 (a8.add 29) = some (.int .i64 v10) ∧ (∃ h11 : Heap, WrH h_1 (a8.add 29) ∧ h11 = setH h_1 (a8.add 29) (.int .i64 (IntKind.i64.wrap (v10 + 1))) ∧ (∃ v12 : Int, cellH h11 (a8.add 29) = some (.int .i64 v12) ∧ (if (decide (v12 ≥ 60)) then (∃ h13 : Heap, WrH h11 (a8.add 30) ∧ h13 = setH h11 (a8.add 30) (.bool true) ∧ (∃ h14 : Heap, WrH h13 (a8.add 31) ∧ h14 = setH h13 (a8.add 31) (.int .i64 15) ∧ (quorum_Desk_Tick_j2 t0_1 t6_1 t7_1 t8_1 k nx1 h14))) else (quorum_Desk_Tick_j2 t0_1 t6_1 t7_1 t8_1 k nx1 h11))))))))))))) else (k () h_1)
def quorum_Desk_Tick_l1 (t0_1 : Option Addr) (t6_1 : Slc) (t7_1 : Int) (i8 : Int) (k : (Unit) → Heap → Prop) (h : Heap) : Prop :=
  ∃ (I : Int → Heap → Prop) (μ : Int → Heap → Nat), I i8 h ∧ ∀ (t8_1 : Int) (h : Heap), I t8_1 h → quorum_Desk_Tick_l1b t0_1 t6_1 t7_1 t8_1 k (fun s h' => I s h' ∧ μ s h' < μ t8_1 h) h
def quorum_Desk_Tick (p0 : Option Addr) (k : (Unit) → Heap → Prop) (h : Heap) : Prop :=
  quorum_Desk_numbers p0 (fun (r1 : Slc) h2 => quorum_Desk_Tick_l1 p0 r1 (r1.len : Int) 0 k h2) h

/-- (*quaestor quorum.Desk).Due -/
def quorum_Desk_Due_j2 (t0_2 : Option Addr) (t10_2 : Slc) (t11_2 : Int) (t12_2 : Int) (t3_2 : Slc) (k : (Slc) → Heap → Prop) (nx1 : (Slc × Int) → Heap → Prop) (h_2 : Heap) : Prop :=
  nx1 (t3_2, (IntKind.i64.wrap (t12_2 + 1))) h_2
def quorum_Desk_Due_j4 (t0_4 : Option Addr) (t5_4 : Int) (t6_4 : Option Addr) (t10_4 : Slc) (t11_4 : Int) (t12_4 : Int) (t29_4 : Slc) (t30_4 : Int) (t31_4 : Int) (t3_4 : Slc) (k : (Slc) → Heap → Prop) (nx1 : (Slc × Int) → Heap → Prop) (nx3 : (Slc × Int) → Heap → Prop) (h_4 : Heap) : Prop :=
  nx3 (t3_4, (IntKind.i64.wrap (t31_4 + 1))) h_4
def quorum_Desk_Due_l3b (t0_3 : Option Addr) (t5_3 : Int) (t6_3 : Option Addr) (t10_3 : Slc) (t11_3 : Int) (t12_3 : Int) (t29_3 : Slc) (t30_3 : Int) (t3_3 : Slc) (t31_3 : Int) (k : (Slc) → Heap → Prop) (nx1 : (Slc × Int) → Heap → Prop) (nx3 : (Slc × Int) → Heap → Prop) (h_3 : Heap) : Prop :=
  if (decide (t31_3 < t30_3)) then (∃ a11 : Addr, t29_3.a = some a11 ∧ (0 : Int) ≤ t31_3 ∧ t31_3 < (t29_3.len : Int) ∧ (∃ v12 : Int, cellH h_3 (a11.add (t31_3.toNat * 1)) = some (.int .i64 v12) ∧ (∃ a13 : Addr, t6_3 = some a13 ∧ (∃ v14 : Slc, cellH h_3 (a13.add 28) = some (Slc.v v14) ∧ (slices_Contains_int_int v14 v12 (fun (r15 : Bool) h16 => if (!r15) then (∃ (b17 : Nat) (h18 : Heap), b17 = h16.size ∧ h18 = h16.push (.cells ((S_api_Want.cs (⟨t5_3, v12⟩ : S_api_Want))).toArray 69) ∧ (App 69 2 16 [.int .u64 0, .int .i64 0] h18 t3_3 1 ((S_api_Want.cs (⟨t5_3, v12⟩ : S_api_Want))) (fun s19 h20 => quorum_Desk_Due_j4 t0_3 t5_3 t6_3 t10_3 t11_3 t12_3 t29_3 t30_3 t31_3 s19 k nx1 nx3 h20))) else (quorum_Desk_Due_j4 t0_3 t5_3 t6_3 t10_3 t11_3 t12_3 t29_3 t30_3 t31_3 t3_3 k nx1 nx3 h16)) h_3))))) else (quorum_Desk_Due_j2 t0_3 t10_3 t11_3 t12_3 t3_3 k nx1 h_3)
def quorum_Desk_Due_l3 (t0_3 : Option Addr) (t5_3 : Int) (t6_3 : Option Addr) (t10_3 : Slc) (t11_3 : Int) (t12_3 : Int) (t29_3 : Slc) (t30_3 : Int) (i3 : Slc) (i31 : Int) (k : (Slc) → Heap → Prop) (nx1 : (Slc × Int) → Heap → Prop) (h : Heap) : Prop :=
  ∃ (I : (Slc × Int) → Heap → Prop) (μ : (Slc × Int) → Heap → Nat), I (i3, i31) h ∧ ∀ (t3_3 : Slc) (t31_3 : Int) (h : Heap), I (t3_3, t31_3) h → quorum_Desk_Due_l3b t0_3 t5_3 t6_3 t10_3 t11_3 t12_3 t29_3 t30_3 t3_3 t31_3 k nx1 (fun s h' => I s h' ∧ μ s h' < μ (t3_3, t31_3) h) h
def quorum_Desk_Due_l1b (t0_1 : Option Addr) (t10_1 : Slc) (t11_1 : Int) (t3_1 : Slc) (t12_1 : Int) (k : (Slc) → Heap → Prop) (nx1 : (Slc × Int) → Heap → Prop) (h_1 : Heap) : Prop :=
  if (decide (t12_1 < t11_1)) then (∃ a3 : Addr, t10_1.a = some a3 ∧ (0 : Int) ≤ t12_1 ∧ t12_1 < (t10_1.len : Int) ∧ (∃ v4 : Int, cellH h_1 (a3.add (t12_1.toNat * 1)) = some (.int .u64 v4) ∧ (∃ a5 : Addr, t0_1 = some a5 ∧ (∃ v6 : Option Nat, cellH h_1 a5 = some (.map v6) ∧ (∃ l7 : List (Int × Option Addr), MapAt (K := Int) (V := Option Addr) (.int .u64) (Value.int .u64) (fun v : Option Addr => (.pointer v : Value)) h_1 v6 l7 ∧ (∃ a8 : Addr, ((mget l7 v4).getD none) = some a8 ∧ (∃ v9 : Bool, cellH h_1 (a8.add 30) = some (.bool v9) ∧ (if v9 then (quorum_Desk_Due_j2 t0_1 t10_1 t11_1 t12_1 t3_1 k nx1 h_1) else (∃ v10 : Slc, cellH h_1 (a8.add 27) = some (Slc.v v10) ∧ (quorum_Desk_Due_l3 t0_1 v4 ((mget l7 v4).getD none) t10_1 t11_1 t12_1 v10 (v10.len : Int) t3_1 0 k nx1 h_1)))))))))) else (k t3_1 h_1)
def quorum_Desk_Due_l1 (t0_1 : Option Addr) (t10_1 : Slc) (t11_1 : Int) (i3 : Slc) (i12 : Int) (k : (Slc) → Heap → Prop) (h : Heap) : Prop :=
  ∃ (I : (Slc × Int) → Heap → Prop) (μ : (Slc × Int) → Heap → Nat), I (i3, i12) h ∧ ∀ (t3_1 : Slc) (t12_1 : Int) (h : Heap), I (t3_1, t12_1) h → quorum_Desk_Due_l1b t0_1 t10_1 t11_1 t3_1 t12_1 k (fun s h' => I s h' ∧ μ s h' < μ (t3_1, t12_1) h) h
def quorum_Desk_Due (p0 : Option Addr) (k : (Slc) → Heap → Prop) (h : Heap) : Prop :=
  quorum_Desk_numbers p0 (fun (r1 : Slc) h2 => quorum_Desk_Due_l1 p0 r1 (r1.len : Int) (⟨none, 0, 0⟩ : Slc) 0 k h2) h

/-- quaestor quorum.ends -/
def quorum_ends_j2 (t0_2 : Int) (t10_2 : Bool) (k : (Bool) → Heap → Prop) (h_2 : Heap) : Prop :=
  if t10_2 then (k false h_2) else (k (t0_2 == 3) h_2)
def quorum_ends_j1 (t0_1 : Int) (t5_1 : Int) (t6_1 : Bool) (k : (Bool) → Heap → Prop) (h_1 : Heap) : Prop :=
  if t6_1 then (k true h_1) else (if (t5_1 == 0) then (quorum_ends_j2 t0_1 (t5_1 == 0) k h_1) else (if (t5_1 == 18) then (quorum_ends_j2 t0_1 (t5_1 == 18) k h_1) else (if (t5_1 == 14) then (quorum_ends_j2 t0_1 (t5_1 == 14) k h_1) else (if (t5_1 == 11) then (quorum_ends_j2 t0_1 (t5_1 == 11) k h_1) else (quorum_ends_j2 t0_1 (t5_1 == 15) k h_1)))))
def quorum_ends (p0 : Int) (p1 : Int) (k : (Bool) → Heap → Prop) (h : Heap) : Prop :=
  if (p1 == 1) then (quorum_ends_j1 p0 p1 (p1 == 1) k h) else (if (p1 == 3) then (quorum_ends_j1 p0 p1 (p1 == 3) k h) else (quorum_ends_j1 p0 p1 (p1 == 17) k h))

/-- (*quaestor quorum.Desk).No -/
def quorum_Desk_No_g1 (t3_1 : Int) (t9_1 : Option Addr) (t28_1 : Bool) (k : (Bool) → Heap → Prop) (h_1 : Heap) : Prop :=
  if t28_1 then (k false h_1) else (∃ a3 : Addr, t9_1 = some a3 ∧ (∃ h4 : Heap, WrH h_1 (a3.add 30) ∧ h4 = setH h_1 (a3.add 30) (.bool true) ∧ (∃ h5 : Heap, WrH h4 (a3.add 31) ∧ h5 = setH h4 (a3.add 31) (.int .i64 t3_1) ∧ (k true h5))))
def quorum_Desk_No (p0 : Option Addr) (p1 : Int) (p2 : Int) (p3 : Int) (k : (Bool) → Heap → Prop) (h : Heap) : Prop :=
  quorum_Desk_open p0 p1 p2 (fun (r1 : Option Addr × Bool) h2 => if (!r1.2) then (quorum_Desk_No_g1 p3 r1.1 true k h2) else (∃ a6 : Addr, r1.1 = some a6 ∧ (∃ v7 : Int, cellH h2 (a6.add 1) = some (.int .i64 v7) ∧ (quorum_ends v7 p3 (fun (r8 : Bool) h9 => quorum_Desk_No_g1 p3 r1.1 (!r8) k h9) h2)))) h

/-- quaestor quaestorlaw31.awake -/
def law31_awake_g2 (t52_2 : Bool) (k : (Bool) → Heap → Prop) (h_2 : Heap) : Prop :=
  k t52_2 h_2
def law31_awake_g1 (t7_1 : Addr) (t47_1 : Bool) (k : (Bool) → Heap → Prop) (h_1 : Heap) : Prop :=
  if t47_1 then (∃ v21 : Int, cellH h_1 (t7_1.add 31) = some (.int .i64 v21) ∧ (law31_awake_g2 (v21 == 0) k h_1)) else (law31_awake_g2 false k h_1)
def law31_awake (k : (Bool) → Heap → Prop) (h : Heap) : Prop :=
  quorum_New  (fun (r1 : Option Addr) h2 => ∃ (b3 : Nat) (h4 : Heap), b3 = h2.size ∧ h4 = h2.push (.cells ([.int .i64 2, .int .i64 0, .int .i64 4]).toArray 3) ∧ (quorum_Desk_Start r1 (⟨5, 1, ByteArray.empty, (⟨none, 0, 0⟩ : Slc), (⟨ByteArray.empty, 0, 0, 0, 0⟩ : S_api_Query), (⟨0, ByteArray.empty, 0, ([] : List Int), (⟨none, 0, 0⟩ : Slc), 0⟩ : S_api_Command), 0, (⟨some ⟨b3, 0, none⟩, 3, 3⟩ : Slc), (⟨none, 0, 0⟩ : Slc), 0, false, 0, (⟨none, 0, 0⟩ : Slc)⟩ : S_api_Op) (fun (r5 : Int) h6 => quorum_Desk_Yes r1 5 0 (⟨none, 0, 0⟩ : Slc) (fun (r7 : Bool) h8 => quorum_Desk_Result r1 5 (fun (r9 : S_api_Op × Int) h10 => ∃ (b11 : Nat) (h12 : Heap), b11 = h10.size ∧ h12 = h10.push (.cells (S_api_Op.cs (⟨0, 0, ByteArray.empty, (⟨none, 0, 0⟩ : Slc), (⟨ByteArray.empty, 0, 0, 0, 0⟩ : S_api_Query), (⟨0, ByteArray.empty, 0, ([] : List Int), (⟨none, 0, 0⟩ : Slc), 0⟩ : S_api_Command), 0, (⟨none, 0, 0⟩ : Slc), (⟨none, 0, 0⟩ : Slc), 0, false, 0, (⟨none, 0, 0⟩ : Slc)⟩ : S_api_Op)).toArray 40) ∧ (∃ h13 : Heap, WrsAt h12 (⟨b11, 0, none⟩ : Addr) 33 ∧ h13 = setsH h12 (⟨b11, 0, none⟩ : Addr) 0 (S_api_Op.cs r9.1) ∧ (quorum_Desk_Yes r1 5 2 (⟨none, 0, 0⟩ : Slc) (fun (r14 : Bool) h15 => quorum_Desk_Result r1 5 (fun (r16 : S_api_Op × Int) h17 => ∃ (b18 : Nat) (h19 : Heap), b18 = h17.size ∧ h19 = h17.push (.cells (S_api_Op.cs (⟨0, 0, ByteArray.empty, (⟨none, 0, 0⟩ : Slc), (⟨ByteArray.empty, 0, 0, 0, 0⟩ : S_api_Query), (⟨0, ByteArray.empty, 0, ([] : List Int), (⟨none, 0, 0⟩ : Slc), 0⟩ : S_api_Command), 0, (⟨none, 0, 0⟩ : Slc), (⟨none, 0, 0⟩ : Slc), 0, false, 0, (⟨none, 0, 0⟩ : Slc)⟩ : S_api_Op)).toArray 40) ∧ (∃ h20 : Heap, WrsAt h19 (⟨b18, 0, none⟩ : Addr) 33 ∧ h20 = setsH h19 (⟨b18, 0, none⟩ : Addr) 0 (S_api_Op.cs r16.1) ∧ (if (((((r5 == 0) && r7) && r14) && (r9.2 == 14)) && (r16.2 == 0)) then (∃ v22 : Bool, cellH h20 ((⟨b18, 0, none⟩ : Addr).add 30) = some (.bool v22) ∧ (law31_awake_g1 (⟨b18, 0, none⟩ : Addr) v22 k h20)) else (law31_awake_g1 (⟨b18, 0, none⟩ : Addr) false k h20)))) h15) h13))) h8) h6) h4)) h

/-- quaestor quaestorlaw31.QuorumNil -/
def law31_QuorumNil_g4 (t70_4 : Bool) (k : (Bool) → Heap → Prop) (h_4 : Heap) : Prop :=
  k t70_4 h_4
def law31_QuorumNil_g3 (t5_3 : Int) (t7_3 : Int) (t59_3 : Bool) (k : (Bool) → Heap → Prop) (h_3 : Heap) : Prop :=
  if ((t59_3 && (t5_3 == 6)) && (t7_3 == 6)) then (law31_awake  (fun (r25 : Bool) h26 => law31_QuorumNil_g4 r25 k h26) h_3) else (law31_QuorumNil_g4 false k h_3)
def law31_QuorumNil_g2 (t3_2 : Option Addr) (t5_2 : Int) (t7_2 : Int) (t53_2 : Bool) (k : (Bool) → Heap → Prop) (h_2 : Heap) : Prop :=
  if t53_2 then (quorum_Desk_Due t3_2 (fun (r27 : Slc) h28 => law31_QuorumNil_g3 t5_2 t7_2 ((r27.len : Int) == 0) k h28) h_2) else (law31_QuorumNil_g3 t5_2 t7_2 false k h_2)
def law31_QuorumNil_g1 (t1_1 : Addr) (t3_1 : Option Addr) (t5_1 : Int) (t7_1 : Int) (t42_1 : Bool) (k : (Bool) → Heap → Prop) (h_1 : Heap) : Prop :=
  if t42_1 then (∃ v29 : Int, cellH h_1 (t1_1.add 34) = some (.int .u64 v29) ∧ (∃ v30 : Int, cellH h_1 (t1_1.add 35) = some (.int .i64 v30) ∧ (∃ v31 : Int, cellH h_1 (t1_1.add 37) = some (.int .i64 v31) ∧ (quorum_Desk_No t3_1 v29 v30 v31 (fun (r32 : Bool) h33 => law31_QuorumNil_g2 t3_1 t5_1 t7_1 (!r32) k h33) h_1)))) else (law31_QuorumNil_g2 t3_1 t5_1 t7_1 false k h_1)
def law31_QuorumNil (p0 : S_quaestorlaw31_Act) (k : (Bool) → Heap → Prop) (h : Heap) : Prop :=
  ∃ (b1 : Nat) (h2 : Heap), b1 = h.size ∧ h2 = h.push (.cells (S_quaestorlaw31_Act.cs p0).toArray 46) ∧ (∃ v3 : S_quaestorlaw31_Act, CellsAt h2 (⟨b1, 0, none⟩ : Addr) (S_quaestorlaw31_Act.cs v3) ∧ (law31_great v3 (fun (r4 : Bool) h5 => if r4 then (law31_awake  (fun (r6 : Bool) h7 => k r6 h7) h5) else (quorum_Desk_Tick none (fun (r8 : Unit) h9 => ∃ v10 : Int, cellH h9 ((⟨b1, 0, none⟩ : Addr).add 34) = some (.int .u64 v10) ∧ (quorum_Desk_Op none v10 (fun (r11 : S_api_Op × Int) h12 => ∃ (b13 : Nat) (h14 : Heap), b13 = h12.size ∧ h14 = h12.push (.cells (S_api_Op.cs (⟨0, 0, ByteArray.empty, (⟨none, 0, 0⟩ : Slc), (⟨ByteArray.empty, 0, 0, 0, 0⟩ : S_api_Query), (⟨0, ByteArray.empty, 0, ([] : List Int), (⟨none, 0, 0⟩ : Slc), 0⟩ : S_api_Command), 0, (⟨none, 0, 0⟩ : Slc), (⟨none, 0, 0⟩ : Slc), 0, false, 0, (⟨none, 0, 0⟩ : Slc)⟩ : S_api_Op)).toArray 40) ∧ (∃ h15 : Heap, WrsAt h14 (⟨b13, 0, none⟩ : Addr) 33 ∧ h15 = setsH h14 (⟨b13, 0, none⟩ : Addr) 0 (S_api_Op.cs r11.1) ∧ (∃ v16 : Int, cellH h15 ((⟨b1, 0, none⟩ : Addr).add 34) = some (.int .u64 v16) ∧ (quorum_Desk_Result none v16 (fun (r17 : S_api_Op × Int) h18 => ∃ (b19 : Nat) (h20 : Heap), b19 = h18.size ∧ h20 = h18.push (.cells (S_api_Op.cs (⟨0, 0, ByteArray.empty, (⟨none, 0, 0⟩ : Slc), (⟨ByteArray.empty, 0, 0, 0, 0⟩ : S_api_Query), (⟨0, ByteArray.empty, 0, ([] : List Int), (⟨none, 0, 0⟩ : Slc), 0⟩ : S_api_Command), 0, (⟨none, 0, 0⟩ : Slc), (⟨none, 0, 0⟩ : Slc), 0, false, 0, (⟨none, 0, 0⟩ : Slc)⟩ : S_api_Op)).toArray 40) ∧ (∃ h21 : Heap, WrsAt h20 (⟨b19, 0, none⟩ : Addr) 33 ∧ h21 = setsH h20 (⟨b19, 0, none⟩ : Addr) 0 (S_api_Op.cs r17.1) ∧ (∃ v22 : S_api_Op, CellsAt h21 ((⟨b1, 0, none⟩ : Addr).add 1) (S_api_Op.cs v22) ∧ (quorum_Desk_Start none v22 (fun (r23 : Int) h24 => if (r23 == 1) then (∃ v34 : Int, cellH h24 ((⟨b1, 0, none⟩ : Addr).add 34) = some (.int .u64 v34) ∧ (∃ v35 : Int, cellH h24 ((⟨b1, 0, none⟩ : Addr).add 35) = some (.int .i64 v35) ∧ (∃ v36 : Slc, cellH h24 ((⟨b1, 0, none⟩ : Addr).add 36) = some (Slc.v v36) ∧ (quorum_Desk_Yes none v34 v35 v36 (fun (r37 : Bool) h38 => law31_QuorumNil_g1 (⟨b1, 0, none⟩ : Addr) none r11.2 r17.2 (!r37) k h38) h24)))) else (law31_QuorumNil_g1 (⟨b1, 0, none⟩ : Addr) none r11.2 r17.2 false k h24)) h21)))) h15)))) h9)) h5)) h2))

theorem quorum_Desk_Yes_ok : CallOk Go.Proofs.Tryz.prog 8 := ⟨_, Go.Proofs.Tryz.func8, by kernel_rfl, by kernel_rfl⟩
theorem quorum_Desk_Yes_ref (p0 : Option Addr) (p1 : Int) (p2 : Int) (p3 : Slc) (k : (Bool) → Heap → Prop) (h : Heap) (H : quorum_Desk_Yes p0 p1 p2 p3 k h) : CallsH Go.Proofs.Tryz.prog 8 #[.pointer p0, .int .u64 p1, .int .i64 p2, Slc.v p3] h (fun v h' => ∃ r : Bool, v = .bool r ∧ k r h') := by
  refine f_enter (N := 93) Go.Proofs.Tryz.func8 rfl rfl rfl (fun w0 => ?_)
  unfold quorum_Desk_Yes at H
  refine c_weak [(0, .pointer p0), (1, .int .u64 p1), (2, .int .i64 p2), (3, Slc.v p3)] ⟨rfl, rfl, rfl, rfl, trivial⟩ ?_
  refine c_seq ?_
  refine c_region ?_
  refine w_p tok rfl rfl rfl ?_
  refine w_end ?_
  refine x_seq ?_
  refine c_seq ?_
  refine c_region ?_
  refine w_p tok rfl rfl rfl ?_
  refine w_p tok rfl rfl rfl ?_
  refine w_p tok rfl rfl rfl ?_
  refine w_call quorum_Desk_open_ok (quorum_Desk_open_ref _ _ _ _ _ H) rfl rfl rfl rfl ?_
  rintro _ h2 ⟨r1, rfl, H⟩
  refine w_p tok rfl rfl rfl ?_
  refine w_p tok rfl rfl rfl ?_
  refine w_p tok rfl rfl rfl ?_
  refine w_p tok rfl rfl rfl ?_
  refine w_p tok rfl rfl rfl ?_
  refine w_end ?_
  refine x_seq ?_
  refine c_weak [(2, .int .i64 p2), (3, Slc.v p3), (9, .pointer r1.1), (10, .bool r1.2)] ⟨rfl, rfl, rfl, rfl, trivial⟩ ?_
  refine c_seq ?_
  refine c_seq ?_
  refine c_region ?_
  refine w_p tok rfl rfl rfl ?_
  refine w_p tok rfl rfl rfl ?_
  refine w_p tok rfl rfl rfl ?_
  refine w_cut 7 (α := Bool) (fun (s : Bool) => [(27, .bool s), (2, .int .i64 p2), (3, Slc.v p3), (9, .pointer r1.1)]) (fun (s : Bool) h => quorum_Desk_Yes_g1 p2 p3 r1.1 s k h) ?_ ?_
  ·
    rintro t27_1 h_1 H
    replace H : quorum_Desk_Yes_g1 p2 p3 r1.1 t27_1 k h_1 := H
    unfold quorum_Desk_Yes_g1 at H
    refine w_weak [(27, .bool t27_1), (2, .int .i64 p2), (3, Slc.v p3), (9, .pointer r1.1)] ⟨rfl, rfl, rfl, rfl, trivial⟩ ?_
    refine w_end ?_
    refine x_seq ?_
    refine c_if H rfl (fun H => ?_) (fun H => ?_)
    ·
      refine c_seq ?_
      refine c_region ?_
      refine w_p tok rfl rfl rfl ?_
      refine w_end ?_
      refine x_seq ?_
      refine c_ret ?_
      refine x_tr ?_
      exact x_ret _ rfl _ rfl ⟨false, rfl, H⟩
    ·
      refine c_skip ?_
      refine x_seq ?_
      refine c_seq ?_
      refine c_region ?_
      refine w_p tok rfl rfl rfl ?_
      refine w_p tok rfl rfl rfl ?_
      obtain ⟨a3, ha3, H⟩ := H
      refine w_y (y_nil' rfl rfl ha3) rfl rfl ?_
      refine w_p tok rfl rfl rfl ?_
      obtain ⟨v4, hv4, H⟩ := H
      refine w_y (y_ld tok rfl rfl rfl rfl hv4) rfl rfl ?_
      refine w_p tok rfl rfl rfl ?_
      obtain ⟨b5, h6, eb5, eh6, H⟩ := H
      refine w_h (h_bs tok rfl rfl rfl rfl rfl rfl rfl eb5 eh6) rfl rfl ?_
      refine w_a (a_app (s := v4) (r := (⟨some ⟨b5, 0, none⟩, 1, 1⟩ : Slc)) tok rfl rfl rfl rfl rfl (slcAt_push eb5 eh6) H) rfl rfl ?_
      rintro _ h8 ⟨s7, rfl, H⟩
      refine w_y (y_nil' rfl rfl ha3) rfl rfl ?_
      refine w_p tok rfl rfl rfl ?_
      obtain ⟨h9, wh9, eh9, H⟩ := H
      refine w_h (h_st tok rfl rfl rfl rfl rfl rfl wh9 eh9) rfl rfl ?_
      refine w_end ?_
      refine x_seq ?_
      refine c_weak [(3, Slc.v p3), (9, .pointer r1.1)] ⟨rfl, rfl, trivial⟩ ?_
      refine c_seqJ (α := Unit) (fun (s : Unit) => [(9, .pointer r1.1)]) (fun (s : Unit) h => quorum_Desk_Yes_j2 r1.1 k h) ?_ ?_
      ·
        rintro _ h_2 H
        replace H : quorum_Desk_Yes_j2 r1.1 k h_2 := H
        unfold quorum_Desk_Yes_j2 at H
        refine c_weak [(9, .pointer r1.1)] ⟨rfl, trivial⟩ ?_
        refine c_seq ?_
        refine c_seq ?_
        refine c_sim [(9, .pointer r1.1)] (by kernel_rfl) (by kernel_rfl) ⟨rfl, trivial⟩ (fun wf => ?_)
        refine sim_p 0 (ei := [(9, .pointer r1.1)]) (d := (some 53)) wf (by kernel_rfl) ⟨rfl, trivial⟩ (by kernel_rfl) (by kernel_rfl) (fun _ => pf_p tok rfl rfl rfl rfl) (fun P_0 => ?_)
        obtain ⟨a10, ha10, H⟩ := H
        refine sim_p 1 (ei := [(53, .pointer r1.1)]) (d := (some 54)) wf (by kernel_rfl) ⟨rfl, trivial⟩ (by kernel_rfl) (by kernel_rfl) (fun _ => pf_y rfl rfl rfl (y_nil' rfl rfl ha10)) (fun P_1 => ?_)
        refine sim_p 2 (ei := [(54, .pointer (some a10))]) (d := (some 55)) wf (by kernel_rfl) ⟨rfl, trivial⟩ (by kernel_rfl) (by kernel_rfl) (fun _ => pf_p tok rfl rfl rfl rfl) (fun P_2 => ?_)
        obtain ⟨v11, hv11, H⟩ := H
        refine sim_l 3 (ei := [(55, .pointer (some (a10.add 28)))]) (d := (some 56)) wf (by kernel_rfl) ⟨rfl, trivial⟩ (by kernel_rfl) (by kernel_rfl) (pf_y rfl rfl rfl (y_ld tok rfl rfl rfl rfl hv11)) (fun P_3 => ?_)
        refine sim_p 4 (ei := [(56, Slc.v v11)]) (d := (some 57)) wf (by kernel_rfl) ⟨rfl, trivial⟩ (by kernel_rfl) (by kernel_rfl) (fun _ => pf_p tok rfl rfl rfl rfl) (fun P_4 => ?_)
        refine sim_p 5 (ei := [(9, .pointer r1.1)]) (d := (some 58)) wf (by kernel_rfl) ⟨rfl, trivial⟩ (by kernel_rfl) (by kernel_rfl) (fun _ => pf_p tok rfl rfl rfl rfl) (fun P_5 => ?_)
        refine sim_p 6 (ei := [(58, .pointer r1.1)]) (d := (some 59)) wf (by kernel_rfl) ⟨rfl, trivial⟩ (by kernel_rfl) (by kernel_rfl) (fun _ => pf_y rfl rfl rfl (y_nil' rfl rfl ha10)) (fun P_6 => ?_)
        obtain ⟨v12, hv12, H⟩ := H
        refine sim_l 7 (ei := [(59, .pointer (some a10))]) (d := (some 60)) wf (by kernel_rfl) ⟨rfl, trivial⟩ (by kernel_rfl) (by kernel_rfl) (pf_y rfl rfl rfl (y_lda tok rfl rfl rfl rfl rfl hv12)) (fun P_7 => ?_)
        refine sim_c 8 [5, 6, 7] [5, 6, 7] (ei := [(60, .agg (S_api_Op.cs v12).toArray)]) quorum_Needs_ok (quorum_Needs_ref _ _ _ H) wf ⟨P_7, P_6 _, P_5 _, P_4 _, P_3, P_2 _, P_1 _, P_0 _, trivial⟩ (by kernel_rfl) ⟨rfl, trivial⟩ (by kernel_rfl) rfl rfl rfl rfl rfl ?_
        rintro _ h14 ⟨r13, rfl, H⟩
        obtain ⟨hy15, H⟩ := H
        refine sim_re (x := ⟨3, Slc.v v11, [(55, .pointer (some (a10.add 28)))]⟩) (pf_y rfl rfl rfl (y_ld tok rfl rfl rfl rfl hy15)) (fun P_3 => ?_)
        refine sim_p 9 (ei := [(57, .int .i64 (v11.len : Int)), (61, .int .i64 r13)]) (d := (some 62)) wf (by kernel_rfl) ⟨rfl, rfl, trivial⟩ (by kernel_rfl) (by kernel_rfl) (fun _ => pf_p tok rfl rfl rfl rfl) (fun P_9 => ?_)
        refine sim_end wf ⟨P_9 _, trivial, trivial, trivial, P_4 _, P_3, P_2 _, P_1 _, P_0 _, trivial⟩ (by kernel_rfl) ?_
        clear wf P_0 P_1 P_2 P_3 P_4 P_5 P_6 P_7 P_9
        refine x_seq ?_
        refine c_weak [(9, .pointer r1.1), (62, .bool (decide ((v11.len : Int) < r13)))] ⟨rfl, rfl, trivial⟩ ?_
        refine c_if H rfl (fun H => ?_) (fun H => ?_)
        ·
          refine c_seq ?_
          refine c_region ?_
          refine w_p tok rfl rfl rfl ?_
          refine w_end ?_
          refine x_seq ?_
          refine c_ret ?_
          refine x_tr ?_
          exact x_ret _ rfl _ rfl ⟨true, rfl, H⟩
        ·
          refine c_skip ?_
          refine x_seq ?_
          refine c_seq ?_
          refine c_region ?_
          refine w_p tok rfl rfl rfl ?_
          refine w_y (y_nil' rfl rfl ha10) rfl rfl ?_
          refine w_p tok rfl rfl rfl ?_
          obtain ⟨h16, wh16, eh16, H⟩ := H
          refine w_h (h_st tok rfl rfl rfl rfl rfl rfl wh16 eh16) rfl rfl ?_
          refine w_end ?_
          refine x_seq ?_
          refine c_seqJ (α := Unit) (fun (s : Unit) => []) (fun (s : Unit) h => quorum_Desk_Yes_j3 k h) ?_ ?_
          ·
            rintro _ h_3 H
            replace H : quorum_Desk_Yes_j3 k h_3 := H
            unfold quorum_Desk_Yes_j3 at H
            refine c_weak [] trivial ?_
            refine c_seq ?_
            refine c_region ?_
            refine w_p tok rfl rfl rfl ?_
            refine w_end ?_
            refine x_seq ?_
            refine c_ret ?_
            exact x_ret _ rfl _ rfl ⟨true, rfl, H⟩
          ·
            refine c_seq ?_
            refine c_region ?_
            refine w_p tok rfl rfl rfl ?_
            refine w_y (y_nil' rfl rfl ha10) rfl rfl ?_
            refine w_p tok rfl rfl rfl ?_
            obtain ⟨v17, hv17, H⟩ := H
            refine w_y (y_ld tok rfl rfl rfl rfl hv17) rfl rfl ?_
            refine w_p tok rfl rfl rfl ?_
            refine w_end ?_
            refine x_seq ?_
            refine c_weak [(9, .pointer r1.1), (70, .bool (v17 == 2))] ⟨rfl, rfl, trivial⟩ ?_
            refine c_if H rfl (fun H => ?_) (fun H => ?_)
            ·
              refine c_sim [(9, .pointer r1.1)] (by kernel_rfl) (by kernel_rfl) ⟨rfl, trivial⟩ (fun wf => ?_)
              refine sim_p 0 (ei := [(9, .pointer r1.1)]) (d := (some 72)) wf (by kernel_rfl) ⟨rfl, trivial⟩ (by kernel_rfl) (by kernel_rfl) (fun _ => pf_p tok rfl rfl rfl rfl) (fun P_0 => ?_)
              refine sim_p 1 (ei := [(9, .pointer r1.1)]) (d := (some 73)) wf (by kernel_rfl) ⟨rfl, trivial⟩ (by kernel_rfl) (by kernel_rfl) (fun _ => pf_p tok rfl rfl rfl rfl) (fun P_1 => ?_)
              refine sim_p 2 (ei := [(9, .pointer r1.1)]) (d := (some 74)) wf (by kernel_rfl) ⟨rfl, trivial⟩ (by kernel_rfl) (by kernel_rfl) (fun _ => pf_p tok rfl rfl rfl rfl) (fun P_2 => ?_)
              refine sim_p 3 (ei := [(74, .pointer r1.1)]) (d := (some 75)) wf (by kernel_rfl) ⟨rfl, trivial⟩ (by kernel_rfl) (by kernel_rfl) (fun _ => pf_y rfl rfl rfl (y_nil' rfl rfl ha10)) (fun P_3 => ?_)
              refine sim_p 4 (ei := [(75, .pointer (some a10))]) (d := (some 76)) wf (by kernel_rfl) ⟨rfl, trivial⟩ (by kernel_rfl) (by kernel_rfl) (fun _ => pf_p tok rfl rfl rfl rfl) (fun P_4 => ?_)
              obtain ⟨v18, hv18, H⟩ := H
              refine sim_l 5 (ei := [(76, .pointer (some (a10.add 4)))]) (d := (some 77)) wf (by kernel_rfl) ⟨rfl, trivial⟩ (by kernel_rfl) (by kernel_rfl) (pf_y rfl rfl rfl (y_lda tok rfl rfl rfl rfl rfl hv18)) (fun P_5 => ?_)
              refine sim_p 6 (ei := [(9, .pointer r1.1)]) (d := (some 78)) wf (by kernel_rfl) ⟨rfl, trivial⟩ (by kernel_rfl) (by kernel_rfl) (fun _ => pf_p tok rfl rfl rfl rfl) (fun P_6 => ?_)
              refine sim_p 7 (ei := [(78, .pointer r1.1)]) (d := (some 79)) wf (by kernel_rfl) ⟨rfl, trivial⟩ (by kernel_rfl) (by kernel_rfl) (fun _ => pf_y rfl rfl rfl (y_nil' rfl rfl ha10)) (fun P_7 => ?_)
              refine sim_p 8 (ei := [(79, .pointer (some a10))]) (d := (some 80)) wf (by kernel_rfl) ⟨rfl, trivial⟩ (by kernel_rfl) (by kernel_rfl) (fun _ => pf_p tok rfl rfl rfl rfl) (fun P_8 => ?_)
              obtain ⟨v19, hv19, H⟩ := H
              refine sim_l 9 (ei := [(80, .pointer (some (a10.add 3)))]) (d := (some 81)) wf (by kernel_rfl) ⟨rfl, trivial⟩ (by kernel_rfl) (by kernel_rfl) (pf_y rfl rfl rfl (y_ld tok rfl rfl rfl rfl hv19)) (fun P_9 => ?_)
              refine sim_p 10 (ei := [(9, .pointer r1.1)]) (d := (some 82)) wf (by kernel_rfl) ⟨rfl, trivial⟩ (by kernel_rfl) (by kernel_rfl) (fun _ => pf_p tok rfl rfl rfl rfl) (fun P_10 => ?_)
              refine sim_p 11 (ei := [(82, .pointer r1.1)]) (d := (some 83)) wf (by kernel_rfl) ⟨rfl, trivial⟩ (by kernel_rfl) (by kernel_rfl) (fun _ => pf_y rfl rfl rfl (y_nil' rfl rfl ha10)) (fun P_11 => ?_)
              refine sim_p 12 (ei := [(83, .pointer (some a10))]) (d := (some 84)) wf (by kernel_rfl) ⟨rfl, trivial⟩ (by kernel_rfl) (by kernel_rfl) (fun _ => pf_p tok rfl rfl rfl rfl) (fun P_12 => ?_)
              obtain ⟨v20, hv20, H⟩ := H
              refine sim_l 13 (ei := [(84, .pointer (some (a10.add 26)))]) (d := (some 85)) wf (by kernel_rfl) ⟨rfl, trivial⟩ (by kernel_rfl) (by kernel_rfl) (pf_y rfl rfl rfl (y_ld tok rfl rfl rfl rfl hv20)) (fun P_13 => ?_)
              exact H.elim
            ·
              refine c_skip ?_
              exact x_join () H trivial
      ·
        refine c_seq ?_
        refine c_region ?_
        refine w_p tok rfl rfl rfl ?_
        refine w_y (y_nil' rfl rfl ha3) rfl rfl ?_
        refine w_p tok rfl rfl rfl ?_
        obtain ⟨v21, hv21, H⟩ := H
        refine w_y (y_ld tok rfl rfl rfl rfl hv21) rfl rfl ?_
        refine w_p tok rfl rfl rfl ?_
        refine w_end ?_
        refine x_seq ?_
        refine c_if H rfl (fun H => ?_) (fun H => ?_)
        ·
          refine c_region ?_
          refine w_p tok rfl rfl rfl ?_
          refine w_p tok rfl rfl rfl ?_
          refine w_y (y_nil' rfl rfl ha3) rfl rfl ?_
          refine w_p tok rfl rfl rfl ?_
          obtain ⟨v22, hv22, H⟩ := H
          refine w_y (y_ld tok rfl rfl rfl rfl hv22) rfl rfl ?_
          refine w_p tok rfl rfl rfl ?_
          obtain ⟨b23, h24, eb23, eh24, H⟩ := H
          refine w_h (h_bs tok rfl rfl rfl rfl rfl rfl rfl eb23 eh24) rfl rfl ?_
          exact H.elim
        ·
          refine c_skip ?_
          exact x_join () H ⟨rfl, trivial⟩
  ·
    refine w_gif (d := 20) H rfl (fun H => ?_) (fun H => ?_)
    ·
      refine w_skip rfl rfl ?_
      refine w_skip rfl rfl ?_
      refine w_skip rfl rfl ?_
      refine w_skip rfl rfl ?_
      refine w_skip rfl rfl ?_
      refine w_skip rfl rfl ?_
      refine w_p tok rfl rfl rfl ?_
      exact w_jn true H ⟨rfl, rfl, rfl, rfl, trivial⟩
    ·
      refine w_p tok rfl rfl rfl ?_
      obtain ⟨a25, ha25, H⟩ := H
      refine w_y (y_nil' rfl rfl ha25) rfl rfl ?_
      refine w_p tok rfl rfl rfl ?_
      obtain ⟨v26, hv26, H⟩ := H
      refine w_y (y_ld tok rfl rfl rfl rfl hv26) rfl rfl ?_
      refine w_p tok rfl rfl rfl ?_
      refine w_call slices_Contains_int_int_ok (slices_Contains_int_int_ref _ _ _ _ H) rfl rfl rfl rfl ?_
      rintro _ h28 ⟨r27, rfl, H⟩
      refine w_p tok rfl rfl rfl ?_
      exact w_jn r27 H ⟨rfl, rfl, rfl, rfl, trivial⟩

theorem quorum_Desk_numbers_ok : CallOk Go.Proofs.Tryz.prog 23 := ⟨_, Go.Proofs.Tryz.func23, by kernel_rfl, by kernel_rfl⟩
theorem quorum_Desk_numbers_ref (p0 : Option Addr) (k : (Slc) → Heap → Prop) (h : Heap) (H : quorum_Desk_numbers p0 k h) : CallsH Go.Proofs.Tryz.prog 23 #[.pointer p0] h (fun v h' => ∃ r : Slc, v = Slc.v r ∧ k r h') := by
  refine f_enter (N := 11) Go.Proofs.Tryz.func23 rfl rfl rfl (fun w0 => ?_)
  unfold quorum_Desk_numbers at H
  refine c_weak [(0, .pointer p0)] ⟨rfl, trivial⟩ ?_
  refine c_seq ?_
  refine c_region ?_
  refine w_p tok rfl rfl rfl ?_
  refine w_end ?_
  refine x_seq ?_
  refine c_seq ?_
  refine c_seq ?_
  refine c_region ?_
  refine w_p tok rfl rfl rfl ?_
  refine w_p tok rfl rfl rfl ?_
  refine w_end ?_
  refine x_seq ?_
  refine c_if H rfl (fun H => ?_) (fun H => ?_)
  ·
    refine c_seq ?_
    refine c_region ?_
    refine w_p tok rfl rfl rfl ?_
    refine w_end ?_
    refine x_seq ?_
    refine c_ret ?_
    refine x_tr ?_
    exact x_ret _ rfl _ rfl ⟨(⟨none, 0, 0⟩ : Slc), rfl, H⟩
  ·
    refine c_skip ?_
    refine x_seq ?_
    refine c_seq ?_
    refine c_region ?_
    refine w_p tok rfl rfl rfl ?_
    obtain ⟨a1, ha1, H⟩ := H
    refine w_y (y_nil' rfl rfl ha1) rfl rfl ?_
    refine w_p tok rfl rfl rfl ?_
    obtain ⟨v2, hv2, H⟩ := H
    refine w_y (y_ld tok rfl rfl rfl rfl hv2) rfl rfl ?_
    exact H.elim

theorem quorum_Desk_Tick_ok : CallOk Go.Proofs.Tryz.prog 11 := ⟨_, Go.Proofs.Tryz.func11, by kernel_rfl, by kernel_rfl⟩
theorem quorum_Desk_Tick_ref (p0 : Option Addr) (k : (Unit) → Heap → Prop) (h : Heap) (H : quorum_Desk_Tick p0 k h) : CallsH Go.Proofs.Tryz.prog 11 #[.pointer p0] h (fun v h' => ∃ r : Unit, v = .tuple #[] ∧ k r h') := by
  refine f_enter (N := 41) Go.Proofs.Tryz.func11 rfl rfl rfl (fun w0 => ?_)
  unfold quorum_Desk_Tick at H
  refine c_weak [(0, .pointer p0)] ⟨rfl, trivial⟩ ?_
  refine c_seq ?_
  refine c_region ?_
  refine w_p tok rfl rfl rfl ?_
  refine w_call quorum_Desk_numbers_ok (quorum_Desk_numbers_ref _ _ _ H) rfl rfl rfl rfl ?_
  rintro _ h2 ⟨r1, rfl, H⟩
  refine w_p tok rfl rfl rfl ?_
  refine w_p tok rfl rfl rfl ?_
  refine w_end ?_
  refine x_seq ?_
  refine c_block ?_
  obtain ⟨I1, μ1, H0, HI⟩ := H
  refine c_loop (σ := Int) (fun (s : Int) => [(8, .int .i64 s), (0, .pointer p0), (6, Slc.v r1), (7, .int .i64 (r1.len : Int))]) I1 μ1 0 H0 ⟨rfl, rfl, rfl, rfl, trivial⟩ ?_
  rintro t8_1 h_1 H
  replace H := HI t8_1 h_1 H
  unfold quorum_Desk_Tick_l1b at H
  refine c_weak [(8, .int .i64 t8_1), (0, .pointer p0), (6, Slc.v r1), (7, .int .i64 (r1.len : Int))] ⟨rfl, rfl, rfl, rfl, trivial⟩ ?_
  refine c_seq ?_
  refine c_region ?_
  refine w_p tok rfl rfl rfl ?_
  refine w_end ?_
  refine x_seq ?_
  refine c_seq ?_
  refine c_if H rfl (fun H => ?_) (fun H => ?_)
  ·
    refine c_skip ?_
    refine x_seq ?_
    refine c_seqJ (α := Unit) (fun (s : Unit) => [(0, .pointer p0), (6, Slc.v r1), (7, .int .i64 (r1.len : Int)), (8, .int .i64 t8_1)]) (fun (s : Unit) h => quorum_Desk_Tick_j2 p0 r1 (r1.len : Int) t8_1 k (fun s h' => I1 s h' ∧ μ1 s h' < μ1 t8_1 h_1) h) ?_ ?_
    ·
      rintro _ h_2 H
      replace H : quorum_Desk_Tick_j2 p0 r1 (r1.len : Int) t8_1 k (fun s h' => I1 s h' ∧ μ1 s h' < μ1 t8_1 h_1) h_2 := H
      unfold quorum_Desk_Tick_j2 at H
      refine c_weak [(0, .pointer p0), (6, Slc.v r1), (7, .int .i64 (r1.len : Int)), (8, .int .i64 t8_1)] ⟨rfl, rfl, rfl, rfl, trivial⟩ ?_
      refine c_region ?_
      refine w_p tok rfl rfl rfl ?_
      refine w_p tok rfl rfl rfl ?_
      refine w_end ?_
      exact x_join (IntKind.i64.wrap (t8_1 + 1)) H ⟨rfl, rfl, rfl, rfl, trivial⟩
    ·
      refine c_block ?_
      refine c_seq ?_
      refine c_region ?_
      obtain ⟨a3, ha3, la3, ua3, H⟩ := H
      refine w_y (y_ixa' tok rfl rfl ha3 rfl rfl rfl la3 ua3) rfl rfl ?_
      obtain ⟨v4, hv4, H⟩ := H
      refine w_y (y_ld tok rfl rfl rfl rfl hv4) rfl rfl ?_
      refine w_p tok rfl rfl rfl ?_
      refine w_end ?_
      refine x_seq ?_
      refine c_seq ?_
      refine c_region ?_
      refine w_p tok rfl rfl rfl ?_
      obtain ⟨a5, ha5, H⟩ := H
      refine w_y (y_nil' rfl rfl ha5) rfl rfl ?_
      refine w_p tok rfl rfl rfl ?_
      obtain ⟨v6, hv6, H⟩ := H
      refine w_y (y_ld tok rfl rfl rfl rfl hv6) rfl rfl ?_
      refine w_p tok rfl rfl rfl ?_
      obtain ⟨l7, hl7, H⟩ := H
      refine w_y (y_lk (K := Int) (V := (Option Addr)) (d := (.int .u64)) (kf := (Value.int .u64)) (vf := (fun v : Option Addr => (.pointer v : Value))) (kt := 29) (et := 56) (k := v4) (z := none) (m := v6) (l := l7) rfl rfl rfl (by kernel_rfl) (by kernel_rfl) (kInt .u64) (zero_1 tok (T := tab) rfl rfl rfl) hl7) rfl rfl ?_
      refine w_p tok rfl rfl rfl ?_
      refine w_end ?_
      refine x_seq ?_
      refine c_weak [(8, .int .i64 t8_1), (0, .pointer p0), (6, Slc.v r1), (7, .int .i64 (r1.len : Int)), (4, .pointer ((mget l7 v4).getD none))] ⟨rfl, rfl, rfl, rfl, rfl, trivial⟩ ?_
      refine c_seq ?_
      refine c_seq ?_
      refine c_region ?_
      refine w_p tok rfl rfl rfl ?_
      obtain ⟨a8, ha8, H⟩ := H
      refine w_y (y_nil' rfl rfl ha8) rfl rfl ?_
      refine w_p tok rfl rfl rfl ?_
      obtain ⟨v9, hv9, H⟩ := H
      refine w_y (y_ld tok rfl rfl rfl rfl hv9) rfl rfl ?_
      refine w_end ?_
      refine x_seq ?_
      refine c_if H rfl (fun H => ?_) (fun H => ?_)
      ·
        refine c_exit ?_
        refine x_te ?_
        refine x_bh ?_
        exact x_join () H ⟨rfl, rfl, rfl, rfl, trivial⟩
      ·
        refine c_skip ?_
        refine x_seq ?_
        refine c_seq ?_
        refine c_region ?_
        refine w_p tok rfl rfl rfl ?_
        refine w_y (y_nil' rfl rfl ha8) rfl rfl ?_
        refine w_p tok rfl rfl rfl ?_
        obtain ⟨v10, hv10, H⟩ := H
        refine w_y (y_ld tok rfl rfl rfl rfl hv10) rfl rfl ?_
        refine w_p tok rfl rfl rfl ?_
        refine w_y (y_nil' rfl rfl ha8) rfl rfl ?_
        refine w_p tok rfl rfl rfl ?_
        obtain ⟨h11, wh11, eh11, H⟩ := H
        refine w_h (h_st tok rfl rfl rfl rfl rfl rfl wh11 eh11) rfl rfl ?_
        refine w_end ?_
        refine x_seq ?_
        refine c_weak [(8, .int .i64 t8_1), (0, .pointer p0), (6, Slc.v r1), (7, .int .i64 (r1.len : Int)), (4, .pointer ((mget l7 v4).getD none))] ⟨rfl, rfl, rfl, rfl, rfl, trivial⟩ ?_
        refine c_seq ?_
        refine c_region ?_
        refine w_p tok rfl rfl rfl ?_
        refine w_y (y_nil' rfl rfl ha8) rfl rfl ?_
        refine w_p tok rfl rfl rfl ?_
        obtain ⟨v12, hv12, H⟩ := H
        refine w_y (y_ld tok rfl rfl rfl rfl hv12) rfl rfl ?_
        refine w_p tok rfl rfl rfl ?_
        refine w_end ?_
        refine x_seq ?_
        refine c_if H rfl (fun H => ?_) (fun H => ?_)
        ·
          refine c_region ?_
          refine w_p tok rfl rfl rfl ?_
          refine w_p tok rfl rfl rfl ?_
          refine w_y (y_nil' rfl rfl ha8) rfl rfl ?_
          refine w_p tok rfl rfl rfl ?_
          obtain ⟨h13, wh13, eh13, H⟩ := H
          refine w_h (h_st tok rfl rfl rfl rfl rfl rfl wh13 eh13) rfl rfl ?_
          refine w_y (y_nil' rfl rfl ha8) rfl rfl ?_
          refine w_p tok rfl rfl rfl ?_
          obtain ⟨h14, wh14, eh14, H⟩ := H
          refine w_h (h_st tok rfl rfl rfl rfl rfl rfl wh14 eh14) rfl rfl ?_
          refine w_end ?_
          refine x_blk ?_
          exact x_join () H ⟨rfl, rfl, rfl, rfl, trivial⟩
        ·
          refine c_skip ?_
          refine x_blk ?_
          exact x_join () H ⟨rfl, rfl, rfl, rfl, trivial⟩
  ·
    refine c_exit ?_
    refine x_te ?_
    refine x_te ?_
    refine x_bh ?_
    exact x_end _ rfl _ rfl ⟨(), rfl, H⟩

theorem quorum_Desk_Due_ok : CallOk Go.Proofs.Tryz.prog 14 := ⟨_, Go.Proofs.Tryz.func14, by kernel_rfl, by kernel_rfl⟩
theorem quorum_Desk_Due_ref (p0 : Option Addr) (k : (Slc) → Heap → Prop) (h : Heap) (H : quorum_Desk_Due p0 k h) : CallsH Go.Proofs.Tryz.prog 14 #[.pointer p0] h (fun v h' => ∃ r : Slc, v = Slc.v r ∧ k r h') := by
  refine f_enter (N := 51) Go.Proofs.Tryz.func14 rfl rfl rfl (fun w0 => ?_)
  unfold quorum_Desk_Due at H
  refine c_weak [(0, .pointer p0)] ⟨rfl, trivial⟩ ?_
  refine c_seq ?_
  refine c_region ?_
  refine w_p tok rfl rfl rfl ?_
  refine w_end ?_
  refine x_seq ?_
  refine c_scope ?_
  refine c_seq ?_
  refine c_region ?_
  refine w_p tok rfl rfl rfl ?_
  refine w_end ?_
  refine x_seq ?_
  refine c_seq ?_
  refine c_label ?_
  refine x_seq ?_
  refine c_seq ?_
  refine c_seq ?_
  refine c_region ?_
  refine w_p tok rfl rfl rfl ?_
  refine w_call quorum_Desk_numbers_ok (quorum_Desk_numbers_ref _ _ _ H) rfl rfl rfl rfl ?_
  rintro _ h2 ⟨r1, rfl, H⟩
  refine w_p tok rfl rfl rfl ?_
  refine w_p tok rfl rfl rfl ?_
  refine w_end ?_
  refine x_seq ?_
  refine c_block ?_
  obtain ⟨I1, μ1, H0, HI⟩ := H
  refine c_loop (σ := Slc × Int) (fun (s : Slc × Int) => [(3, Slc.v s.1), (12, .int .i64 s.2), (0, .pointer p0), (10, Slc.v r1), (11, .int .i64 (r1.len : Int))]) I1 μ1 ((⟨none, 0, 0⟩ : Slc), 0) H0 ⟨rfl, rfl, rfl, rfl, rfl, trivial⟩ ?_
  rintro ⟨t3_1, t12_1⟩ h_1 H
  replace H := HI t3_1 t12_1 h_1 H
  unfold quorum_Desk_Due_l1b at H
  refine c_weak [(3, Slc.v t3_1), (12, .int .i64 t12_1), (0, .pointer p0), (10, Slc.v r1), (11, .int .i64 (r1.len : Int))] ⟨rfl, rfl, rfl, rfl, rfl, trivial⟩ ?_
  refine c_seq ?_
  refine c_region ?_
  refine w_p tok rfl rfl rfl ?_
  refine w_end ?_
  refine x_seq ?_
  refine c_seq ?_
  refine c_if H rfl (fun H => ?_) (fun H => ?_)
  ·
    refine c_skip ?_
    refine x_seq ?_
    refine c_seqJ (α := Slc) (fun (s : Slc) => [(3, Slc.v s), (0, .pointer p0), (10, Slc.v r1), (11, .int .i64 (r1.len : Int)), (12, .int .i64 t12_1)]) (fun (s : Slc) h => quorum_Desk_Due_j2 p0 r1 (r1.len : Int) t12_1 s k (fun s h' => I1 s h' ∧ μ1 s h' < μ1 (t3_1, t12_1) h_1) h) ?_ ?_
    ·
      rintro t3_2 h_2 H
      replace H : quorum_Desk_Due_j2 p0 r1 (r1.len : Int) t12_1 t3_2 k (fun s h' => I1 s h' ∧ μ1 s h' < μ1 (t3_1, t12_1) h_1) h_2 := H
      unfold quorum_Desk_Due_j2 at H
      refine c_weak [(3, Slc.v t3_2), (0, .pointer p0), (10, Slc.v r1), (11, .int .i64 (r1.len : Int)), (12, .int .i64 t12_1)] ⟨rfl, rfl, rfl, rfl, rfl, trivial⟩ ?_
      refine c_region ?_
      refine w_p tok rfl rfl rfl ?_
      refine w_p tok rfl rfl rfl ?_
      refine w_end ?_
      exact x_join (t3_2, (IntKind.i64.wrap (t12_1 + 1))) H ⟨rfl, rfl, rfl, rfl, rfl, trivial⟩
    ·
      refine c_block ?_
      refine c_seq ?_
      refine c_region ?_
      obtain ⟨a3, ha3, la3, ua3, H⟩ := H
      refine w_y (y_ixa' tok rfl rfl ha3 rfl rfl rfl la3 ua3) rfl rfl ?_
      obtain ⟨v4, hv4, H⟩ := H
      refine w_y (y_ld tok rfl rfl rfl rfl hv4) rfl rfl ?_
      refine w_p tok rfl rfl rfl ?_
      refine w_end ?_
      refine x_seq ?_
      refine c_seq ?_
      refine c_region ?_
      refine w_p tok rfl rfl rfl ?_
      obtain ⟨a5, ha5, H⟩ := H
      refine w_y (y_nil' rfl rfl ha5) rfl rfl ?_
      refine w_p tok rfl rfl rfl ?_
      obtain ⟨v6, hv6, H⟩ := H
      refine w_y (y_ld tok rfl rfl rfl rfl hv6) rfl rfl ?_
      refine w_p tok rfl rfl rfl ?_
      obtain ⟨l7, hl7, H⟩ := H
      refine w_y (y_lk (K := Int) (V := (Option Addr)) (d := (.int .u64)) (kf := (Value.int .u64)) (vf := (fun v : Option Addr => (.pointer v : Value))) (kt := 29) (et := 56) (k := v4) (z := none) (m := v6) (l := l7) rfl rfl rfl (by kernel_rfl) (by kernel_rfl) (kInt .u64) (zero_1 tok (T := tab) rfl rfl rfl) hl7) rfl rfl ?_
      refine w_p tok rfl rfl rfl ?_
      refine w_end ?_
      refine x_seq ?_
      refine c_weak [(3, Slc.v t3_1), (12, .int .i64 t12_1), (0, .pointer p0), (10, Slc.v r1), (11, .int .i64 (r1.len : Int)), (5, .int .u64 v4), (6, .pointer ((mget l7 v4).getD none))] ⟨rfl, rfl, rfl, rfl, rfl, rfl, rfl, trivial⟩ ?_
      refine c_seq ?_
      refine c_seq ?_
      refine c_region ?_
      refine w_p tok rfl rfl rfl ?_
      obtain ⟨a8, ha8, H⟩ := H
      refine w_y (y_nil' rfl rfl ha8) rfl rfl ?_
      refine w_p tok rfl rfl rfl ?_
      obtain ⟨v9, hv9, H⟩ := H
      refine w_y (y_ld tok rfl rfl rfl rfl hv9) rfl rfl ?_
      refine w_end ?_
      refine x_seq ?_
      refine c_if H rfl (fun H => ?_) (fun H => ?_)
      ·
        refine c_exit ?_
        refine x_te ?_
        refine x_bh ?_
        exact x_join t3_1 H ⟨rfl, rfl, rfl, rfl, rfl, trivial⟩
      ·
        refine c_skip ?_
        refine x_seq ?_
        refine c_seq ?_
        refine c_region ?_
        refine w_p tok rfl rfl rfl ?_
        refine w_y (y_nil' rfl rfl ha8) rfl rfl ?_
        refine w_p tok rfl rfl rfl ?_
        obtain ⟨v10, hv10, H⟩ := H
        refine w_y (y_ld tok rfl rfl rfl rfl hv10) rfl rfl ?_
        refine w_p tok rfl rfl rfl ?_
        refine w_p tok rfl rfl rfl ?_
        refine w_end ?_
        refine x_seq ?_
        refine c_weak [(3, Slc.v t3_1), (12, .int .i64 t12_1), (0, .pointer p0), (10, Slc.v r1), (11, .int .i64 (r1.len : Int)), (5, .int .u64 v4), (6, .pointer ((mget l7 v4).getD none)), (29, Slc.v v10), (30, .int .i64 (v10.len : Int)), (31, .int .i64 0)] ⟨rfl, rfl, rfl, rfl, rfl, rfl, rfl, rfl, rfl, rfl, trivial⟩ ?_
        refine c_block ?_
        obtain ⟨I3, μ3, H0, HI⟩ := H
        refine c_loop (σ := Slc × Int) (fun (s : Slc × Int) => [(3, Slc.v s.1), (31, .int .i64 s.2), (0, .pointer p0), (5, .int .u64 v4), (6, .pointer ((mget l7 v4).getD none)), (10, Slc.v r1), (11, .int .i64 (r1.len : Int)), (12, .int .i64 t12_1), (29, Slc.v v10), (30, .int .i64 (v10.len : Int))]) I3 μ3 (t3_1, 0) H0 ⟨rfl, rfl, rfl, rfl, rfl, rfl, rfl, rfl, rfl, rfl, trivial⟩ ?_
        rintro ⟨t3_3, t31_3⟩ h_3 H
        replace H := HI t3_3 t31_3 h_3 H
        unfold quorum_Desk_Due_l3b at H
        refine c_weak [(3, Slc.v t3_3), (31, .int .i64 t31_3), (0, .pointer p0), (5, .int .u64 v4), (6, .pointer ((mget l7 v4).getD none)), (10, Slc.v r1), (11, .int .i64 (r1.len : Int)), (12, .int .i64 t12_1), (29, Slc.v v10), (30, .int .i64 (v10.len : Int))] ⟨rfl, rfl, rfl, rfl, rfl, rfl, rfl, rfl, rfl, rfl, trivial⟩ ?_
        refine c_seq ?_
        refine c_region ?_
        refine w_p tok rfl rfl rfl ?_
        refine w_end ?_
        refine x_seq ?_
        refine c_seq ?_
        refine c_if H rfl (fun H => ?_) (fun H => ?_)
        ·
          refine c_skip ?_
          refine x_seq ?_
          refine c_seqJ (α := Slc) (fun (s : Slc) => [(3, Slc.v s), (0, .pointer p0), (5, .int .u64 v4), (6, .pointer ((mget l7 v4).getD none)), (10, Slc.v r1), (11, .int .i64 (r1.len : Int)), (12, .int .i64 t12_1), (29, Slc.v v10), (30, .int .i64 (v10.len : Int)), (31, .int .i64 t31_3)]) (fun (s : Slc) h => quorum_Desk_Due_j4 p0 v4 ((mget l7 v4).getD none) r1 (r1.len : Int) t12_1 v10 (v10.len : Int) t31_3 s k (fun s h' => I1 s h' ∧ μ1 s h' < μ1 (t3_1, t12_1) h_1) (fun s h' => I3 s h' ∧ μ3 s h' < μ3 (t3_3, t31_3) h_3) h) ?_ ?_
          ·
            rintro t3_4 h_4 H
            replace H : quorum_Desk_Due_j4 p0 v4 ((mget l7 v4).getD none) r1 (r1.len : Int) t12_1 v10 (v10.len : Int) t31_3 t3_4 k (fun s h' => I1 s h' ∧ μ1 s h' < μ1 (t3_1, t12_1) h_1) (fun s h' => I3 s h' ∧ μ3 s h' < μ3 (t3_3, t31_3) h_3) h_4 := H
            unfold quorum_Desk_Due_j4 at H
            refine c_weak [(3, Slc.v t3_4), (0, .pointer p0), (5, .int .u64 v4), (6, .pointer ((mget l7 v4).getD none)), (10, Slc.v r1), (11, .int .i64 (r1.len : Int)), (12, .int .i64 t12_1), (29, Slc.v v10), (30, .int .i64 (v10.len : Int)), (31, .int .i64 t31_3)] ⟨rfl, rfl, rfl, rfl, rfl, rfl, rfl, rfl, rfl, rfl, trivial⟩ ?_
            refine c_region ?_
            refine w_p tok rfl rfl rfl ?_
            refine w_p tok rfl rfl rfl ?_
            refine w_end ?_
            exact x_join (t3_4, (IntKind.i64.wrap (t31_3 + 1))) H ⟨rfl, rfl, rfl, rfl, rfl, rfl, rfl, rfl, rfl, rfl, trivial⟩
          ·
            refine c_block ?_
            refine c_seq ?_
            refine c_region ?_
            obtain ⟨a11, ha11, la11, ua11, H⟩ := H
            refine w_y (y_ixa' tok rfl rfl ha11 rfl rfl rfl la11 ua11) rfl rfl ?_
            obtain ⟨v12, hv12, H⟩ := H
            refine w_y (y_ld tok rfl rfl rfl rfl hv12) rfl rfl ?_
            refine w_p tok rfl rfl rfl ?_
            refine w_end ?_
            refine x_seq ?_
            refine c_seq ?_
            refine c_region ?_
            refine w_p tok rfl rfl rfl ?_
            obtain ⟨a13, ha13, H⟩ := H
            refine w_y (y_nil' rfl rfl ha13) rfl rfl ?_
            refine w_p tok rfl rfl rfl ?_
            obtain ⟨v14, hv14, H⟩ := H
            refine w_y (y_ld tok rfl rfl rfl rfl hv14) rfl rfl ?_
            refine w_p tok rfl rfl rfl ?_
            refine w_call slices_Contains_int_int_ok (slices_Contains_int_int_ref _ _ _ _ H) rfl rfl rfl rfl ?_
            rintro _ h16 ⟨r15, rfl, H⟩
            refine w_p tok rfl rfl rfl ?_
            refine w_end ?_
            refine x_seq ?_
            refine c_weak [(3, Slc.v t3_3), (31, .int .i64 t31_3), (0, .pointer p0), (5, .int .u64 v4), (6, .pointer ((mget l7 v4).getD none)), (10, Slc.v r1), (11, .int .i64 (r1.len : Int)), (12, .int .i64 t12_1), (29, Slc.v v10), (30, .int .i64 (v10.len : Int)), (8, .int .i64 v12), (41, .bool (!r15))] ⟨rfl, rfl, rfl, rfl, rfl, rfl, rfl, rfl, rfl, rfl, rfl, rfl, trivial⟩ ?_
            refine c_if H rfl (fun H => ?_) (fun H => ?_)
            ·
              refine c_region ?_
              refine w_p tok rfl rfl rfl ?_
              refine w_p tok rfl rfl rfl ?_
              refine w_p tok rfl rfl rfl ?_
              refine w_y (y_build tok rfl rfl rfl rfl rfl) rfl rfl ?_
              obtain ⟨b17, h18, eb17, eh18, H⟩ := H
              refine w_h (h_bs tok rfl rfl rfl rfl rfl rfl rfl eb17 eh18) rfl rfl ?_
              refine w_a (a_app (s := t3_3) (r := (⟨some ⟨b17, 0, none⟩, 1, 1⟩ : Slc)) tok rfl rfl rfl rfl rfl (slcAt_push eb17 eh18) H) rfl rfl ?_
              rintro _ h20 ⟨s19, rfl, H⟩
              refine w_p tok rfl rfl rfl ?_
              refine w_end ?_
              refine x_blk ?_
              exact x_join s19 H ⟨rfl, rfl, rfl, rfl, rfl, rfl, rfl, rfl, rfl, rfl, trivial⟩
            ·
              refine c_skip ?_
              refine x_blk ?_
              exact x_join t3_3 H ⟨rfl, rfl, rfl, rfl, rfl, rfl, rfl, rfl, rfl, rfl, trivial⟩
        ·
          refine c_exit ?_
          refine x_te ?_
          refine x_te ?_
          refine x_bh ?_
          refine x_blk ?_
          exact x_join t3_3 H ⟨rfl, rfl, rfl, rfl, rfl, trivial⟩
  ·
    refine c_exit ?_
    refine x_te ?_
    refine x_te ?_
    refine x_bh ?_
    refine x_seq ?_
    refine c_seq ?_
    refine c_region ?_
    refine w_p tok rfl rfl rfl ?_
    refine w_p tok rfl rfl rfl ?_
    refine w_end ?_
    refine x_seq ?_
    refine c_weak [(2, Slc.v t3_1)] ⟨rfl, trivial⟩ ?_
    refine c_ret ?_
    refine x_sr ?_
    exact x_ret _ rfl _ rfl ⟨t3_1, rfl, H⟩

theorem quorum_ends_ok : CallOk Go.Proofs.Tryz.prog 24 := ⟨_, Go.Proofs.Tryz.func24, by kernel_rfl, by kernel_rfl⟩
theorem quorum_ends_ref (p0 : Int) (p1 : Int) (k : (Bool) → Heap → Prop) (h : Heap) (H : quorum_ends p0 p1 k h) : CallsH Go.Proofs.Tryz.prog 24 #[.int .i64 p0, .int .i64 p1] h (fun v h' => ∃ r : Bool, v = .bool r ∧ k r h') := by
  refine f_enter (N := 18) Go.Proofs.Tryz.func24 rfl rfl rfl (fun w0 => ?_)
  unfold quorum_ends at H
  refine c_weak [(0, .int .i64 p0), (1, .int .i64 p1)] ⟨rfl, rfl, trivial⟩ ?_
  refine c_seq ?_
  refine c_region ?_
  refine w_p tok rfl rfl rfl ?_
  refine w_end ?_
  refine x_seq ?_
  refine c_seq ?_
  refine c_seq ?_
  refine c_region ?_
  refine w_p tok rfl rfl rfl ?_
  refine w_end ?_
  refine x_seq ?_
  refine c_block ?_
  refine c_seqJ (α := Bool) (fun (s : Bool) => [(6, .bool s), (0, .int .i64 p0), (5, .int .i64 p1)]) (fun (s : Bool) h => quorum_ends_j1 p0 p1 s k h) ?_ ?_
  ·
    rintro t6_1 h_1 H
    replace H : quorum_ends_j1 p0 p1 t6_1 k h_1 := H
    unfold quorum_ends_j1 at H
    refine c_weak [(6, .bool t6_1), (0, .int .i64 p0), (5, .int .i64 p1)] ⟨rfl, rfl, rfl, trivial⟩ ?_
    refine c_if H rfl (fun H => ?_) (fun H => ?_)
    ·
      refine c_seq ?_
      refine c_region ?_
      refine w_p tok rfl rfl rfl ?_
      refine w_end ?_
      refine x_seq ?_
      refine c_ret ?_
      refine x_br ?_
      refine x_tr ?_
      exact x_ret _ rfl _ rfl ⟨true, rfl, H⟩
    ·
      refine c_seqJ (α := Bool) (fun (s : Bool) => [(10, .bool s), (0, .int .i64 p0)]) (fun (s : Bool) h => quorum_ends_j2 p0 s k h) ?_ ?_
      ·
        rintro t10_2 h_2 H
        replace H : quorum_ends_j2 p0 t10_2 k h_2 := H
        unfold quorum_ends_j2 at H
        refine c_weak [(10, .bool t10_2), (0, .int .i64 p0)] ⟨rfl, rfl, trivial⟩ ?_
        refine c_if H rfl (fun H => ?_) (fun H => ?_)
        ·
          refine c_seq ?_
          refine c_region ?_
          refine w_p tok rfl rfl rfl ?_
          refine w_end ?_
          refine x_seq ?_
          refine c_ret ?_
          refine x_br ?_
          refine x_tr ?_
          exact x_ret _ rfl _ rfl ⟨false, rfl, H⟩
        ·
          refine c_skip ?_
          refine x_blk ?_
          refine x_seq ?_
          refine c_seq ?_
          refine c_region ?_
          refine w_p tok rfl rfl rfl ?_
          refine w_p tok rfl rfl rfl ?_
          refine w_p tok rfl rfl rfl ?_
          refine w_end ?_
          refine x_seq ?_
          refine c_ret ?_
          exact x_ret _ rfl _ rfl ⟨(p0 == 3), rfl, H⟩
      ·
        refine c_seq ?_
        refine c_region ?_
        refine w_p tok rfl rfl rfl ?_
        refine w_p tok rfl rfl rfl ?_
        refine w_end ?_
        refine x_seq ?_
        refine c_if H rfl (fun H => ?_) (fun H => ?_)
        ·
          refine c_skip ?_
          exact x_join (p1 == 0) H ⟨rfl, rfl, trivial⟩
        ·
          refine c_seq ?_
          refine c_region ?_
          refine w_p tok rfl rfl rfl ?_
          refine w_p tok rfl rfl rfl ?_
          refine w_end ?_
          refine x_seq ?_
          refine c_if H rfl (fun H => ?_) (fun H => ?_)
          ·
            refine c_skip ?_
            exact x_join (p1 == 18) H ⟨rfl, rfl, trivial⟩
          ·
            refine c_seq ?_
            refine c_region ?_
            refine w_p tok rfl rfl rfl ?_
            refine w_p tok rfl rfl rfl ?_
            refine w_end ?_
            refine x_seq ?_
            refine c_if H rfl (fun H => ?_) (fun H => ?_)
            ·
              refine c_skip ?_
              exact x_join (p1 == 14) H ⟨rfl, rfl, trivial⟩
            ·
              refine c_seq ?_
              refine c_region ?_
              refine w_p tok rfl rfl rfl ?_
              refine w_p tok rfl rfl rfl ?_
              refine w_end ?_
              refine x_seq ?_
              refine c_if H rfl (fun H => ?_) (fun H => ?_)
              ·
                refine c_skip ?_
                exact x_join (p1 == 11) H ⟨rfl, rfl, trivial⟩
              ·
                refine c_region ?_
                refine w_p tok rfl rfl rfl ?_
                refine w_p tok rfl rfl rfl ?_
                refine w_end ?_
                exact x_join (p1 == 15) H ⟨rfl, rfl, trivial⟩
  ·
    refine c_seq ?_
    refine c_region ?_
    refine w_p tok rfl rfl rfl ?_
    refine w_p tok rfl rfl rfl ?_
    refine w_end ?_
    refine x_seq ?_
    refine c_if H rfl (fun H => ?_) (fun H => ?_)
    ·
      refine c_skip ?_
      exact x_join (p1 == 1) H ⟨rfl, rfl, rfl, trivial⟩
    ·
      refine c_seq ?_
      refine c_region ?_
      refine w_p tok rfl rfl rfl ?_
      refine w_p tok rfl rfl rfl ?_
      refine w_end ?_
      refine x_seq ?_
      refine c_if H rfl (fun H => ?_) (fun H => ?_)
      ·
        refine c_skip ?_
        exact x_join (p1 == 3) H ⟨rfl, rfl, rfl, trivial⟩
      ·
        refine c_region ?_
        refine w_p tok rfl rfl rfl ?_
        refine w_p tok rfl rfl rfl ?_
        refine w_end ?_
        exact x_join (p1 == 17) H ⟨rfl, rfl, rfl, trivial⟩

theorem quorum_Desk_No_ok : CallOk Go.Proofs.Tryz.prog 13 := ⟨_, Go.Proofs.Tryz.func13, by kernel_rfl, by kernel_rfl⟩
theorem quorum_Desk_No_ref (p0 : Option Addr) (p1 : Int) (p2 : Int) (p3 : Int) (k : (Bool) → Heap → Prop) (h : Heap) (H : quorum_Desk_No p0 p1 p2 p3 k h) : CallsH Go.Proofs.Tryz.prog 13 #[.pointer p0, .int .u64 p1, .int .i64 p2, .int .i64 p3] h (fun v h' => ∃ r : Bool, v = .bool r ∧ k r h') := by
  refine f_enter (N := 36) Go.Proofs.Tryz.func13 rfl rfl rfl (fun w0 => ?_)
  unfold quorum_Desk_No at H
  refine c_weak [(0, .pointer p0), (1, .int .u64 p1), (2, .int .i64 p2), (3, .int .i64 p3)] ⟨rfl, rfl, rfl, rfl, trivial⟩ ?_
  refine c_seq ?_
  refine c_region ?_
  refine w_p tok rfl rfl rfl ?_
  refine w_end ?_
  refine x_seq ?_
  refine c_seq ?_
  refine c_region ?_
  refine w_p tok rfl rfl rfl ?_
  refine w_p tok rfl rfl rfl ?_
  refine w_p tok rfl rfl rfl ?_
  refine w_call quorum_Desk_open_ok (quorum_Desk_open_ref _ _ _ _ _ H) rfl rfl rfl rfl ?_
  rintro _ h2 ⟨r1, rfl, H⟩
  refine w_p tok rfl rfl rfl ?_
  refine w_p tok rfl rfl rfl ?_
  refine w_p tok rfl rfl rfl ?_
  refine w_p tok rfl rfl rfl ?_
  refine w_p tok rfl rfl rfl ?_
  refine w_end ?_
  refine x_seq ?_
  refine c_weak [(3, .int .i64 p3), (9, .pointer r1.1), (10, .bool r1.2)] ⟨rfl, rfl, rfl, trivial⟩ ?_
  refine c_seq ?_
  refine c_seq ?_
  refine c_region ?_
  refine w_p tok rfl rfl rfl ?_
  refine w_p tok rfl rfl rfl ?_
  refine w_p tok rfl rfl rfl ?_
  refine w_cut 8 (α := Bool) (fun (s : Bool) => [(28, .bool s), (3, .int .i64 p3), (9, .pointer r1.1)]) (fun (s : Bool) h => quorum_Desk_No_g1 p3 r1.1 s k h) ?_ ?_
  ·
    rintro t28_1 h_1 H
    replace H : quorum_Desk_No_g1 p3 r1.1 t28_1 k h_1 := H
    unfold quorum_Desk_No_g1 at H
    refine w_weak [(28, .bool t28_1), (3, .int .i64 p3), (9, .pointer r1.1)] ⟨rfl, rfl, rfl, trivial⟩ ?_
    refine w_end ?_
    refine x_seq ?_
    refine c_if H rfl (fun H => ?_) (fun H => ?_)
    ·
      refine c_seq ?_
      refine c_region ?_
      refine w_p tok rfl rfl rfl ?_
      refine w_end ?_
      refine x_seq ?_
      refine c_ret ?_
      refine x_tr ?_
      exact x_ret _ rfl _ rfl ⟨false, rfl, H⟩
    ·
      refine c_skip ?_
      refine x_seq ?_
      refine c_seq ?_
      refine c_region ?_
      refine w_p tok rfl rfl rfl ?_
      refine w_p tok rfl rfl rfl ?_
      refine w_p tok rfl rfl rfl ?_
      obtain ⟨a3, ha3, H⟩ := H
      refine w_y (y_nil' rfl rfl ha3) rfl rfl ?_
      refine w_p tok rfl rfl rfl ?_
      obtain ⟨h4, wh4, eh4, H⟩ := H
      refine w_h (h_st tok rfl rfl rfl rfl rfl rfl wh4 eh4) rfl rfl ?_
      refine w_y (y_nil' rfl rfl ha3) rfl rfl ?_
      refine w_p tok rfl rfl rfl ?_
      obtain ⟨h5, wh5, eh5, H⟩ := H
      refine w_h (h_st tok rfl rfl rfl rfl rfl rfl wh5 eh5) rfl rfl ?_
      refine w_end ?_
      refine x_seq ?_
      refine c_weak [] trivial ?_
      refine c_seq ?_
      refine c_region ?_
      refine w_p tok rfl rfl rfl ?_
      refine w_end ?_
      refine x_seq ?_
      refine c_ret ?_
      exact x_ret _ rfl _ rfl ⟨true, rfl, H⟩
  ·
    refine w_gif (d := 20) H rfl (fun H => ?_) (fun H => ?_)
    ·
      refine w_skip rfl rfl ?_
      refine w_skip rfl rfl ?_
      refine w_skip rfl rfl ?_
      refine w_skip rfl rfl ?_
      refine w_skip rfl rfl ?_
      refine w_skip rfl rfl ?_
      refine w_skip rfl rfl ?_
      refine w_p tok rfl rfl rfl ?_
      exact w_jn true H ⟨rfl, rfl, rfl, trivial⟩
    ·
      refine w_p tok rfl rfl rfl ?_
      obtain ⟨a6, ha6, H⟩ := H
      refine w_y (y_nil' rfl rfl ha6) rfl rfl ?_
      refine w_p tok rfl rfl rfl ?_
      obtain ⟨v7, hv7, H⟩ := H
      refine w_y (y_ld tok rfl rfl rfl rfl hv7) rfl rfl ?_
      refine w_p tok rfl rfl rfl ?_
      refine w_call quorum_ends_ok (quorum_ends_ref _ _ _ _ H) rfl rfl rfl rfl ?_
      rintro _ h9 ⟨r8, rfl, H⟩
      refine w_p tok rfl rfl rfl ?_
      refine w_p tok rfl rfl rfl ?_
      exact w_jn (!r8) H ⟨rfl, rfl, rfl, trivial⟩

theorem law31_awake_ok : CallOk Go.Proofs.Tryz.prog 5 := ⟨_, Go.Proofs.Tryz.func5, by kernel_rfl, by kernel_rfl⟩
theorem law31_awake_ref (k : (Bool) → Heap → Prop) (h : Heap) (H : law31_awake k h) : CallsH Go.Proofs.Tryz.prog 5 #[] h (fun v h' => ∃ r : Bool, v = .bool r ∧ k r h') := by
  refine f_enter (N := 53) Go.Proofs.Tryz.func5 rfl rfl rfl (fun w0 => ?_)
  unfold law31_awake at H
  refine c_seq ?_
  refine c_region ?_
  refine w_p tok rfl rfl rfl ?_
  refine w_end ?_
  refine x_seq ?_
  refine c_seq ?_
  refine c_region ?_
  refine w_call quorum_New_ok (quorum_New_ref  _ _ H) rfl rfl rfl rfl ?_
  rintro _ h2 ⟨r1, rfl, H⟩
  refine w_p tok rfl rfl rfl ?_
  refine w_end ?_
  refine x_seq ?_
  refine c_seq ?_
  refine c_region ?_
  refine w_p tok rfl rfl rfl ?_
  obtain ⟨b3, h4, eb3, eh4, H⟩ := H
  refine w_h (h_bs tok rfl rfl rfl rfl rfl rfl rfl eb3 eh4) rfl rfl ?_
  refine w_y (y_build tok rfl rfl rfl rfl rfl) rfl rfl ?_
  refine w_call quorum_Desk_Start_ok (quorum_Desk_Start_ref _ _ _ _ H) rfl rfl rfl rfl ?_
  rintro _ h6 ⟨r5, rfl, H⟩
  refine w_p tok rfl rfl rfl ?_
  refine w_end ?_
  refine x_seq ?_
  refine c_seq ?_
  refine c_region ?_
  refine w_p tok rfl rfl rfl ?_
  refine w_call quorum_Desk_Yes_ok (quorum_Desk_Yes_ref _ _ _ _ _ _ H) rfl rfl rfl rfl ?_
  rintro _ h8 ⟨r7, rfl, H⟩
  refine w_p tok rfl rfl rfl ?_
  refine w_end ?_
  refine x_seq ?_
  refine c_weak [(1, .pointer r1), (2, .int .i64 r5), (3, .bool r7)] ⟨rfl, rfl, rfl, trivial⟩ ?_
  refine c_seq ?_
  refine c_region ?_
  refine w_p tok rfl rfl rfl ?_
  refine w_call quorum_Desk_Result_ok (quorum_Desk_Result_ref _ _ _ _ H) rfl rfl rfl rfl ?_
  rintro _ h10 ⟨r9, rfl, H⟩
  refine w_p tok rfl rfl rfl ?_
  refine w_p tok rfl rfl rfl ?_
  refine w_p tok rfl rfl rfl ?_
  obtain ⟨b11, h12, eb11, eh12, H⟩ := H
  refine w_h (h_alloc tok rfl rfl eb11 eh12) rfl rfl ?_
  obtain ⟨h13, wh13, eh13, H⟩ := H
  refine w_h (h_sts tok rfl rfl rfl rfl rfl (oneC (by kernel_rfl)) wh13 eh13) rfl rfl ?_
  refine w_p tok rfl rfl rfl ?_
  refine w_end ?_
  refine x_seq ?_
  refine c_seq ?_
  refine c_region ?_
  refine w_p tok rfl rfl rfl ?_
  refine w_call quorum_Desk_Yes_ok (quorum_Desk_Yes_ref _ _ _ _ _ _ H) rfl rfl rfl rfl ?_
  rintro _ h15 ⟨r14, rfl, H⟩
  refine w_p tok rfl rfl rfl ?_
  refine w_end ?_
  refine x_seq ?_
  refine c_weak [(1, .pointer r1), (2, .int .i64 r5), (3, .bool r7), (5, .int .i64 r9.2), (6, .bool r14)] ⟨rfl, rfl, rfl, rfl, rfl, trivial⟩ ?_
  refine c_seq ?_
  refine c_region ?_
  refine w_p tok rfl rfl rfl ?_
  refine w_call quorum_Desk_Result_ok (quorum_Desk_Result_ref _ _ _ _ H) rfl rfl rfl rfl ?_
  rintro _ h17 ⟨r16, rfl, H⟩
  refine w_p tok rfl rfl rfl ?_
  refine w_p tok rfl rfl rfl ?_
  refine w_p tok rfl rfl rfl ?_
  obtain ⟨b18, h19, eb18, eh19, H⟩ := H
  refine w_h (h_alloc tok rfl rfl eb18 eh19) rfl rfl ?_
  obtain ⟨h20, wh20, eh20, H⟩ := H
  refine w_h (h_sts tok rfl rfl rfl rfl rfl (oneC (by kernel_rfl)) wh20 eh20) rfl rfl ?_
  refine w_p tok rfl rfl rfl ?_
  refine w_end ?_
  refine x_seq ?_
  refine c_seq ?_
  refine c_region ?_
  refine w_p tok rfl rfl rfl ?_
  refine w_p tok rfl rfl rfl ?_
  refine w_p tok rfl rfl rfl ?_
  refine w_cutU 2 [(32, .bool ((r5 == 0) && r7)), (5, .int .i64 r9.2), (6, .bool r14), (7, .pointer (some (⟨b18, 0, none⟩ : Addr))), (8, .int .i64 r16.2)] ?_ ?_
  ·
    refine w_p tok rfl rfl rfl ?_
    refine w_cutU 2 [(35, .bool (((r5 == 0) && r7) && r14)), (5, .int .i64 r9.2), (7, .pointer (some (⟨b18, 0, none⟩ : Addr))), (8, .int .i64 r16.2)] ?_ ?_
    ·
      refine w_p tok rfl rfl rfl ?_
      refine w_cutU 3 [(39, .bool ((((r5 == 0) && r7) && r14) && (r9.2 == 14))), (7, .pointer (some (⟨b18, 0, none⟩ : Addr))), (8, .int .i64 r16.2)] ?_ ?_
      ·
        refine w_p tok rfl rfl rfl ?_
        refine w_cutU 3 [(43, .bool (((((r5 == 0) && r7) && r14) && (r9.2 == 14)) && (r16.2 == 0))), (7, .pointer (some (⟨b18, 0, none⟩ : Addr)))] ?_ ?_
        ·
          refine w_p tok rfl rfl rfl ?_
          refine w_cut 3 (α := Bool) (fun (s : Bool) => [(47, .bool s), (7, .pointer (some (⟨b18, 0, none⟩ : Addr)))]) (fun (s : Bool) h => law31_awake_g1 (⟨b18, 0, none⟩ : Addr) s k h) ?_ ?_
          ·
            rintro t47_1 h_1 H
            replace H : law31_awake_g1 (⟨b18, 0, none⟩ : Addr) t47_1 k h_1 := H
            unfold law31_awake_g1 at H
            refine w_weak [(47, .bool t47_1), (7, .pointer (some (⟨b18, 0, none⟩ : Addr)))] ⟨rfl, rfl, trivial⟩ ?_
            refine w_p tok rfl rfl rfl ?_
            refine w_cut 4 (α := Bool) (fun (s : Bool) => [(52, .bool s)]) (fun (s : Bool) h => law31_awake_g2 s k h) ?_ ?_
            ·
              rintro t52_2 h_2 H
              replace H : law31_awake_g2 t52_2 k h_2 := H
              unfold law31_awake_g2 at H
              refine w_weak [(52, .bool t52_2)] ⟨rfl, trivial⟩ ?_
              refine w_p tok rfl rfl rfl ?_
              refine w_end ?_
              refine x_seq ?_
              refine c_ret ?_
              exact x_ret _ rfl _ rfl ⟨t52_2, rfl, H⟩
            ·
              refine w_gif (d := 48) H rfl (fun H => ?_) (fun H => ?_)
              ·
                refine w_p tok rfl rfl rfl ?_
                obtain ⟨v21, hv21, H⟩ := H
                refine w_y (y_ld tok rfl rfl rfl rfl hv21) rfl rfl ?_
                refine w_p tok rfl rfl rfl ?_
                refine w_p tok rfl rfl rfl ?_
                exact w_jn (v21 == 0) H ⟨rfl, trivial⟩
              ·
                refine w_skip rfl rfl ?_
                refine w_skip rfl rfl ?_
                refine w_skip rfl rfl ?_
                refine w_p tok rfl rfl rfl ?_
                exact w_jn false H ⟨rfl, trivial⟩
          ·
            refine w_gif (d := 44) H rfl (fun H => ?_) (fun H => ?_)
            ·
              refine w_p tok rfl rfl rfl ?_
              obtain ⟨v22, hv22, H⟩ := H
              refine w_y (y_ld tok rfl rfl rfl rfl hv22) rfl rfl ?_
              refine w_p tok rfl rfl rfl ?_
              exact w_jn v22 H ⟨rfl, rfl, trivial⟩
            ·
              refine w_skip rfl rfl ?_
              refine w_skip rfl rfl ?_
              refine w_p tok rfl rfl rfl ?_
              exact w_jn false H ⟨rfl, rfl, trivial⟩
        ·
          refine w_gs (d := 40) rfl (fun hb => ?_) (fun hb => ?_)
          ·
            refine w_p tok rfl rfl rfl ?_
            refine w_p tok rfl rfl rfl ?_
            refine w_p tok rfl rfl rfl ?_
            refine w_jn () rfl ⟨?_, rfl, trivial⟩
            exact congrArg (fun b => some (Value.bool b)) (and_t hb)
          ·
            refine w_skip rfl rfl ?_
            refine w_skip rfl rfl ?_
            refine w_p tok rfl rfl rfl ?_
            refine w_jn () rfl ⟨?_, rfl, trivial⟩
            exact congrArg (fun b => some (Value.bool b)) (and_f hb)
      ·
        refine w_gs (d := 36) rfl (fun hb => ?_) (fun hb => ?_)
        ·
          refine w_p tok rfl rfl rfl ?_
          refine w_p tok rfl rfl rfl ?_
          refine w_p tok rfl rfl rfl ?_
          refine w_jn () rfl ⟨?_, rfl, rfl, trivial⟩
          exact congrArg (fun b => some (Value.bool b)) (and_t hb)
        ·
          refine w_skip rfl rfl ?_
          refine w_skip rfl rfl ?_
          refine w_p tok rfl rfl rfl ?_
          refine w_jn () rfl ⟨?_, rfl, rfl, trivial⟩
          exact congrArg (fun b => some (Value.bool b)) (and_f hb)
    ·
      refine w_gs (d := 33) rfl (fun hb => ?_) (fun hb => ?_)
      ·
        refine w_p tok rfl rfl rfl ?_
        refine w_p tok rfl rfl rfl ?_
        refine w_jn () rfl ⟨?_, rfl, rfl, rfl, trivial⟩
        exact congrArg (fun b => some (Value.bool b)) (and_t hb)
      ·
        refine w_skip rfl rfl ?_
        refine w_p tok rfl rfl rfl ?_
        refine w_jn () rfl ⟨?_, rfl, rfl, rfl, trivial⟩
        exact congrArg (fun b => some (Value.bool b)) (and_f hb)
  ·
    refine w_gs (d := 30) rfl (fun hb => ?_) (fun hb => ?_)
    ·
      refine w_p tok rfl rfl rfl ?_
      refine w_p tok rfl rfl rfl ?_
      refine w_jn () rfl ⟨?_, rfl, rfl, rfl, rfl, trivial⟩
      exact congrArg (fun b => some (Value.bool b)) (and_t hb)
    ·
      refine w_skip rfl rfl ?_
      refine w_p tok rfl rfl rfl ?_
      refine w_jn () rfl ⟨?_, rfl, rfl, rfl, rfl, trivial⟩
      exact congrArg (fun b => some (Value.bool b)) (and_f hb)

theorem law31_QuorumNil_ok : CallOk Go.Proofs.Tryz.prog 4 := ⟨_, Go.Proofs.Tryz.func4, by kernel_rfl, by kernel_rfl⟩
theorem law31_QuorumNil_ref (p0 : S_quaestorlaw31_Act) (k : (Bool) → Heap → Prop) (h : Heap) (H : law31_QuorumNil p0 k h) : CallsH Go.Proofs.Tryz.prog 4 #[.agg (S_quaestorlaw31_Act.cs p0).toArray] h (fun v h' => ∃ r : Bool, v = .bool r ∧ k r h') := by
  refine f_enter (N := 71) Go.Proofs.Tryz.func4 rfl rfl rfl (fun w0 => ?_)
  unfold law31_QuorumNil at H
  refine c_weak [(0, .agg (S_quaestorlaw31_Act.cs p0).toArray)] ⟨rfl, trivial⟩ ?_
  refine c_seq ?_
  refine c_region ?_
  obtain ⟨b1, h2, eb1, eh2, H⟩ := H
  refine w_h (h_box rfl rfl eb1 eh2) rfl rfl ?_
  refine w_p tok rfl rfl rfl ?_
  refine w_end ?_
  refine x_seq ?_
  refine c_seq ?_
  refine c_seq ?_
  refine c_region ?_
  obtain ⟨v3, hv3, H⟩ := H
  refine w_y (y_lda tok rfl rfl rfl rfl rfl hv3) rfl rfl ?_
  refine w_call law31_great_ok (law31_great_ref _ _ _ H) rfl rfl rfl rfl ?_
  rintro _ h5 ⟨r4, rfl, H⟩
  refine w_end ?_
  refine x_seq ?_
  refine c_if H rfl (fun H => ?_) (fun H => ?_)
  ·
    refine c_seq ?_
    refine c_region ?_
    refine w_call law31_awake_ok (law31_awake_ref  _ _ H) rfl rfl rfl rfl ?_
    rintro _ h7 ⟨r6, rfl, H⟩
    refine w_p tok rfl rfl rfl ?_
    refine w_end ?_
    refine x_seq ?_
    refine c_ret ?_
    refine x_tr ?_
    exact x_ret _ rfl _ rfl ⟨r6, rfl, H⟩
  ·
    refine c_skip ?_
    refine x_seq ?_
    refine c_seq ?_
    refine c_region ?_
    refine w_p tok rfl rfl rfl ?_
    refine w_end ?_
    refine x_seq ?_
    refine c_seq ?_
    refine c_region ?_
    refine w_p tok rfl rfl rfl ?_
    refine w_call quorum_Desk_Tick_ok (quorum_Desk_Tick_ref _ _ _ H) rfl rfl rfl rfl ?_
    rintro _ h9 ⟨r8, rfl, H⟩
    refine w_end ?_
    refine x_seq ?_
    refine c_seq ?_
    refine c_region ?_
    refine w_p tok rfl rfl rfl ?_
    refine w_p tok rfl rfl rfl ?_
    obtain ⟨v10, hv10, H⟩ := H
    refine w_y (y_ld tok rfl rfl rfl rfl hv10) rfl rfl ?_
    refine w_call quorum_Desk_Op_ok (quorum_Desk_Op_ref _ _ _ _ H) rfl rfl rfl rfl ?_
    rintro _ h12 ⟨r11, rfl, H⟩
    refine w_p tok rfl rfl rfl ?_
    refine w_p tok rfl rfl rfl ?_
    refine w_p tok rfl rfl rfl ?_
    obtain ⟨b13, h14, eb13, eh14, H⟩ := H
    refine w_h (h_alloc tok rfl rfl eb13 eh14) rfl rfl ?_
    obtain ⟨h15, wh15, eh15, H⟩ := H
    refine w_h (h_sts tok rfl rfl rfl rfl rfl (oneC (by kernel_rfl)) wh15 eh15) rfl rfl ?_
    refine w_p tok rfl rfl rfl ?_
    refine w_end ?_
    refine x_seq ?_
    refine c_weak [(1, .pointer (some (⟨b1, 0, none⟩ : Addr))), (3, .pointer none), (5, .int .i64 r11.2)] ⟨rfl, rfl, rfl, trivial⟩ ?_
    refine c_seq ?_
    refine c_region ?_
    refine w_p tok rfl rfl rfl ?_
    refine w_p tok rfl rfl rfl ?_
    obtain ⟨v16, hv16, H⟩ := H
    refine w_y (y_ld tok rfl rfl rfl rfl hv16) rfl rfl ?_
    refine w_call quorum_Desk_Result_ok (quorum_Desk_Result_ref _ _ _ _ H) rfl rfl rfl rfl ?_
    rintro _ h18 ⟨r17, rfl, H⟩
    refine w_p tok rfl rfl rfl ?_
    refine w_p tok rfl rfl rfl ?_
    refine w_p tok rfl rfl rfl ?_
    obtain ⟨b19, h20, eb19, eh20, H⟩ := H
    refine w_h (h_alloc tok rfl rfl eb19 eh20) rfl rfl ?_
    obtain ⟨h21, wh21, eh21, H⟩ := H
    refine w_h (h_sts tok rfl rfl rfl rfl rfl (oneC (by kernel_rfl)) wh21 eh21) rfl rfl ?_
    refine w_p tok rfl rfl rfl ?_
    refine w_end ?_
    refine x_seq ?_
    refine c_weak [(1, .pointer (some (⟨b1, 0, none⟩ : Addr))), (3, .pointer none), (5, .int .i64 r11.2), (7, .int .i64 r17.2)] ⟨rfl, rfl, rfl, rfl, trivial⟩ ?_
    refine c_seq ?_
    refine c_region ?_
    refine w_p tok rfl rfl rfl ?_
    refine w_p tok rfl rfl rfl ?_
    obtain ⟨v22, hv22, H⟩ := H
    refine w_y (y_lda tok rfl rfl rfl rfl rfl hv22) rfl rfl ?_
    refine w_call quorum_Desk_Start_ok (quorum_Desk_Start_ref _ _ _ _ H) rfl rfl rfl rfl ?_
    rintro _ h24 ⟨r23, rfl, H⟩
    refine w_p tok rfl rfl rfl ?_
    refine w_p tok rfl rfl rfl ?_
    refine w_cut 10 (α := Bool) (fun (s : Bool) => [(42, .bool s), (1, .pointer (some (⟨b1, 0, none⟩ : Addr))), (3, .pointer none), (5, .int .i64 r11.2), (7, .int .i64 r17.2)]) (fun (s : Bool) h => law31_QuorumNil_g1 (⟨b1, 0, none⟩ : Addr) none r11.2 r17.2 s k h) ?_ ?_
    ·
      rintro t42_1 h_1 H
      replace H : law31_QuorumNil_g1 (⟨b1, 0, none⟩ : Addr) none r11.2 r17.2 t42_1 k h_1 := H
      unfold law31_QuorumNil_g1 at H
      refine w_weak [(42, .bool t42_1), (1, .pointer (some (⟨b1, 0, none⟩ : Addr))), (3, .pointer none), (5, .int .i64 r11.2), (7, .int .i64 r17.2)] ⟨rfl, rfl, rfl, rfl, rfl, trivial⟩ ?_
      refine w_p tok rfl rfl rfl ?_
      refine w_cut 10 (α := Bool) (fun (s : Bool) => [(53, .bool s), (3, .pointer none), (5, .int .i64 r11.2), (7, .int .i64 r17.2)]) (fun (s : Bool) h => law31_QuorumNil_g2 none r11.2 r17.2 s k h) ?_ ?_
      ·
        rintro t53_2 h_2 H
        replace H : law31_QuorumNil_g2 none r11.2 r17.2 t53_2 k h_2 := H
        unfold law31_QuorumNil_g2 at H
        refine w_weak [(53, .bool t53_2), (3, .pointer none), (5, .int .i64 r11.2), (7, .int .i64 r17.2)] ⟨rfl, rfl, rfl, rfl, trivial⟩ ?_
        refine w_p tok rfl rfl rfl ?_
        refine w_cut 5 (α := Bool) (fun (s : Bool) => [(59, .bool s), (5, .int .i64 r11.2), (7, .int .i64 r17.2)]) (fun (s : Bool) h => law31_QuorumNil_g3 r11.2 r17.2 s k h) ?_ ?_
        ·
          rintro t59_3 h_3 H
          replace H : law31_QuorumNil_g3 r11.2 r17.2 t59_3 k h_3 := H
          unfold law31_QuorumNil_g3 at H
          refine w_weak [(59, .bool t59_3), (5, .int .i64 r11.2), (7, .int .i64 r17.2)] ⟨rfl, rfl, rfl, trivial⟩ ?_
          refine w_p tok rfl rfl rfl ?_
          refine w_cutU 3 [(63, .bool (t59_3 && (r11.2 == 6))), (7, .int .i64 r17.2)] ?_ ?_
          ·
            refine w_p tok rfl rfl rfl ?_
            refine w_cutU 3 [(67, .bool ((t59_3 && (r11.2 == 6)) && (r17.2 == 6)))] ?_ ?_
            ·
              refine w_p tok rfl rfl rfl ?_
              refine w_cut 2 (α := Bool) (fun (s : Bool) => [(70, .bool s)]) (fun (s : Bool) h => law31_QuorumNil_g4 s k h) ?_ ?_
              ·
                rintro t70_4 h_4 H
                replace H : law31_QuorumNil_g4 t70_4 k h_4 := H
                unfold law31_QuorumNil_g4 at H
                refine w_weak [(70, .bool t70_4)] ⟨rfl, trivial⟩ ?_
                refine w_p tok rfl rfl rfl ?_
                refine w_end ?_
                refine x_seq ?_
                refine c_ret ?_
                exact x_ret _ rfl _ rfl ⟨t70_4, rfl, H⟩
              ·
                refine w_gif (d := 68) H rfl (fun H => ?_) (fun H => ?_)
                ·
                  refine w_call law31_awake_ok (law31_awake_ref  _ _ H) rfl rfl rfl rfl ?_
                  rintro _ h26 ⟨r25, rfl, H⟩
                  refine w_p tok rfl rfl rfl ?_
                  exact w_jn r25 H ⟨rfl, trivial⟩
                ·
                  refine w_skip rfl rfl ?_
                  refine w_p tok rfl rfl rfl ?_
                  exact w_jn false H ⟨rfl, trivial⟩
            ·
              refine w_gs (d := 64) rfl (fun hb => ?_) (fun hb => ?_)
              ·
                refine w_p tok rfl rfl rfl ?_
                refine w_p tok rfl rfl rfl ?_
                refine w_p tok rfl rfl rfl ?_
                refine w_jn () rfl ⟨?_, trivial⟩
                exact congrArg (fun b => some (Value.bool b)) (and_t hb)
              ·
                refine w_skip rfl rfl ?_
                refine w_skip rfl rfl ?_
                refine w_p tok rfl rfl rfl ?_
                refine w_jn () rfl ⟨?_, trivial⟩
                exact congrArg (fun b => some (Value.bool b)) (and_f hb)
          ·
            refine w_gs (d := 60) rfl (fun hb => ?_) (fun hb => ?_)
            ·
              refine w_p tok rfl rfl rfl ?_
              refine w_p tok rfl rfl rfl ?_
              refine w_p tok rfl rfl rfl ?_
              refine w_jn () rfl ⟨?_, rfl, trivial⟩
              exact congrArg (fun b => some (Value.bool b)) (and_t hb)
            ·
              refine w_skip rfl rfl ?_
              refine w_skip rfl rfl ?_
              refine w_p tok rfl rfl rfl ?_
              refine w_jn () rfl ⟨?_, rfl, trivial⟩
              exact congrArg (fun b => some (Value.bool b)) (and_f hb)
        ·
          refine w_gif (d := 54) H rfl (fun H => ?_) (fun H => ?_)
          ·
            refine w_p tok rfl rfl rfl ?_
            refine w_call quorum_Desk_Due_ok (quorum_Desk_Due_ref _ _ _ H) rfl rfl rfl rfl ?_
            rintro _ h28 ⟨r27, rfl, H⟩
            refine w_p tok rfl rfl rfl ?_
            refine w_p tok rfl rfl rfl ?_
            refine w_p tok rfl rfl rfl ?_
            exact w_jn ((r27.len : Int) == 0) H ⟨rfl, rfl, rfl, trivial⟩
          ·
            refine w_skip rfl rfl ?_
            refine w_skip rfl rfl ?_
            refine w_skip rfl rfl ?_
            refine w_skip rfl rfl ?_
            refine w_p tok rfl rfl rfl ?_
            exact w_jn false H ⟨rfl, rfl, rfl, trivial⟩
      ·
        refine w_gif (d := 43) H rfl (fun H => ?_) (fun H => ?_)
        ·
          refine w_p tok rfl rfl rfl ?_
          refine w_p tok rfl rfl rfl ?_
          obtain ⟨v29, hv29, H⟩ := H
          refine w_y (y_ld tok rfl rfl rfl rfl hv29) rfl rfl ?_
          refine w_p tok rfl rfl rfl ?_
          obtain ⟨v30, hv30, H⟩ := H
          refine w_y (y_ld tok rfl rfl rfl rfl hv30) rfl rfl ?_
          refine w_p tok rfl rfl rfl ?_
          obtain ⟨v31, hv31, H⟩ := H
          refine w_y (y_ld tok rfl rfl rfl rfl hv31) rfl rfl ?_
          refine w_call quorum_Desk_No_ok (quorum_Desk_No_ref _ _ _ _ _ _ H) rfl rfl rfl rfl ?_
          rintro _ h33 ⟨r32, rfl, H⟩
          refine w_p tok rfl rfl rfl ?_
          refine w_p tok rfl rfl rfl ?_
          exact w_jn (!r32) H ⟨rfl, rfl, rfl, rfl, trivial⟩
        ·
          refine w_skip rfl rfl ?_
          refine w_skip rfl rfl ?_
          refine w_skip rfl rfl ?_
          refine w_skip rfl rfl ?_
          refine w_skip rfl rfl ?_
          refine w_skip rfl rfl ?_
          refine w_skip rfl rfl ?_
          refine w_skip rfl rfl ?_
          refine w_skip rfl rfl ?_
          refine w_p tok rfl rfl rfl ?_
          exact w_jn false H ⟨rfl, rfl, rfl, rfl, trivial⟩
    ·
      refine w_gif (d := 32) H rfl (fun H => ?_) (fun H => ?_)
      ·
        refine w_p tok rfl rfl rfl ?_
        refine w_p tok rfl rfl rfl ?_
        obtain ⟨v34, hv34, H⟩ := H
        refine w_y (y_ld tok rfl rfl rfl rfl hv34) rfl rfl ?_
        refine w_p tok rfl rfl rfl ?_
        obtain ⟨v35, hv35, H⟩ := H
        refine w_y (y_ld tok rfl rfl rfl rfl hv35) rfl rfl ?_
        refine w_p tok rfl rfl rfl ?_
        obtain ⟨v36, hv36, H⟩ := H
        refine w_y (y_ld tok rfl rfl rfl rfl hv36) rfl rfl ?_
        refine w_call quorum_Desk_Yes_ok (quorum_Desk_Yes_ref _ _ _ _ _ _ H) rfl rfl rfl rfl ?_
        rintro _ h38 ⟨r37, rfl, H⟩
        refine w_p tok rfl rfl rfl ?_
        refine w_p tok rfl rfl rfl ?_
        exact w_jn (!r37) H ⟨rfl, rfl, rfl, rfl, rfl, trivial⟩
      ·
        refine w_skip rfl rfl ?_
        refine w_skip rfl rfl ?_
        refine w_skip rfl rfl ?_
        refine w_skip rfl rfl ?_
        refine w_skip rfl rfl ?_
        refine w_skip rfl rfl ?_
        refine w_skip rfl rfl ?_
        refine w_skip rfl rfl ?_
        refine w_skip rfl rfl ?_
        refine w_p tok rfl rfl rfl ?_
        exact w_jn false H ⟨rfl, rfl, rfl, rfl, rfl, trivial⟩
end Go.Q.Yc

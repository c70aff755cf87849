/- A part of the proof of statements of this seat: lemmas, no statement of their own. -/
import Derived.Test.YtcmbgfmbmbgbiaaYbTab
import Derived.Test.YtcmbgfmbmbgbiaaYbDisk1
import Derived.Test.YtcmbgfmbmbgbiaaYbDisk2
set_option linter.unusedVariables false
set_option maxRecDepth 100000
set_option maxHeartbeats 1000000
namespace Go.Q.Yb
/-- quaestor quaestorlaw09.great -/
def law09_great_l1b (t0_1 : Slc) (t3_1 : Int) (k : (Bool) → Heap → Prop) (nx1 : (Int) → Heap → Prop) (h_1 : Heap) : Prop :=
  if ((decide (t3_1 < (t0_1.len : Int))) && (decide (t3_1 < 50))) then (∃ a1 : Addr, t0_1.a = some a1 ∧ (0 : Int) ≤ t3_1 ∧ t3_1 < (t0_1.len : Int) ∧ (∃ v2 : Slc, cellH h_1 ((a1.add (t3_1.toNat * 3)).add 2) = some (Slc.v v2) ∧ (if (decide ((v2.len : Int) > 300)) then (k true h_1) else (∃ x3 : Int, x3 = (IntKind.i64.wrap (t3_1 + 1)) ∧ (nx1 x3 h_1))))) else (k false h_1)
def law09_great_l1 (t0_1 : Slc) (i3 : Int) (k : (Bool) → Heap → Prop) (h : Heap) : Prop :=
  ∃ (I : Int → Heap → Prop) (μ : Int → Heap → Nat), I i3 h ∧ ∀ (t3_1 : Int) (h : Heap), I t3_1 h → law09_great_l1b t0_1 t3_1 k (fun s h' => I s h' ∧ μ s h' < μ t3_1 h) h
def law09_great (p0 : Slc) (k : (Bool) → Heap → Prop) (h : Heap) : Prop :=
  law09_great_l1 p0 0 k h

/-- quaestor quaestorlaw09.do -/
def law09_do_l1b (t1_1 : Option Addr) (t5_1 : Addr) (t8_1 : Slc) (t9_1 : Int) (t10_1 : Int) (k : (Bool) → Heap → Prop) (nx1 : (Int) → Heap → Prop) (h_1 : Heap) : Prop :=
  if (decide (t10_1 < (t8_1.len : Int))) then (∃ a32 : Addr, t8_1.a = some a32 ∧ (0 : Int) ≤ t10_1 ∧ t10_1 < (t8_1.len : Int) ∧ (∃ v33 : Int, cellH h_1 (a32.add (t10_1.toNat * 1)) = some (.int .u8 v33) ∧ (∃ a34 : Addr, t8_1.a = some a34 ∧ (0 : Int) ≤ t10_1 ∧ t10_1 < (t8_1.len : Int) ∧ (∃ h35 : Heap, WrH h_1 (a34.add (t10_1.toNat * 1)) ∧ h35 = setH h_1 (a34.add (t10_1.toNat * 1)) (.int .u8 (bwXor .u8 v33 255)) ∧ (∃ x36 : Int, x36 = (IntKind.i64.wrap (t10_1 + 1)) ∧ (nx1 x36 h35)))))) else (∃ v37 : Int, cellH h_1 (t5_1.add 1) = some (.int .i64 v37) ∧ (∃ v38 : Slc, cellH h_1 (t5_1.add 2) = some (Slc.v v38) ∧ (ref09_Disk_Write t1_1 v37 v38 (fun (r39 : Int) h40 => k (t9_1 == r39) h40) h_1)))
def law09_do_l1 (t1_1 : Option Addr) (t5_1 : Addr) (t8_1 : Slc) (t9_1 : Int) (i10 : Int) (k : (Bool) → Heap → Prop) (h : Heap) : Prop :=
  ∃ (I : Int → Heap → Prop) (μ : Int → Heap → Nat), I i10 h ∧ ∀ (t10_1 : Int) (h : Heap), I t10_1 h → law09_do_l1b t1_1 t5_1 t8_1 t9_1 t10_1 k (fun s h' => I s h' ∧ μ s h' < μ t10_1 h) h
def law09_do (p0 : Option Addr) (p1 : Option Addr) (p2 : S_quaestorlaw09_Act) (k : (Bool) → Heap → Prop) (h : Heap) : Prop :=
  ∃ (b1 : Nat) (h2 : Heap), b1 = h.size ∧ h2 = h.push (.cells (S_quaestorlaw09_Act.cs p2).toArray 100) ∧ (∃ v3 : Int, cellH h2 (⟨b1, 0, none⟩ : Addr) = some (.int .i64 v3) ∧ (ref01_Pick v3 7 (fun (r4 : Int) h5 => if (r4 == 4) then (disk_Disk_Sync p0 (fun (r6 : Int) h7 => ref09_Disk_Sync p1 (fun (r8 : Int) h9 => k (r6 == r8) h9) h7) h5) else (if (r4 == 5) then (∃ v10 : Int, cellH h5 ((⟨b1, 0, none⟩ : Addr).add 1) = some (.int .i64 v10) ∧ (disk_Disk_Fuse p0 v10 (fun (r11 : Int) h12 => ∃ a13 : Addr, p1 = some a13 ∧ (∃ v14 : Bool, cellH h12 (a13.add 2) = some (.bool v14) ∧ (if v14 then (k (r11 == 10) h12) else (∃ v15 : Int, cellH h12 ((⟨b1, 0, none⟩ : Addr).add 1) = some (.int .i64 v15) ∧ (∃ h16 : Heap, WrH h12 (a13.add 1) ∧ h16 = setH h12 (a13.add 1) (.int .i64 (if 0 > v15 then 0 else v15)) ∧ (k (r11 == 0) h16)))))) h5)) else (if (r4 == 6) then (∃ v17 : Slc, cellH h5 ((⟨b1, 0, none⟩ : Addr).add 2) = some (Slc.v v17) ∧ (disk_Disk_Boot p0 v17 (fun (r18 : Unit) h19 => ∃ v20 : Slc, cellH h19 ((⟨b1, 0, none⟩ : Addr).add 2) = some (Slc.v v20) ∧ (ref09_Disk_Boot p1 v20 (fun (r21 : Unit) h22 => k true h22) h19)) h5)) else (∃ (b23 : Nat) (h24 : Heap), b23 = h5.size ∧ h24 = h5.push (.cells ([]).toArray 5) ∧ (∃ v25 : Slc, cellH h24 ((⟨b1, 0, none⟩ : Addr).add 2) = some (Slc.v v25) ∧ (∃ l28 : List Value, SlcAt h24 v25 l28 ∧ App 5 1 1 [.int .u8 0] h24 (⟨some ⟨b23, 0, none⟩, 0, 0⟩ : Slc) v25.len l28 (fun s26 h27 => ∃ v29 : Int, cellH h27 ((⟨b1, 0, none⟩ : Addr).add 1) = some (.int .i64 v29) ∧ (disk_Disk_Write p0 v29 s26 (fun (r30 : Int) h31 => law09_do_l1 p1 (⟨b1, 0, none⟩ : Addr) s26 r30 0 k h31) h27)))))))) h2))

/-- quaestor quaestorlaw09.same -/
def law09_same_j1 (t6_1 : Bool) (k : (Bool) → Heap → Prop) (h_1 : Heap) : Prop :=
  k t6_1 h_1
def law09_same (p0 : Option Addr) (p1 : Option Addr) (p2 : Int) (k : (Bool) → Heap → Prop) (h : Heap) : Prop :=
  disk_Disk_Read p0 p2 (fun (r1 : Slc × Int) h2 => ref09_SameAt r1.1 r1.2 p1 p2 (fun (r3 : Bool) h4 => if r3 then (∃ a5 : Addr, p1 = some a5 ∧ (∃ v6 : Bool, cellH h4 (a5.add 2) = some (.bool v6) ∧ (disk_Disk_Dead p0 (fun (r7 : Bool) h8 => cellH h8 (a5.add 2) = some (.bool v6) ∧ (if ((r7 == v6)) then (∃ v10 : Int, cellH h8 (a5.add 3) = some (.int .i64 v10) ∧ (disk_Disk_Ops p0 (fun (r11 : Int) h12 => cellH h12 (a5.add 3) = some (.int .i64 v10) ∧ (law09_same_j1 (r11 == v10) k h12)) h8)) else (law09_same_j1 false k h8))) h4))) else (if false then (∃ a14 : Addr, p1 = some a14 ∧ (∃ v15 : Int, cellH h4 (a14.add 3) = some (.int .i64 v15) ∧ (disk_Disk_Ops p0 (fun (r16 : Int) h17 => cellH h17 (a14.add 3) = some (.int .i64 v15) ∧ (law09_same_j1 (r16 == v15) k h17)) h4))) else (law09_same_j1 false k h4))) h2) h

/-- quaestor quaestorlaw09.awake -/
def law09_awake (k : (Bool) → Heap → Prop) (h : Heap) : Prop :=
  disk_New  (fun (r1 : Option Addr) h2 => ∃ (b3 : Nat) (h4 : Heap), b3 = h2.size ∧ h4 = h2.push (.cells ([.int .u8 1]).toArray 5) ∧ (disk_Disk_Write r1 3 (⟨some ⟨b3, 0, none⟩, 1, 1⟩ : Slc) (fun (r5 : Int) h6 => disk_Disk_Sync r1 (fun (r7 : Int) h8 => ∃ (b9 : Nat) (h10 : Heap), b9 = h8.size ∧ h10 = h8.push (.cells ([.int .u8 2]).toArray 5) ∧ (disk_Disk_Write r1 3 (⟨some ⟨b9, 0, none⟩, 1, 1⟩ : Slc) (fun (r11 : Int) h12 => ∃ (b13 : Nat) (h14 : Heap), b13 = h12.size ∧ h14 = h12.push (.cells ([.int .u8 2]).toArray 5) ∧ (disk_Disk_Boot r1 (⟨some ⟨b13, 0, none⟩, 1, 1⟩ : Slc) (fun (r15 : Unit) h16 => disk_Disk_Read r1 3 (fun (r17 : Slc × Int) h18 => k ((((r5 == 0) && (r7 == 0)) && (r11 == 0)) && (r17.2 == 9)) h18) h16) h14)) h10)) h6) h4)) h

/-- quaestor quaestorlaw09.DiskNil -/
def law09_DiskNil_g7 (t68_7 : Bool) (k : (Bool) → Heap → Prop) (h_7 : Heap) : Prop :=
  k t68_7 h_7
def law09_DiskNil_g6 (t65_6 : Bool) (k : (Bool) → Heap → Prop) (h_6 : Heap) : Prop :=
  if t65_6 then (law09_awake  (fun (r13 : Bool) h14 => law09_DiskNil_g7 r13 k h14) h_6) else (law09_DiskNil_g7 false k h_6)
def law09_DiskNil_g5 (t3_5 : Option Addr) (t60_5 : Bool) (k : (Bool) → Heap → Prop) (h_5 : Heap) : Prop :=
  if t60_5 then (disk_Disk_Copy t3_5 (fun (r15 : Option Addr) h16 => law09_DiskNil_g6 (r15.isNone) k h16) h_5) else (law09_DiskNil_g6 false k h_5)
def law09_DiskNil_g4 (t3_4 : Option Addr) (t54_4 : Bool) (k : (Bool) → Heap → Prop) (h_4 : Heap) : Prop :=
  if t54_4 then (disk_Disk_Raw t3_4 (fun (r17 : Slc) h18 => law09_DiskNil_g5 t3_4 ((r17.len : Int) == 0) k h18) h_4) else (law09_DiskNil_g5 t3_4 false k h_4)
def law09_DiskNil_g3 (t3_3 : Option Addr) (t49_3 : Bool) (k : (Bool) → Heap → Prop) (h_3 : Heap) : Prop :=
  if t49_3 then (disk_Disk_Ops t3_3 (fun (r19 : Int) h20 => law09_DiskNil_g4 t3_3 (r19 == 0) k h20) h_3) else (law09_DiskNil_g4 t3_3 false k h_3)
def law09_DiskNil_g2 (t3_2 : Option Addr) (t4_2 : Slc) (t5_2 : Int) (t35_2 : Bool) (k : (Bool) → Heap → Prop) (h_2 : Heap) : Prop :=
  if ((t35_2 && ((t4_2.len : Int) == 0)) && (t5_2 == 1)) then (disk_Disk_Dead t3_2 (fun (r21 : Bool) h22 => law09_DiskNil_g3 t3_2 (!r21) k h22) h_2) else (law09_DiskNil_g3 t3_2 false k h_2)
def law09_DiskNil_g1 (t1_1 : Addr) (t3_1 : Option Addr) (t4_1 : Slc) (t5_1 : Int) (t28_1 : Bool) (k : (Bool) → Heap → Prop) (h_1 : Heap) : Prop :=
  if t28_1 then (∃ v23 : Int, cellH h_1 (t1_1.add 1) = some (.int .i64 v23) ∧ (disk_Disk_Fuse t3_1 v23 (fun (r24 : Int) h25 => law09_DiskNil_g2 t3_1 t4_1 t5_1 (r24 == 10) k h25) h_1)) else (law09_DiskNil_g2 t3_1 t4_1 t5_1 false k h_1)
def law09_DiskNil (p0 : S_quaestorlaw09_Act) (k : (Bool) → Heap → Prop) (h : Heap) : Prop :=
  ∃ (b1 : Nat) (h2 : Heap), b1 = h.size ∧ h2 = h.push (.cells (S_quaestorlaw09_Act.cs p0).toArray 100) ∧ (∃ v3 : Int, cellH h2 ((⟨b1, 0, none⟩ : Addr).add 1) = some (.int .i64 v3) ∧ (disk_Disk_Read none v3 (fun (r4 : Slc × Int) h5 => ∃ v6 : Slc, cellH h5 ((⟨b1, 0, none⟩ : Addr).add 2) = some (Slc.v v6) ∧ (disk_Disk_Boot none v6 (fun (r7 : Unit) h8 => ∃ v9 : Int, cellH h8 ((⟨b1, 0, none⟩ : Addr).add 1) = some (.int .i64 v9) ∧ (∃ v10 : Slc, cellH h8 ((⟨b1, 0, none⟩ : Addr).add 2) = some (Slc.v v10) ∧ (disk_Disk_Write none v9 v10 (fun (r11 : Int) h12 => if (r11 == 10) then (disk_Disk_Sync none (fun (r26 : Int) h27 => law09_DiskNil_g1 (⟨b1, 0, none⟩ : Addr) none r4.1 r4.2 (r26 == 10) k h27) h12) else (law09_DiskNil_g1 (⟨b1, 0, none⟩ : Addr) none r4.1 r4.2 false k h12)) h8))) h5)) h2))

/-- quaestor quaestorlaw09.DiskSafe -/
def law09_DiskSafe_j3 (t0_3 : Slc) (t1_3 : Slc) (t2_3 : Slc) (t3_3 : Slc) (t9_3 : Option Addr) (t10_3 : Int) (k : (Bool) → Heap → Prop) (nx2 : (Int) → Heap → Prop) (h_3 : Heap) : Prop :=
  ∃ x9 : Int, x9 = (IntKind.i64.wrap (t10_3 + 1)) ∧ (nx2 x9 h_3)
def law09_DiskSafe_g7 (t131_7 : Bool) (k : (Bool) → Heap → Prop) (nx2 : (Int) → Heap → Prop) (h_7 : Heap) : Prop :=
  k t131_7 h_7
def law09_DiskSafe_g6 (t128_6 : Bool) (k : (Bool) → Heap → Prop) (nx2 : (Int) → Heap → Prop) (h_6 : Heap) : Prop :=
  if t128_6 then (law09_awake  (fun (r26 : Bool) h27 => law09_DiskSafe_g7 r26 k nx2 h27) h_6) else (law09_DiskSafe_g7 false k nx2 h_6)
def law09_DiskSafe_g8 (t107_8 : Bool) (t127_8 : Bool) (k : (Bool) → Heap → Prop) (nx2 : (Int) → Heap → Prop) (h_8 : Heap) : Prop :=
  law09_DiskSafe_g6 t127_8 k nx2 h_8
def law09_DiskSafe_g9 (t107_9 : Bool) (t115_9 : Bool) (t126_9 : Bool) (k : (Bool) → Heap → Prop) (nx2 : (Int) → Heap → Prop) (h_9 : Heap) : Prop :=
  law09_DiskSafe_g8 t107_9 t126_9 k nx2 h_9
def law09_DiskSafe_g5 (t2_5 : Slc) (t3_5 : Slc) (t9_5 : Option Addr) (t11_5 : Slc) (t96_5 : Bool) (k : (Bool) → Heap → Prop) (nx2 : (Int) → Heap → Prop) (h_5 : Heap) : Prop :=
  if t96_5 then (k false h_5) else (disk_Disk_Boot t9_5 t3_5 (fun (r22 : Unit) h23 => disk_Disk_Read t9_5 7 (fun (r24 : Slc × Int) h25 => if (r24.2 == 9) then (law09_DiskSafe_g6 true k nx2 h25) else (if ((r24.2 == 0) && ((r24.1.len : Int) == 128)) then (ref01_Same r24.1 t11_5 (fun (r28 : Bool) h29 => if r28 then (law09_DiskSafe_g9 false true true k nx2 h29) else (∃ s30 : Slc, (0 : Int) ≤ 0 ∧ (0 : Int) ≤ (t2_5.len : Int) ∧ ((t2_5.len : Int) : Int) ≤ (r24.1.cap : Int) ∧ (r24.1.cap : Int) ≤ (r24.1.cap : Int) ∧ s30 = subS r24.1 1 (0 : Int).toNat (t2_5.len : Int).toNat (r24.1.cap : Int).toNat ∧ (ref01_Same s30 t2_5 (fun (r31 : Bool) h32 => law09_DiskSafe_g9 false true r31 k nx2 h32) h29))) h25) else (law09_DiskSafe_g8 false false k nx2 h25))) h23) h_5)
def law09_DiskSafe_g4 (t2_4 : Slc) (t3_4 : Slc) (t9_4 : Option Addr) (t11_4 : Slc) (t90_4 : Bool) (k : (Bool) → Heap → Prop) (nx2 : (Int) → Heap → Prop) (h_4 : Heap) : Prop :=
  if t90_4 then (law09_DiskSafe_g5 t2_4 t3_4 t9_4 t11_4 true k nx2 h_4) else (disk_Disk_Write t9_4 7 t2_4 (fun (r33 : Int) h34 => law09_DiskSafe_g5 t2_4 t3_4 t9_4 t11_4 (r33 != 0) k nx2 h34) h_4)
def law09_DiskSafe_l2b (t0_2 : Slc) (t1_2 : Slc) (t2_2 : Slc) (t3_2 : Slc) (t9_2 : Option Addr) (t10_2 : Int) (k : (Bool) → Heap → Prop) (nx2 : (Int) → Heap → Prop) (h_2 : Heap) : Prop :=
  if ((decide (t10_2 < (t0_2.len : Int))) && (decide (t10_2 < 50))) then (∃ a10 : Addr, t0_2.a = some a10 ∧ (0 : Int) ≤ t10_2 ∧ t10_2 < (t0_2.len : Int) ∧ (∃ v11 : Int, cellH h_2 ((a10.add (t10_2.toNat * 3)).add 1) = some (.int .i64 v11) ∧ (if (v11 != 7) then (∃ (b12 : Nat) (h13 : Heap), b12 = h_2.size ∧ h13 = h_2.push (.cells (S_quaestorref09_Disk.cs (⟨(⟨none, 0, 0⟩ : Slc), 0, false, 0⟩ : S_quaestorref09_Disk)).toArray 105) ∧ (∃ a14 : Addr, t0_2.a = some a14 ∧ (0 : Int) ≤ t10_2 ∧ t10_2 < (t0_2.len : Int) ∧ (∃ v15 : S_quaestorlaw09_Act, CellsAt h13 (a14.add (t10_2.toNat * 3)) (S_quaestorlaw09_Act.cs v15) ∧ (law09_do t9_2 (some (⟨b12, 0, none⟩ : Addr)) v15 (fun (r16 : Bool) h17 => law09_DiskSafe_j3 t0_2 t1_2 t2_2 t3_2 t9_2 t10_2 k nx2 h17) h13)))) else (law09_DiskSafe_j3 t0_2 t1_2 t2_2 t3_2 t9_2 t10_2 k nx2 h_2)))) else (disk_Disk_Boot t9_2 t3_2 (fun (r18 : Unit) h19 => disk_Disk_Read t9_2 7 (fun (r20 : Slc × Int) h21 => if ((r20.2 != 0) || ((r20.1.len : Int) != 128)) then (law09_DiskSafe_g4 t2_2 t3_2 t9_2 r20.1 true k nx2 h21) else (∃ s35 : Slc, (0 : Int) ≤ 0 ∧ (0 : Int) ≤ (t1_2.len : Int) ∧ ((t1_2.len : Int) : Int) ≤ (r20.1.cap : Int) ∧ (r20.1.cap : Int) ≤ (r20.1.cap : Int) ∧ s35 = subS r20.1 1 (0 : Int).toNat (t1_2.len : Int).toNat (r20.1.cap : Int).toNat ∧ (ref01_Same s35 t1_2 (fun (r36 : Bool) h37 => law09_DiskSafe_g4 t2_2 t3_2 t9_2 r20.1 (!r36) k nx2 h37) h21))) h19) h_2)
def law09_DiskSafe_l2 (t0_2 : Slc) (t1_2 : Slc) (t2_2 : Slc) (t3_2 : Slc) (t9_2 : Option Addr) (i10 : Int) (k : (Bool) → Heap → Prop) (h : Heap) : Prop :=
  ∃ (I : Int → Heap → Prop) (μ : Int → Heap → Nat), I i10 h ∧ ∀ (t10_2 : Int) (h : Heap), I t10_2 h → law09_DiskSafe_l2b t0_2 t1_2 t2_2 t3_2 t9_2 t10_2 k (fun s h' => I s h' ∧ μ s h' < μ t10_2 h) h
def law09_DiskSafe_g1 (t0_1 : Slc) (t1_1 : Slc) (t2_1 : Slc) (t3_1 : Slc) (t9_1 : Option Addr) (t42_1 : Bool) (k : (Bool) → Heap → Prop) (h_1 : Heap) : Prop :=
  if t42_1 then (k false h_1) else (law09_DiskSafe_l2 t0_1 t1_1 t2_1 t3_1 t9_1 0 k h_1)
def law09_DiskSafe (p0 : Slc) (p1 : Slc) (p2 : Slc) (p3 : Slc) (k : (Bool) → Heap → Prop) (h : Heap) : Prop :=
  law09_great p0 (fun (r1 : Bool) h2 => if (((r1 || (decide ((p1.len : Int) > 128))) || (decide ((p2.len : Int) > 128))) || (decide ((p3.len : Int) > 300))) then (law09_awake  (fun (r3 : Bool) h4 => k r3 h4) h2) else (disk_New  (fun (r5 : Option Addr) h6 => disk_Disk_Write r5 7 p1 (fun (r7 : Int) h8 => if (r7 != 0) then (law09_DiskSafe_g1 p0 p1 p2 p3 r5 true k h8) else (disk_Disk_Sync r5 (fun (r38 : Int) h39 => law09_DiskSafe_g1 p0 p1 p2 p3 r5 (r38 != 0) k h39) h8)) h6) h2)) h

/-- quaestor quaestorlaw09.DiskPlays -/
def law09_DiskPlays_g3 (t0_3 : Slc) (t1_3 : Int) (t5_3 : Option Addr) (t6_3 : Addr) (t7_3 : Int) (t53_3 : Bool) (k : (Bool) → Heap → Prop) (nx1 : (Int) → Heap → Prop) (h_3 : Heap) : Prop :=
  if t53_3 then (k false h_3) else (∃ x13 : Int, x13 = (IntKind.i64.wrap (t7_3 + 1)) ∧ (nx1 x13 h_3))
def law09_DiskPlays_g2 (t0_2 : Slc) (t1_2 : Int) (t5_2 : Option Addr) (t6_2 : Addr) (t7_2 : Int) (t46_2 : Bool) (k : (Bool) → Heap → Prop) (nx1 : (Int) → Heap → Prop) (h_2 : Heap) : Prop :=
  if t46_2 then (law09_DiskPlays_g3 t0_2 t1_2 t5_2 t6_2 t7_2 true k nx1 h_2) else (law09_same t5_2 (some t6_2) t1_2 (fun (r14 : Bool) h15 => law09_DiskPlays_g3 t0_2 t1_2 t5_2 t6_2 t7_2 (!r14) k nx1 h15) h_2)
def law09_DiskPlays_j5 (t5_5 : Option Addr) (t6_5 : Addr) (t8_5 : Slc) (t9_5 : Int) (t108_5 : Bool) (k : (Bool) → Heap → Prop) (nx1 : (Int) → Heap → Prop) (nx4 : (Int) → Heap → Prop) (h_5 : Heap) : Prop :=
  if t108_5 then (k false h_5) else (∃ v28 : Slc, cellH h_5 t6_5 = some (Slc.v v28) ∧ (∃ a29 : Addr, v28.a = some a29 ∧ (0 : Int) ≤ t9_5 ∧ t9_5 < (v28.len : Int) ∧ (∃ v30 : Int, cellH h_5 (a29.add (t9_5.toNat * 6)) = some (.int .i64 v30) ∧ (law09_same t5_5 (some t6_5) v30 (fun (r31 : Bool) h32 => if (!r31) then (k false h32) else (∃ x33 : Int, x33 = (IntKind.i64.wrap (t9_5 + 1)) ∧ (nx4 x33 h32))) h_5))))
def law09_DiskPlays_l4b (t5_4 : Option Addr) (t6_4 : Addr) (t8_4 : Slc) (t9_4 : Int) (k : (Bool) → Heap → Prop) (nx1 : (Int) → Heap → Prop) (nx4 : (Int) → Heap → Prop) (h_4 : Heap) : Prop :=
  ∃ v22 : Slc, cellH h_4 t6_4 = some (Slc.v v22) ∧ (if (decide (t9_4 < (v22.len : Int))) then (∃ v23 : Slc, cellH h_4 t6_4 = some (Slc.v v23) ∧ (∃ a24 : Addr, v23.a = some a24 ∧ (0 : Int) ≤ t9_4 ∧ t9_4 < (v23.len : Int) ∧ (∃ v25 : Int, cellH h_4 (a24.add (t9_4.toNat * 6)) = some (.int .i64 v25) ∧ (ref09_Disk_Read (some t6_4) v25 (fun (r26 : Slc × Int) h27 => if (r26.2 == 0) then (∃ v34 : Slc, cellH h27 t6_4 = some (Slc.v v34) ∧ (∃ a35 : Addr, v34.a = some a35 ∧ (0 : Int) ≤ t9_4 ∧ t9_4 < (v34.len : Int) ∧ (∃ v36 : Int, cellH h27 (a35.add (t9_4.toNat * 6)) = some (.int .i64 v36) ∧ (∃ v37 : Slc, cellH h27 t6_4 = some (Slc.v v37) ∧ (∃ a38 : Addr, v37.a = some a38 ∧ (0 : Int) ≤ t9_4 ∧ t9_4 < (v37.len : Int) ∧ (∃ v39 : Int, cellH h27 (a38.add (t9_4.toNat * 6)) = some (.int .i64 v39) ∧ (∃ s40 : Slc, (0 : Int) ≤ (IntKind.i64.wrap (v36 * 128)) ∧ ((IntKind.i64.wrap (v36 * 128)) : Int) ≤ (IntKind.i64.wrap ((IntKind.i64.wrap (v39 * 128)) + 128)) ∧ ((IntKind.i64.wrap ((IntKind.i64.wrap (v39 * 128)) + 128)) : Int) ≤ (t8_4.cap : Int) ∧ (t8_4.cap : Int) ≤ (t8_4.cap : Int) ∧ s40 = subS t8_4 1 (IntKind.i64.wrap (v36 * 128)).toNat (IntKind.i64.wrap ((IntKind.i64.wrap (v39 * 128)) + 128)).toNat (t8_4.cap : Int).toNat ∧ (ref01_Same s40 r26.1 (fun (r41 : Bool) h42 => law09_DiskPlays_j5 t5_4 t6_4 t8_4 t9_4 (!r41) k nx1 nx4 h42) h27)))))))) else (law09_DiskPlays_j5 t5_4 t6_4 t8_4 t9_4 false k nx1 nx4 h27)) h_4)))) else (law09_awake  (fun (r43 : Bool) h44 => k r43 h44) h_4))
def law09_DiskPlays_l4 (t5_4 : Option Addr) (t6_4 : Addr) (t8_4 : Slc) (i9 : Int) (k : (Bool) → Heap → Prop) (nx1 : (Int) → Heap → Prop) (h : Heap) : Prop :=
  ∃ (I : Int → Heap → Prop) (μ : Int → Heap → Nat), I i9 h ∧ ∀ (t9_4 : Int) (h : Heap), I t9_4 h → law09_DiskPlays_l4b t5_4 t6_4 t8_4 t9_4 k nx1 (fun s h' => I s h' ∧ μ s h' < μ t9_4 h) h
def law09_DiskPlays_l1b (t0_1 : Slc) (t1_1 : Int) (t5_1 : Option Addr) (t6_1 : Addr) (t7_1 : Int) (k : (Bool) → Heap → Prop) (nx1 : (Int) → Heap → Prop) (h_1 : Heap) : Prop :=
  if ((decide (t7_1 < (t0_1.len : Int))) && (decide (t7_1 < 50))) then (∃ a9 : Addr, t0_1.a = some a9 ∧ (0 : Int) ≤ t7_1 ∧ t7_1 < (t0_1.len : Int) ∧ (∃ v10 : S_quaestorlaw09_Act, CellsAt h_1 (a9.add (t7_1.toNat * 3)) (S_quaestorlaw09_Act.cs v10) ∧ (law09_do t5_1 (some t6_1) v10 (fun (r11 : Bool) h12 => if (!r11) then (law09_DiskPlays_g2 t0_1 t1_1 t5_1 t6_1 t7_1 true k nx1 h12) else (∃ a16 : Addr, t0_1.a = some a16 ∧ (0 : Int) ≤ t7_1 ∧ t7_1 < (t0_1.len : Int) ∧ (∃ v17 : Int, cellH h12 ((a16.add (t7_1.toNat * 3)).add 1) = some (.int .i64 v17) ∧ (law09_same t5_1 (some t6_1) v17 (fun (r18 : Bool) h19 => law09_DiskPlays_g2 t0_1 t1_1 t5_1 t6_1 t7_1 (!r18) k nx1 h19) h12)))) h_1))) else (disk_Disk_Raw t5_1 (fun (r20 : Slc) h21 => if ((r20.len : Int) != 131072) then (k false h21) else (law09_DiskPlays_l4 t5_1 t6_1 r20 0 k nx1 h21)) h_1)
def law09_DiskPlays_l1 (t0_1 : Slc) (t1_1 : Int) (t5_1 : Option Addr) (t6_1 : Addr) (i7 : Int) (k : (Bool) → Heap → Prop) (h : Heap) : Prop :=
  ∃ (I : Int → Heap → Prop) (μ : Int → Heap → Nat), I i7 h ∧ ∀ (t7_1 : Int) (h : Heap), I t7_1 h → law09_DiskPlays_l1b t0_1 t1_1 t5_1 t6_1 t7_1 k (fun s h' => I s h' ∧ μ s h' < μ t7_1 h) h
def law09_DiskPlays (p0 : Slc) (p1 : Int) (k : (Bool) → Heap → Prop) (h : Heap) : Prop :=
  law09_great p0 (fun (r1 : Bool) h2 => if r1 then (law09_awake  (fun (r3 : Bool) h4 => k r3 h4) h2) else (disk_New  (fun (r5 : Option Addr) h6 => ∃ (b7 : Nat) (h8 : Heap), b7 = h6.size ∧ h8 = h6.push (.cells (S_quaestorref09_Disk.cs (⟨(⟨none, 0, 0⟩ : Slc), 0, false, 0⟩ : S_quaestorref09_Disk)).toArray 105) ∧ (law09_DiskPlays_l1 p0 p1 r5 (⟨b7, 0, none⟩ : Addr) 0 k h8)) h2)) h

/-- quaestor quaestorlaw09.DiskCopy -/
def law09_DiskCopy_g5 (t1_5 : Slc) (t2_5 : Int) (t7_5 : Option Addr) (t8_5 : Addr) (t10_5 : Option Addr) (t11_5 : Option Addr) (t12_5 : Int) (t83_5 : Bool) (k : (Bool) → Heap → Prop) (nx2 : (Int) → Heap → Prop) (nx3 : (Int) → Heap → Prop) (h_5 : Heap) : Prop :=
  if t83_5 then (k false h_5) else (∃ x22 : Int, x22 = (IntKind.i64.wrap (t12_5 + 1)) ∧ (nx3 x22 h_5))
def law09_DiskCopy_g4 (t1_4 : Slc) (t2_4 : Int) (t7_4 : Option Addr) (t8_4 : Addr) (t10_4 : Option Addr) (t11_4 : Option Addr) (t12_4 : Int) (t72_4 : Bool) (k : (Bool) → Heap → Prop) (nx2 : (Int) → Heap → Prop) (nx3 : (Int) → Heap → Prop) (h_4 : Heap) : Prop :=
  if t72_4 then (law09_DiskCopy_g5 t1_4 t2_4 t7_4 t8_4 t10_4 t11_4 t12_4 true k nx2 nx3 h_4) else (∃ a23 : Addr, t1_4.a = some a23 ∧ (0 : Int) ≤ t12_4 ∧ t12_4 < (t1_4.len : Int) ∧ (∃ v24 : Int, cellH h_4 ((a23.add (t12_4.toNat * 3)).add 1) = some (.int .i64 v24) ∧ (law09_same t7_4 (some t8_4) v24 (fun (r25 : Bool) h26 => law09_DiskCopy_g5 t1_4 t2_4 t7_4 t8_4 t10_4 t11_4 t12_4 (!r25) k nx2 nx3 h26) h_4)))
def law09_DiskCopy_g7 (t96_7 : Bool) (k : (Bool) → Heap → Prop) (nx2 : (Int) → Heap → Prop) (nx3 : (Int) → Heap → Prop) (h_7 : Heap) : Prop :=
  k t96_7 h_7
def law09_DiskCopy_g6 (t93_6 : Bool) (k : (Bool) → Heap → Prop) (nx2 : (Int) → Heap → Prop) (nx3 : (Int) → Heap → Prop) (h_6 : Heap) : Prop :=
  if t93_6 then (law09_awake  (fun (r33 : Bool) h34 => law09_DiskCopy_g7 r33 k nx2 nx3 h34) h_6) else (law09_DiskCopy_g7 false k nx2 nx3 h_6)
def law09_DiskCopy_l3b (t1_3 : Slc) (t2_3 : Int) (t7_3 : Option Addr) (t8_3 : Addr) (t10_3 : Option Addr) (t11_3 : Option Addr) (t12_3 : Int) (k : (Bool) → Heap → Prop) (nx2 : (Int) → Heap → Prop) (nx3 : (Int) → Heap → Prop) (h_3 : Heap) : Prop :=
  if ((decide (t12_3 < (t1_3.len : Int))) && (decide (t12_3 < 50))) then (∃ a18 : Addr, t1_3.a = some a18 ∧ (0 : Int) ≤ t12_3 ∧ t12_3 < (t1_3.len : Int) ∧ (∃ v19 : S_quaestorlaw09_Act, CellsAt h_3 (a18.add (t12_3.toNat * 3)) (S_quaestorlaw09_Act.cs v19) ∧ (law09_do t10_3 t11_3 v19 (fun (r20 : Bool) h21 => if (!r20) then (law09_DiskCopy_g4 t1_3 t2_3 t7_3 t8_3 t10_3 t11_3 t12_3 true k nx2 nx3 h21) else (∃ a27 : Addr, t1_3.a = some a27 ∧ (0 : Int) ≤ t12_3 ∧ t12_3 < (t1_3.len : Int) ∧ (∃ v28 : Int, cellH h21 ((a27.add (t12_3.toNat * 3)).add 1) = some (.int .i64 v28) ∧ (law09_same t10_3 t11_3 v28 (fun (r29 : Bool) h30 => law09_DiskCopy_g4 t1_3 t2_3 t7_3 t8_3 t10_3 t11_3 t12_3 (!r29) k nx2 nx3 h30) h21)))) h_3))) else (law09_same t7_3 (some t8_3) t2_3 (fun (r31 : Bool) h32 => if r31 then (law09_same t10_3 t11_3 t2_3 (fun (r35 : Bool) h36 => law09_DiskCopy_g6 r35 k nx2 nx3 h36) h32) else (law09_DiskCopy_g6 false k nx2 nx3 h32)) h_3)
def law09_DiskCopy_l3 (t1_3 : Slc) (t2_3 : Int) (t7_3 : Option Addr) (t8_3 : Addr) (t10_3 : Option Addr) (t11_3 : Option Addr) (i12 : Int) (k : (Bool) → Heap → Prop) (nx2 : (Int) → Heap → Prop) (h : Heap) : Prop :=
  ∃ (I : Int → Heap → Prop) (μ : Int → Heap → Nat), I i12 h ∧ ∀ (t12_3 : Int) (h : Heap), I t12_3 h → law09_DiskCopy_l3b t1_3 t2_3 t7_3 t8_3 t10_3 t11_3 t12_3 k nx2 (fun s h' => I s h' ∧ μ s h' < μ t12_3 h) h
def law09_DiskCopy_l2b (t0_2 : Slc) (t1_2 : Slc) (t2_2 : Int) (t7_2 : Option Addr) (t8_2 : Addr) (t9_2 : Int) (k : (Bool) → Heap → Prop) (nx2 : (Int) → Heap → Prop) (h_2 : Heap) : Prop :=
  if ((decide (t9_2 < (t0_2.len : Int))) && (decide (t9_2 < 50))) then (∃ a9 : Addr, t0_2.a = some a9 ∧ (0 : Int) ≤ t9_2 ∧ t9_2 < (t0_2.len : Int) ∧ (∃ v10 : S_quaestorlaw09_Act, CellsAt h_2 (a9.add (t9_2.toNat * 3)) (S_quaestorlaw09_Act.cs v10) ∧ (law09_do t7_2 (some t8_2) v10 (fun (r11 : Bool) h12 => ∃ x13 : Int, x13 = (IntKind.i64.wrap (t9_2 + 1)) ∧ (nx2 x13 h12)) h_2))) else (disk_Disk_Copy t7_2 (fun (r14 : Option Addr) h15 => ref09_Disk_Copy (some t8_2) (fun (r16 : Option Addr) h17 => law09_DiskCopy_l3 t1_2 t2_2 t7_2 t8_2 r14 r16 0 k nx2 h17) h15) h_2)
def law09_DiskCopy_l2 (t0_2 : Slc) (t1_2 : Slc) (t2_2 : Int) (t7_2 : Option Addr) (t8_2 : Addr) (i9 : Int) (k : (Bool) → Heap → Prop) (h : Heap) : Prop :=
  ∃ (I : Int → Heap → Prop) (μ : Int → Heap → Nat), I i9 h ∧ ∀ (t9_2 : Int) (h : Heap), I t9_2 h → law09_DiskCopy_l2b t0_2 t1_2 t2_2 t7_2 t8_2 t9_2 k (fun s h' => I s h' ∧ μ s h' < μ t9_2 h) h
def law09_DiskCopy_g1 (t0_1 : Slc) (t1_1 : Slc) (t2_1 : Int) (t18_1 : Bool) (k : (Bool) → Heap → Prop) (h_1 : Heap) : Prop :=
  if t18_1 then (law09_awake  (fun (r3 : Bool) h4 => k r3 h4) h_1) else (disk_New  (fun (r5 : Option Addr) h6 => ∃ (b7 : Nat) (h8 : Heap), b7 = h6.size ∧ h8 = h6.push (.cells (S_quaestorref09_Disk.cs (⟨(⟨none, 0, 0⟩ : Slc), 0, false, 0⟩ : S_quaestorref09_Disk)).toArray 105) ∧ (law09_DiskCopy_l2 t0_1 t1_1 t2_1 r5 (⟨b7, 0, none⟩ : Addr) 0 k h8)) h_1)
def law09_DiskCopy (p0 : Slc) (p1 : Slc) (p2 : Int) (k : (Bool) → Heap → Prop) (h : Heap) : Prop :=
  law09_great p0 (fun (r1 : Bool) h2 => if r1 then (law09_DiskCopy_g1 p0 p1 p2 true k h2) else (law09_great p1 (fun (r37 : Bool) h38 => law09_DiskCopy_g1 p0 p1 p2 r37 k h38) h2)) h

theorem law09_great_ok : CallOk Go.Proofs.Try.prog 56 := ⟨_, Go.Proofs.Try.func56, by kernel_rfl, by kernel_rfl⟩
theorem law09_great_ref (p0 : Slc) (k : (Bool) → Heap → Prop) (h : Heap) (H : law09_great p0 k h) : CallsH Go.Proofs.Try.prog 56 #[Slc.v p0] h (fun v h' => ∃ r : Bool, v = .bool r ∧ k r h') := by
  refine f_enter (N := 21) Go.Proofs.Try.func56 rfl rfl rfl (fun w0 => ?_)
  unfold law09_great at H
  refine c_weak [(0, Slc.v p0)] ⟨rfl, trivial⟩ ?_
  refine c_seq ?_
  refine c_region ?_
  refine w_p tok rfl rfl rfl ?_
  refine w_end ?_
  refine x_seq ?_
  refine c_seq ?_
  refine c_seq ?_
  refine c_region ?_
  refine w_p tok rfl rfl rfl ?_
  refine w_end ?_
  refine x_seq ?_
  refine c_block ?_
  obtain ⟨I1, μ1, H0, HI⟩ := H
  refine c_loop (σ := Int) (fun (s : Int) => [(3, .int .i64 s), (0, Slc.v p0)]) I1 μ1 0 H0 ⟨rfl, rfl, trivial⟩ ?_
  rintro t3_1 h_1 H
  replace H := HI t3_1 h_1 H
  unfold law09_great_l1b at H
  refine c_weak [(3, .int .i64 t3_1), (0, Slc.v p0)] ⟨rfl, rfl, trivial⟩ ?_
  refine c_seq ?_
  refine c_seq ?_
  refine c_region ?_
  refine w_p tok rfl rfl rfl ?_
  refine w_p tok rfl rfl rfl ?_
  refine w_p tok rfl rfl rfl ?_
  refine w_p tok rfl rfl rfl ?_
  refine w_p tok rfl rfl rfl ?_
  refine w_cutU 3 [(11, .bool ((decide (t3_1 < (p0.len : Int))) && (decide (t3_1 < 50)))), (0, Slc.v p0), (3, .int .i64 t3_1)] ?_ ?_
  ·
    refine w_end ?_
    refine x_seq ?_
    refine c_if H rfl (fun H => ?_) (fun H => ?_)
    ·
      refine c_skip ?_
      refine x_seq ?_
      refine c_seq ?_
      refine c_block ?_
      refine c_seq ?_
      refine c_region ?_
      refine w_p tok rfl rfl rfl ?_
      refine w_p tok rfl rfl rfl ?_
      obtain ⟨a1, ha1, la1, ua1, H⟩ := H
      refine w_y (y_ixa' tok rfl rfl ha1 rfl rfl rfl la1 ua1) rfl rfl ?_
      refine w_p tok rfl rfl rfl ?_
      obtain ⟨v2, hv2, H⟩ := H
      refine w_y (y_ld tok rfl rfl rfl rfl hv2) rfl rfl ?_
      refine w_p tok rfl rfl rfl ?_
      refine w_p tok rfl rfl rfl ?_
      refine w_end ?_
      refine x_seq ?_
      refine c_weak [(0, Slc.v p0), (3, .int .i64 t3_1), (20, .bool (decide ((v2.len : Int) > 300)))] ⟨rfl, rfl, rfl, trivial⟩ ?_
      refine c_if H rfl (fun H => ?_) (fun H => ?_)
      ·
        refine c_seq ?_
        refine c_region ?_
        refine w_p tok rfl rfl rfl ?_
        refine w_end ?_
        refine x_seq ?_
        refine c_ret ?_
        refine x_br ?_
        refine x_tr ?_
        refine x_tr ?_
        refine x_br ?_
        refine x_tr ?_
        exact x_ret _ rfl _ rfl ⟨true, rfl, H⟩
      ·
        refine c_skip ?_
        refine x_blk ?_
        refine x_seq ?_
        refine c_region ?_
        refine w_p tok rfl rfl rfl ?_
        refine w_p tok rfl rfl rfl ?_
        obtain ⟨x3, ex3, H⟩ := H
        refine w_pe tok rfl (congrArg (fun z => (.int .i64 z : Value)) ex3) rfl rfl ?_
        refine w_end ?_
        exact x_join x3 H ⟨rfl, rfl, trivial⟩
    ·
      refine c_exit ?_
      refine x_te ?_
      refine x_te ?_
      refine x_bh ?_
      refine x_seq ?_
      refine c_seq ?_
      refine c_region ?_
      refine w_p tok rfl rfl rfl ?_
      refine w_end ?_
      refine x_seq ?_
      refine c_ret ?_
      exact x_ret _ rfl _ rfl ⟨false, rfl, H⟩
  ·
    refine w_gs (d := 8) rfl (fun hb => ?_) (fun hb => ?_)
    ·
      refine w_p tok rfl rfl rfl ?_
      refine w_p tok rfl rfl rfl ?_
      refine w_p tok rfl rfl rfl ?_
      refine w_jn () rfl ⟨?_, rfl, rfl, trivial⟩
      exact congrArg (fun b => some (Value.bool b)) (and_t hb)
    ·
      refine w_skip rfl rfl ?_
      refine w_skip rfl rfl ?_
      refine w_p tok rfl rfl rfl ?_
      refine w_jn () rfl ⟨?_, rfl, rfl, trivial⟩
      exact congrArg (fun b => some (Value.bool b)) (and_f hb)

theorem law09_do_ok : CallOk Go.Proofs.Try.prog 61 := ⟨_, Go.Proofs.Try.func61, by kernel_rfl, by kernel_rfl⟩
theorem law09_do_ref (p0 : Option Addr) (p1 : Option Addr) (p2 : S_quaestorlaw09_Act) (k : (Bool) → Heap → Prop) (h : Heap) (H : law09_do p0 p1 p2 k h) : CallsH Go.Proofs.Try.prog 61 #[.pointer p0, .pointer p1, .agg (S_quaestorlaw09_Act.cs p2).toArray] h (fun v h' => ∃ r : Bool, v = .bool r ∧ k r h') := by
  refine f_enter (N := 82) Go.Proofs.Try.func61 rfl rfl rfl (fun w0 => ?_)
  unfold law09_do at H
  refine c_weak [(0, .pointer p0), (1, .pointer p1), (2, .agg (S_quaestorlaw09_Act.cs p2).toArray)] ⟨rfl, rfl, rfl, trivial⟩ ?_
  refine c_seq ?_
  refine c_region ?_
  obtain ⟨b1, h2, eb1, eh2, H⟩ := H
  refine w_h (h_box rfl rfl eb1 eh2) rfl rfl ?_
  refine w_p tok rfl rfl rfl ?_
  refine w_end ?_
  refine x_seq ?_
  refine c_seq ?_
  refine c_seq ?_
  refine c_region ?_
  refine w_p tok rfl rfl rfl ?_
  obtain ⟨v3, hv3, H⟩ := H
  refine w_y (y_ld tok rfl rfl rfl rfl hv3) rfl rfl ?_
  refine w_call ref01_Pick_ok (ref01_Pick_ref _ _ _ _ H) rfl rfl rfl rfl ?_
  rintro _ h5 ⟨r4, rfl, H⟩
  refine w_end ?_
  refine x_seq ?_
  refine c_block ?_
  refine c_seq ?_
  refine c_region ?_
  refine w_p tok rfl rfl rfl ?_
  refine w_p tok rfl rfl rfl ?_
  refine w_end ?_
  refine x_seq ?_
  refine c_if H rfl (fun H => ?_) (fun H => ?_)
  ·
    refine c_seq ?_
    refine c_region ?_
    refine w_p tok rfl rfl rfl ?_
    refine w_call disk_Disk_Sync_ok (disk_Disk_Sync_ref _ _ _ H) rfl rfl rfl rfl ?_
    rintro _ h7 ⟨r6, rfl, H⟩
    refine w_p tok rfl rfl rfl ?_
    refine w_call ref09_Disk_Sync_ok (ref09_Disk_Sync_ref _ _ _ H) rfl rfl rfl rfl ?_
    rintro _ h9 ⟨r8, rfl, H⟩
    refine w_p tok rfl rfl rfl ?_
    refine w_p tok rfl rfl rfl ?_
    refine w_end ?_
    refine x_seq ?_
    refine c_weak [(6, .bool (r6 == r8))] ⟨rfl, trivial⟩ ?_
    refine c_ret ?_
    refine x_br ?_
    refine x_tr ?_
    exact x_ret _ rfl _ rfl ⟨(r6 == r8), rfl, H⟩
  ·
    refine c_seq ?_
    refine c_region ?_
    refine w_p tok rfl rfl rfl ?_
    refine w_p tok rfl rfl rfl ?_
    refine w_end ?_
    refine x_seq ?_
    refine c_weak [(0, .pointer p0), (1, .pointer p1), (5, .pointer (some (⟨b1, 0, none⟩ : Addr))), (13, .int .i64 r4), (21, .bool (r4 == 5))] ⟨rfl, rfl, rfl, rfl, rfl, trivial⟩ ?_
    refine c_if H rfl (fun H => ?_) (fun H => ?_)
    ·
      refine c_seq ?_
      refine c_region ?_
      refine w_p tok rfl rfl rfl ?_
      refine w_p tok rfl rfl rfl ?_
      obtain ⟨v10, hv10, H⟩ := H
      refine w_y (y_ld tok rfl rfl rfl rfl hv10) rfl rfl ?_
      refine w_call disk_Disk_Fuse_ok (disk_Disk_Fuse_ref _ _ _ _ H) rfl rfl rfl rfl ?_
      rintro _ h12 ⟨r11, rfl, H⟩
      refine w_p tok rfl rfl rfl ?_
      refine w_end ?_
      refine x_seq ?_
      refine c_weak [(1, .pointer p1), (5, .pointer (some (⟨b1, 0, none⟩ : Addr))), (7, .int .i64 r11)] ⟨rfl, rfl, rfl, trivial⟩ ?_
      refine c_seq ?_
      refine c_seq ?_
      refine c_region ?_
      refine w_p tok rfl rfl rfl ?_
      obtain ⟨a13, ha13, H⟩ := H
      refine w_y (y_nil' rfl rfl ha13) rfl rfl ?_
      refine w_p tok rfl rfl rfl ?_
      obtain ⟨v14, hv14, H⟩ := H
      refine w_y (y_ld tok rfl rfl rfl rfl hv14) rfl rfl ?_
      refine w_end ?_
      refine x_seq ?_
      refine c_if H rfl (fun H => ?_) (fun H => ?_)
      ·
        refine c_seq ?_
        refine c_region ?_
        refine w_p tok rfl rfl rfl ?_
        refine w_p tok rfl rfl rfl ?_
        refine w_p tok rfl rfl rfl ?_
        refine w_end ?_
        refine x_seq ?_
        refine c_weak [(6, .bool (r11 == 10))] ⟨rfl, trivial⟩ ?_
        refine c_ret ?_
        refine x_tr ?_
        refine x_br ?_
        refine x_tr ?_
        exact x_ret _ rfl _ rfl ⟨(r11 == 10), rfl, H⟩
      ·
        refine c_skip ?_
        refine x_seq ?_
        refine c_seq ?_
        refine c_region ?_
        refine w_p tok rfl rfl rfl ?_
        refine w_p tok rfl rfl rfl ?_
        obtain ⟨v15, hv15, H⟩ := H
        refine w_y (y_ld tok rfl rfl rfl rfl hv15) rfl rfl ?_
        refine w_p tok rfl rfl rfl ?_
        refine w_y (y_nil' rfl rfl ha13) rfl rfl ?_
        refine w_p tok rfl rfl rfl ?_
        obtain ⟨h16, wh16, eh16, H⟩ := H
        refine w_h (h_st tok rfl rfl rfl rfl rfl rfl wh16 eh16) rfl rfl ?_
        refine w_end ?_
        refine x_seq ?_
        refine c_weak [(7, .int .i64 r11)] ⟨rfl, trivial⟩ ?_
        refine c_seq ?_
        refine c_region ?_
        refine w_p tok rfl rfl rfl ?_
        refine w_p tok rfl rfl rfl ?_
        refine w_p tok rfl rfl rfl ?_
        refine w_end ?_
        refine x_seq ?_
        refine c_ret ?_
        refine x_br ?_
        refine x_tr ?_
        exact x_ret _ rfl _ rfl ⟨(r11 == 0), rfl, H⟩
    ·
      refine c_seq ?_
      refine c_region ?_
      refine w_p tok rfl rfl rfl ?_
      refine w_p tok rfl rfl rfl ?_
      refine w_end ?_
      refine x_seq ?_
      refine c_if H rfl (fun H => ?_) (fun H => ?_)
      ·
        refine c_seq ?_
        refine c_region ?_
        refine w_p tok rfl rfl rfl ?_
        refine w_p tok rfl rfl rfl ?_
        obtain ⟨v17, hv17, H⟩ := H
        refine w_y (y_ld tok rfl rfl rfl rfl hv17) rfl rfl ?_
        refine w_call disk_Disk_Boot_ok (disk_Disk_Boot_ref _ _ _ _ H) rfl rfl rfl rfl ?_
        rintro _ h19 ⟨r18, rfl, H⟩
        refine w_end ?_
        refine x_seq ?_
        refine c_weak [(1, .pointer p1), (5, .pointer (some (⟨b1, 0, none⟩ : Addr)))] ⟨rfl, rfl, trivial⟩ ?_
        refine c_seq ?_
        refine c_region ?_
        refine w_p tok rfl rfl rfl ?_
        refine w_p tok rfl rfl rfl ?_
        obtain ⟨v20, hv20, H⟩ := H
        refine w_y (y_ld tok rfl rfl rfl rfl hv20) rfl rfl ?_
        refine w_call ref09_Disk_Boot_ok (ref09_Disk_Boot_ref _ _ _ _ H) rfl rfl rfl rfl ?_
        rintro _ h22 ⟨r21, rfl, H⟩
        refine w_end ?_
        refine x_seq ?_
        refine c_seq ?_
        refine c_region ?_
        refine w_p tok rfl rfl rfl ?_
        refine w_end ?_
        refine x_seq ?_
        refine c_ret ?_
        refine x_br ?_
        refine x_tr ?_
        exact x_ret _ rfl _ rfl ⟨true, rfl, H⟩
      ·
        refine c_skip ?_
        refine x_blk ?_
        refine x_seq ?_
        refine c_seq ?_
        refine c_region ?_
        obtain ⟨b23, h24, eb23, eh24, H⟩ := H
        refine w_h (h_bs tok rfl rfl rfl rfl rfl rfl rfl eb23 eh24) rfl rfl ?_
        refine w_p tok rfl rfl rfl ?_
        obtain ⟨v25, hv25, H⟩ := H
        refine w_y (y_ld tok rfl rfl rfl rfl hv25) rfl rfl ?_
        obtain ⟨l28, hl28, H⟩ := H
        refine w_a (a_app (s := (⟨some ⟨b23, 0, none⟩, 0, 0⟩ : Slc)) (r := v25) tok rfl rfl rfl rfl rfl hl28 H) rfl rfl ?_
        rintro _ h27 ⟨s26, rfl, H⟩
        refine w_p tok rfl rfl rfl ?_
        refine w_end ?_
        refine x_seq ?_
        refine c_weak [(0, .pointer p0), (1, .pointer p1), (5, .pointer (some (⟨b1, 0, none⟩ : Addr))), (8, Slc.v s26)] ⟨rfl, rfl, rfl, rfl, trivial⟩ ?_
        refine c_seq ?_
        refine c_region ?_
        refine w_p tok rfl rfl rfl ?_
        refine w_p tok rfl rfl rfl ?_
        obtain ⟨v29, hv29, H⟩ := H
        refine w_y (y_ld tok rfl rfl rfl rfl hv29) rfl rfl ?_
        refine w_p tok rfl rfl rfl ?_
        refine w_call disk_Disk_Write_ok (disk_Disk_Write_ref _ _ _ _ _ H) rfl rfl rfl rfl ?_
        rintro _ h31 ⟨r30, rfl, H⟩
        refine w_p tok rfl rfl rfl ?_
        refine w_end ?_
        refine x_seq ?_
        refine c_seq ?_
        refine c_seq ?_
        refine c_region ?_
        refine w_p tok rfl rfl rfl ?_
        refine w_end ?_
        refine x_seq ?_
        refine c_block ?_
        obtain ⟨I1, μ1, H0, HI⟩ := H
        refine c_loop (σ := Int) (fun (s : Int) => [(10, .int .i64 s), (1, .pointer p1), (5, .pointer (some (⟨b1, 0, none⟩ : Addr))), (8, Slc.v s26), (9, .int .i64 r30)]) I1 μ1 0 H0 ⟨rfl, rfl, rfl, rfl, rfl, trivial⟩ ?_
        rintro t10_1 h_1 H
        replace H := HI t10_1 h_1 H
        unfold law09_do_l1b at H
        refine c_weak [(10, .int .i64 t10_1), (1, .pointer p1), (5, .pointer (some (⟨b1, 0, none⟩ : Addr))), (8, Slc.v s26), (9, .int .i64 r30)] ⟨rfl, rfl, rfl, rfl, rfl, trivial⟩ ?_
        refine c_seq ?_
        refine c_seq ?_
        refine c_region ?_
        refine w_p tok rfl rfl rfl ?_
        refine w_p tok rfl rfl rfl ?_
        refine w_p tok rfl rfl rfl ?_
        refine w_p tok rfl rfl rfl ?_
        refine w_end ?_
        refine x_seq ?_
        refine c_if H rfl (fun H => ?_) (fun H => ?_)
        ·
          refine c_skip ?_
          refine x_seq ?_
          refine c_seq ?_
          refine c_block ?_
          refine c_region ?_
          refine w_p tok rfl rfl rfl ?_
          refine w_p tok rfl rfl rfl ?_
          refine w_p tok rfl rfl rfl ?_
          refine w_p tok rfl rfl rfl ?_
          obtain ⟨a32, ha32, la32, ua32, H⟩ := H
          refine w_y (y_ixa' tok rfl rfl ha32 rfl rfl rfl la32 ua32) rfl rfl ?_
          obtain ⟨v33, hv33, H⟩ := H
          refine w_y (y_ld tok rfl rfl rfl rfl hv33) rfl rfl ?_
          refine w_p tok rfl rfl rfl ?_
          obtain ⟨a34, ha34, la34, ua34, H⟩ := H
          refine w_y (y_ixa' tok rfl rfl ha34 rfl rfl rfl la34 ua34) rfl rfl ?_
          obtain ⟨h35, wh35, eh35, H⟩ := H
          refine w_h (h_st tok rfl rfl rfl rfl rfl rfl wh35 eh35) rfl rfl ?_
          refine w_end ?_
          refine x_blk ?_
          refine x_seq ?_
          refine c_weak [(10, .int .i64 t10_1), (1, .pointer p1), (5, .pointer (some (⟨b1, 0, none⟩ : Addr))), (8, Slc.v s26), (9, .int .i64 r30)] ⟨rfl, rfl, rfl, rfl, rfl, trivial⟩ ?_
          refine c_region ?_
          refine w_p tok rfl rfl rfl ?_
          refine w_p tok rfl rfl rfl ?_
          obtain ⟨x36, ex36, H⟩ := H
          refine w_pe tok rfl (congrArg (fun z => (.int .i64 z : Value)) ex36) rfl rfl ?_
          refine w_end ?_
          exact x_join x36 H ⟨rfl, rfl, rfl, rfl, rfl, trivial⟩
        ·
          refine c_exit ?_
          refine x_te ?_
          refine x_te ?_
          refine x_bh ?_
          refine x_seq ?_
          refine c_seq ?_
          refine c_region ?_
          refine w_p tok rfl rfl rfl ?_
          refine w_p tok rfl rfl rfl ?_
          refine w_p tok rfl rfl rfl ?_
          obtain ⟨v37, hv37, H⟩ := H
          refine w_y (y_ld tok rfl rfl rfl rfl hv37) rfl rfl ?_
          refine w_p tok rfl rfl rfl ?_
          obtain ⟨v38, hv38, H⟩ := H
          refine w_y (y_ld tok rfl rfl rfl rfl hv38) rfl rfl ?_
          refine w_call ref09_Disk_Write_ok (ref09_Disk_Write_ref _ _ _ _ _ H) rfl rfl rfl rfl ?_
          rintro _ h40 ⟨r39, rfl, H⟩
          refine w_p tok rfl rfl rfl ?_
          refine w_p tok rfl rfl rfl ?_
          refine w_end ?_
          refine x_seq ?_
          refine c_weak [(6, .bool (r30 == r39))] ⟨rfl, trivial⟩ ?_
          refine c_ret ?_
          exact x_ret _ rfl _ rfl ⟨(r30 == r39), rfl, H⟩

theorem law09_same_ok : CallOk Go.Proofs.Try.prog 64 := ⟨_, Go.Proofs.Try.func64, by kernel_rfl, by kernel_rfl⟩
theorem law09_same_ref (p0 : Option Addr) (p1 : Option Addr) (p2 : Int) (k : (Bool) → Heap → Prop) (h : Heap) (H : law09_same p0 p1 p2 k h) : CallsH Go.Proofs.Try.prog 64 #[.pointer p0, .pointer p1, .int .i64 p2] h (fun v h' => ∃ r : Bool, v = .bool r ∧ k r h') := by
  refine f_enter (N := 38) Go.Proofs.Try.func64 rfl rfl rfl (fun w0 => ?_)
  unfold law09_same at H
  refine c_weak [(0, .pointer p0), (1, .pointer p1), (2, .int .i64 p2)] ⟨rfl, rfl, rfl, trivial⟩ ?_
  refine c_seq ?_
  refine c_region ?_
  refine w_p tok rfl rfl rfl ?_
  refine w_end ?_
  refine x_seq ?_
  refine c_seq ?_
  refine c_region ?_
  refine w_p tok rfl rfl rfl ?_
  refine w_p tok rfl rfl rfl ?_
  refine w_call disk_Disk_Read_ok (disk_Disk_Read_ref _ _ _ _ H) rfl rfl rfl rfl ?_
  rintro _ h2 ⟨r1, rfl, H⟩
  refine w_p tok rfl rfl rfl ?_
  refine w_p tok rfl rfl rfl ?_
  refine w_p tok rfl rfl rfl ?_
  refine w_p tok rfl rfl rfl ?_
  refine w_p tok rfl rfl rfl ?_
  refine w_end ?_
  refine x_seq ?_
  refine c_weak [(0, .pointer p0), (1, .pointer p1), (2, .int .i64 p2), (7, Slc.v r1.1), (8, .int .i64 r1.2)] ⟨rfl, rfl, rfl, rfl, rfl, trivial⟩ ?_
  refine c_seqJ (α := Bool) (fun (s : Bool) => [(6, .bool s)]) (fun (s : Bool) h => law09_same_j1 s k h) ?_ ?_
  ·
    rintro t6_1 h_1 H
    replace H : law09_same_j1 t6_1 k h_1 := H
    unfold law09_same_j1 at H
    refine c_weak [(6, .bool t6_1)] ⟨rfl, trivial⟩ ?_
    refine c_ret ?_
    exact x_ret _ rfl _ rfl ⟨t6_1, rfl, H⟩
  ·
    refine c_sim [(0, .pointer p0), (1, .pointer p1), (2, .int .i64 p2), (7, Slc.v r1.1), (8, .int .i64 r1.2)] (by kernel_rfl) (by kernel_rfl) ⟨rfl, rfl, rfl, rfl, rfl, trivial⟩ (fun wf => ?_)
    refine sim_p 0 (ei := [(7, Slc.v r1.1)]) (d := (some 15)) wf (by kernel_rfl) ⟨rfl, trivial⟩ (by kernel_rfl) (by kernel_rfl) (fun _ => pf_p tok rfl rfl rfl rfl) (fun P_0 => ?_)
    refine sim_p 1 (ei := [(8, .int .i64 r1.2)]) (d := (some 16)) wf (by kernel_rfl) ⟨rfl, trivial⟩ (by kernel_rfl) (by kernel_rfl) (fun _ => pf_p tok rfl rfl rfl rfl) (fun P_1 => ?_)
    refine sim_p 2 (ei := [(1, .pointer p1)]) (d := (some 17)) wf (by kernel_rfl) ⟨rfl, trivial⟩ (by kernel_rfl) (by kernel_rfl) (fun _ => pf_p tok rfl rfl rfl rfl) (fun P_2 => ?_)
    refine sim_p 3 (ei := [(2, .int .i64 p2)]) (d := (some 18)) wf (by kernel_rfl) ⟨rfl, trivial⟩ (by kernel_rfl) (by kernel_rfl) (fun _ => pf_p tok rfl rfl rfl rfl) (fun P_3 => ?_)
    refine sim_c 4 [0, 1, 2, 3] [0, 1, 2, 3] (ei := [(15, Slc.v r1.1), (16, .int .i64 r1.2), (17, .pointer p1), (18, .int .i64 p2)]) ref09_SameAt_ok (ref09_SameAt_ref _ _ _ _ _ _ H) wf ⟨P_3 _, P_2 _, P_1 _, P_0 _, trivial⟩ (by kernel_rfl) ⟨rfl, rfl, rfl, rfl, trivial⟩ (by kernel_rfl) rfl rfl rfl rfl rfl ?_
    rintro _ h4 ⟨r3, rfl, H⟩
    refine sim_p 5 (ei := [(19, .bool r3)]) (d := (some 20)) wf (by kernel_rfl) ⟨rfl, trivial⟩ (by kernel_rfl) (by kernel_rfl) (fun _ => pf_p tok rfl rfl rfl rfl) (fun P_5 => ?_)
    refine sim_gif 20 H rfl (fun hb H => ?_) (fun hb H => ?_)
    ·
      refine sim_p 6 (ei := [(0, .pointer p0), (20, .bool true)]) (d := (some 21)) wf (by kernel_rfl) ⟨rfl, rfl, trivial⟩ (by kernel_rfl) (by kernel_rfl) (fun _ => pf_p tok rfl rfl rfl rfl) (fun P_6 => ?_)
      refine sim_p 8 (ei := [(1, .pointer p1), (20, .bool true)]) (d := (some 23)) wf (by kernel_rfl) ⟨rfl, rfl, trivial⟩ (by kernel_rfl) (by kernel_rfl) (fun _ => pf_p tok rfl rfl rfl rfl) (fun P_8 => ?_)
      obtain ⟨a5, ha5, H⟩ := H
      refine sim_p 9 (ei := [(20, .bool true), (23, .pointer p1)]) (d := (some 24)) wf (by kernel_rfl) ⟨rfl, rfl, trivial⟩ (by kernel_rfl) (by kernel_rfl) (fun _ => pf_y rfl rfl rfl (y_nil' rfl rfl ha5)) (fun P_9 => ?_)
      refine sim_p 10 (ei := [(20, .bool true), (24, .pointer (some a5))]) (d := (some 25)) wf (by kernel_rfl) ⟨rfl, rfl, trivial⟩ (by kernel_rfl) (by kernel_rfl) (fun _ => pf_p tok rfl rfl rfl rfl) (fun P_10 => ?_)
      obtain ⟨v6, hv6, H⟩ := H
      refine sim_l 11 (ei := [(20, .bool true), (25, .pointer (some (a5.add 2)))]) (d := (some 26)) wf (by kernel_rfl) ⟨rfl, rfl, trivial⟩ (by kernel_rfl) (by kernel_rfl) (pf_y rfl rfl rfl (y_ld tok rfl rfl rfl rfl hv6)) (fun P_11 => ?_)
      refine sim_c 7 [0, 1, 2, 3, 4, 5, 6] [0, 1, 2, 3, 5, 6] (ei := [(20, .bool true), (21, .pointer p0)]) disk_Disk_Dead_ok (disk_Disk_Dead_ref _ _ _ H) wf ⟨P_11, P_10 _, P_9 _, P_8 _, P_6 _, P_5 _, trivial, trivial, trivial, trivial, trivial⟩ (by kernel_rfl) ⟨rfl, rfl, trivial⟩ (by kernel_rfl) rfl rfl rfl rfl rfl ?_
      rintro _ h8 ⟨r7, rfl, H⟩
      obtain ⟨hy9, H⟩ := H
      refine sim_re (x := ⟨11, .bool v6, [(20, .bool true), (25, .pointer (some (a5.add 2)))]⟩) (pf_y rfl rfl rfl (y_ld tok rfl rfl rfl rfl hy9)) (fun P_11 => ?_)
      refine sim_p 12 (ei := [(20, .bool true), (22, .bool r7), (26, .bool v6)]) (d := (some 27)) wf (by kernel_rfl) ⟨rfl, rfl, rfl, trivial⟩ (by kernel_rfl) (by kernel_rfl) (fun _ => pf_p tok rfl rfl rfl rfl) (fun P_12 => ?_)
      refine sim_p 13 (ei := [(20, .bool true), (27, .bool ((r7 == v6)))]) (d := (some 28)) wf (by kernel_rfl) ⟨rfl, rfl, trivial⟩ (by kernel_rfl) (by kernel_rfl) (fun _ => pf_p tok rfl rfl rfl rfl) (fun P_13 => ?_)
      refine sim_p 14 (ei := [(28, .bool ((r7 == v6)))]) (d := (some 29)) wf (by kernel_rfl) ⟨rfl, trivial⟩ (by kernel_rfl) (by kernel_rfl) (fun _ => pf_p tok rfl rfl rfl rfl) (fun P_14 => ?_)
      refine sim_gif 29 H rfl (fun hb H => ?_) (fun hb H => ?_)
      ·
        refine sim_p 15 (ei := [(0, .pointer p0), (29, .bool true)]) (d := (some 30)) wf (by kernel_rfl) ⟨rfl, rfl, trivial⟩ (by kernel_rfl) (by kernel_rfl) (fun _ => pf_p tok rfl rfl rfl rfl) (fun P_15 => ?_)
        refine sim_p 17 (ei := [(1, .pointer p1), (29, .bool true)]) (d := (some 32)) wf (by kernel_rfl) ⟨rfl, rfl, trivial⟩ (by kernel_rfl) (by kernel_rfl) (fun _ => pf_p tok rfl rfl rfl rfl) (fun P_17 => ?_)
        refine sim_p 18 (ei := [(29, .bool true), (32, .pointer p1)]) (d := (some 33)) wf (by kernel_rfl) ⟨rfl, rfl, trivial⟩ (by kernel_rfl) (by kernel_rfl) (fun _ => pf_y rfl rfl rfl (y_nil' rfl rfl ha5)) (fun P_18 => ?_)
        refine sim_p 19 (ei := [(29, .bool true), (33, .pointer (some a5))]) (d := (some 34)) wf (by kernel_rfl) ⟨rfl, rfl, trivial⟩ (by kernel_rfl) (by kernel_rfl) (fun _ => pf_p tok rfl rfl rfl rfl) (fun P_19 => ?_)
        obtain ⟨v10, hv10, H⟩ := H
        refine sim_l 20 (ei := [(29, .bool true), (34, .pointer (some (a5.add 3)))]) (d := (some 35)) wf (by kernel_rfl) ⟨rfl, rfl, trivial⟩ (by kernel_rfl) (by kernel_rfl) (pf_y rfl rfl rfl (y_ld tok rfl rfl rfl rfl hv10)) (fun P_20 => ?_)
        refine sim_c 16 [0, 1, 2, 3, 4, 5, 6, 7, 8, 9, 10, 11, 12, 13, 14, 15] [0, 1, 2, 3, 5, 6, 8, 9, 10, 11, 12, 13, 14, 15] (ei := [(29, .bool true), (30, .pointer p0)]) disk_Disk_Ops_ok (disk_Disk_Ops_ref _ _ _ H) wf ⟨P_20, P_19 _, P_18 _, P_17 _, P_15 _, P_14 _, P_13 _, P_12 _, P_11, P_10 _, P_9 _, P_8 _, trivial, trivial, trivial, trivial, trivial, trivial, trivial⟩ (by kernel_rfl) ⟨rfl, rfl, trivial⟩ (by kernel_rfl) rfl rfl rfl rfl rfl ?_
        rintro _ h12 ⟨r11, rfl, H⟩
        obtain ⟨hy13, H⟩ := H
        refine sim_re (x := ⟨20, .int .i64 v10, [(29, .bool true), (34, .pointer (some (a5.add 3)))]⟩) (pf_y rfl rfl rfl (y_ld tok rfl rfl rfl rfl hy13)) (fun P_20 => ?_)
        refine sim_p 21 (ei := [(29, .bool true), (31, .int .i64 r11), (35, .int .i64 v10)]) (d := (some 36)) wf (by kernel_rfl) ⟨rfl, rfl, rfl, trivial⟩ (by kernel_rfl) (by kernel_rfl) (fun _ => pf_p tok rfl rfl rfl rfl) (fun P_21 => ?_)
        refine sim_p 22 (ei := [(29, .bool true), (36, .bool (r11 == v10))]) (d := (some 37)) wf (by kernel_rfl) ⟨rfl, rfl, trivial⟩ (by kernel_rfl) (by kernel_rfl) (fun _ => pf_p tok rfl rfl rfl rfl) (fun P_22 => ?_)
        refine sim_p 23 (ei := [(37, .bool (r11 == v10))]) (d := (some 6)) wf (by kernel_rfl) ⟨rfl, trivial⟩ (by kernel_rfl) (by kernel_rfl) (fun _ => pf_p tok rfl rfl rfl rfl) (fun P_23 => ?_)
        refine sim_end wf ⟨P_23 _, P_22 _, P_21 _, P_20, P_19 _, P_18 _, P_17 _, trivial, trivial, trivial, trivial, trivial, trivial, trivial, trivial, trivial, trivial, trivial, trivial, trivial, trivial, trivial⟩ (by kernel_rfl) ?_
        clear wf P_0 P_1 P_10 P_11 P_12 P_13 P_14 P_15 P_17 P_18 P_19 P_2 P_20 P_21 P_22 P_23 P_3 P_5 P_6 P_8 P_9
        exact x_join (r11 == v10) H ⟨rfl, trivial⟩
      ·
        refine sim_p 15 (v := undef) (ei := [(0, .pointer p0), (29, .bool false)]) (d := (some 30)) wf (by kernel_rfl) ⟨rfl, rfl, trivial⟩ (by kernel_rfl) (by kernel_rfl) (fun _ => pf_s rfl rfl rfl) (fun P_15 => ?_)
        refine sim_p 16 (v := undef) (ei := [(29, .bool false), (30, undef)]) (d := (some 31)) wf (by kernel_rfl) ⟨rfl, rfl, trivial⟩ (by kernel_rfl) (by kernel_rfl) (fun _ => pf_s rfl rfl rfl) (fun P_16 => ?_)
        refine sim_p 17 (v := undef) (ei := [(1, .pointer p1), (29, .bool false)]) (d := (some 32)) wf (by kernel_rfl) ⟨rfl, rfl, trivial⟩ (by kernel_rfl) (by kernel_rfl) (fun _ => pf_s rfl rfl rfl) (fun P_17 => ?_)
        refine sim_p 18 (v := undef) (ei := [(29, .bool false), (32, undef)]) (d := (some 33)) wf (by kernel_rfl) ⟨rfl, rfl, trivial⟩ (by kernel_rfl) (by kernel_rfl) (fun _ => pf_s rfl rfl rfl) (fun P_18 => ?_)
        refine sim_p 19 (v := undef) (ei := [(29, .bool false), (33, undef)]) (d := (some 34)) wf (by kernel_rfl) ⟨rfl, rfl, trivial⟩ (by kernel_rfl) (by kernel_rfl) (fun _ => pf_s rfl rfl rfl) (fun P_19 => ?_)
        refine sim_p 20 (v := undef) (ei := [(29, .bool false), (34, undef)]) (d := (some 35)) wf (by kernel_rfl) ⟨rfl, rfl, trivial⟩ (by kernel_rfl) (by kernel_rfl) (fun _ => pf_s rfl rfl rfl) (fun P_20 => ?_)
        refine sim_p 21 (v := undef) (ei := [(29, .bool false), (31, undef), (35, undef)]) (d := (some 36)) wf (by kernel_rfl) ⟨rfl, rfl, rfl, trivial⟩ (by kernel_rfl) (by kernel_rfl) (fun _ => pf_s rfl rfl rfl) (fun P_21 => ?_)
        refine sim_p 22 (ei := [(29, .bool false), (36, undef)]) (d := (some 37)) wf (by kernel_rfl) ⟨rfl, rfl, trivial⟩ (by kernel_rfl) (by kernel_rfl) (fun _ => pf_p tok rfl rfl rfl rfl) (fun P_22 => ?_)
        refine sim_p 23 (ei := [(37, .bool false)]) (d := (some 6)) wf (by kernel_rfl) ⟨rfl, trivial⟩ (by kernel_rfl) (by kernel_rfl) (fun _ => pf_p tok rfl rfl rfl rfl) (fun P_23 => ?_)
        refine sim_end wf ⟨P_23 _, P_22 _, P_21 _, P_20 _, P_19 _, P_18 _, P_17 _, P_16 _, P_15 _, P_14 _, P_13 _, P_12 _, P_11, P_10 _, P_9 _, P_8 _, trivial, trivial, trivial, trivial, trivial, trivial, trivial⟩ (by kernel_rfl) ?_
        clear wf P_0 P_1 P_10 P_11 P_12 P_13 P_14 P_15 P_16 P_17 P_18 P_19 P_2 P_20 P_21 P_22 P_23 P_3 P_5 P_6 P_8 P_9
        exact x_join false H ⟨rfl, trivial⟩
    ·
      refine sim_p 6 (v := undef) (ei := [(0, .pointer p0), (20, .bool false)]) (d := (some 21)) wf (by kernel_rfl) ⟨rfl, rfl, trivial⟩ (by kernel_rfl) (by kernel_rfl) (fun _ => pf_s rfl rfl rfl) (fun P_6 => ?_)
      refine sim_p 7 (v := undef) (ei := [(20, .bool false), (21, undef)]) (d := (some 22)) wf (by kernel_rfl) ⟨rfl, rfl, trivial⟩ (by kernel_rfl) (by kernel_rfl) (fun _ => pf_s rfl rfl rfl) (fun P_7 => ?_)
      refine sim_p 8 (v := undef) (ei := [(1, .pointer p1), (20, .bool false)]) (d := (some 23)) wf (by kernel_rfl) ⟨rfl, rfl, trivial⟩ (by kernel_rfl) (by kernel_rfl) (fun _ => pf_s rfl rfl rfl) (fun P_8 => ?_)
      refine sim_p 9 (v := undef) (ei := [(20, .bool false), (23, undef)]) (d := (some 24)) wf (by kernel_rfl) ⟨rfl, rfl, trivial⟩ (by kernel_rfl) (by kernel_rfl) (fun _ => pf_s rfl rfl rfl) (fun P_9 => ?_)
      refine sim_p 10 (v := undef) (ei := [(20, .bool false), (24, undef)]) (d := (some 25)) wf (by kernel_rfl) ⟨rfl, rfl, trivial⟩ (by kernel_rfl) (by kernel_rfl) (fun _ => pf_s rfl rfl rfl) (fun P_10 => ?_)
      refine sim_p 11 (v := undef) (ei := [(20, .bool false), (25, undef)]) (d := (some 26)) wf (by kernel_rfl) ⟨rfl, rfl, trivial⟩ (by kernel_rfl) (by kernel_rfl) (fun _ => pf_s rfl rfl rfl) (fun P_11 => ?_)
      refine sim_p 12 (v := undef) (ei := [(20, .bool false), (22, undef), (26, undef)]) (d := (some 27)) wf (by kernel_rfl) ⟨rfl, rfl, rfl, trivial⟩ (by kernel_rfl) (by kernel_rfl) (fun _ => pf_s rfl rfl rfl) (fun P_12 => ?_)
      refine sim_p 13 (ei := [(20, .bool false), (27, undef)]) (d := (some 28)) wf (by kernel_rfl) ⟨rfl, rfl, trivial⟩ (by kernel_rfl) (by kernel_rfl) (fun _ => pf_p tok rfl rfl rfl rfl) (fun P_13 => ?_)
      refine sim_p 14 (ei := [(28, .bool false)]) (d := (some 29)) wf (by kernel_rfl) ⟨rfl, trivial⟩ (by kernel_rfl) (by kernel_rfl) (fun _ => pf_p tok rfl rfl rfl rfl) (fun P_14 => ?_)
      refine sim_gif 29 H rfl (fun hb H => ?_) (fun hb H => ?_)
      ·
        refine sim_p 15 (ei := [(0, .pointer p0), (29, .bool true)]) (d := (some 30)) wf (by kernel_rfl) ⟨rfl, rfl, trivial⟩ (by kernel_rfl) (by kernel_rfl) (fun _ => pf_p tok rfl rfl rfl rfl) (fun P_15 => ?_)
        refine sim_p 17 (ei := [(1, .pointer p1), (29, .bool true)]) (d := (some 32)) wf (by kernel_rfl) ⟨rfl, rfl, trivial⟩ (by kernel_rfl) (by kernel_rfl) (fun _ => pf_p tok rfl rfl rfl rfl) (fun P_17 => ?_)
        obtain ⟨a14, ha14, H⟩ := H
        refine sim_p 18 (ei := [(29, .bool true), (32, .pointer p1)]) (d := (some 33)) wf (by kernel_rfl) ⟨rfl, rfl, trivial⟩ (by kernel_rfl) (by kernel_rfl) (fun _ => pf_y rfl rfl rfl (y_nil' rfl rfl ha14)) (fun P_18 => ?_)
        refine sim_p 19 (ei := [(29, .bool true), (33, .pointer (some a14))]) (d := (some 34)) wf (by kernel_rfl) ⟨rfl, rfl, trivial⟩ (by kernel_rfl) (by kernel_rfl) (fun _ => pf_p tok rfl rfl rfl rfl) (fun P_19 => ?_)
        obtain ⟨v15, hv15, H⟩ := H
        refine sim_l 20 (ei := [(29, .bool true), (34, .pointer (some (a14.add 3)))]) (d := (some 35)) wf (by kernel_rfl) ⟨rfl, rfl, trivial⟩ (by kernel_rfl) (by kernel_rfl) (pf_y rfl rfl rfl (y_ld tok rfl rfl rfl rfl hv15)) (fun P_20 => ?_)
        refine sim_c 16 [0, 1, 2, 3, 4, 5, 6, 7, 8, 9, 10, 11, 12, 13, 14, 15] [0, 1, 2, 3, 5, 6, 7, 8, 9, 10, 11, 12, 13, 14, 15] (ei := [(29, .bool true), (30, .pointer p0)]) disk_Disk_Ops_ok (disk_Disk_Ops_ref _ _ _ H) wf ⟨P_20, P_19 _, P_18 _, P_17 _, P_15 _, P_14 _, P_13 _, P_12 _, P_11 _, P_10 _, P_9 _, P_8 _, P_7 _, P_6 _, P_5 _, trivial, trivial, trivial, trivial, trivial⟩ (by kernel_rfl) ⟨rfl, rfl, trivial⟩ (by kernel_rfl) rfl rfl rfl rfl rfl ?_
        rintro _ h17 ⟨r16, rfl, H⟩
        obtain ⟨hy18, H⟩ := H
        refine sim_re (x := ⟨20, .int .i64 v15, [(29, .bool true), (34, .pointer (some (a14.add 3)))]⟩) (pf_y rfl rfl rfl (y_ld tok rfl rfl rfl rfl hy18)) (fun P_20 => ?_)
        refine sim_p 21 (ei := [(29, .bool true), (31, .int .i64 r16), (35, .int .i64 v15)]) (d := (some 36)) wf (by kernel_rfl) ⟨rfl, rfl, rfl, trivial⟩ (by kernel_rfl) (by kernel_rfl) (fun _ => pf_p tok rfl rfl rfl rfl) (fun P_21 => ?_)
        refine sim_p 22 (ei := [(29, .bool true), (36, .bool (r16 == v15))]) (d := (some 37)) wf (by kernel_rfl) ⟨rfl, rfl, trivial⟩ (by kernel_rfl) (by kernel_rfl) (fun _ => pf_p tok rfl rfl rfl rfl) (fun P_22 => ?_)
        refine sim_p 23 (ei := [(37, .bool (r16 == v15))]) (d := (some 6)) wf (by kernel_rfl) ⟨rfl, trivial⟩ (by kernel_rfl) (by kernel_rfl) (fun _ => pf_p tok rfl rfl rfl rfl) (fun P_23 => ?_)
        refine sim_end wf ⟨P_23 _, P_22 _, P_21 _, P_20, P_19 _, P_18 _, P_17 _, trivial, trivial, trivial, trivial, trivial, trivial, trivial, trivial, trivial, trivial, trivial, trivial, trivial, trivial, trivial, trivial⟩ (by kernel_rfl) ?_
        clear wf P_0 P_1 P_10 P_11 P_12 P_13 P_14 P_15 P_17 P_18 P_19 P_2 P_20 P_21 P_22 P_23 P_3 P_5 P_6 P_7 P_8 P_9
        exact x_join (r16 == v15) H ⟨rfl, trivial⟩
      ·
        refine sim_p 15 (v := undef) (ei := [(0, .pointer p0), (29, .bool false)]) (d := (some 30)) wf (by kernel_rfl) ⟨rfl, rfl, trivial⟩ (by kernel_rfl) (by kernel_rfl) (fun _ => pf_s rfl rfl rfl) (fun P_15 => ?_)
        refine sim_p 16 (v := undef) (ei := [(29, .bool false), (30, undef)]) (d := (some 31)) wf (by kernel_rfl) ⟨rfl, rfl, trivial⟩ (by kernel_rfl) (by kernel_rfl) (fun _ => pf_s rfl rfl rfl) (fun P_16 => ?_)
        refine sim_p 17 (v := undef) (ei := [(1, .pointer p1), (29, .bool false)]) (d := (some 32)) wf (by kernel_rfl) ⟨rfl, rfl, trivial⟩ (by kernel_rfl) (by kernel_rfl) (fun _ => pf_s rfl rfl rfl) (fun P_17 => ?_)
        refine sim_p 18 (v := undef) (ei := [(29, .bool false), (32, undef)]) (d := (some 33)) wf (by kernel_rfl) ⟨rfl, rfl, trivial⟩ (by kernel_rfl) (by kernel_rfl) (fun _ => pf_s rfl rfl rfl) (fun P_18 => ?_)
        refine sim_p 19 (v := undef) (ei := [(29, .bool false), (33, undef)]) (d := (some 34)) wf (by kernel_rfl) ⟨rfl, rfl, trivial⟩ (by kernel_rfl) (by kernel_rfl) (fun _ => pf_s rfl rfl rfl) (fun P_19 => ?_)
        refine sim_p 20 (v := undef) (ei := [(29, .bool false), (34, undef)]) (d := (some 35)) wf (by kernel_rfl) ⟨rfl, rfl, trivial⟩ (by kernel_rfl) (by kernel_rfl) (fun _ => pf_s rfl rfl rfl) (fun P_20 => ?_)
        refine sim_p 21 (v := undef) (ei := [(29, .bool false), (31, undef), (35, undef)]) (d := (some 36)) wf (by kernel_rfl) ⟨rfl, rfl, rfl, trivial⟩ (by kernel_rfl) (by kernel_rfl) (fun _ => pf_s rfl rfl rfl) (fun P_21 => ?_)
        refine sim_p 22 (ei := [(29, .bool false), (36, undef)]) (d := (some 37)) wf (by kernel_rfl) ⟨rfl, rfl, trivial⟩ (by kernel_rfl) (by kernel_rfl) (fun _ => pf_p tok rfl rfl rfl rfl) (fun P_22 => ?_)
        refine sim_p 23 (ei := [(37, .bool false)]) (d := (some 6)) wf (by kernel_rfl) ⟨rfl, trivial⟩ (by kernel_rfl) (by kernel_rfl) (fun _ => pf_p tok rfl rfl rfl rfl) (fun P_23 => ?_)
        refine sim_end wf ⟨P_23 _, P_22 _, P_21 _, P_20 _, P_19 _, P_18 _, P_17 _, P_16 _, P_15 _, P_14 _, P_13 _, P_12 _, P_11 _, P_10 _, P_9 _, P_8 _, P_7 _, P_6 _, P_5 _, trivial, trivial, trivial, trivial, trivial⟩ (by kernel_rfl) ?_
        clear wf P_0 P_1 P_10 P_11 P_12 P_13 P_14 P_15 P_16 P_17 P_18 P_19 P_2 P_20 P_21 P_22 P_23 P_3 P_5 P_6 P_7 P_8 P_9
        exact x_join false H ⟨rfl, trivial⟩

theorem law09_awake_ok : CallOk Go.Proofs.Try.prog 57 := ⟨_, Go.Proofs.Try.func57, by kernel_rfl, by kernel_rfl⟩
theorem law09_awake_ref (k : (Bool) → Heap → Prop) (h : Heap) (H : law09_awake k h) : CallsH Go.Proofs.Try.prog 57 #[] h (fun v h' => ∃ r : Bool, v = .bool r ∧ k r h') := by
  refine f_enter (N := 38) Go.Proofs.Try.func57 rfl rfl rfl (fun w0 => ?_)
  unfold law09_awake at H
  refine c_seq ?_
  refine c_region ?_
  refine w_p tok rfl rfl rfl ?_
  refine w_end ?_
  refine x_seq ?_
  refine c_seq ?_
  refine c_region ?_
  refine w_call disk_New_ok (disk_New_ref  _ _ H) rfl rfl rfl rfl ?_
  rintro _ h2 ⟨r1, rfl, H⟩
  refine w_p tok rfl rfl rfl ?_
  refine w_end ?_
  refine x_seq ?_
  refine c_seq ?_
  refine c_region ?_
  refine w_p tok rfl rfl rfl ?_
  obtain ⟨b3, h4, eb3, eh4, H⟩ := H
  refine w_h (h_bs tok rfl rfl rfl rfl rfl rfl rfl eb3 eh4) rfl rfl ?_
  refine w_call disk_Disk_Write_ok (disk_Disk_Write_ref _ _ _ _ _ H) rfl rfl rfl rfl ?_
  rintro _ h6 ⟨r5, rfl, H⟩
  refine w_p tok rfl rfl rfl ?_
  refine w_call disk_Disk_Sync_ok (disk_Disk_Sync_ref _ _ _ H) rfl rfl rfl rfl ?_
  rintro _ h8 ⟨r7, rfl, H⟩
  refine w_p tok rfl rfl rfl ?_
  obtain ⟨b9, h10, eb9, eh10, H⟩ := H
  refine w_h (h_bs tok rfl rfl rfl rfl rfl rfl rfl eb9 eh10) rfl rfl ?_
  refine w_call disk_Disk_Write_ok (disk_Disk_Write_ref _ _ _ _ _ H) rfl rfl rfl rfl ?_
  rintro _ h12 ⟨r11, rfl, H⟩
  refine w_p tok rfl rfl rfl ?_
  refine w_p tok rfl rfl rfl ?_
  refine w_p tok rfl rfl rfl ?_
  refine w_end ?_
  refine x_seq ?_
  refine c_weak [(1, .pointer r1), (2, .int .i64 r5), (3, .int .i64 r7), (4, .int .i64 r11)] ⟨rfl, rfl, rfl, rfl, trivial⟩ ?_
  refine c_seq ?_
  refine c_region ?_
  refine w_p tok rfl rfl rfl ?_
  obtain ⟨b13, h14, eb13, eh14, H⟩ := H
  refine w_h (h_bs tok rfl rfl rfl rfl rfl rfl rfl eb13 eh14) rfl rfl ?_
  refine w_call disk_Disk_Boot_ok (disk_Disk_Boot_ref _ _ _ _ H) rfl rfl rfl rfl ?_
  rintro _ h16 ⟨r15, rfl, H⟩
  refine w_end ?_
  refine x_seq ?_
  refine c_seq ?_
  refine c_region ?_
  refine w_p tok rfl rfl rfl ?_
  refine w_call disk_Disk_Read_ok (disk_Disk_Read_ref _ _ _ _ H) rfl rfl rfl rfl ?_
  rintro _ h18 ⟨r17, rfl, H⟩
  refine w_p tok rfl rfl rfl ?_
  refine w_p tok rfl rfl rfl ?_
  refine w_p tok rfl rfl rfl ?_
  refine w_p tok rfl rfl rfl ?_
  refine w_p tok rfl rfl rfl ?_
  refine w_end ?_
  refine x_seq ?_
  refine c_weak [(2, .int .i64 r5), (3, .int .i64 r7), (4, .int .i64 r11), (6, .int .i64 r17.2)] ⟨rfl, rfl, rfl, rfl, trivial⟩ ?_
  refine c_seq ?_
  refine c_region ?_
  refine w_p tok rfl rfl rfl ?_
  refine w_p tok rfl rfl rfl ?_
  refine w_p tok rfl rfl rfl ?_
  refine w_cutU 3 [(29, .bool ((r5 == 0) && (r7 == 0))), (4, .int .i64 r11), (6, .int .i64 r17.2)] ?_ ?_
  ·
    refine w_p tok rfl rfl rfl ?_
    refine w_cutU 3 [(33, .bool (((r5 == 0) && (r7 == 0)) && (r11 == 0))), (6, .int .i64 r17.2)] ?_ ?_
    ·
      refine w_p tok rfl rfl rfl ?_
      refine w_cutU 3 [(37, .bool ((((r5 == 0) && (r7 == 0)) && (r11 == 0)) && (r17.2 == 9)))] ?_ ?_
      ·
        refine w_p tok rfl rfl rfl ?_
        refine w_end ?_
        refine x_seq ?_
        refine c_ret ?_
        exact x_ret _ rfl _ rfl ⟨((((r5 == 0) && (r7 == 0)) && (r11 == 0)) && (r17.2 == 9)), rfl, H⟩
      ·
        refine w_gs (d := 34) rfl (fun hb => ?_) (fun hb => ?_)
        ·
          refine w_p tok rfl rfl rfl ?_
          refine w_p tok rfl rfl rfl ?_
          refine w_p tok rfl rfl rfl ?_
          refine w_jn () rfl ⟨?_, trivial⟩
          exact congrArg (fun b => some (Value.bool b)) (and_t hb)
        ·
          refine w_skip rfl rfl ?_
          refine w_skip rfl rfl ?_
          refine w_p tok rfl rfl rfl ?_
          refine w_jn () rfl ⟨?_, trivial⟩
          exact congrArg (fun b => some (Value.bool b)) (and_f hb)
    ·
      refine w_gs (d := 30) rfl (fun hb => ?_) (fun hb => ?_)
      ·
        refine w_p tok rfl rfl rfl ?_
        refine w_p tok rfl rfl rfl ?_
        refine w_p tok rfl rfl rfl ?_
        refine w_jn () rfl ⟨?_, rfl, trivial⟩
        exact congrArg (fun b => some (Value.bool b)) (and_t hb)
      ·
        refine w_skip rfl rfl ?_
        refine w_skip rfl rfl ?_
        refine w_p tok rfl rfl rfl ?_
        refine w_jn () rfl ⟨?_, rfl, trivial⟩
        exact congrArg (fun b => some (Value.bool b)) (and_f hb)
  ·
    refine w_gs (d := 26) rfl (fun hb => ?_) (fun hb => ?_)
    ·
      refine w_p tok rfl rfl rfl ?_
      refine w_p tok rfl rfl rfl ?_
      refine w_p tok rfl rfl rfl ?_
      refine w_jn () rfl ⟨?_, rfl, rfl, trivial⟩
      exact congrArg (fun b => some (Value.bool b)) (and_t hb)
    ·
      refine w_skip rfl rfl ?_
      refine w_skip rfl rfl ?_
      refine w_p tok rfl rfl rfl ?_
      refine w_jn () rfl ⟨?_, rfl, rfl, trivial⟩
      exact congrArg (fun b => some (Value.bool b)) (and_f hb)

theorem law09_DiskNil_ok : CallOk Go.Proofs.Try.prog 15 := ⟨_, Go.Proofs.Try.func15, by kernel_rfl, by kernel_rfl⟩
theorem law09_DiskNil_ref (p0 : S_quaestorlaw09_Act) (k : (Bool) → Heap → Prop) (h : Heap) (H : law09_DiskNil p0 k h) : CallsH Go.Proofs.Try.prog 15 #[.agg (S_quaestorlaw09_Act.cs p0).toArray] h (fun v h' => ∃ r : Bool, v = .bool r ∧ k r h') := by
  refine f_enter (N := 69) Go.Proofs.Try.func15 rfl rfl rfl (fun w0 => ?_)
  unfold law09_DiskNil at H
  refine c_weak [(0, .agg (S_quaestorlaw09_Act.cs p0).toArray)] ⟨rfl, trivial⟩ ?_
  refine c_seq ?_
  refine c_region ?_
  obtain ⟨b1, h2, eb1, eh2, H⟩ := H
  refine w_h (h_box rfl rfl eb1 eh2) rfl rfl ?_
  refine w_p tok rfl rfl rfl ?_
  refine w_end ?_
  refine x_seq ?_
  refine c_seq ?_
  refine c_region ?_
  refine w_p tok rfl rfl rfl ?_
  refine w_end ?_
  refine x_seq ?_
  refine c_seq ?_
  refine c_region ?_
  refine w_p tok rfl rfl rfl ?_
  refine w_p tok rfl rfl rfl ?_
  obtain ⟨v3, hv3, H⟩ := H
  refine w_y (y_ld tok rfl rfl rfl rfl hv3) rfl rfl ?_
  refine w_call disk_Disk_Read_ok (disk_Disk_Read_ref _ _ _ _ H) rfl rfl rfl rfl ?_
  rintro _ h5 ⟨r4, rfl, H⟩
  refine w_p tok rfl rfl rfl ?_
  refine w_p tok rfl rfl rfl ?_
  refine w_p tok rfl rfl rfl ?_
  refine w_p tok rfl rfl rfl ?_
  refine w_p tok rfl rfl rfl ?_
  refine w_end ?_
  refine x_seq ?_
  refine c_weak [(1, .pointer (some (⟨b1, 0, none⟩ : Addr))), (3, .pointer none), (4, Slc.v r4.1), (5, .int .i64 r4.2)] ⟨rfl, rfl, rfl, rfl, trivial⟩ ?_
  refine c_seq ?_
  refine c_region ?_
  refine w_p tok rfl rfl rfl ?_
  refine w_p tok rfl rfl rfl ?_
  obtain ⟨v6, hv6, H⟩ := H
  refine w_y (y_ld tok rfl rfl rfl rfl hv6) rfl rfl ?_
  refine w_call disk_Disk_Boot_ok (disk_Disk_Boot_ref _ _ _ _ H) rfl rfl rfl rfl ?_
  rintro _ h8 ⟨r7, rfl, H⟩
  refine w_end ?_
  refine x_seq ?_
  refine c_seq ?_
  refine c_region ?_
  refine w_p tok rfl rfl rfl ?_
  refine w_p tok rfl rfl rfl ?_
  obtain ⟨v9, hv9, H⟩ := H
  refine w_y (y_ld tok rfl rfl rfl rfl hv9) rfl rfl ?_
  refine w_p tok rfl rfl rfl ?_
  obtain ⟨v10, hv10, H⟩ := H
  refine w_y (y_ld tok rfl rfl rfl rfl hv10) rfl rfl ?_
  refine w_call disk_Disk_Write_ok (disk_Disk_Write_ref _ _ _ _ _ H) rfl rfl rfl rfl ?_
  rintro _ h12 ⟨r11, rfl, H⟩
  refine w_p tok rfl rfl rfl ?_
  refine w_p tok rfl rfl rfl ?_
  refine w_cut 4 (α := Bool) (fun (s : Bool) => [(28, .bool s), (1, .pointer (some (⟨b1, 0, none⟩ : Addr))), (3, .pointer none), (4, Slc.v r4.1), (5, .int .i64 r4.2)]) (fun (s : Bool) h => law09_DiskNil_g1 (⟨b1, 0, none⟩ : Addr) none r4.1 r4.2 s k h) ?_ ?_
  ·
    rintro t28_1 h_1 H
    replace H : law09_DiskNil_g1 (⟨b1, 0, none⟩ : Addr) none r4.1 r4.2 t28_1 k h_1 := H
    unfold law09_DiskNil_g1 at H
    refine w_weak [(28, .bool t28_1), (1, .pointer (some (⟨b1, 0, none⟩ : Addr))), (3, .pointer none), (4, Slc.v r4.1), (5, .int .i64 r4.2)] ⟨rfl, rfl, rfl, rfl, rfl, trivial⟩ ?_
    refine w_p tok rfl rfl rfl ?_
    refine w_cut 6 (α := Bool) (fun (s : Bool) => [(35, .bool s), (3, .pointer none), (4, Slc.v r4.1), (5, .int .i64 r4.2)]) (fun (s : Bool) h => law09_DiskNil_g2 none r4.1 r4.2 s k h) ?_ ?_
    ·
      rintro t35_2 h_2 H
      replace H : law09_DiskNil_g2 none r4.1 r4.2 t35_2 k h_2 := H
      unfold law09_DiskNil_g2 at H
      refine w_weak [(35, .bool t35_2), (3, .pointer none), (4, Slc.v r4.1), (5, .int .i64 r4.2)] ⟨rfl, rfl, rfl, rfl, trivial⟩ ?_
      refine w_p tok rfl rfl rfl ?_
      refine w_cutU 4 [(40, .bool (t35_2 && ((r4.1.len : Int) == 0))), (3, .pointer none), (5, .int .i64 r4.2)] ?_ ?_
      ·
        refine w_p tok rfl rfl rfl ?_
        refine w_cutU 3 [(44, .bool ((t35_2 && ((r4.1.len : Int) == 0)) && (r4.2 == 1))), (3, .pointer none)] ?_ ?_
        ·
          refine w_p tok rfl rfl rfl ?_
          refine w_cut 4 (α := Bool) (fun (s : Bool) => [(49, .bool s), (3, .pointer none)]) (fun (s : Bool) h => law09_DiskNil_g3 none s k h) ?_ ?_
          ·
            rintro t49_3 h_3 H
            replace H : law09_DiskNil_g3 none t49_3 k h_3 := H
            unfold law09_DiskNil_g3 at H
            refine w_weak [(49, .bool t49_3), (3, .pointer none)] ⟨rfl, rfl, trivial⟩ ?_
            refine w_p tok rfl rfl rfl ?_
            refine w_cut 4 (α := Bool) (fun (s : Bool) => [(54, .bool s), (3, .pointer none)]) (fun (s : Bool) h => law09_DiskNil_g4 none s k h) ?_ ?_
            ·
              rintro t54_4 h_4 H
              replace H : law09_DiskNil_g4 none t54_4 k h_4 := H
              unfold law09_DiskNil_g4 at H
              refine w_weak [(54, .bool t54_4), (3, .pointer none)] ⟨rfl, rfl, trivial⟩ ?_
              refine w_p tok rfl rfl rfl ?_
              refine w_cut 5 (α := Bool) (fun (s : Bool) => [(60, .bool s), (3, .pointer none)]) (fun (s : Bool) h => law09_DiskNil_g5 none s k h) ?_ ?_
              ·
                rintro t60_5 h_5 H
                replace H : law09_DiskNil_g5 none t60_5 k h_5 := H
                unfold law09_DiskNil_g5 at H
                refine w_weak [(60, .bool t60_5), (3, .pointer none)] ⟨rfl, rfl, trivial⟩ ?_
                refine w_p tok rfl rfl rfl ?_
                refine w_cut 4 (α := Bool) (fun (s : Bool) => [(65, .bool s)]) (fun (s : Bool) h => law09_DiskNil_g6 s k h) ?_ ?_
                ·
                  rintro t65_6 h_6 H
                  replace H : law09_DiskNil_g6 t65_6 k h_6 := H
                  unfold law09_DiskNil_g6 at H
                  refine w_weak [(65, .bool t65_6)] ⟨rfl, trivial⟩ ?_
                  refine w_p tok rfl rfl rfl ?_
                  refine w_cut 2 (α := Bool) (fun (s : Bool) => [(68, .bool s)]) (fun (s : Bool) h => law09_DiskNil_g7 s k h) ?_ ?_
                  ·
                    rintro t68_7 h_7 H
                    replace H : law09_DiskNil_g7 t68_7 k h_7 := H
                    unfold law09_DiskNil_g7 at H
                    refine w_weak [(68, .bool t68_7)] ⟨rfl, trivial⟩ ?_
                    refine w_p tok rfl rfl rfl ?_
                    refine w_end ?_
                    refine x_seq ?_
                    refine c_ret ?_
                    exact x_ret _ rfl _ rfl ⟨t68_7, rfl, H⟩
                  ·
                    refine w_gif (d := 66) H rfl (fun H => ?_) (fun H => ?_)
                    ·
                      refine w_call law09_awake_ok (law09_awake_ref  _ _ H) rfl rfl rfl rfl ?_
                      rintro _ h14 ⟨r13, rfl, H⟩
                      refine w_p tok rfl rfl rfl ?_
                      exact w_jn r13 H ⟨rfl, trivial⟩
                    ·
                      refine w_skip rfl rfl ?_
                      refine w_p tok rfl rfl rfl ?_
                      exact w_jn false H ⟨rfl, trivial⟩
                ·
                  refine w_gif (d := 61) H rfl (fun H => ?_) (fun H => ?_)
                  ·
                    refine w_p tok rfl rfl rfl ?_
                    refine w_call disk_Disk_Copy_ok (disk_Disk_Copy_ref _ _ _ H) rfl rfl rfl rfl ?_
                    rintro _ h16 ⟨r15, rfl, H⟩
                    refine w_p tok rfl rfl rfl ?_
                    refine w_p tok rfl rfl rfl ?_
                    exact w_jn (r15.isNone) H ⟨rfl, trivial⟩
                  ·
                    refine w_skip rfl rfl ?_
                    refine w_skip rfl rfl ?_
                    refine w_skip rfl rfl ?_
                    refine w_p tok rfl rfl rfl ?_
                    exact w_jn false H ⟨rfl, trivial⟩
              ·
                refine w_gif (d := 55) H rfl (fun H => ?_) (fun H => ?_)
                ·
                  refine w_p tok rfl rfl rfl ?_
                  refine w_call disk_Disk_Raw_ok (disk_Disk_Raw_ref _ _ _ H) rfl rfl rfl rfl ?_
                  rintro _ h18 ⟨r17, rfl, H⟩
                  refine w_p tok rfl rfl rfl ?_
                  refine w_p tok rfl rfl rfl ?_
                  refine w_p tok rfl rfl rfl ?_
                  exact w_jn ((r17.len : Int) == 0) H ⟨rfl, rfl, trivial⟩
                ·
                  refine w_skip rfl rfl ?_
                  refine w_skip rfl rfl ?_
                  refine w_skip rfl rfl ?_
                  refine w_skip rfl rfl ?_
                  refine w_p tok rfl rfl rfl ?_
                  exact w_jn false H ⟨rfl, rfl, trivial⟩
            ·
              refine w_gif (d := 50) H rfl (fun H => ?_) (fun H => ?_)
              ·
                refine w_p tok rfl rfl rfl ?_
                refine w_call disk_Disk_Ops_ok (disk_Disk_Ops_ref _ _ _ H) rfl rfl rfl rfl ?_
                rintro _ h20 ⟨r19, rfl, H⟩
                refine w_p tok rfl rfl rfl ?_
                refine w_p tok rfl rfl rfl ?_
                exact w_jn (r19 == 0) H ⟨rfl, rfl, trivial⟩
              ·
                refine w_skip rfl rfl ?_
                refine w_skip rfl rfl ?_
                refine w_skip rfl rfl ?_
                refine w_p tok rfl rfl rfl ?_
                exact w_jn false H ⟨rfl, rfl, trivial⟩
          ·
            refine w_gif (d := 45) H rfl (fun H => ?_) (fun H => ?_)
            ·
              refine w_p tok rfl rfl rfl ?_
              refine w_call disk_Disk_Dead_ok (disk_Disk_Dead_ref _ _ _ H) rfl rfl rfl rfl ?_
              rintro _ h22 ⟨r21, rfl, H⟩
              refine w_p tok rfl rfl rfl ?_
              refine w_p tok rfl rfl rfl ?_
              exact w_jn (!r21) H ⟨rfl, rfl, trivial⟩
            ·
              refine w_skip rfl rfl ?_
              refine w_skip rfl rfl ?_
              refine w_skip rfl rfl ?_
              refine w_p tok rfl rfl rfl ?_
              exact w_jn false H ⟨rfl, rfl, trivial⟩
        ·
          refine w_gs (d := 41) rfl (fun hb => ?_) (fun hb => ?_)
          ·
            refine w_p tok rfl rfl rfl ?_
            refine w_p tok rfl rfl rfl ?_
            refine w_p tok rfl rfl rfl ?_
            refine w_jn () rfl ⟨?_, rfl, trivial⟩
            exact congrArg (fun b => some (Value.bool b)) (and_t hb)
          ·
            refine w_skip rfl rfl ?_
            refine w_skip rfl rfl ?_
            refine w_p tok rfl rfl rfl ?_
            refine w_jn () rfl ⟨?_, rfl, trivial⟩
            exact congrArg (fun b => some (Value.bool b)) (and_f hb)
      ·
        refine w_gs (d := 36) rfl (fun hb => ?_) (fun hb => ?_)
        ·
          refine w_p tok rfl rfl rfl ?_
          refine w_p tok rfl rfl rfl ?_
          refine w_p tok rfl rfl rfl ?_
          refine w_p tok rfl rfl rfl ?_
          refine w_jn () rfl ⟨?_, rfl, rfl, trivial⟩
          exact congrArg (fun b => some (Value.bool b)) (and_t hb)
        ·
          refine w_skip rfl rfl ?_
          refine w_skip rfl rfl ?_
          refine w_skip rfl rfl ?_
          refine w_p tok rfl rfl rfl ?_
          refine w_jn () rfl ⟨?_, rfl, rfl, trivial⟩
          exact congrArg (fun b => some (Value.bool b)) (and_f hb)
    ·
      refine w_gif (d := 29) H rfl (fun H => ?_) (fun H => ?_)
      ·
        refine w_p tok rfl rfl rfl ?_
        refine w_p tok rfl rfl rfl ?_
        obtain ⟨v23, hv23, H⟩ := H
        refine w_y (y_ld tok rfl rfl rfl rfl hv23) rfl rfl ?_
        refine w_call disk_Disk_Fuse_ok (disk_Disk_Fuse_ref _ _ _ _ H) rfl rfl rfl rfl ?_
        rintro _ h25 ⟨r24, rfl, H⟩
        refine w_p tok rfl rfl rfl ?_
        refine w_p tok rfl rfl rfl ?_
        exact w_jn (r24 == 10) H ⟨rfl, rfl, rfl, rfl, trivial⟩
      ·
        refine w_skip rfl rfl ?_
        refine w_skip rfl rfl ?_
        refine w_skip rfl rfl ?_
        refine w_skip rfl rfl ?_
        refine w_skip rfl rfl ?_
        refine w_p tok rfl rfl rfl ?_
        exact w_jn false H ⟨rfl, rfl, rfl, rfl, trivial⟩
  ·
    refine w_gif (d := 24) H rfl (fun H => ?_) (fun H => ?_)
    ·
      refine w_p tok rfl rfl rfl ?_
      refine w_call disk_Disk_Sync_ok (disk_Disk_Sync_ref _ _ _ H) rfl rfl rfl rfl ?_
      rintro _ h27 ⟨r26, rfl, H⟩
      refine w_p tok rfl rfl rfl ?_
      refine w_p tok rfl rfl rfl ?_
      exact w_jn (r26 == 10) H ⟨rfl, rfl, rfl, rfl, rfl, trivial⟩
    ·
      refine w_skip rfl rfl ?_
      refine w_skip rfl rfl ?_
      refine w_skip rfl rfl ?_
      refine w_p tok rfl rfl rfl ?_
      exact w_jn false H ⟨rfl, rfl, rfl, rfl, rfl, trivial⟩

theorem law09_DiskSafe_ok : CallOk Go.Proofs.Try.prog 12 := ⟨_, Go.Proofs.Try.func12, by kernel_rfl, by kernel_rfl⟩
theorem law09_DiskSafe_ref (p0 : Slc) (p1 : Slc) (p2 : Slc) (p3 : Slc) (k : (Bool) → Heap → Prop) (h : Heap) (H : law09_DiskSafe p0 p1 p2 p3 k h) : CallsH Go.Proofs.Try.prog 12 #[Slc.v p0, Slc.v p1, Slc.v p2, Slc.v p3] h (fun v h' => ∃ r : Bool, v = .bool r ∧ k r h') := by
  refine f_enter (N := 132) Go.Proofs.Try.func12 rfl rfl rfl (fun w0 => ?_)
  unfold law09_DiskSafe at H
  refine c_weak [(0, Slc.v p0), (1, Slc.v p1), (2, Slc.v p2), (3, Slc.v p3)] ⟨rfl, rfl, rfl, rfl, trivial⟩ ?_
  refine c_seq ?_
  refine c_region ?_
  refine w_p tok rfl rfl rfl ?_
  refine w_end ?_
  refine x_seq ?_
  refine c_seq ?_
  refine c_seq ?_
  refine c_region ?_
  refine w_p tok rfl rfl rfl ?_
  refine w_call law09_great_ok (law09_great_ref _ _ _ H) rfl rfl rfl rfl ?_
  rintro _ h2 ⟨r1, rfl, H⟩
  refine w_p tok rfl rfl rfl ?_
  refine w_cutU 4 [(21, .bool (r1 || (decide ((p1.len : Int) > 128)))), (0, Slc.v p0), (1, Slc.v p1), (2, Slc.v p2), (3, Slc.v p3)] ?_ ?_
  ·
    refine w_p tok rfl rfl rfl ?_
    refine w_cutU 4 [(26, .bool ((r1 || (decide ((p1.len : Int) > 128))) || (decide ((p2.len : Int) > 128)))), (0, Slc.v p0), (1, Slc.v p1), (2, Slc.v p2), (3, Slc.v p3)] ?_ ?_
    ·
      refine w_p tok rfl rfl rfl ?_
      refine w_cutU 4 [(31, .bool (((r1 || (decide ((p1.len : Int) > 128))) || (decide ((p2.len : Int) > 128))) || (decide ((p3.len : Int) > 300)))), (0, Slc.v p0), (1, Slc.v p1), (2, Slc.v p2), (3, Slc.v p3)] ?_ ?_
      ·
        refine w_end ?_
        refine x_seq ?_
        refine c_if H rfl (fun H => ?_) (fun H => ?_)
        ·
          refine c_seq ?_
          refine c_region ?_
          refine w_call law09_awake_ok (law09_awake_ref  _ _ H) rfl rfl rfl rfl ?_
          rintro _ h4 ⟨r3, rfl, H⟩
          refine w_p tok rfl rfl rfl ?_
          refine w_end ?_
          refine x_seq ?_
          refine c_ret ?_
          refine x_tr ?_
          exact x_ret _ rfl _ rfl ⟨r3, rfl, H⟩
        ·
          refine c_skip ?_
          refine x_seq ?_
          refine c_seq ?_
          refine c_region ?_
          refine w_call disk_New_ok (disk_New_ref  _ _ H) rfl rfl rfl rfl ?_
          rintro _ h6 ⟨r5, rfl, H⟩
          refine w_p tok rfl rfl rfl ?_
          refine w_end ?_
          refine x_seq ?_
          refine c_seq ?_
          refine c_seq ?_
          refine c_region ?_
          refine w_p tok rfl rfl rfl ?_
          refine w_p tok rfl rfl rfl ?_
          refine w_call disk_Disk_Write_ok (disk_Disk_Write_ref _ _ _ _ _ H) rfl rfl rfl rfl ?_
          rintro _ h8 ⟨r7, rfl, H⟩
          refine w_p tok rfl rfl rfl ?_
          refine w_p tok rfl rfl rfl ?_
          refine w_cut 4 (α := Bool) (fun (s : Bool) => [(42, .bool s), (0, Slc.v p0), (1, Slc.v p1), (2, Slc.v p2), (3, Slc.v p3), (9, .pointer r5)]) (fun (s : Bool) h => law09_DiskSafe_g1 p0 p1 p2 p3 r5 s k h) ?_ ?_
          ·
            rintro t42_1 h_1 H
            replace H : law09_DiskSafe_g1 p0 p1 p2 p3 r5 t42_1 k h_1 := H
            unfold law09_DiskSafe_g1 at H
            refine w_weak [(42, .bool t42_1), (0, Slc.v p0), (1, Slc.v p1), (2, Slc.v p2), (3, Slc.v p3), (9, .pointer r5)] ⟨rfl, rfl, rfl, rfl, rfl, rfl, trivial⟩ ?_
            refine w_end ?_
            refine x_seq ?_
            refine c_if H rfl (fun H => ?_) (fun H => ?_)
            ·
              refine c_seq ?_
              refine c_region ?_
              refine w_p tok rfl rfl rfl ?_
              refine w_end ?_
              refine x_seq ?_
              refine c_ret ?_
              refine x_tr ?_
              exact x_ret _ rfl _ rfl ⟨false, rfl, H⟩
            ·
              refine c_skip ?_
              refine x_seq ?_
              refine c_seq ?_
              refine c_seq ?_
              refine c_region ?_
              refine w_p tok rfl rfl rfl ?_
              refine w_end ?_
              refine x_seq ?_
              refine c_block ?_
              obtain ⟨I2, μ2, H0, HI⟩ := H
              refine c_loop (σ := Int) (fun (s : Int) => [(10, .int .i64 s), (0, Slc.v p0), (1, Slc.v p1), (2, Slc.v p2), (3, Slc.v p3), (9, .pointer r5)]) I2 μ2 0 H0 ⟨rfl, rfl, rfl, rfl, rfl, rfl, trivial⟩ ?_
              rintro t10_2 h_2 H
              replace H := HI t10_2 h_2 H
              unfold law09_DiskSafe_l2b at H
              refine c_weak [(10, .int .i64 t10_2), (0, Slc.v p0), (1, Slc.v p1), (2, Slc.v p2), (3, Slc.v p3), (9, .pointer r5)] ⟨rfl, rfl, rfl, rfl, rfl, rfl, trivial⟩ ?_
              refine c_seq ?_
              refine c_seq ?_
              refine c_region ?_
              refine w_p tok rfl rfl rfl ?_
              refine w_p tok rfl rfl rfl ?_
              refine w_p tok rfl rfl rfl ?_
              refine w_p tok rfl rfl rfl ?_
              refine w_p tok rfl rfl rfl ?_
              refine w_cutU 3 [(50, .bool ((decide (t10_2 < (p0.len : Int))) && (decide (t10_2 < 50)))), (0, Slc.v p0), (1, Slc.v p1), (2, Slc.v p2), (3, Slc.v p3), (9, .pointer r5), (10, .int .i64 t10_2)] ?_ ?_
              ·
                refine w_end ?_
                refine x_seq ?_
                refine c_if H rfl (fun H => ?_) (fun H => ?_)
                ·
                  refine c_skip ?_
                  refine x_seq ?_
                  refine c_seqJ (α := Unit) (fun (s : Unit) => [(0, Slc.v p0), (1, Slc.v p1), (2, Slc.v p2), (3, Slc.v p3), (9, .pointer r5), (10, .int .i64 t10_2)]) (fun (s : Unit) h => law09_DiskSafe_j3 p0 p1 p2 p3 r5 t10_2 k (fun s h' => I2 s h' ∧ μ2 s h' < μ2 t10_2 h_2) h) ?_ ?_
                  ·
                    rintro _ h_3 H
                    replace H : law09_DiskSafe_j3 p0 p1 p2 p3 r5 t10_2 k (fun s h' => I2 s h' ∧ μ2 s h' < μ2 t10_2 h_2) h_3 := H
                    unfold law09_DiskSafe_j3 at H
                    refine c_weak [(0, Slc.v p0), (1, Slc.v p1), (2, Slc.v p2), (3, Slc.v p3), (9, .pointer r5), (10, .int .i64 t10_2)] ⟨rfl, rfl, rfl, rfl, rfl, rfl, trivial⟩ ?_
                    refine c_region ?_
                    refine w_p tok rfl rfl rfl ?_
                    refine w_p tok rfl rfl rfl ?_
                    obtain ⟨x9, ex9, H⟩ := H
                    refine w_pe tok rfl (congrArg (fun z => (.int .i64 z : Value)) ex9) rfl rfl ?_
                    refine w_end ?_
                    exact x_join x9 H ⟨rfl, rfl, rfl, rfl, rfl, rfl, trivial⟩
                  ·
                    refine c_block ?_
                    refine c_seq ?_
                    refine c_region ?_
                    refine w_p tok rfl rfl rfl ?_
                    refine w_p tok rfl rfl rfl ?_
                    obtain ⟨a10, ha10, la10, ua10, H⟩ := H
                    refine w_y (y_ixa' tok rfl rfl ha10 rfl rfl rfl la10 ua10) rfl rfl ?_
                    refine w_p tok rfl rfl rfl ?_
                    obtain ⟨v11, hv11, H⟩ := H
                    refine w_y (y_ld tok rfl rfl rfl rfl hv11) rfl rfl ?_
                    refine w_p tok rfl rfl rfl ?_
                    refine w_end ?_
                    refine x_seq ?_
                    refine c_if H rfl (fun H => ?_) (fun H => ?_)
                    ·
                      refine c_region ?_
                      refine w_p tok rfl rfl rfl ?_
                      refine w_y (y_build tok rfl rfl rfl rfl rfl) rfl rfl ?_
                      obtain ⟨b12, h13, eb12, eh13, H⟩ := H
                      refine w_h (h_box rfl rfl eb12 eh13) rfl rfl ?_
                      refine w_p tok rfl rfl rfl ?_
                      refine w_p tok rfl rfl rfl ?_
                      obtain ⟨a14, ha14, la14, ua14, H⟩ := H
                      refine w_y (y_ixa' tok rfl rfl ha14 rfl rfl rfl la14 ua14) rfl rfl ?_
                      obtain ⟨v15, hv15, H⟩ := H
                      refine w_y (y_lda tok rfl rfl rfl rfl rfl hv15) rfl rfl ?_
                      refine w_call law09_do_ok (law09_do_ref _ _ _ _ _ H) rfl rfl rfl rfl ?_
                      rintro _ h17 ⟨r16, rfl, H⟩
                      refine w_end ?_
                      refine x_blk ?_
                      exact x_join () H ⟨rfl, rfl, rfl, rfl, rfl, rfl, trivial⟩
                    ·
                      refine c_skip ?_
                      refine x_blk ?_
                      exact x_join () H ⟨rfl, rfl, rfl, rfl, rfl, rfl, trivial⟩
                ·
                  refine c_exit ?_
                  refine x_te ?_
                  refine x_te ?_
                  refine x_bh ?_
                  refine x_seq ?_
                  refine c_seq ?_
                  refine c_region ?_
                  refine w_p tok rfl rfl rfl ?_
                  refine w_p tok rfl rfl rfl ?_
                  refine w_call disk_Disk_Boot_ok (disk_Disk_Boot_ref _ _ _ _ H) rfl rfl rfl rfl ?_
                  rintro _ h19 ⟨r18, rfl, H⟩
                  refine w_end ?_
                  refine x_seq ?_
                  refine c_seq ?_
                  refine c_region ?_
                  refine w_p tok rfl rfl rfl ?_
                  refine w_call disk_Disk_Read_ok (disk_Disk_Read_ref _ _ _ _ H) rfl rfl rfl rfl ?_
                  rintro _ h21 ⟨r20, rfl, H⟩
                  refine w_p tok rfl rfl rfl ?_
                  refine w_p tok rfl rfl rfl ?_
                  refine w_p tok rfl rfl rfl ?_
                  refine w_p tok rfl rfl rfl ?_
                  refine w_p tok rfl rfl rfl ?_
                  refine w_end ?_
                  refine x_seq ?_
                  refine c_weak [(1, Slc.v p1), (2, Slc.v p2), (3, Slc.v p3), (9, .pointer r5), (11, Slc.v r20.1), (12, .int .i64 r20.2)] ⟨rfl, rfl, rfl, rfl, rfl, rfl, trivial⟩ ?_
                  refine c_seq ?_
                  refine c_seq ?_
                  refine c_region ?_
                  refine w_p tok rfl rfl rfl ?_
                  refine w_p tok rfl rfl rfl ?_
                  refine w_p tok rfl rfl rfl ?_
                  refine w_cutU 4 [(81, .bool ((r20.2 != 0) || ((r20.1.len : Int) != 128))), (1, Slc.v p1), (2, Slc.v p2), (3, Slc.v p3), (9, .pointer r5), (11, Slc.v r20.1)] ?_ ?_
                  ·
                    refine w_p tok rfl rfl rfl ?_
                    refine w_cut 8 (α := Bool) (fun (s : Bool) => [(90, .bool s), (2, Slc.v p2), (3, Slc.v p3), (9, .pointer r5), (11, Slc.v r20.1)]) (fun (s : Bool) h => law09_DiskSafe_g4 p2 p3 r5 r20.1 s k (fun s h' => I2 s h' ∧ μ2 s h' < μ2 t10_2 h_2) h) ?_ ?_
                    ·
                      rintro t90_4 h_4 H
                      replace H : law09_DiskSafe_g4 p2 p3 r5 r20.1 t90_4 k (fun s h' => I2 s h' ∧ μ2 s h' < μ2 t10_2 h_2) h_4 := H
                      unfold law09_DiskSafe_g4 at H
                      refine w_weak [(90, .bool t90_4), (2, Slc.v p2), (3, Slc.v p3), (9, .pointer r5), (11, Slc.v r20.1)] ⟨rfl, rfl, rfl, rfl, rfl, trivial⟩ ?_
                      refine w_p tok rfl rfl rfl ?_
                      refine w_cut 5 (α := Bool) (fun (s : Bool) => [(96, .bool s), (2, Slc.v p2), (3, Slc.v p3), (9, .pointer r5), (11, Slc.v r20.1)]) (fun (s : Bool) h => law09_DiskSafe_g5 p2 p3 r5 r20.1 s k (fun s h' => I2 s h' ∧ μ2 s h' < μ2 t10_2 h_2) h) ?_ ?_
                      ·
                        rintro t96_5 h_5 H
                        replace H : law09_DiskSafe_g5 p2 p3 r5 r20.1 t96_5 k (fun s h' => I2 s h' ∧ μ2 s h' < μ2 t10_2 h_2) h_5 := H
                        unfold law09_DiskSafe_g5 at H
                        refine w_weak [(96, .bool t96_5), (2, Slc.v p2), (3, Slc.v p3), (9, .pointer r5), (11, Slc.v r20.1)] ⟨rfl, rfl, rfl, rfl, rfl, trivial⟩ ?_
                        refine w_end ?_
                        refine x_seq ?_
                        refine c_if H rfl (fun H => ?_) (fun H => ?_)
                        ·
                          refine c_seq ?_
                          refine c_region ?_
                          refine w_p tok rfl rfl rfl ?_
                          refine w_end ?_
                          refine x_seq ?_
                          refine c_ret ?_
                          refine x_tr ?_
                          exact x_ret _ rfl _ rfl ⟨false, rfl, H⟩
                        ·
                          refine c_skip ?_
                          refine x_seq ?_
                          refine c_seq ?_
                          refine c_region ?_
                          refine w_p tok rfl rfl rfl ?_
                          refine w_p tok rfl rfl rfl ?_
                          refine w_call disk_Disk_Boot_ok (disk_Disk_Boot_ref _ _ _ _ H) rfl rfl rfl rfl ?_
                          rintro _ h23 ⟨r22, rfl, H⟩
                          refine w_end ?_
                          refine x_seq ?_
                          refine c_seq ?_
                          refine c_region ?_
                          refine w_p tok rfl rfl rfl ?_
                          refine w_call disk_Disk_Read_ok (disk_Disk_Read_ref _ _ _ _ H) rfl rfl rfl rfl ?_
                          rintro _ h25 ⟨r24, rfl, H⟩
                          refine w_p tok rfl rfl rfl ?_
                          refine w_p tok rfl rfl rfl ?_
                          refine w_p tok rfl rfl rfl ?_
                          refine w_p tok rfl rfl rfl ?_
                          refine w_p tok rfl rfl rfl ?_
                          refine w_end ?_
                          refine x_seq ?_
                          refine c_weak [(2, Slc.v p2), (11, Slc.v r20.1), (13, Slc.v r24.1), (14, .int .i64 r24.2)] ⟨rfl, rfl, rfl, rfl, trivial⟩ ?_
                          refine c_seq ?_
                          refine c_region ?_
                          refine w_p tok rfl rfl rfl ?_
                          refine w_p tok rfl rfl rfl ?_
                          refine w_p tok rfl rfl rfl ?_
                          refine w_cut 21 (α := Bool) (fun (s : Bool) => [(128, .bool s)]) (fun (s : Bool) h => law09_DiskSafe_g6 s k (fun s h' => I2 s h' ∧ μ2 s h' < μ2 t10_2 h_2) h) ?_ ?_
                          ·
                            rintro t128_6 h_6 H
                            replace H : law09_DiskSafe_g6 t128_6 k (fun s h' => I2 s h' ∧ μ2 s h' < μ2 t10_2 h_2) h_6 := H
                            unfold law09_DiskSafe_g6 at H
                            refine w_weak [(128, .bool t128_6)] ⟨rfl, trivial⟩ ?_
                            refine w_p tok rfl rfl rfl ?_
                            refine w_cut 2 (α := Bool) (fun (s : Bool) => [(131, .bool s)]) (fun (s : Bool) h => law09_DiskSafe_g7 s k (fun s h' => I2 s h' ∧ μ2 s h' < μ2 t10_2 h_2) h) ?_ ?_
                            ·
                              rintro t131_7 h_7 H
                              replace H : law09_DiskSafe_g7 t131_7 k (fun s h' => I2 s h' ∧ μ2 s h' < μ2 t10_2 h_2) h_7 := H
                              unfold law09_DiskSafe_g7 at H
                              refine w_weak [(131, .bool t131_7)] ⟨rfl, trivial⟩ ?_
                              refine w_p tok rfl rfl rfl ?_
                              refine w_end ?_
                              refine x_seq ?_
                              refine c_ret ?_
                              exact x_ret _ rfl _ rfl ⟨t131_7, rfl, H⟩
                            ·
                              refine w_gif (d := 129) H rfl (fun H => ?_) (fun H => ?_)
                              ·
                                refine w_call law09_awake_ok (law09_awake_ref  _ _ H) rfl rfl rfl rfl ?_
                                rintro _ h27 ⟨r26, rfl, H⟩
                                refine w_p tok rfl rfl rfl ?_
                                exact w_jn r26 H ⟨rfl, trivial⟩
                              ·
                                refine w_skip rfl rfl ?_
                                refine w_p tok rfl rfl rfl ?_
                                exact w_jn false H ⟨rfl, trivial⟩
                          ·
                            refine w_gif (d := 107) H rfl (fun H => ?_) (fun H => ?_)
                            ·
                              refine w_skip rfl rfl ?_
                              refine w_skip rfl rfl ?_
                              refine w_skip rfl rfl ?_
                              refine w_skip rfl rfl ?_
                              refine w_skip rfl rfl ?_
                              refine w_skip rfl rfl ?_
                              refine w_skip rfl rfl ?_
                              refine w_skip rfl rfl ?_
                              refine w_skip rfl rfl ?_
                              refine w_skip rfl rfl ?_
                              refine w_skip rfl rfl ?_
                              refine w_skip rfl rfl ?_
                              refine w_skip rfl rfl ?_
                              refine w_skip rfl rfl ?_
                              refine w_skip rfl rfl ?_
                              refine w_skip rfl rfl ?_
                              refine w_skip rfl rfl ?_
                              refine w_skip rfl rfl ?_
                              refine w_skip rfl rfl ?_
                              refine w_skip rfl rfl ?_
                              refine w_p tok rfl rfl rfl ?_
                              exact w_jn true H ⟨rfl, trivial⟩
                            ·
                              refine w_p tok rfl rfl rfl ?_
                              refine w_p tok rfl rfl rfl ?_
                              refine w_p tok rfl rfl rfl ?_
                              refine w_cutU 4 [(114, .bool ((r24.2 == 0) && ((r24.1.len : Int) == 128))), (2, Slc.v p2), (11, Slc.v r20.1), (13, Slc.v r24.1), (107, .bool false)] ?_ ?_
                              ·
                                refine w_p tok rfl rfl rfl ?_
                                refine w_cut 12 (α := Bool) (fun (s : Bool) => [(127, .bool s), (107, .bool false)]) (fun (s : Bool) h => law09_DiskSafe_g8 false s k (fun s h' => I2 s h' ∧ μ2 s h' < μ2 t10_2 h_2) h) ?_ ?_
                                ·
                                  rintro t127_8 h_8 H
                                  replace H : law09_DiskSafe_g8 false t127_8 k (fun s h' => I2 s h' ∧ μ2 s h' < μ2 t10_2 h_2) h_8 := H
                                  unfold law09_DiskSafe_g8 at H
                                  refine w_weak [(127, .bool t127_8), (107, .bool false)] ⟨rfl, rfl, trivial⟩ ?_
                                  refine w_p tok rfl rfl rfl ?_
                                  exact w_jn t127_8 H ⟨rfl, trivial⟩
                                ·
                                  refine w_gif (d := 115) H rfl (fun H => ?_) (fun H => ?_)
                                  ·
                                    refine w_p tok rfl rfl rfl ?_
                                    refine w_p tok rfl rfl rfl ?_
                                    refine w_call ref01_Same_ok (ref01_Same_ref _ _ _ _ H) rfl rfl rfl rfl ?_
                                    rintro _ h29 ⟨r28, rfl, H⟩
                                    refine w_p tok rfl rfl rfl ?_
                                    refine w_cut 7 (α := Bool) (fun (s : Bool) => [(126, .bool s), (107, .bool false), (115, .bool true)]) (fun (s : Bool) h => law09_DiskSafe_g9 false true s k (fun s h' => I2 s h' ∧ μ2 s h' < μ2 t10_2 h_2) h) ?_ ?_
                                    ·
                                      rintro t126_9 h_9 H
                                      replace H : law09_DiskSafe_g9 false true t126_9 k (fun s h' => I2 s h' ∧ μ2 s h' < μ2 t10_2 h_2) h_9 := H
                                      unfold law09_DiskSafe_g9 at H
                                      refine w_weak [(126, .bool t126_9), (107, .bool false), (115, .bool true)] ⟨rfl, rfl, rfl, trivial⟩ ?_
                                      refine w_p tok rfl rfl rfl ?_
                                      exact w_jn t126_9 H ⟨rfl, rfl, trivial⟩
                                    ·
                                      refine w_gif (d := 119) H rfl (fun H => ?_) (fun H => ?_)
                                      ·
                                        refine w_skip rfl rfl ?_
                                        refine w_skip rfl rfl ?_
                                        refine w_skip rfl rfl ?_
                                        refine w_skip rfl rfl ?_
                                        refine w_skip rfl rfl ?_
                                        refine w_skip rfl rfl ?_
                                        refine w_p tok rfl rfl rfl ?_
                                        exact w_jn true H ⟨rfl, rfl, rfl, trivial⟩
                                      ·
                                        refine w_p tok rfl rfl rfl ?_
                                        refine w_p tok rfl rfl rfl ?_
                                        refine w_p tok rfl rfl rfl ?_
                                        obtain ⟨s30, ps30, qs30, rs30, ts30, es30, H⟩ := H
                                        refine w_ye (y_sl (s := r24.1) (L := 0) (H := (p2.len : Int)) (M := (r24.1.cap : Int)) tok rfl rfl rfl rfl rfl rfl rfl (by simp) ps30 qs30 rs30 ts30) (congrArg Slc.v es30) rfl rfl ?_
                                        refine w_p tok rfl rfl rfl ?_
                                        refine w_call ref01_Same_ok (ref01_Same_ref _ _ _ _ H) rfl rfl rfl rfl ?_
                                        rintro _ h32 ⟨r31, rfl, H⟩
                                        refine w_p tok rfl rfl rfl ?_
                                        exact w_jn r31 H ⟨rfl, rfl, rfl, trivial⟩
                                  ·
                                    refine w_skip rfl rfl ?_
                                    refine w_skip rfl rfl ?_
                                    refine w_skip rfl rfl ?_
                                    refine w_skip rfl rfl ?_
                                    refine w_skip rfl rfl ?_
                                    refine w_skip rfl rfl ?_
                                    refine w_skip rfl rfl ?_
                                    refine w_skip rfl rfl ?_
                                    refine w_skip rfl rfl ?_
                                    refine w_skip rfl rfl ?_
                                    refine w_skip rfl rfl ?_
                                    refine w_p tok rfl rfl rfl ?_
                                    exact w_jn false H ⟨rfl, rfl, trivial⟩
                              ·
                                refine w_gs (d := 110) rfl (fun hb => ?_) (fun hb => ?_)
                                ·
                                  refine w_p tok rfl rfl rfl ?_
                                  refine w_p tok rfl rfl rfl ?_
                                  refine w_p tok rfl rfl rfl ?_
                                  refine w_p tok rfl rfl rfl ?_
                                  refine w_jn () rfl ⟨?_, rfl, rfl, rfl, rfl, trivial⟩
                                  exact congrArg (fun b => some (Value.bool b)) (and_t hb)
                                ·
                                  refine w_skip rfl rfl ?_
                                  refine w_skip rfl rfl ?_
                                  refine w_skip rfl rfl ?_
                                  refine w_p tok rfl rfl rfl ?_
                                  refine w_jn () rfl ⟨?_, rfl, rfl, rfl, rfl, trivial⟩
                                  exact congrArg (fun b => some (Value.bool b)) (and_f hb)
                      ·
                        refine w_gif (d := 91) H rfl (fun H => ?_) (fun H => ?_)
                        ·
                          refine w_skip rfl rfl ?_
                          refine w_skip rfl rfl ?_
                          refine w_skip rfl rfl ?_
                          refine w_skip rfl rfl ?_
                          refine w_p tok rfl rfl rfl ?_
                          exact w_jn true H ⟨rfl, rfl, rfl, rfl, rfl, trivial⟩
                        ·
                          refine w_p tok rfl rfl rfl ?_
                          refine w_p tok rfl rfl rfl ?_
                          refine w_call disk_Disk_Write_ok (disk_Disk_Write_ref _ _ _ _ _ H) rfl rfl rfl rfl ?_
                          rintro _ h34 ⟨r33, rfl, H⟩
                          refine w_p tok rfl rfl rfl ?_
                          refine w_p tok rfl rfl rfl ?_
                          exact w_jn (r33 != 0) H ⟨rfl, rfl, rfl, rfl, rfl, trivial⟩
                    ·
                      refine w_gif (d := 82) H rfl (fun H => ?_) (fun H => ?_)
                      ·
                        refine w_skip rfl rfl ?_
                        refine w_skip rfl rfl ?_
                        refine w_skip rfl rfl ?_
                        refine w_skip rfl rfl ?_
                        refine w_skip rfl rfl ?_
                        refine w_skip rfl rfl ?_
                        refine w_skip rfl rfl ?_
                        refine w_p tok rfl rfl rfl ?_
                        exact w_jn true H ⟨rfl, rfl, rfl, rfl, rfl, trivial⟩
                      ·
                        refine w_p tok rfl rfl rfl ?_
                        refine w_p tok rfl rfl rfl ?_
                        refine w_p tok rfl rfl rfl ?_
                        obtain ⟨s35, ps35, qs35, rs35, ts35, es35, H⟩ := H
                        refine w_ye (y_sl (s := r20.1) (L := 0) (H := (p1.len : Int)) (M := (r20.1.cap : Int)) tok rfl rfl rfl rfl rfl rfl rfl (by simp) ps35 qs35 rs35 ts35) (congrArg Slc.v es35) rfl rfl ?_
                        refine w_p tok rfl rfl rfl ?_
                        refine w_call ref01_Same_ok (ref01_Same_ref _ _ _ _ H) rfl rfl rfl rfl ?_
                        rintro _ h37 ⟨r36, rfl, H⟩
                        refine w_p tok rfl rfl rfl ?_
                        refine w_p tok rfl rfl rfl ?_
                        exact w_jn (!r36) H ⟨rfl, rfl, rfl, rfl, rfl, trivial⟩
                  ·
                    refine w_gs (d := 77) rfl (fun hb => ?_) (fun hb => ?_)
                    ·
                      refine w_skip rfl rfl ?_
                      refine w_skip rfl rfl ?_
                      refine w_skip rfl rfl ?_
                      refine w_p tok rfl rfl rfl ?_
                      refine w_jn () rfl ⟨?_, rfl, rfl, rfl, rfl, rfl, trivial⟩
                      exact congrArg (fun b => some (Value.bool b)) (or_t hb)
                    ·
                      refine w_p tok rfl rfl rfl ?_
                      refine w_p tok rfl rfl rfl ?_
                      refine w_p tok rfl rfl rfl ?_
                      refine w_p tok rfl rfl rfl ?_
                      refine w_jn () rfl ⟨?_, rfl, rfl, rfl, rfl, rfl, trivial⟩
                      exact congrArg (fun b => some (Value.bool b)) (or_f hb)
              ·
                refine w_gs (d := 47) rfl (fun hb => ?_) (fun hb => ?_)
                ·
                  refine w_p tok rfl rfl rfl ?_
                  refine w_p tok rfl rfl rfl ?_
                  refine w_p tok rfl rfl rfl ?_
                  refine w_jn () rfl ⟨?_, rfl, rfl, rfl, rfl, rfl, rfl, trivial⟩
                  exact congrArg (fun b => some (Value.bool b)) (and_t hb)
                ·
                  refine w_skip rfl rfl ?_
                  refine w_skip rfl rfl ?_
                  refine w_p tok rfl rfl rfl ?_
                  refine w_jn () rfl ⟨?_, rfl, rfl, rfl, rfl, rfl, rfl, trivial⟩
                  exact congrArg (fun b => some (Value.bool b)) (and_f hb)
          ·
            refine w_gif (d := 38) H rfl (fun H => ?_) (fun H => ?_)
            ·
              refine w_skip rfl rfl ?_
              refine w_skip rfl rfl ?_
              refine w_skip rfl rfl ?_
              refine w_p tok rfl rfl rfl ?_
              exact w_jn true H ⟨rfl, rfl, rfl, rfl, rfl, rfl, trivial⟩
            ·
              refine w_p tok rfl rfl rfl ?_
              refine w_call disk_Disk_Sync_ok (disk_Disk_Sync_ref _ _ _ H) rfl rfl rfl rfl ?_
              rintro _ h39 ⟨r38, rfl, H⟩
              refine w_p tok rfl rfl rfl ?_
              refine w_p tok rfl rfl rfl ?_
              exact w_jn (r38 != 0) H ⟨rfl, rfl, rfl, rfl, rfl, rfl, trivial⟩
      ·
        refine w_gs (d := 27) rfl (fun hb => ?_) (fun hb => ?_)
        ·
          refine w_skip rfl rfl ?_
          refine w_skip rfl rfl ?_
          refine w_skip rfl rfl ?_
          refine w_p tok rfl rfl rfl ?_
          refine w_jn () rfl ⟨?_, rfl, rfl, rfl, rfl, trivial⟩
          exact congrArg (fun b => some (Value.bool b)) (or_t hb)
        ·
          refine w_p tok rfl rfl rfl ?_
          refine w_p tok rfl rfl rfl ?_
          refine w_p tok rfl rfl rfl ?_
          refine w_p tok rfl rfl rfl ?_
          refine w_jn () rfl ⟨?_, rfl, rfl, rfl, rfl, trivial⟩
          exact congrArg (fun b => some (Value.bool b)) (or_f hb)
    ·
      refine w_gs (d := 22) rfl (fun hb => ?_) (fun hb => ?_)
      ·
        refine w_skip rfl rfl ?_
        refine w_skip rfl rfl ?_
        refine w_skip rfl rfl ?_
        refine w_p tok rfl rfl rfl ?_
        refine w_jn () rfl ⟨?_, rfl, rfl, rfl, rfl, trivial⟩
        exact congrArg (fun b => some (Value.bool b)) (or_t hb)
      ·
        refine w_p tok rfl rfl rfl ?_
        refine w_p tok rfl rfl rfl ?_
        refine w_p tok rfl rfl rfl ?_
        refine w_p tok rfl rfl rfl ?_
        refine w_jn () rfl ⟨?_, rfl, rfl, rfl, rfl, trivial⟩
        exact congrArg (fun b => some (Value.bool b)) (or_f hb)
  ·
    refine w_gs (d := 17) rfl (fun hb => ?_) (fun hb => ?_)
    ·
      refine w_skip rfl rfl ?_
      refine w_skip rfl rfl ?_
      refine w_skip rfl rfl ?_
      refine w_p tok rfl rfl rfl ?_
      refine w_jn () rfl ⟨?_, rfl, rfl, rfl, rfl, trivial⟩
      exact congrArg (fun b => some (Value.bool b)) (or_t hb)
    ·
      refine w_p tok rfl rfl rfl ?_
      refine w_p tok rfl rfl rfl ?_
      refine w_p tok rfl rfl rfl ?_
      refine w_p tok rfl rfl rfl ?_
      refine w_jn () rfl ⟨?_, rfl, rfl, rfl, rfl, trivial⟩
      exact congrArg (fun b => some (Value.bool b)) (or_f hb)

theorem law09_DiskPlays_ok : CallOk Go.Proofs.Try.prog 13 := ⟨_, Go.Proofs.Try.func13, by kernel_rfl, by kernel_rfl⟩
theorem law09_DiskPlays_ref (p0 : Slc) (p1 : Int) (k : (Bool) → Heap → Prop) (h : Heap) (H : law09_DiskPlays p0 p1 k h) : CallsH Go.Proofs.Try.prog 13 #[Slc.v p0, .int .i64 p1] h (fun v h' => ∃ r : Bool, v = .bool r ∧ k r h') := by
  refine f_enter (N := 122) Go.Proofs.Try.func13 rfl rfl rfl (fun w0 => ?_)
  unfold law09_DiskPlays at H
  refine c_weak [(0, Slc.v p0), (1, .int .i64 p1)] ⟨rfl, rfl, trivial⟩ ?_
  refine c_seq ?_
  refine c_region ?_
  refine w_p tok rfl rfl rfl ?_
  refine w_end ?_
  refine x_seq ?_
  refine c_seq ?_
  refine c_seq ?_
  refine c_region ?_
  refine w_p tok rfl rfl rfl ?_
  refine w_call law09_great_ok (law09_great_ref _ _ _ H) rfl rfl rfl rfl ?_
  rintro _ h2 ⟨r1, rfl, H⟩
  refine w_end ?_
  refine x_seq ?_
  refine c_if H rfl (fun H => ?_) (fun H => ?_)
  ·
    refine c_seq ?_
    refine c_region ?_
    refine w_call law09_awake_ok (law09_awake_ref  _ _ H) rfl rfl rfl rfl ?_
    rintro _ h4 ⟨r3, rfl, H⟩
    refine w_p tok rfl rfl rfl ?_
    refine w_end ?_
    refine x_seq ?_
    refine c_ret ?_
    refine x_tr ?_
    exact x_ret _ rfl _ rfl ⟨r3, rfl, H⟩
  ·
    refine c_skip ?_
    refine x_seq ?_
    refine c_seq ?_
    refine c_region ?_
    refine w_call disk_New_ok (disk_New_ref  _ _ H) rfl rfl rfl rfl ?_
    rintro _ h6 ⟨r5, rfl, H⟩
    refine w_y (y_build tok rfl rfl rfl rfl rfl) rfl rfl ?_
    obtain ⟨b7, h8, eb7, eh8, H⟩ := H
    refine w_h (h_box rfl rfl eb7 eh8) rfl rfl ?_
    refine w_p tok rfl rfl rfl ?_
    refine w_p tok rfl rfl rfl ?_
    refine w_end ?_
    refine x_seq ?_
    refine c_seq ?_
    refine c_seq ?_
    refine c_region ?_
    refine w_p tok rfl rfl rfl ?_
    refine w_end ?_
    refine x_seq ?_
    refine c_block ?_
    obtain ⟨I1, μ1, H0, HI⟩ := H
    refine c_loop (σ := Int) (fun (s : Int) => [(7, .int .i64 s), (0, Slc.v p0), (1, .int .i64 p1), (5, .pointer r5), (6, .pointer (some (⟨b7, 0, none⟩ : Addr)))]) I1 μ1 0 H0 ⟨rfl, rfl, rfl, rfl, rfl, trivial⟩ ?_
    rintro t7_1 h_1 H
    replace H := HI t7_1 h_1 H
    unfold law09_DiskPlays_l1b at H
    refine c_weak [(7, .int .i64 t7_1), (0, Slc.v p0), (1, .int .i64 p1), (5, .pointer r5), (6, .pointer (some (⟨b7, 0, none⟩ : Addr)))] ⟨rfl, rfl, rfl, rfl, rfl, trivial⟩ ?_
    refine c_seq ?_
    refine c_seq ?_
    refine c_region ?_
    refine w_p tok rfl rfl rfl ?_
    refine w_p tok rfl rfl rfl ?_
    refine w_p tok rfl rfl rfl ?_
    refine w_p tok rfl rfl rfl ?_
    refine w_p tok rfl rfl rfl ?_
    refine w_cutU 3 [(25, .bool ((decide (t7_1 < (p0.len : Int))) && (decide (t7_1 < 50)))), (0, Slc.v p0), (1, .int .i64 p1), (5, .pointer r5), (6, .pointer (some (⟨b7, 0, none⟩ : Addr))), (7, .int .i64 t7_1)] ?_ ?_
    ·
      refine w_end ?_
      refine x_seq ?_
      refine c_if H rfl (fun H => ?_) (fun H => ?_)
      ·
        refine c_skip ?_
        refine x_seq ?_
        refine c_seq ?_
        refine c_block ?_
        refine c_seq ?_
        refine c_region ?_
        refine w_p tok rfl rfl rfl ?_
        refine w_p tok rfl rfl rfl ?_
        refine w_p tok rfl rfl rfl ?_
        refine w_p tok rfl rfl rfl ?_
        obtain ⟨a9, ha9, la9, ua9, H⟩ := H
        refine w_y (y_ixa' tok rfl rfl ha9 rfl rfl rfl la9 ua9) rfl rfl ?_
        obtain ⟨v10, hv10, H⟩ := H
        refine w_y (y_lda tok rfl rfl rfl rfl rfl hv10) rfl rfl ?_
        refine w_call law09_do_ok (law09_do_ref _ _ _ _ _ H) rfl rfl rfl rfl ?_
        rintro _ h12 ⟨r11, rfl, H⟩
        refine w_p tok rfl rfl rfl ?_
        refine w_p tok rfl rfl rfl ?_
        refine w_cut 10 (α := Bool) (fun (s : Bool) => [(46, .bool s), (0, Slc.v p0), (1, .int .i64 p1), (5, .pointer r5), (6, .pointer (some (⟨b7, 0, none⟩ : Addr))), (7, .int .i64 t7_1)]) (fun (s : Bool) h => law09_DiskPlays_g2 p0 p1 r5 (⟨b7, 0, none⟩ : Addr) t7_1 s k (fun s h' => I1 s h' ∧ μ1 s h' < μ1 t7_1 h_1) h) ?_ ?_
        ·
          rintro t46_2 h_2 H
          replace H : law09_DiskPlays_g2 p0 p1 r5 (⟨b7, 0, none⟩ : Addr) t7_1 t46_2 k (fun s h' => I1 s h' ∧ μ1 s h' < μ1 t7_1 h_1) h_2 := H
          unfold law09_DiskPlays_g2 at H
          refine w_weak [(46, .bool t46_2), (0, Slc.v p0), (1, .int .i64 p1), (5, .pointer r5), (6, .pointer (some (⟨b7, 0, none⟩ : Addr))), (7, .int .i64 t7_1)] ⟨rfl, rfl, rfl, rfl, rfl, rfl, trivial⟩ ?_
          refine w_p tok rfl rfl rfl ?_
          refine w_cut 6 (α := Bool) (fun (s : Bool) => [(53, .bool s), (0, Slc.v p0), (1, .int .i64 p1), (5, .pointer r5), (6, .pointer (some (⟨b7, 0, none⟩ : Addr))), (7, .int .i64 t7_1)]) (fun (s : Bool) h => law09_DiskPlays_g3 p0 p1 r5 (⟨b7, 0, none⟩ : Addr) t7_1 s k (fun s h' => I1 s h' ∧ μ1 s h' < μ1 t7_1 h_1) h) ?_ ?_
          ·
            rintro t53_3 h_3 H
            replace H : law09_DiskPlays_g3 p0 p1 r5 (⟨b7, 0, none⟩ : Addr) t7_1 t53_3 k (fun s h' => I1 s h' ∧ μ1 s h' < μ1 t7_1 h_1) h_3 := H
            unfold law09_DiskPlays_g3 at H
            refine w_weak [(53, .bool t53_3), (0, Slc.v p0), (1, .int .i64 p1), (5, .pointer r5), (6, .pointer (some (⟨b7, 0, none⟩ : Addr))), (7, .int .i64 t7_1)] ⟨rfl, rfl, rfl, rfl, rfl, rfl, trivial⟩ ?_
            refine w_end ?_
            refine x_seq ?_
            refine c_if H rfl (fun H => ?_) (fun H => ?_)
            ·
              refine c_seq ?_
              refine c_region ?_
              refine w_p tok rfl rfl rfl ?_
              refine w_end ?_
              refine x_seq ?_
              refine c_ret ?_
              refine x_br ?_
              refine x_tr ?_
              refine x_tr ?_
              refine x_br ?_
              refine x_tr ?_
              exact x_ret _ rfl _ rfl ⟨false, rfl, H⟩
            ·
              refine c_skip ?_
              refine x_blk ?_
              refine x_seq ?_
              refine c_region ?_
              refine w_p tok rfl rfl rfl ?_
              refine w_p tok rfl rfl rfl ?_
              obtain ⟨x13, ex13, H⟩ := H
              refine w_pe tok rfl (congrArg (fun z => (.int .i64 z : Value)) ex13) rfl rfl ?_
              refine w_end ?_
              exact x_join x13 H ⟨rfl, rfl, rfl, rfl, rfl, trivial⟩
          ·
            refine w_gif (d := 47) H rfl (fun H => ?_) (fun H => ?_)
            ·
              refine w_skip rfl rfl ?_
              refine w_skip rfl rfl ?_
              refine w_skip rfl rfl ?_
              refine w_skip rfl rfl ?_
              refine w_skip rfl rfl ?_
              refine w_p tok rfl rfl rfl ?_
              exact w_jn true H ⟨rfl, rfl, rfl, rfl, rfl, rfl, trivial⟩
            ·
              refine w_p tok rfl rfl rfl ?_
              refine w_p tok rfl rfl rfl ?_
              refine w_p tok rfl rfl rfl ?_
              refine w_call law09_same_ok (law09_same_ref _ _ _ _ _ H) rfl rfl rfl rfl ?_
              rintro _ h15 ⟨r14, rfl, H⟩
              refine w_p tok rfl rfl rfl ?_
              refine w_p tok rfl rfl rfl ?_
              exact w_jn (!r14) H ⟨rfl, rfl, rfl, rfl, rfl, rfl, trivial⟩
        ·
          refine w_gif (d := 36) H rfl (fun H => ?_) (fun H => ?_)
          ·
            refine w_skip rfl rfl ?_
            refine w_skip rfl rfl ?_
            refine w_skip rfl rfl ?_
            refine w_skip rfl rfl ?_
            refine w_skip rfl rfl ?_
            refine w_skip rfl rfl ?_
            refine w_skip rfl rfl ?_
            refine w_skip rfl rfl ?_
            refine w_skip rfl rfl ?_
            refine w_p tok rfl rfl rfl ?_
            exact w_jn true H ⟨rfl, rfl, rfl, rfl, rfl, rfl, trivial⟩
          ·
            refine w_p tok rfl rfl rfl ?_
            refine w_p tok rfl rfl rfl ?_
            refine w_p tok rfl rfl rfl ?_
            refine w_p tok rfl rfl rfl ?_
            obtain ⟨a16, ha16, la16, ua16, H⟩ := H
            refine w_y (y_ixa' tok rfl rfl ha16 rfl rfl rfl la16 ua16) rfl rfl ?_
            refine w_p tok rfl rfl rfl ?_
            obtain ⟨v17, hv17, H⟩ := H
            refine w_y (y_ld tok rfl rfl rfl rfl hv17) rfl rfl ?_
            refine w_call law09_same_ok (law09_same_ref _ _ _ _ _ H) rfl rfl rfl rfl ?_
            rintro _ h19 ⟨r18, rfl, H⟩
            refine w_p tok rfl rfl rfl ?_
            refine w_p tok rfl rfl rfl ?_
            exact w_jn (!r18) H ⟨rfl, rfl, rfl, rfl, rfl, rfl, trivial⟩
      ·
        refine c_exit ?_
        refine x_te ?_
        refine x_te ?_
        refine x_bh ?_
        refine x_seq ?_
        refine c_seq ?_
        refine c_region ?_
        refine w_p tok rfl rfl rfl ?_
        refine w_call disk_Disk_Raw_ok (disk_Disk_Raw_ref _ _ _ H) rfl rfl rfl rfl ?_
        rintro _ h21 ⟨r20, rfl, H⟩
        refine w_p tok rfl rfl rfl ?_
        refine w_end ?_
        refine x_seq ?_
        refine c_seq ?_
        refine c_seq ?_
        refine c_region ?_
        refine w_p tok rfl rfl rfl ?_
        refine w_p tok rfl rfl rfl ?_
        refine w_p tok rfl rfl rfl ?_
        refine w_end ?_
        refine x_seq ?_
        refine c_weak [(5, .pointer r5), (6, .pointer (some (⟨b7, 0, none⟩ : Addr))), (8, Slc.v r20), (58, .bool ((r20.len : Int) != 131072))] ⟨rfl, rfl, rfl, rfl, trivial⟩ ?_
        refine c_if H rfl (fun H => ?_) (fun H => ?_)
        ·
          refine c_seq ?_
          refine c_region ?_
          refine w_p tok rfl rfl rfl ?_
          refine w_end ?_
          refine x_seq ?_
          refine c_ret ?_
          refine x_tr ?_
          exact x_ret _ rfl _ rfl ⟨false, rfl, H⟩
        ·
          refine c_skip ?_
          refine x_seq ?_
          refine c_seq ?_
          refine c_seq ?_
          refine c_region ?_
          refine w_p tok rfl rfl rfl ?_
          refine w_end ?_
          refine x_seq ?_
          refine c_block ?_
          obtain ⟨I4, μ4, H0, HI⟩ := H
          refine c_loop (σ := Int) (fun (s : Int) => [(9, .int .i64 s), (5, .pointer r5), (6, .pointer (some (⟨b7, 0, none⟩ : Addr))), (8, Slc.v r20)]) I4 μ4 0 H0 ⟨rfl, rfl, rfl, rfl, trivial⟩ ?_
          rintro t9_4 h_4 H
          replace H := HI t9_4 h_4 H
          unfold law09_DiskPlays_l4b at H
          refine c_weak [(9, .int .i64 t9_4), (5, .pointer r5), (6, .pointer (some (⟨b7, 0, none⟩ : Addr))), (8, Slc.v r20)] ⟨rfl, rfl, rfl, rfl, trivial⟩ ?_
          refine c_seq ?_
          refine c_seq ?_
          refine c_region ?_
          refine w_p tok rfl rfl rfl ?_
          refine w_p tok rfl rfl rfl ?_
          refine w_y (y_nil rfl rfl) rfl rfl ?_
          refine w_p tok rfl rfl rfl ?_
          obtain ⟨v22, hv22, H⟩ := H
          refine w_y (y_ld tok rfl rfl rfl rfl hv22) rfl rfl ?_
          refine w_p tok rfl rfl rfl ?_
          refine w_p tok rfl rfl rfl ?_
          refine w_end ?_
          refine x_seq ?_
          refine c_if H rfl (fun H => ?_) (fun H => ?_)
          ·
            refine c_skip ?_
            refine x_seq ?_
            refine c_weak [(9, .int .i64 t9_4), (5, .pointer r5), (6, .pointer (some (⟨b7, 0, none⟩ : Addr))), (8, Slc.v r20)] ⟨rfl, rfl, rfl, rfl, trivial⟩ ?_
            refine c_seq ?_
            refine c_block ?_
            refine c_seq ?_
            refine c_region ?_
            refine w_p tok rfl rfl rfl ?_
            refine w_p tok rfl rfl rfl ?_
            refine w_y (y_nil rfl rfl) rfl rfl ?_
            refine w_p tok rfl rfl rfl ?_
            obtain ⟨v23, hv23, H⟩ := H
            refine w_y (y_ld tok rfl rfl rfl rfl hv23) rfl rfl ?_
            refine w_p tok rfl rfl rfl ?_
            obtain ⟨a24, ha24, la24, ua24, H⟩ := H
            refine w_y (y_ixa' tok rfl rfl ha24 rfl rfl rfl la24 ua24) rfl rfl ?_
            refine w_p tok rfl rfl rfl ?_
            obtain ⟨v25, hv25, H⟩ := H
            refine w_y (y_ld tok rfl rfl rfl rfl hv25) rfl rfl ?_
            refine w_call ref09_Disk_Read_ok (ref09_Disk_Read_ref _ _ _ _ H) rfl rfl rfl rfl ?_
            rintro _ h27 ⟨r26, rfl, H⟩
            refine w_p tok rfl rfl rfl ?_
            refine w_p tok rfl rfl rfl ?_
            refine w_p tok rfl rfl rfl ?_
            refine w_p tok rfl rfl rfl ?_
            refine w_p tok rfl rfl rfl ?_
            refine w_end ?_
            refine x_seq ?_
            refine c_weak [(9, .int .i64 t9_4), (5, .pointer r5), (6, .pointer (some (⟨b7, 0, none⟩ : Addr))), (8, Slc.v r20), (10, Slc.v r26.1), (11, .int .i64 r26.2)] ⟨rfl, rfl, rfl, rfl, rfl, rfl, trivial⟩ ?_
            refine c_seq ?_
            refine c_seqJ (α := Bool) (fun (s : Bool) => [(108, .bool s), (5, .pointer r5), (6, .pointer (some (⟨b7, 0, none⟩ : Addr))), (8, Slc.v r20), (9, .int .i64 t9_4)]) (fun (s : Bool) h => law09_DiskPlays_j5 r5 (⟨b7, 0, none⟩ : Addr) r20 t9_4 s k (fun s h' => I1 s h' ∧ μ1 s h' < μ1 t7_1 h_1) (fun s h' => I4 s h' ∧ μ4 s h' < μ4 t9_4 h_4) h) ?_ ?_
            ·
              rintro t108_5 h_5 H
              replace H : law09_DiskPlays_j5 r5 (⟨b7, 0, none⟩ : Addr) r20 t9_4 t108_5 k (fun s h' => I1 s h' ∧ μ1 s h' < μ1 t7_1 h_1) (fun s h' => I4 s h' ∧ μ4 s h' < μ4 t9_4 h_4) h_5 := H
              unfold law09_DiskPlays_j5 at H
              refine c_weak [(108, .bool t108_5), (5, .pointer r5), (6, .pointer (some (⟨b7, 0, none⟩ : Addr))), (8, Slc.v r20), (9, .int .i64 t9_4)] ⟨rfl, rfl, rfl, rfl, rfl, trivial⟩ ?_
              refine c_if H rfl (fun H => ?_) (fun H => ?_)
              ·
                refine c_seq ?_
                refine c_region ?_
                refine w_p tok rfl rfl rfl ?_
                refine w_end ?_
                refine x_seq ?_
                refine c_ret ?_
                refine x_tr ?_
                refine x_br ?_
                refine x_tr ?_
                refine x_tr ?_
                refine x_br ?_
                refine x_tr ?_
                exact x_ret _ rfl _ rfl ⟨false, rfl, H⟩
              ·
                refine c_skip ?_
                refine x_seq ?_
                refine c_seq ?_
                refine c_region ?_
                refine w_p tok rfl rfl rfl ?_
                refine w_p tok rfl rfl rfl ?_
                refine w_p tok rfl rfl rfl ?_
                refine w_y (y_nil rfl rfl) rfl rfl ?_
                refine w_p tok rfl rfl rfl ?_
                obtain ⟨v28, hv28, H⟩ := H
                refine w_y (y_ld tok rfl rfl rfl rfl hv28) rfl rfl ?_
                refine w_p tok rfl rfl rfl ?_
                obtain ⟨a29, ha29, la29, ua29, H⟩ := H
                refine w_y (y_ixa' tok rfl rfl ha29 rfl rfl rfl la29 ua29) rfl rfl ?_
                refine w_p tok rfl rfl rfl ?_
                obtain ⟨v30, hv30, H⟩ := H
                refine w_y (y_ld tok rfl rfl rfl rfl hv30) rfl rfl ?_
                refine w_call law09_same_ok (law09_same_ref _ _ _ _ _ H) rfl rfl rfl rfl ?_
                rintro _ h32 ⟨r31, rfl, H⟩
                refine w_p tok rfl rfl rfl ?_
                refine w_end ?_
                refine x_seq ?_
                refine c_weak [(5, .pointer r5), (6, .pointer (some (⟨b7, 0, none⟩ : Addr))), (8, Slc.v r20), (9, .int .i64 t9_4), (120, .bool (!r31))] ⟨rfl, rfl, rfl, rfl, rfl, trivial⟩ ?_
                refine c_if H rfl (fun H => ?_) (fun H => ?_)
                ·
                  refine c_seq ?_
                  refine c_region ?_
                  refine w_p tok rfl rfl rfl ?_
                  refine w_end ?_
                  refine x_seq ?_
                  refine c_ret ?_
                  refine x_br ?_
                  refine x_tr ?_
                  refine x_tr ?_
                  refine x_br ?_
                  refine x_tr ?_
                  exact x_ret _ rfl _ rfl ⟨false, rfl, H⟩
                ·
                  refine c_skip ?_
                  refine x_blk ?_
                  refine x_seq ?_
                  refine c_region ?_
                  refine w_p tok rfl rfl rfl ?_
                  refine w_p tok rfl rfl rfl ?_
                  obtain ⟨x33, ex33, H⟩ := H
                  refine w_pe tok rfl (congrArg (fun z => (.int .i64 z : Value)) ex33) rfl rfl ?_
                  refine w_end ?_
                  exact x_join x33 H ⟨rfl, rfl, rfl, rfl, trivial⟩
            ·
              refine c_sim [(5, .pointer r5), (6, .pointer (some (⟨b7, 0, none⟩ : Addr))), (8, Slc.v r20), (9, .int .i64 t9_4), (10, Slc.v r26.1), (11, .int .i64 r26.2)] (by kernel_rfl) (by kernel_rfl) ⟨rfl, rfl, rfl, rfl, rfl, rfl, trivial⟩ (fun wf => ?_)
              refine sim_p 0 (ei := [(11, .int .i64 r26.2)]) (d := (some 81)) wf (by kernel_rfl) ⟨rfl, trivial⟩ (by kernel_rfl) (by kernel_rfl) (fun _ => pf_p tok rfl rfl rfl rfl) (fun P_0 => ?_)
              refine sim_p 1 (ei := [(81, .int .i64 r26.2)]) (d := (some 82)) wf (by kernel_rfl) ⟨rfl, trivial⟩ (by kernel_rfl) (by kernel_rfl) (fun _ => pf_p tok rfl rfl rfl rfl) (fun P_1 => ?_)
              refine sim_p 2 (ei := [(82, .bool (r26.2 == 0))]) (d := (some 83)) wf (by kernel_rfl) ⟨rfl, trivial⟩ (by kernel_rfl) (by kernel_rfl) (fun _ => pf_p tok rfl rfl rfl rfl) (fun P_2 => ?_)
              refine sim_gif 83 H rfl (fun hb H => ?_) (fun hb H => ?_)
              ·
                refine sim_p 3 (ei := [(8, Slc.v r20), (83, .bool true)]) (d := (some 84)) wf (by kernel_rfl) ⟨rfl, rfl, trivial⟩ (by kernel_rfl) (by kernel_rfl) (fun _ => pf_p tok rfl rfl rfl rfl) (fun P_3 => ?_)
                refine sim_p 4 (ei := [(6, .pointer (some (⟨b7, 0, none⟩ : Addr))), (83, .bool true)]) (d := (some 85)) wf (by kernel_rfl) ⟨rfl, rfl, trivial⟩ (by kernel_rfl) (by kernel_rfl) (fun _ => pf_p tok rfl rfl rfl rfl) (fun P_4 => ?_)
                refine sim_p 5 (ei := [(83, .bool true), (85, .pointer (some (⟨b7, 0, none⟩ : Addr)))]) (d := (some 86)) wf (by kernel_rfl) ⟨rfl, rfl, trivial⟩ (by kernel_rfl) (by kernel_rfl) (fun _ => pf_y rfl rfl rfl (y_nil rfl rfl)) (fun P_5 => ?_)
                refine sim_p 6 (ei := [(83, .bool true), (86, .pointer (some (⟨b7, 0, none⟩ : Addr)))]) (d := (some 87)) wf (by kernel_rfl) ⟨rfl, rfl, trivial⟩ (by kernel_rfl) (by kernel_rfl) (fun _ => pf_p tok rfl rfl rfl rfl) (fun P_6 => ?_)
                obtain ⟨v34, hv34, H⟩ := H
                refine sim_l 7 (ei := [(83, .bool true), (87, .pointer (some (⟨b7, 0, none⟩ : Addr)))]) (d := (some 88)) wf (by kernel_rfl) ⟨rfl, rfl, trivial⟩ (by kernel_rfl) (by kernel_rfl) (pf_y rfl rfl rfl (y_ld tok rfl rfl rfl rfl hv34)) (fun P_7 => ?_)
                refine sim_p 8 (ei := [(9, .int .i64 t9_4), (83, .bool true)]) (d := (some 89)) wf (by kernel_rfl) ⟨rfl, rfl, trivial⟩ (by kernel_rfl) (by kernel_rfl) (fun _ => pf_p tok rfl rfl rfl rfl) (fun P_8 => ?_)
                obtain ⟨a35, ha35, la35, ua35, H⟩ := H
                refine sim_p 9 (ei := [(83, .bool true), (88, Slc.v v34), (89, .int .i64 t9_4)]) (d := (some 90)) wf (by kernel_rfl) ⟨rfl, rfl, rfl, trivial⟩ (by kernel_rfl) (by kernel_rfl) (fun _ => pf_y rfl rfl rfl (y_ixa' tok rfl rfl ha35 rfl rfl rfl la35 ua35)) (fun P_9 => ?_)
                refine sim_p 10 (ei := [(83, .bool true), (90, .pointer (some (a35.add (t9_4.toNat * 6))))]) (d := (some 91)) wf (by kernel_rfl) ⟨rfl, rfl, trivial⟩ (by kernel_rfl) (by kernel_rfl) (fun _ => pf_p tok rfl rfl rfl rfl) (fun P_10 => ?_)
                obtain ⟨v36, hv36, H⟩ := H
                refine sim_l 11 (ei := [(83, .bool true), (91, .pointer (some (a35.add (t9_4.toNat * 6))))]) (d := (some 92)) wf (by kernel_rfl) ⟨rfl, rfl, trivial⟩ (by kernel_rfl) (by kernel_rfl) (pf_y rfl rfl rfl (y_ld tok rfl rfl rfl rfl hv36)) (fun P_11 => ?_)
                refine sim_p 12 (ei := [(83, .bool true), (92, .int .i64 v36)]) (d := (some 93)) wf (by kernel_rfl) ⟨rfl, rfl, trivial⟩ (by kernel_rfl) (by kernel_rfl) (fun _ => pf_p tok rfl rfl rfl rfl) (fun P_12 => ?_)
                refine sim_p 13 (ei := [(6, .pointer (some (⟨b7, 0, none⟩ : Addr))), (83, .bool true)]) (d := (some 94)) wf (by kernel_rfl) ⟨rfl, rfl, trivial⟩ (by kernel_rfl) (by kernel_rfl) (fun _ => pf_p tok rfl rfl rfl rfl) (fun P_13 => ?_)
                refine sim_p 14 (ei := [(83, .bool true), (94, .pointer (some (⟨b7, 0, none⟩ : Addr)))]) (d := (some 95)) wf (by kernel_rfl) ⟨rfl, rfl, trivial⟩ (by kernel_rfl) (by kernel_rfl) (fun _ => pf_y rfl rfl rfl (y_nil rfl rfl)) (fun P_14 => ?_)
                refine sim_p 15 (ei := [(83, .bool true), (95, .pointer (some (⟨b7, 0, none⟩ : Addr)))]) (d := (some 96)) wf (by kernel_rfl) ⟨rfl, rfl, trivial⟩ (by kernel_rfl) (by kernel_rfl) (fun _ => pf_p tok rfl rfl rfl rfl) (fun P_15 => ?_)
                obtain ⟨v37, hv37, H⟩ := H
                refine sim_l 16 (ei := [(83, .bool true), (96, .pointer (some (⟨b7, 0, none⟩ : Addr)))]) (d := (some 97)) wf (by kernel_rfl) ⟨rfl, rfl, trivial⟩ (by kernel_rfl) (by kernel_rfl) (pf_y rfl rfl rfl (y_ld tok rfl rfl rfl rfl hv37)) (fun P_16 => ?_)
                refine sim_p 17 (ei := [(9, .int .i64 t9_4), (83, .bool true)]) (d := (some 98)) wf (by kernel_rfl) ⟨rfl, rfl, trivial⟩ (by kernel_rfl) (by kernel_rfl) (fun _ => pf_p tok rfl rfl rfl rfl) (fun P_17 => ?_)
                obtain ⟨a38, ha38, la38, ua38, H⟩ := H
                refine sim_p 18 (ei := [(83, .bool true), (97, Slc.v v37), (98, .int .i64 t9_4)]) (d := (some 99)) wf (by kernel_rfl) ⟨rfl, rfl, rfl, trivial⟩ (by kernel_rfl) (by kernel_rfl) (fun _ => pf_y rfl rfl rfl (y_ixa' tok rfl rfl ha38 rfl rfl rfl la38 ua38)) (fun P_18 => ?_)
                refine sim_p 19 (ei := [(83, .bool true), (99, .pointer (some (a38.add (t9_4.toNat * 6))))]) (d := (some 100)) wf (by kernel_rfl) ⟨rfl, rfl, trivial⟩ (by kernel_rfl) (by kernel_rfl) (fun _ => pf_p tok rfl rfl rfl rfl) (fun P_19 => ?_)
                obtain ⟨v39, hv39, H⟩ := H
                refine sim_l 20 (ei := [(83, .bool true), (100, .pointer (some (a38.add (t9_4.toNat * 6))))]) (d := (some 101)) wf (by kernel_rfl) ⟨rfl, rfl, trivial⟩ (by kernel_rfl) (by kernel_rfl) (pf_y rfl rfl rfl (y_ld tok rfl rfl rfl rfl hv39)) (fun P_20 => ?_)
                refine sim_p 21 (ei := [(83, .bool true), (101, .int .i64 v39)]) (d := (some 102)) wf (by kernel_rfl) ⟨rfl, rfl, trivial⟩ (by kernel_rfl) (by kernel_rfl) (fun _ => pf_p tok rfl rfl rfl rfl) (fun P_21 => ?_)
                refine sim_p 22 (ei := [(83, .bool true), (102, .int .i64 (IntKind.i64.wrap (v39 * 128)))]) (d := (some 103)) wf (by kernel_rfl) ⟨rfl, rfl, trivial⟩ (by kernel_rfl) (by kernel_rfl) (fun _ => pf_p tok rfl rfl rfl rfl) (fun P_22 => ?_)
                obtain ⟨s40, ps40, qs40, rs40, ts40, es40, H⟩ := H
                refine sim_p 23 (ei := [(83, .bool true), (84, Slc.v r20), (93, .int .i64 (IntKind.i64.wrap (v36 * 128))), (103, .int .i64 (IntKind.i64.wrap ((IntKind.i64.wrap (v39 * 128)) + 128)))]) (d := (some 104)) wf (by kernel_rfl) ⟨rfl, rfl, rfl, rfl, trivial⟩ (by kernel_rfl) (by kernel_rfl) (fun _ => pf_ye rfl rfl rfl (y_sl (s := r20) (L := (IntKind.i64.wrap (v36 * 128))) (H := (IntKind.i64.wrap ((IntKind.i64.wrap (v39 * 128)) + 128))) (M := (r20.cap : Int)) tok rfl rfl rfl rfl rfl rfl rfl (by simp) ps40 qs40 rs40 ts40) (congrArg Slc.v es40)) (fun P_23 => ?_)
                refine sim_p 24 (ei := [(10, Slc.v r26.1), (83, .bool true)]) (d := (some 105)) wf (by kernel_rfl) ⟨rfl, rfl, trivial⟩ (by kernel_rfl) (by kernel_rfl) (fun _ => pf_p tok rfl rfl rfl rfl) (fun P_24 => ?_)
                refine sim_c 25 [0, 1, 2, 3, 4, 5, 6, 7, 8, 9, 10, 11, 12, 13, 14, 15, 16, 17, 18, 19, 20, 21, 22, 23, 24] [0, 1, 2, 3, 4, 5, 6, 7, 8, 9, 10, 11, 12, 13, 14, 15, 16, 17, 18, 19, 20, 21, 22, 23, 24] (ei := [(83, .bool true), (104, Slc.v s40), (105, Slc.v r26.1)]) ref01_Same_ok (ref01_Same_ref _ _ _ _ H) wf ⟨P_24 _, P_23 _, P_22 _, P_21 _, P_20, P_19 _, P_18 _, P_17 _, P_16, P_15 _, P_14 _, P_13 _, P_12 _, P_11, P_10 _, P_9 _, P_8 _, P_7, P_6 _, P_5 _, P_4 _, P_3 _, P_2 _, P_1 _, P_0 _, trivial⟩ (by kernel_rfl) ⟨rfl, rfl, rfl, trivial⟩ (by kernel_rfl) rfl rfl rfl rfl rfl ?_
                rintro _ h42 ⟨r41, rfl, H⟩
                refine sim_p 26 (ei := [(83, .bool true), (106, .bool r41)]) (d := (some 107)) wf (by kernel_rfl) ⟨rfl, rfl, trivial⟩ (by kernel_rfl) (by kernel_rfl) (fun _ => pf_p tok rfl rfl rfl rfl) (fun P_26 => ?_)
                refine sim_p 27 (ei := [(83, .bool true), (107, .bool (!r41))]) (d := (some 108)) wf (by kernel_rfl) ⟨rfl, rfl, trivial⟩ (by kernel_rfl) (by kernel_rfl) (fun _ => pf_p tok rfl rfl rfl rfl) (fun P_27 => ?_)
                refine sim_end wf ⟨P_27 _, P_26 _, trivial, trivial, trivial, trivial, trivial, trivial, trivial, trivial, trivial, trivial, trivial, trivial, trivial, trivial, trivial, trivial, trivial, trivial, trivial, trivial, trivial, trivial, trivial, trivial, trivial, trivial⟩ (by kernel_rfl) ?_
                clear wf P_0 P_1 P_10 P_11 P_12 P_13 P_14 P_15 P_16 P_17 P_18 P_19 P_2 P_20 P_21 P_22 P_23 P_24 P_26 P_27 P_3 P_4 P_5 P_6 P_7 P_8 P_9
                exact x_join (!r41) H ⟨rfl, rfl, rfl, rfl, rfl, trivial⟩
              ·
                refine sim_p 3 (v := undef) (ei := [(8, Slc.v r20), (83, .bool false)]) (d := (some 84)) wf (by kernel_rfl) ⟨rfl, rfl, trivial⟩ (by kernel_rfl) (by kernel_rfl) (fun _ => pf_s rfl rfl rfl) (fun P_3 => ?_)
                refine sim_p 4 (v := undef) (ei := [(6, .pointer (some (⟨b7, 0, none⟩ : Addr))), (83, .bool false)]) (d := (some 85)) wf (by kernel_rfl) ⟨rfl, rfl, trivial⟩ (by kernel_rfl) (by kernel_rfl) (fun _ => pf_s rfl rfl rfl) (fun P_4 => ?_)
                refine sim_p 5 (v := undef) (ei := [(83, .bool false), (85, undef)]) (d := (some 86)) wf (by kernel_rfl) ⟨rfl, rfl, trivial⟩ (by kernel_rfl) (by kernel_rfl) (fun _ => pf_s rfl rfl rfl) (fun P_5 => ?_)
                refine sim_p 6 (v := undef) (ei := [(83, .bool false), (86, undef)]) (d := (some 87)) wf (by kernel_rfl) ⟨rfl, rfl, trivial⟩ (by kernel_rfl) (by kernel_rfl) (fun _ => pf_s rfl rfl rfl) (fun P_6 => ?_)
                refine sim_p 7 (v := undef) (ei := [(83, .bool false), (87, undef)]) (d := (some 88)) wf (by kernel_rfl) ⟨rfl, rfl, trivial⟩ (by kernel_rfl) (by kernel_rfl) (fun _ => pf_s rfl rfl rfl) (fun P_7 => ?_)
                refine sim_p 8 (v := undef) (ei := [(9, .int .i64 t9_4), (83, .bool false)]) (d := (some 89)) wf (by kernel_rfl) ⟨rfl, rfl, trivial⟩ (by kernel_rfl) (by kernel_rfl) (fun _ => pf_s rfl rfl rfl) (fun P_8 => ?_)
                refine sim_p 9 (v := undef) (ei := [(83, .bool false), (88, undef), (89, undef)]) (d := (some 90)) wf (by kernel_rfl) ⟨rfl, rfl, rfl, trivial⟩ (by kernel_rfl) (by kernel_rfl) (fun _ => pf_s rfl rfl rfl) (fun P_9 => ?_)
                refine sim_p 10 (v := undef) (ei := [(83, .bool false), (90, undef)]) (d := (some 91)) wf (by kernel_rfl) ⟨rfl, rfl, trivial⟩ (by kernel_rfl) (by kernel_rfl) (fun _ => pf_s rfl rfl rfl) (fun P_10 => ?_)
                refine sim_p 11 (v := undef) (ei := [(83, .bool false), (91, undef)]) (d := (some 92)) wf (by kernel_rfl) ⟨rfl, rfl, trivial⟩ (by kernel_rfl) (by kernel_rfl) (fun _ => pf_s rfl rfl rfl) (fun P_11 => ?_)
                refine sim_p 12 (v := undef) (ei := [(83, .bool false), (92, undef)]) (d := (some 93)) wf (by kernel_rfl) ⟨rfl, rfl, trivial⟩ (by kernel_rfl) (by kernel_rfl) (fun _ => pf_s rfl rfl rfl) (fun P_12 => ?_)
                refine sim_p 13 (v := undef) (ei := [(6, .pointer (some (⟨b7, 0, none⟩ : Addr))), (83, .bool false)]) (d := (some 94)) wf (by kernel_rfl) ⟨rfl, rfl, trivial⟩ (by kernel_rfl) (by kernel_rfl) (fun _ => pf_s rfl rfl rfl) (fun P_13 => ?_)
                refine sim_p 14 (v := undef) (ei := [(83, .bool false), (94, undef)]) (d := (some 95)) wf (by kernel_rfl) ⟨rfl, rfl, trivial⟩ (by kernel_rfl) (by kernel_rfl) (fun _ => pf_s rfl rfl rfl) (fun P_14 => ?_)
                refine sim_p 15 (v := undef) (ei := [(83, .bool false), (95, undef)]) (d := (some 96)) wf (by kernel_rfl) ⟨rfl, rfl, trivial⟩ (by kernel_rfl) (by kernel_rfl) (fun _ => pf_s rfl rfl rfl) (fun P_15 => ?_)
                refine sim_p 16 (v := undef) (ei := [(83, .bool false), (96, undef)]) (d := (some 97)) wf (by kernel_rfl) ⟨rfl, rfl, trivial⟩ (by kernel_rfl) (by kernel_rfl) (fun _ => pf_s rfl rfl rfl) (fun P_16 => ?_)
                refine sim_p 17 (v := undef) (ei := [(9, .int .i64 t9_4), (83, .bool false)]) (d := (some 98)) wf (by kernel_rfl) ⟨rfl, rfl, trivial⟩ (by kernel_rfl) (by kernel_rfl) (fun _ => pf_s rfl rfl rfl) (fun P_17 => ?_)
                refine sim_p 18 (v := undef) (ei := [(83, .bool false), (97, undef), (98, undef)]) (d := (some 99)) wf (by kernel_rfl) ⟨rfl, rfl, rfl, trivial⟩ (by kernel_rfl) (by kernel_rfl) (fun _ => pf_s rfl rfl rfl) (fun P_18 => ?_)
                refine sim_p 19 (v := undef) (ei := [(83, .bool false), (99, undef)]) (d := (some 100)) wf (by kernel_rfl) ⟨rfl, rfl, trivial⟩ (by kernel_rfl) (by kernel_rfl) (fun _ => pf_s rfl rfl rfl) (fun P_19 => ?_)
                refine sim_p 20 (v := undef) (ei := [(83, .bool false), (100, undef)]) (d := (some 101)) wf (by kernel_rfl) ⟨rfl, rfl, trivial⟩ (by kernel_rfl) (by kernel_rfl) (fun _ => pf_s rfl rfl rfl) (fun P_20 => ?_)
                refine sim_p 21 (v := undef) (ei := [(83, .bool false), (101, undef)]) (d := (some 102)) wf (by kernel_rfl) ⟨rfl, rfl, trivial⟩ (by kernel_rfl) (by kernel_rfl) (fun _ => pf_s rfl rfl rfl) (fun P_21 => ?_)
                refine sim_p 22 (v := undef) (ei := [(83, .bool false), (102, undef)]) (d := (some 103)) wf (by kernel_rfl) ⟨rfl, rfl, trivial⟩ (by kernel_rfl) (by kernel_rfl) (fun _ => pf_s rfl rfl rfl) (fun P_22 => ?_)
                refine sim_p 23 (v := undef) (ei := [(83, .bool false), (84, undef), (93, undef), (103, undef)]) (d := (some 104)) wf (by kernel_rfl) ⟨rfl, rfl, rfl, rfl, trivial⟩ (by kernel_rfl) (by kernel_rfl) (fun _ => pf_s rfl rfl rfl) (fun P_23 => ?_)
                refine sim_p 24 (v := undef) (ei := [(10, Slc.v r26.1), (83, .bool false)]) (d := (some 105)) wf (by kernel_rfl) ⟨rfl, rfl, trivial⟩ (by kernel_rfl) (by kernel_rfl) (fun _ => pf_s rfl rfl rfl) (fun P_24 => ?_)
                refine sim_p 25 (v := undef) (ei := [(83, .bool false), (104, undef), (105, undef)]) (d := (some 106)) wf (by kernel_rfl) ⟨rfl, rfl, rfl, trivial⟩ (by kernel_rfl) (by kernel_rfl) (fun _ => pf_s rfl rfl rfl) (fun P_25 => ?_)
                refine sim_p 26 (v := undef) (ei := [(83, .bool false), (106, undef)]) (d := (some 107)) wf (by kernel_rfl) ⟨rfl, rfl, trivial⟩ (by kernel_rfl) (by kernel_rfl) (fun _ => pf_s rfl rfl rfl) (fun P_26 => ?_)
                refine sim_p 27 (ei := [(83, .bool false), (107, undef)]) (d := (some 108)) wf (by kernel_rfl) ⟨rfl, rfl, trivial⟩ (by kernel_rfl) (by kernel_rfl) (fun _ => pf_p tok rfl rfl rfl rfl) (fun P_27 => ?_)
                refine sim_end wf ⟨P_27 _, P_26 _, P_25 _, P_24 _, P_23 _, P_22 _, P_21 _, P_20 _, P_19 _, P_18 _, P_17 _, P_16 _, P_15 _, P_14 _, P_13 _, P_12 _, P_11 _, P_10 _, P_9 _, P_8 _, P_7 _, P_6 _, P_5 _, P_4 _, P_3 _, P_2 _, P_1 _, P_0 _, trivial⟩ (by kernel_rfl) ?_
                clear wf P_0 P_1 P_10 P_11 P_12 P_13 P_14 P_15 P_16 P_17 P_18 P_19 P_2 P_20 P_21 P_22 P_23 P_24 P_25 P_26 P_27 P_3 P_4 P_5 P_6 P_7 P_8 P_9
                exact x_join false H ⟨rfl, rfl, rfl, rfl, rfl, trivial⟩
          ·
            refine c_exit ?_
            refine x_te ?_
            refine x_te ?_
            refine x_bh ?_
            refine x_seq ?_
            refine c_weak [] trivial ?_
            refine c_seq ?_
            refine c_region ?_
            refine w_call law09_awake_ok (law09_awake_ref  _ _ H) rfl rfl rfl rfl ?_
            rintro _ h44 ⟨r43, rfl, H⟩
            refine w_p tok rfl rfl rfl ?_
            refine w_end ?_
            refine x_seq ?_
            refine c_ret ?_
            exact x_ret _ rfl _ rfl ⟨r43, rfl, H⟩
    ·
      refine w_gs (d := 22) rfl (fun hb => ?_) (fun hb => ?_)
      ·
        refine w_p tok rfl rfl rfl ?_
        refine w_p tok rfl rfl rfl ?_
        refine w_p tok rfl rfl rfl ?_
        refine w_jn () rfl ⟨?_, rfl, rfl, rfl, rfl, rfl, trivial⟩
        exact congrArg (fun b => some (Value.bool b)) (and_t hb)
      ·
        refine w_skip rfl rfl ?_
        refine w_skip rfl rfl ?_
        refine w_p tok rfl rfl rfl ?_
        refine w_jn () rfl ⟨?_, rfl, rfl, rfl, rfl, rfl, trivial⟩
        exact congrArg (fun b => some (Value.bool b)) (and_f hb)

theorem law09_DiskCopy_ok : CallOk Go.Proofs.Try.prog 14 := ⟨_, Go.Proofs.Try.func14, by kernel_rfl, by kernel_rfl⟩
theorem law09_DiskCopy_ref (p0 : Slc) (p1 : Slc) (p2 : Int) (k : (Bool) → Heap → Prop) (h : Heap) (H : law09_DiskCopy p0 p1 p2 k h) : CallsH Go.Proofs.Try.prog 14 #[Slc.v p0, Slc.v p1, .int .i64 p2] h (fun v h' => ∃ r : Bool, v = .bool r ∧ k r h') := by
  refine f_enter (N := 97) Go.Proofs.Try.func14 rfl rfl rfl (fun w0 => ?_)
  unfold law09_DiskCopy at H
  refine c_weak [(0, Slc.v p0), (1, Slc.v p1), (2, .int .i64 p2)] ⟨rfl, rfl, rfl, trivial⟩ ?_
  refine c_seq ?_
  refine c_region ?_
  refine w_p tok rfl rfl rfl ?_
  refine w_end ?_
  refine x_seq ?_
  refine c_seq ?_
  refine c_seq ?_
  refine c_region ?_
  refine w_p tok rfl rfl rfl ?_
  refine w_call law09_great_ok (law09_great_ref _ _ _ H) rfl rfl rfl rfl ?_
  rintro _ h2 ⟨r1, rfl, H⟩
  refine w_p tok rfl rfl rfl ?_
  refine w_cut 3 (α := Bool) (fun (s : Bool) => [(18, .bool s), (0, Slc.v p0), (1, Slc.v p1), (2, .int .i64 p2)]) (fun (s : Bool) h => law09_DiskCopy_g1 p0 p1 p2 s k h) ?_ ?_
  ·
    rintro t18_1 h_1 H
    replace H : law09_DiskCopy_g1 p0 p1 p2 t18_1 k h_1 := H
    unfold law09_DiskCopy_g1 at H
    refine w_weak [(18, .bool t18_1), (0, Slc.v p0), (1, Slc.v p1), (2, .int .i64 p2)] ⟨rfl, rfl, rfl, rfl, trivial⟩ ?_
    refine w_end ?_
    refine x_seq ?_
    refine c_if H rfl (fun H => ?_) (fun H => ?_)
    ·
      refine c_seq ?_
      refine c_region ?_
      refine w_call law09_awake_ok (law09_awake_ref  _ _ H) rfl rfl rfl rfl ?_
      rintro _ h4 ⟨r3, rfl, H⟩
      refine w_p tok rfl rfl rfl ?_
      refine w_end ?_
      refine x_seq ?_
      refine c_ret ?_
      refine x_tr ?_
      exact x_ret _ rfl _ rfl ⟨r3, rfl, H⟩
    ·
      refine c_skip ?_
      refine x_seq ?_
      refine c_seq ?_
      refine c_region ?_
      refine w_call disk_New_ok (disk_New_ref  _ _ H) rfl rfl rfl rfl ?_
      rintro _ h6 ⟨r5, rfl, H⟩
      refine w_y (y_build tok rfl rfl rfl rfl rfl) rfl rfl ?_
      obtain ⟨b7, h8, eb7, eh8, H⟩ := H
      refine w_h (h_box rfl rfl eb7 eh8) rfl rfl ?_
      refine w_p tok rfl rfl rfl ?_
      refine w_p tok rfl rfl rfl ?_
      refine w_end ?_
      refine x_seq ?_
      refine c_seq ?_
      refine c_seq ?_
      refine c_region ?_
      refine w_p tok rfl rfl rfl ?_
      refine w_end ?_
      refine x_seq ?_
      refine c_block ?_
      obtain ⟨I2, μ2, H0, HI⟩ := H
      refine c_loop (σ := Int) (fun (s : Int) => [(9, .int .i64 s), (0, Slc.v p0), (1, Slc.v p1), (2, .int .i64 p2), (7, .pointer r5), (8, .pointer (some (⟨b7, 0, none⟩ : Addr)))]) I2 μ2 0 H0 ⟨rfl, rfl, rfl, rfl, rfl, rfl, trivial⟩ ?_
      rintro t9_2 h_2 H
      replace H := HI t9_2 h_2 H
      unfold law09_DiskCopy_l2b at H
      refine c_weak [(9, .int .i64 t9_2), (0, Slc.v p0), (1, Slc.v p1), (2, .int .i64 p2), (7, .pointer r5), (8, .pointer (some (⟨b7, 0, none⟩ : Addr)))] ⟨rfl, rfl, rfl, rfl, rfl, rfl, trivial⟩ ?_
      refine c_seq ?_
      refine c_seq ?_
      refine c_region ?_
      refine w_p tok rfl rfl rfl ?_
      refine w_p tok rfl rfl rfl ?_
      refine w_p tok rfl rfl rfl ?_
      refine w_p tok rfl rfl rfl ?_
      refine w_p tok rfl rfl rfl ?_
      refine w_cutU 3 [(30, .bool ((decide (t9_2 < (p0.len : Int))) && (decide (t9_2 < 50)))), (0, Slc.v p0), (1, Slc.v p1), (2, .int .i64 p2), (7, .pointer r5), (8, .pointer (some (⟨b7, 0, none⟩ : Addr))), (9, .int .i64 t9_2)] ?_ ?_
      ·
        refine w_end ?_
        refine x_seq ?_
        refine c_if H rfl (fun H => ?_) (fun H => ?_)
        ·
          refine c_skip ?_
          refine x_seq ?_
          refine c_seq ?_
          refine c_block ?_
          refine c_region ?_
          refine w_p tok rfl rfl rfl ?_
          refine w_p tok rfl rfl rfl ?_
          refine w_p tok rfl rfl rfl ?_
          refine w_p tok rfl rfl rfl ?_
          obtain ⟨a9, ha9, la9, ua9, H⟩ := H
          refine w_y (y_ixa' tok rfl rfl ha9 rfl rfl rfl la9 ua9) rfl rfl ?_
          obtain ⟨v10, hv10, H⟩ := H
          refine w_y (y_lda tok rfl rfl rfl rfl rfl hv10) rfl rfl ?_
          refine w_call law09_do_ok (law09_do_ref _ _ _ _ _ H) rfl rfl rfl rfl ?_
          rintro _ h12 ⟨r11, rfl, H⟩
          refine w_end ?_
          refine x_blk ?_
          refine x_seq ?_
          refine c_weak [(0, Slc.v p0), (1, Slc.v p1), (2, .int .i64 p2), (7, .pointer r5), (8, .pointer (some (⟨b7, 0, none⟩ : Addr))), (9, .int .i64 t9_2)] ⟨rfl, rfl, rfl, rfl, rfl, rfl, trivial⟩ ?_
          refine c_region ?_
          refine w_p tok rfl rfl rfl ?_
          refine w_p tok rfl rfl rfl ?_
          obtain ⟨x13, ex13, H⟩ := H
          refine w_pe tok rfl (congrArg (fun z => (.int .i64 z : Value)) ex13) rfl rfl ?_
          refine w_end ?_
          exact x_join x13 H ⟨rfl, rfl, rfl, rfl, rfl, rfl, trivial⟩
        ·
          refine c_exit ?_
          refine x_te ?_
          refine x_te ?_
          refine x_bh ?_
          refine x_seq ?_
          refine c_seq ?_
          refine c_region ?_
          refine w_p tok rfl rfl rfl ?_
          refine w_call disk_Disk_Copy_ok (disk_Disk_Copy_ref _ _ _ H) rfl rfl rfl rfl ?_
          rintro _ h15 ⟨r14, rfl, H⟩
          refine w_p tok rfl rfl rfl ?_
          refine w_call ref09_Disk_Copy_ok (ref09_Disk_Copy_ref _ _ _ H) rfl rfl rfl rfl ?_
          rintro _ h17 ⟨r16, rfl, H⟩
          refine w_p tok rfl rfl rfl ?_
          refine w_p tok rfl rfl rfl ?_
          refine w_end ?_
          refine x_seq ?_
          refine c_weak [(1, Slc.v p1), (2, .int .i64 p2), (7, .pointer r5), (8, .pointer (some (⟨b7, 0, none⟩ : Addr))), (10, .pointer r14), (11, .pointer r16)] ⟨rfl, rfl, rfl, rfl, rfl, rfl, trivial⟩ ?_
          refine c_seq ?_
          refine c_seq ?_
          refine c_region ?_
          refine w_p tok rfl rfl rfl ?_
          refine w_end ?_
          refine x_seq ?_
          refine c_block ?_
          obtain ⟨I3, μ3, H0, HI⟩ := H
          refine c_loop (σ := Int) (fun (s : Int) => [(12, .int .i64 s), (1, Slc.v p1), (2, .int .i64 p2), (7, .pointer r5), (8, .pointer (some (⟨b7, 0, none⟩ : Addr))), (10, .pointer r14), (11, .pointer r16)]) I3 μ3 0 H0 ⟨rfl, rfl, rfl, rfl, rfl, rfl, rfl, trivial⟩ ?_
          rintro t12_3 h_3 H
          replace H := HI t12_3 h_3 H
          unfold law09_DiskCopy_l3b at H
          refine c_weak [(12, .int .i64 t12_3), (1, Slc.v p1), (2, .int .i64 p2), (7, .pointer r5), (8, .pointer (some (⟨b7, 0, none⟩ : Addr))), (10, .pointer r14), (11, .pointer r16)] ⟨rfl, rfl, rfl, rfl, rfl, rfl, rfl, trivial⟩ ?_
          refine c_seq ?_
          refine c_seq ?_
          refine c_region ?_
          refine w_p tok rfl rfl rfl ?_
          refine w_p tok rfl rfl rfl ?_
          refine w_p tok rfl rfl rfl ?_
          refine w_p tok rfl rfl rfl ?_
          refine w_p tok rfl rfl rfl ?_
          refine w_cutU 3 [(51, .bool ((decide (t12_3 < (p1.len : Int))) && (decide (t12_3 < 50)))), (1, Slc.v p1), (2, .int .i64 p2), (7, .pointer r5), (8, .pointer (some (⟨b7, 0, none⟩ : Addr))), (10, .pointer r14), (11, .pointer r16), (12, .int .i64 t12_3)] ?_ ?_
          ·
            refine w_end ?_
            refine x_seq ?_
            refine c_if H rfl (fun H => ?_) (fun H => ?_)
            ·
              refine c_skip ?_
              refine x_seq ?_
              refine c_seq ?_
              refine c_block ?_
              refine c_seq ?_
              refine c_region ?_
              refine w_p tok rfl rfl rfl ?_
              refine w_p tok rfl rfl rfl ?_
              refine w_p tok rfl rfl rfl ?_
              refine w_p tok rfl rfl rfl ?_
              obtain ⟨a18, ha18, la18, ua18, H⟩ := H
              refine w_y (y_ixa' tok rfl rfl ha18 rfl rfl rfl la18 ua18) rfl rfl ?_
              obtain ⟨v19, hv19, H⟩ := H
              refine w_y (y_lda tok rfl rfl rfl rfl rfl hv19) rfl rfl ?_
              refine w_call law09_do_ok (law09_do_ref _ _ _ _ _ H) rfl rfl rfl rfl ?_
              rintro _ h21 ⟨r20, rfl, H⟩
              refine w_p tok rfl rfl rfl ?_
              refine w_p tok rfl rfl rfl ?_
              refine w_cut 10 (α := Bool) (fun (s : Bool) => [(72, .bool s), (1, Slc.v p1), (2, .int .i64 p2), (7, .pointer r5), (8, .pointer (some (⟨b7, 0, none⟩ : Addr))), (10, .pointer r14), (11, .pointer r16), (12, .int .i64 t12_3)]) (fun (s : Bool) h => law09_DiskCopy_g4 p1 p2 r5 (⟨b7, 0, none⟩ : Addr) r14 r16 t12_3 s k (fun s h' => I2 s h' ∧ μ2 s h' < μ2 t9_2 h_2) (fun s h' => I3 s h' ∧ μ3 s h' < μ3 t12_3 h_3) h) ?_ ?_
              ·
                rintro t72_4 h_4 H
                replace H : law09_DiskCopy_g4 p1 p2 r5 (⟨b7, 0, none⟩ : Addr) r14 r16 t12_3 t72_4 k (fun s h' => I2 s h' ∧ μ2 s h' < μ2 t9_2 h_2) (fun s h' => I3 s h' ∧ μ3 s h' < μ3 t12_3 h_3) h_4 := H
                unfold law09_DiskCopy_g4 at H
                refine w_weak [(72, .bool t72_4), (1, Slc.v p1), (2, .int .i64 p2), (7, .pointer r5), (8, .pointer (some (⟨b7, 0, none⟩ : Addr))), (10, .pointer r14), (11, .pointer r16), (12, .int .i64 t12_3)] ⟨rfl, rfl, rfl, rfl, rfl, rfl, rfl, rfl, trivial⟩ ?_
                refine w_p tok rfl rfl rfl ?_
                refine w_cut 10 (α := Bool) (fun (s : Bool) => [(83, .bool s), (1, Slc.v p1), (2, .int .i64 p2), (7, .pointer r5), (8, .pointer (some (⟨b7, 0, none⟩ : Addr))), (10, .pointer r14), (11, .pointer r16), (12, .int .i64 t12_3)]) (fun (s : Bool) h => law09_DiskCopy_g5 p1 p2 r5 (⟨b7, 0, none⟩ : Addr) r14 r16 t12_3 s k (fun s h' => I2 s h' ∧ μ2 s h' < μ2 t9_2 h_2) (fun s h' => I3 s h' ∧ μ3 s h' < μ3 t12_3 h_3) h) ?_ ?_
                ·
                  rintro t83_5 h_5 H
                  replace H : law09_DiskCopy_g5 p1 p2 r5 (⟨b7, 0, none⟩ : Addr) r14 r16 t12_3 t83_5 k (fun s h' => I2 s h' ∧ μ2 s h' < μ2 t9_2 h_2) (fun s h' => I3 s h' ∧ μ3 s h' < μ3 t12_3 h_3) h_5 := H
                  unfold law09_DiskCopy_g5 at H
                  refine w_weak [(83, .bool t83_5), (1, Slc.v p1), (2, .int .i64 p2), (7, .pointer r5), (8, .pointer (some (⟨b7, 0, none⟩ : Addr))), (10, .pointer r14), (11, .pointer r16), (12, .int .i64 t12_3)] ⟨rfl, rfl, rfl, rfl, rfl, rfl, rfl, rfl, trivial⟩ ?_
                  refine w_end ?_
                  refine x_seq ?_
                  refine c_if H rfl (fun H => ?_) (fun H => ?_)
                  ·
                    refine c_seq ?_
                    refine c_region ?_
                    refine w_p tok rfl rfl rfl ?_
                    refine w_end ?_
                    refine x_seq ?_
                    refine c_weak [(6, .bool false)] ⟨rfl, trivial⟩ ?_
                    refine c_ret ?_
                    refine x_br ?_
                    refine x_tr ?_
                    refine x_tr ?_
                    refine x_br ?_
                    refine x_tr ?_
                    exact x_ret _ rfl _ rfl ⟨false, rfl, H⟩
                  ·
                    refine c_skip ?_
                    refine x_blk ?_
                    refine x_seq ?_
                    refine c_region ?_
                    refine w_p tok rfl rfl rfl ?_
                    refine w_p tok rfl rfl rfl ?_
                    obtain ⟨x22, ex22, H⟩ := H
                    refine w_pe tok rfl (congrArg (fun z => (.int .i64 z : Value)) ex22) rfl rfl ?_
                    refine w_end ?_
                    exact x_join x22 H ⟨rfl, rfl, rfl, rfl, rfl, rfl, rfl, trivial⟩
                ·
                  refine w_gif (d := 73) H rfl (fun H => ?_) (fun H => ?_)
                  ·
                    refine w_skip rfl rfl ?_
                    refine w_skip rfl rfl ?_
                    refine w_skip rfl rfl ?_
                    refine w_skip rfl rfl ?_
                    refine w_skip rfl rfl ?_
                    refine w_skip rfl rfl ?_
                    refine w_skip rfl rfl ?_
                    refine w_skip rfl rfl ?_
                    refine w_skip rfl rfl ?_
                    refine w_p tok rfl rfl rfl ?_
                    exact w_jn true H ⟨rfl, rfl, rfl, rfl, rfl, rfl, rfl, rfl, trivial⟩
                  ·
                    refine w_p tok rfl rfl rfl ?_
                    refine w_p tok rfl rfl rfl ?_
                    refine w_p tok rfl rfl rfl ?_
                    refine w_p tok rfl rfl rfl ?_
                    obtain ⟨a23, ha23, la23, ua23, H⟩ := H
                    refine w_y (y_ixa' tok rfl rfl ha23 rfl rfl rfl la23 ua23) rfl rfl ?_
                    refine w_p tok rfl rfl rfl ?_
                    obtain ⟨v24, hv24, H⟩ := H
                    refine w_y (y_ld tok rfl rfl rfl rfl hv24) rfl rfl ?_
                    refine w_call law09_same_ok (law09_same_ref _ _ _ _ _ H) rfl rfl rfl rfl ?_
                    rintro _ h26 ⟨r25, rfl, H⟩
                    refine w_p tok rfl rfl rfl ?_
                    refine w_p tok rfl rfl rfl ?_
                    exact w_jn (!r25) H ⟨rfl, rfl, rfl, rfl, rfl, rfl, rfl, rfl, trivial⟩
              ·
                refine w_gif (d := 62) H rfl (fun H => ?_) (fun H => ?_)
                ·
                  refine w_skip rfl rfl ?_
                  refine w_skip rfl rfl ?_
                  refine w_skip rfl rfl ?_
                  refine w_skip rfl rfl ?_
                  refine w_skip rfl rfl ?_
                  refine w_skip rfl rfl ?_
                  refine w_skip rfl rfl ?_
                  refine w_skip rfl rfl ?_
                  refine w_skip rfl rfl ?_
                  refine w_p tok rfl rfl rfl ?_
                  exact w_jn true H ⟨rfl, rfl, rfl, rfl, rfl, rfl, rfl, rfl, trivial⟩
                ·
                  refine w_p tok rfl rfl rfl ?_
                  refine w_p tok rfl rfl rfl ?_
                  refine w_p tok rfl rfl rfl ?_
                  refine w_p tok rfl rfl rfl ?_
                  obtain ⟨a27, ha27, la27, ua27, H⟩ := H
                  refine w_y (y_ixa' tok rfl rfl ha27 rfl rfl rfl la27 ua27) rfl rfl ?_
                  refine w_p tok rfl rfl rfl ?_
                  obtain ⟨v28, hv28, H⟩ := H
                  refine w_y (y_ld tok rfl rfl rfl rfl hv28) rfl rfl ?_
                  refine w_call law09_same_ok (law09_same_ref _ _ _ _ _ H) rfl rfl rfl rfl ?_
                  rintro _ h30 ⟨r29, rfl, H⟩
                  refine w_p tok rfl rfl rfl ?_
                  refine w_p tok rfl rfl rfl ?_
                  exact w_jn (!r29) H ⟨rfl, rfl, rfl, rfl, rfl, rfl, rfl, rfl, trivial⟩
            ·
              refine c_exit ?_
              refine x_te ?_
              refine x_te ?_
              refine x_bh ?_
              refine x_seq ?_
              refine c_seq ?_
              refine c_region ?_
              refine w_p tok rfl rfl rfl ?_
              refine w_p tok rfl rfl rfl ?_
              refine w_p tok rfl rfl rfl ?_
              refine w_call law09_same_ok (law09_same_ref _ _ _ _ _ H) rfl rfl rfl rfl ?_
              rintro _ h32 ⟨r31, rfl, H⟩
              refine w_p tok rfl rfl rfl ?_
              refine w_cut 5 (α := Bool) (fun (s : Bool) => [(93, .bool s)]) (fun (s : Bool) h => law09_DiskCopy_g6 s k (fun s h' => I2 s h' ∧ μ2 s h' < μ2 t9_2 h_2) (fun s h' => I3 s h' ∧ μ3 s h' < μ3 t12_3 h_3) h) ?_ ?_
              ·
                rintro t93_6 h_6 H
                replace H : law09_DiskCopy_g6 t93_6 k (fun s h' => I2 s h' ∧ μ2 s h' < μ2 t9_2 h_2) (fun s h' => I3 s h' ∧ μ3 s h' < μ3 t12_3 h_3) h_6 := H
                unfold law09_DiskCopy_g6 at H
                refine w_weak [(93, .bool t93_6)] ⟨rfl, trivial⟩ ?_
                refine w_p tok rfl rfl rfl ?_
                refine w_cut 2 (α := Bool) (fun (s : Bool) => [(96, .bool s)]) (fun (s : Bool) h => law09_DiskCopy_g7 s k (fun s h' => I2 s h' ∧ μ2 s h' < μ2 t9_2 h_2) (fun s h' => I3 s h' ∧ μ3 s h' < μ3 t12_3 h_3) h) ?_ ?_
                ·
                  rintro t96_7 h_7 H
                  replace H : law09_DiskCopy_g7 t96_7 k (fun s h' => I2 s h' ∧ μ2 s h' < μ2 t9_2 h_2) (fun s h' => I3 s h' ∧ μ3 s h' < μ3 t12_3 h_3) h_7 := H
                  unfold law09_DiskCopy_g7 at H
                  refine w_weak [(96, .bool t96_7)] ⟨rfl, trivial⟩ ?_
                  refine w_p tok rfl rfl rfl ?_
                  refine w_end ?_
                  refine x_seq ?_
                  refine c_ret ?_
                  exact x_ret _ rfl _ rfl ⟨t96_7, rfl, H⟩
                ·
                  refine w_gif (d := 94) H rfl (fun H => ?_) (fun H => ?_)
                  ·
                    refine w_call law09_awake_ok (law09_awake_ref  _ _ H) rfl rfl rfl rfl ?_
                    rintro _ h34 ⟨r33, rfl, H⟩
                    refine w_p tok rfl rfl rfl ?_
                    exact w_jn r33 H ⟨rfl, trivial⟩
                  ·
                    refine w_skip rfl rfl ?_
                    refine w_p tok rfl rfl rfl ?_
                    exact w_jn false H ⟨rfl, trivial⟩
              ·
                refine w_gif (d := 88) H rfl (fun H => ?_) (fun H => ?_)
                ·
                  refine w_p tok rfl rfl rfl ?_
                  refine w_p tok rfl rfl rfl ?_
                  refine w_p tok rfl rfl rfl ?_
                  refine w_call law09_same_ok (law09_same_ref _ _ _ _ _ H) rfl rfl rfl rfl ?_
                  rintro _ h36 ⟨r35, rfl, H⟩
                  refine w_p tok rfl rfl rfl ?_
                  exact w_jn r35 H ⟨rfl, trivial⟩
                ·
                  refine w_skip rfl rfl ?_
                  refine w_skip rfl rfl ?_
                  refine w_skip rfl rfl ?_
                  refine w_skip rfl rfl ?_
                  refine w_p tok rfl rfl rfl ?_
                  exact w_jn false H ⟨rfl, trivial⟩
          ·
            refine w_gs (d := 48) rfl (fun hb => ?_) (fun hb => ?_)
            ·
              refine w_p tok rfl rfl rfl ?_
              refine w_p tok rfl rfl rfl ?_
              refine w_p tok rfl rfl rfl ?_
              refine w_jn () rfl ⟨?_, rfl, rfl, rfl, rfl, rfl, rfl, rfl, trivial⟩
              exact congrArg (fun b => some (Value.bool b)) (and_t hb)
            ·
              refine w_skip rfl rfl ?_
              refine w_skip rfl rfl ?_
              refine w_p tok rfl rfl rfl ?_
              refine w_jn () rfl ⟨?_, rfl, rfl, rfl, rfl, rfl, rfl, rfl, trivial⟩
              exact congrArg (fun b => some (Value.bool b)) (and_f hb)
      ·
        refine w_gs (d := 27) rfl (fun hb => ?_) (fun hb => ?_)
        ·
          refine w_p tok rfl rfl rfl ?_
          refine w_p tok rfl rfl rfl ?_
          refine w_p tok rfl rfl rfl ?_
          refine w_jn () rfl ⟨?_, rfl, rfl, rfl, rfl, rfl, rfl, trivial⟩
          exact congrArg (fun b => some (Value.bool b)) (and_t hb)
        ·
          refine w_skip rfl rfl ?_
          refine w_skip rfl rfl ?_
          refine w_p tok rfl rfl rfl ?_
          refine w_jn () rfl ⟨?_, rfl, rfl, rfl, rfl, rfl, rfl, trivial⟩
          exact congrArg (fun b => some (Value.bool b)) (and_f hb)
  ·
    refine w_gif (d := 15) H rfl (fun H => ?_) (fun H => ?_)
    ·
      refine w_skip rfl rfl ?_
      refine w_skip rfl rfl ?_
      refine w_p tok rfl rfl rfl ?_
      exact w_jn true H ⟨rfl, rfl, rfl, rfl, trivial⟩
    ·
      refine w_p tok rfl rfl rfl ?_
      refine w_call law09_great_ok (law09_great_ref _ _ _ H) rfl rfl rfl rfl ?_
      rintro _ h38 ⟨r37, rfl, H⟩
      refine w_p tok rfl rfl rfl ?_
      exact w_jn r37 H ⟨rfl, rfl, rfl, rfl, trivial⟩
end Go.Q.Yb

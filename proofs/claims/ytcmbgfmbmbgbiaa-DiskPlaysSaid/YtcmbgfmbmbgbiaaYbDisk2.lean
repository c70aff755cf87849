/- A part of the proof of statements of this seat: lemmas, no statement of their own. -/
import Derived.Test.YtcmbgfmbmbgbiaaYbTab
import Derived.Test.YtcmbgfmbmbgbiaaQArr
set_option linter.unusedVariables false
set_option maxRecDepth 100000
set_option maxHeartbeats 1000000
namespace Go.Q.Yb
/-- quaestor quaestorref01.Same -/
def ref01_Same_l1b (t0_1 : Slc) (t1_1 : Slc) (t5_1 : Int) (k : (Bool) → Heap → Prop) (nx1 : (Int) → Heap → Prop) (h_1 : Heap) : Prop :=
  if (decide (t5_1 < (t0_1.len : Int))) then (∃ a1 : Addr, t0_1.a = some a1 ∧ (0 : Int) ≤ t5_1 ∧ t5_1 < (t0_1.len : Int) ∧ (∃ v2 : Int, cellH h_1 (a1.add (t5_1.toNat * 1)) = some (.int .u8 v2) ∧ (∃ a3 : Addr, t1_1.a = some a3 ∧ (0 : Int) ≤ t5_1 ∧ t5_1 < (t1_1.len : Int) ∧ (∃ v4 : Int, cellH h_1 (a3.add (t5_1.toNat * 1)) = some (.int .u8 v4) ∧ (if (v2 != v4) then (k false h_1) else (∃ x5 : Int, x5 = (IntKind.i64.wrap (t5_1 + 1)) ∧ (nx1 x5 h_1))))))) else (k true h_1)
def ref01_Same_l1 (t0_1 : Slc) (t1_1 : Slc) (i5 : Int) (k : (Bool) → Heap → Prop) (h : Heap) : Prop :=
  ∃ (I : Int → Heap → Prop) (μ : Int → Heap → Nat), I i5 h ∧ ∀ (t5_1 : Int) (h : Heap), I t5_1 h → ref01_Same_l1b t0_1 t1_1 t5_1 k (fun s h' => I s h' ∧ μ s h' < μ t5_1 h) h
def ref01_Same (p0 : Slc) (p1 : Slc) (k : (Bool) → Heap → Prop) (h : Heap) : Prop :=
  if ((p0.len : Int) != (p1.len : Int)) then (k false h) else (ref01_Same_l1 p0 p1 0 k h)

/-- quaestor quaestorref01.Pick -/
def ref01_Pick_j1 (t5_1 : Int) (k : (Int) → Heap → Prop) (h_1 : Heap) : Prop :=
  k t5_1 h_1
def ref01_Pick (p0 : Int) (p1 : Int) (k : (Int) → Heap → Prop) (h : Heap) : Prop :=
  if (decide (p1 < 1)) then (k 0 h) else (p1 ≠ 0 ∧ (∃ x2 : Int, x2 = (Int.tmod p0 p1) ∧ (if (decide (x2 < 0)) then (∃ x3 : Int, x3 = (IntKind.i64.wrap (x2 + p1)) ∧ (ref01_Pick_j1 x3 k h)) else (ref01_Pick_j1 x2 k h))))

/-- quaestor quaestorref09.zero -/
def ref09_zero (k : (Slc) → Heap → Prop) (h : Heap) : Prop :=
  ∃ (b1 : Nat) (h2 : Heap), (0 : Int) ≤ 128 ∧ (128 : Int) ≤ 128 ∧ (128 : Int) * 1 ≤ 281474976710656 ∧ (128 : Int) ≤ 9223372036854775807 ∧ b1 = h.size ∧ h2 = h.push (.cells (zrow [.int .u8 0] (128 : Int).toNat).toArray 5) ∧ (k (⟨some ⟨b1, 0, none⟩, (128 : Int).toNat, (128 : Int).toNat⟩ : Slc) h2)

/-- (*quaestor quaestorref09.Disk).find -/
def ref09_Disk_find_l1b (t0_1 : Option Addr) (t1_1 : Int) (t5_1 : Int) (k : (Int) → Heap → Prop) (nx1 : (Int) → Heap → Prop) (h_1 : Heap) : Prop :=
  ∃ a1 : Addr, t0_1 = some a1 ∧ (∃ v2 : Slc, cellH h_1 a1 = some (Slc.v v2) ∧ (if (decide (t5_1 < (v2.len : Int))) then (∃ v3 : Slc, cellH h_1 a1 = some (Slc.v v3) ∧ (∃ a4 : Addr, v3.a = some a4 ∧ (0 : Int) ≤ t5_1 ∧ t5_1 < (v3.len : Int) ∧ (∃ v5 : Int, cellH h_1 (a4.add (t5_1.toNat * 6)) = some (.int .i64 v5) ∧ (if (v5 == t1_1) then (k t5_1 h_1) else (∃ x6 : Int, x6 = (IntKind.i64.wrap (t5_1 + 1)) ∧ (nx1 x6 h_1)))))) else (∃ x7 : Int, x7 = (-1) ∧ (k x7 h_1))))
def ref09_Disk_find_l1 (t0_1 : Option Addr) (t1_1 : Int) (i5 : Int) (k : (Int) → Heap → Prop) (h : Heap) : Prop :=
  ∃ (I : Int → Heap → Prop) (μ : Int → Heap → Nat), I i5 h ∧ ∀ (t5_1 : Int) (h : Heap), I t5_1 h → ref09_Disk_find_l1b t0_1 t1_1 t5_1 k (fun s h' => I s h' ∧ μ s h' < μ t5_1 h) h
def ref09_Disk_find (p0 : Option Addr) (p1 : Int) (k : (Int) → Heap → Prop) (h : Heap) : Prop :=
  ref09_Disk_find_l1 p0 p1 0 k h

/-- (*quaestor quaestorref09.Disk).burn -/
def ref09_Disk_burn_j1 (k : (Bool) → Heap → Prop) (h_1 : Heap) : Prop :=
  k false h_1
def ref09_Disk_burn (p0 : Option Addr) (k : (Bool) → Heap → Prop) (h : Heap) : Prop :=
  ∃ a1 : Addr, p0 = some a1 ∧ (∃ v2 : Int, cellH h (a1.add 3) = some (.int .i64 v2) ∧ (∃ h3 : Heap, WrH h (a1.add 3) ∧ h3 = setH h (a1.add 3) (.int .i64 (IntKind.i64.wrap (v2 + 1))) ∧ (∃ v4 : Int, cellH h3 (a1.add 1) = some (.int .i64 v4) ∧ (if (decide (v4 > 0)) then (∃ v5 : Int, cellH h3 (a1.add 1) = some (.int .i64 v5) ∧ (∃ h6 : Heap, WrH h3 (a1.add 1) ∧ h6 = setH h3 (a1.add 1) (.int .i64 (IntKind.i64.wrap (v5 - 1))) ∧ (∃ v7 : Int, cellH h6 (a1.add 1) = some (.int .i64 v7) ∧ (if (v7 == 0) then (∃ h8 : Heap, WrH h6 (a1.add 2) ∧ h8 = setH h6 (a1.add 2) (.bool true) ∧ (k true h8)) else (ref09_Disk_burn_j1 k h6))))) else (ref09_Disk_burn_j1 k h3)))))

/-- (*quaestor quaestorref09.Disk).Write -/
def ref09_Disk_Write_l3b (t0_3 : Option Addr) (t2_3 : Slc) (t10_3 : Int) (t11_3 : Addr) (t12_3 : Int) (k : (Int) → Heap → Prop) (nx3 : (Int) → Heap → Prop) (h_3 : Heap) : Prop :=
  if (decide (t12_3 < (t2_3.len : Int))) then (∃ v15 : Slc, cellH h_3 (t11_3.add 1) = some (Slc.v v15) ∧ (∃ a16 : Addr, t2_3.a = some a16 ∧ (0 : Int) ≤ t12_3 ∧ t12_3 < (t2_3.len : Int) ∧ (∃ v17 : Int, cellH h_3 (a16.add (t12_3.toNat * 1)) = some (.int .u8 v17) ∧ (∃ a18 : Addr, v15.a = some a18 ∧ (0 : Int) ≤ t12_3 ∧ t12_3 < (v15.len : Int) ∧ (∃ h19 : Heap, WrH h_3 (a18.add (t12_3.toNat * 1)) ∧ h19 = setH h_3 (a18.add (t12_3.toNat * 1)) (.int .u8 v17) ∧ (∃ x20 : Int, x20 = (IntKind.i64.wrap (t12_3 + 1)) ∧ (nx3 x20 h19))))))) else (∃ h21 : Heap, WrH h_3 (t11_3.add 3) ∧ h21 = setH h_3 (t11_3.add 3) (.bool false) ∧ (∃ a22 : Addr, t0_3 = some a22 ∧ (∃ v23 : Slc, cellH h21 a22 = some (Slc.v v23) ∧ (∃ v24 : S_quaestorref09_Place, CellsAt h21 t11_3 (S_quaestorref09_Place.cs v24) ∧ (∃ a25 : Addr, v23.a = some a25 ∧ (0 : Int) ≤ t10_3 ∧ t10_3 < (v23.len : Int) ∧ (∃ h26 : Heap, WrsAt h21 (a25.add (t10_3.toNat * 6)) 6 ∧ h26 = setsH h21 (a25.add (t10_3.toNat * 6)) 0 (S_quaestorref09_Place.cs v24) ∧ (ref09_Disk_burn t0_3 (fun (r27 : Bool) h28 => if r27 then (k 10 h28) else (k 0 h28)) h26)))))))
def ref09_Disk_Write_l3 (t0_3 : Option Addr) (t2_3 : Slc) (t10_3 : Int) (t11_3 : Addr) (i12 : Int) (k : (Int) → Heap → Prop) (h : Heap) : Prop :=
  ∃ (I : Int → Heap → Prop) (μ : Int → Heap → Nat), I i12 h ∧ ∀ (t12_3 : Int) (h : Heap), I t12_3 h → ref09_Disk_Write_l3b t0_3 t2_3 t10_3 t11_3 t12_3 k (fun s h' => I s h' ∧ μ s h' < μ t12_3 h) h
def ref09_Disk_Write_j2 (t0_2 : Option Addr) (t2_2 : Slc) (t10_2 : Int) (t11_2 : Addr) (k : (Int) → Heap → Prop) (h_2 : Heap) : Prop :=
  ref09_zero  (fun (r12 : Slc) h13 => ∃ h14 : Heap, WrH h13 (t11_2.add 1) ∧ h14 = setH h13 (t11_2.add 1) (Slc.v r12) ∧ (ref09_Disk_Write_l3 t0_2 t2_2 t10_2 t11_2 0 k h14)) h_2
def ref09_Disk_Write_j1 (t0_1 : Option Addr) (t1_1 : Int) (t2_1 : Slc) (k : (Int) → Heap → Prop) (h_1 : Heap) : Prop :=
  ref09_Disk_find t0_1 t1_1 (fun (r3 : Int) h4 => ∃ a5 : Addr, t0_1 = some a5 ∧ (∃ v6 : Slc, cellH h4 a5 = some (Slc.v v6) ∧ (∃ a7 : Addr, v6.a = some a7 ∧ (0 : Int) ≤ r3 ∧ r3 < (v6.len : Int) ∧ (∃ v8 : S_quaestorref09_Place, CellsAt h4 (a7.add (r3.toNat * 6)) (S_quaestorref09_Place.cs v8) ∧ (∃ (b9 : Nat) (h10 : Heap), b9 = h4.size ∧ h10 = h4.push (.cells (S_quaestorref09_Place.cs (⟨0, (⟨none, 0, 0⟩ : Slc), (⟨none, 0, 0⟩ : Slc), false, false, false⟩ : S_quaestorref09_Place)).toArray 115) ∧ (∃ h11 : Heap, WrsAt h10 (⟨b9, 0, none⟩ : Addr) 6 ∧ h11 = setsH h10 (⟨b9, 0, none⟩ : Addr) 0 (S_quaestorref09_Place.cs v8) ∧ (∃ v29 : Bool, cellH h11 ((⟨b9, 0, none⟩ : Addr).add 5) = some (.bool v29) ∧ (if (!v29) then (∃ v30 : Slc, cellH h11 ((⟨b9, 0, none⟩ : Addr).add 1) = some (Slc.v v30) ∧ (∃ h31 : Heap, WrH h11 ((⟨b9, 0, none⟩ : Addr).add 2) ∧ h31 = setH h11 ((⟨b9, 0, none⟩ : Addr).add 2) (Slc.v v30) ∧ (∃ v32 : Bool, cellH h31 ((⟨b9, 0, none⟩ : Addr).add 3) = some (.bool v32) ∧ (∃ h33 : Heap, WrH h31 ((⟨b9, 0, none⟩ : Addr).add 4) ∧ h33 = setH h31 ((⟨b9, 0, none⟩ : Addr).add 4) (.bool v32) ∧ (∃ h34 : Heap, WrH h33 ((⟨b9, 0, none⟩ : Addr).add 5) ∧ h34 = setH h33 ((⟨b9, 0, none⟩ : Addr).add 5) (.bool true) ∧ (ref09_Disk_Write_j2 t0_1 t2_1 r3 (⟨b9, 0, none⟩ : Addr) k h34)))))) else (ref09_Disk_Write_j2 t0_1 t2_1 r3 (⟨b9, 0, none⟩ : Addr) k h11))))))))) h_1
def ref09_Disk_Write_g5 (t0_5 : Option Addr) (t1_5 : Int) (t2_5 : Slc) (t7_5 : Slc) (t8_5 : Int) (t48_5 : Bool) (k : (Int) → Heap → Prop) (nx4 : (Slc × Int) → Heap → Prop) (h_5 : Heap) : Prop :=
  if t48_5 then (∃ a39 : Addr, t0_5 = some a39 ∧ (∃ v40 : Slc, cellH h_5 a39 = some (Slc.v v40) ∧ (∃ a41 : Addr, v40.a = some a41 ∧ (0 : Int) ≤ t8_5 ∧ t8_5 < (v40.len : Int) ∧ (∃ v42 : S_quaestorref09_Place, CellsAt h_5 (a41.add (t8_5.toNat * 6)) (S_quaestorref09_Place.cs v42) ∧ (∃ (b43 : Nat) (h44 : Heap), b43 = h_5.size ∧ h44 = h_5.push (.cells ((S_quaestorref09_Place.cs v42)).toArray 115) ∧ (App 115 6 64 [.int .i64 0, .slice none 0 0, .slice none 0 0, .bool false, .bool false, .bool false] h44 t7_5 1 ((S_quaestorref09_Place.cs v42)) (fun s45 h46 => ∃ x47 : Int, x47 = (IntKind.i64.wrap (t8_5 + 1)) ∧ (nx4 (s45, x47) h46)))))))) else (∃ x48 : Int, x48 = (t7_5.len : Int) ∧ (ref09_zero  (fun (r49 : Slc) h50 => ref09_zero  (fun (r51 : Slc) h52 => ∃ (b53 : Nat) (h54 : Heap), b53 = h52.size ∧ h54 = h52.push (.cells ((S_quaestorref09_Place.cs (⟨t1_5, r49, r51, false, false, false⟩ : S_quaestorref09_Place))).toArray 115) ∧ (App 115 6 64 [.int .i64 0, .slice none 0 0, .slice none 0 0, .bool false, .bool false, .bool false] h54 t7_5 1 ((S_quaestorref09_Place.cs (⟨t1_5, r49, r51, false, false, false⟩ : S_quaestorref09_Place))) (fun s55 h56 => ∃ a57 : Addr, t0_5 = some a57 ∧ (∃ v58 : Slc, cellH h56 a57 = some (Slc.v v58) ∧ (∃ s59 : Slc, (0 : Int) ≤ x48 ∧ (x48 : Int) ≤ (v58.len : Int) ∧ ((v58.len : Int) : Int) ≤ (v58.cap : Int) ∧ (v58.cap : Int) ≤ (v58.cap : Int) ∧ s59 = subS v58 6 x48.toNat (v58.len : Int).toNat (v58.cap : Int).toNat ∧ (∃ l62 : List Value, SlcAt h56 s59 l62 ∧ App 115 6 64 [.int .i64 0, .slice none 0 0, .slice none 0 0, .bool false, .bool false, .bool false] h56 s55 s59.len l62 (fun s60 h61 => ∃ h63 : Heap, WrH h61 a57 ∧ h63 = setH h61 a57 (Slc.v s60) ∧ (ref09_Disk_Write_j1 t0_5 t1_5 t2_5 k h63)))))))) h50) h_5))
def ref09_Disk_Write_l4b (t0_4 : Option Addr) (t1_4 : Int) (t2_4 : Slc) (t7_4 : Slc) (t8_4 : Int) (k : (Int) → Heap → Prop) (nx4 : (Slc × Int) → Heap → Prop) (h_4 : Heap) : Prop :=
  ∃ a37 : Addr, t0_4 = some a37 ∧ (∃ v38 : Slc, cellH h_4 a37 = some (Slc.v v38) ∧ (if (decide (t8_4 < (v38.len : Int))) then (∃ v64 : Slc, cellH h_4 a37 = some (Slc.v v64) ∧ (∃ a65 : Addr, v64.a = some a65 ∧ (0 : Int) ≤ t8_4 ∧ t8_4 < (v64.len : Int) ∧ (∃ v66 : Int, cellH h_4 (a65.add (t8_4.toNat * 6)) = some (.int .i64 v66) ∧ (ref09_Disk_Write_g5 t0_4 t1_4 t2_4 t7_4 t8_4 (decide (v66 < t1_4)) k nx4 h_4)))) else (ref09_Disk_Write_g5 t0_4 t1_4 t2_4 t7_4 t8_4 false k nx4 h_4)))
def ref09_Disk_Write_l4 (t0_4 : Option Addr) (t1_4 : Int) (t2_4 : Slc) (i7 : Slc) (i8 : Int) (k : (Int) → Heap → Prop) (h : Heap) : Prop :=
  ∃ (I : (Slc × Int) → Heap → Prop) (μ : (Slc × Int) → Heap → Nat), I (i7, i8) h ∧ ∀ (t7_4 : Slc) (t8_4 : Int) (h : Heap), I (t7_4, t8_4) h → ref09_Disk_Write_l4b t0_4 t1_4 t2_4 t7_4 t8_4 k (fun s h' => I s h' ∧ μ s h' < μ (t7_4, t8_4) h) h
def ref09_Disk_Write (p0 : Option Addr) (p1 : Int) (p2 : Slc) (k : (Int) → Heap → Prop) (h : Heap) : Prop :=
  ∃ a1 : Addr, p0 = some a1 ∧ (∃ v2 : Bool, cellH h (a1.add 2) = some (.bool v2) ∧ (if v2 then (k 10 h) else (if ((decide (p1 < 0)) || (decide (p1 ≥ 1024))) then (k 1 h) else (if (decide ((p2.len : Int) > 128)) then (k 3 h) else (ref09_Disk_find p0 p1 (fun (r35 : Int) h36 => if (decide (r35 < 0)) then (ref09_Disk_Write_l4 p0 p1 p2 (⟨none, 0, 0⟩ : Slc) 0 k h36) else (ref09_Disk_Write_j1 p0 p1 p2 k h36)) h)))))

/-- (*quaestor quaestorref09.Disk).Sync -/
def ref09_Disk_Sync_l1b (t0_1 : Option Addr) (t3_1 : Int) (k : (Int) → Heap → Prop) (nx1 : (Int) → Heap → Prop) (h_1 : Heap) : Prop :=
  ∃ a5 : Addr, t0_1 = some a5 ∧ (∃ v6 : Slc, cellH h_1 a5 = some (Slc.v v6) ∧ (if (decide (t3_1 < (v6.len : Int))) then (∃ v7 : Slc, cellH h_1 a5 = some (Slc.v v7) ∧ (∃ a8 : Addr, v7.a = some a8 ∧ (0 : Int) ≤ t3_1 ∧ t3_1 < (v7.len : Int) ∧ (∃ h9 : Heap, WrH h_1 ((a8.add (t3_1.toNat * 6)).add 5) ∧ h9 = setH h_1 ((a8.add (t3_1.toNat * 6)).add 5) (.bool false) ∧ (∃ x10 : Int, x10 = (IntKind.i64.wrap (t3_1 + 1)) ∧ (nx1 x10 h9))))) else (k 0 h_1)))
def ref09_Disk_Sync_l1 (t0_1 : Option Addr) (i3 : Int) (k : (Int) → Heap → Prop) (h : Heap) : Prop :=
  ∃ (I : Int → Heap → Prop) (μ : Int → Heap → Nat), I i3 h ∧ ∀ (t3_1 : Int) (h : Heap), I t3_1 h → ref09_Disk_Sync_l1b t0_1 t3_1 k (fun s h' => I s h' ∧ μ s h' < μ t3_1 h) h
def ref09_Disk_Sync (p0 : Option Addr) (k : (Int) → Heap → Prop) (h : Heap) : Prop :=
  ∃ a1 : Addr, p0 = some a1 ∧ (∃ v2 : Bool, cellH h (a1.add 2) = some (.bool v2) ∧ (if v2 then (k 10 h) else (ref09_Disk_burn p0 (fun (r3 : Bool) h4 => if r3 then (k 10 h4) else (ref09_Disk_Sync_l1 p0 0 k h4)) h)))

/-- (*quaestor quaestorref09.Disk).Read -/
def ref09_Disk_Read (p0 : Option Addr) (p1 : Int) (k : (Slc × Int) → Heap → Prop) (h : Heap) : Prop :=
  if ((decide (p1 < 0)) || (decide (p1 ≥ 1024))) then (k ((⟨none, 0, 0⟩ : Slc), 1) h) else (ref09_Disk_find p0 p1 (fun (r1 : Int) h2 => if (decide (r1 < 0)) then (ref09_zero  (fun (r3 : Slc) h4 => k (r3, 0) h4) h2) else (∃ a5 : Addr, p0 = some a5 ∧ (∃ v6 : Slc, cellH h2 a5 = some (Slc.v v6) ∧ (∃ a7 : Addr, v6.a = some a7 ∧ (0 : Int) ≤ r1 ∧ r1 < (v6.len : Int) ∧ (∃ v8 : Bool, cellH h2 ((a7.add (r1.toNat * 6)).add 3) = some (.bool v8) ∧ (if v8 then (k ((⟨none, 0, 0⟩ : Slc), 9) h2) else (∃ v9 : Slc, cellH h2 a5 = some (Slc.v v9) ∧ (∃ a10 : Addr, v9.a = some a10 ∧ (0 : Int) ≤ r1 ∧ r1 < (v9.len : Int) ∧ (∃ v11 : Slc, cellH h2 ((a10.add (r1.toNat * 6)).add 1) = some (Slc.v v11) ∧ (k (v11, 0) h2)))))))))) h)

/-- (*quaestor quaestorref09.Disk).Boot -/
def ref09_Disk_Boot_j2 (t0_2 : Option Addr) (t1_2 : Slc) (t5_2 : Int) (t4_2 : Int) (k : (Unit) → Heap → Prop) (nx1 : (Int × Int) → Heap → Prop) (h_2 : Heap) : Prop :=
  ∃ x3 : Int, x3 = (IntKind.i64.wrap (t5_2 + 1)) ∧ (nx1 (t4_2, x3) h_2)
def ref09_Disk_Boot_j4 (t0_4 : Option Addr) (t1_4 : Slc) (t4_4 : Int) (t5_4 : Int) (t6_4 : Int) (k : (Unit) → Heap → Prop) (nx1 : (Int × Int) → Heap → Prop) (h_4 : Heap) : Prop :=
  if (t6_4 == 2) then (∃ a12 : Addr, t0_4 = some a12 ∧ (∃ v13 : Slc, cellH h_4 a12 = some (Slc.v v13) ∧ (∃ a14 : Addr, v13.a = some a14 ∧ (0 : Int) ≤ t5_4 ∧ t5_4 < (v13.len : Int) ∧ (∃ h15 : Heap, WrH h_4 ((a14.add (t5_4.toNat * 6)).add 3) ∧ h15 = setH h_4 ((a14.add (t5_4.toNat * 6)).add 3) (.bool true) ∧ (ref09_Disk_Boot_j2 t0_4 t1_4 t5_4 t4_4 k nx1 h15))))) else (ref09_Disk_Boot_j2 t0_4 t1_4 t5_4 t4_4 k nx1 h_4)
def ref09_Disk_Boot_j3 (t0_3 : Option Addr) (t1_3 : Slc) (t4_3 : Int) (t5_3 : Int) (t6_3 : Int) (k : (Unit) → Heap → Prop) (nx1 : (Int × Int) → Heap → Prop) (h_3 : Heap) : Prop :=
  ∃ x7 : Int, x7 = (IntKind.i64.wrap (t4_3 + 1)) ∧ (∃ a8 : Addr, t0_3 = some a8 ∧ (∃ v9 : Slc, cellH h_3 a8 = some (Slc.v v9) ∧ (∃ a10 : Addr, v9.a = some a10 ∧ (0 : Int) ≤ t5_3 ∧ t5_3 < (v9.len : Int) ∧ (∃ h11 : Heap, WrH h_3 ((a10.add (t5_3.toNat * 6)).add 5) ∧ h11 = setH h_3 ((a10.add (t5_3.toNat * 6)).add 5) (.bool false) ∧ (if (t6_3 == 0) then (∃ v16 : Slc, cellH h11 a8 = some (Slc.v v16) ∧ (∃ v17 : Slc, cellH h11 a8 = some (Slc.v v17) ∧ (∃ a18 : Addr, v17.a = some a18 ∧ (0 : Int) ≤ t5_3 ∧ t5_3 < (v17.len : Int) ∧ (∃ v19 : Slc, cellH h11 ((a18.add (t5_3.toNat * 6)).add 2) = some (Slc.v v19) ∧ (∃ a20 : Addr, v16.a = some a20 ∧ (0 : Int) ≤ t5_3 ∧ t5_3 < (v16.len : Int) ∧ (∃ h21 : Heap, WrH h11 ((a20.add (t5_3.toNat * 6)).add 1) ∧ h21 = setH h11 ((a20.add (t5_3.toNat * 6)).add 1) (Slc.v v19) ∧ (∃ v22 : Slc, cellH h21 a8 = some (Slc.v v22) ∧ (∃ v23 : Slc, cellH h21 a8 = some (Slc.v v23) ∧ (∃ a24 : Addr, v23.a = some a24 ∧ (0 : Int) ≤ t5_3 ∧ t5_3 < (v23.len : Int) ∧ (∃ v25 : Bool, cellH h21 ((a24.add (t5_3.toNat * 6)).add 4) = some (.bool v25) ∧ (∃ a26 : Addr, v22.a = some a26 ∧ (0 : Int) ≤ t5_3 ∧ t5_3 < (v22.len : Int) ∧ (∃ h27 : Heap, WrH h21 ((a26.add (t5_3.toNat * 6)).add 3) ∧ h27 = setH h21 ((a26.add (t5_3.toNat * 6)).add 3) (.bool v25) ∧ (ref09_Disk_Boot_j4 t0_3 t1_3 x7 t5_3 t6_3 k nx1 h27))))))))))))) else (ref09_Disk_Boot_j4 t0_3 t1_3 x7 t5_3 t6_3 k nx1 h11))))))
def ref09_Disk_Boot_l1b (t0_1 : Option Addr) (t1_1 : Slc) (t4_1 : Int) (t5_1 : Int) (k : (Unit) → Heap → Prop) (nx1 : (Int × Int) → Heap → Prop) (h_1 : Heap) : Prop :=
  ∃ a1 : Addr, t0_1 = some a1 ∧ (∃ v2 : Slc, cellH h_1 a1 = some (Slc.v v2) ∧ (if (decide (t5_1 < (v2.len : Int))) then (∃ v4 : Slc, cellH h_1 a1 = some (Slc.v v4) ∧ (∃ a5 : Addr, v4.a = some a5 ∧ (0 : Int) ≤ t5_1 ∧ t5_1 < (v4.len : Int) ∧ (∃ v6 : Bool, cellH h_1 ((a5.add (t5_1.toNat * 6)).add 5) = some (.bool v6) ∧ (if (!v6) then (ref09_Disk_Boot_j2 t0_1 t1_1 t5_1 t4_1 k nx1 h_1) else (if (decide ((t1_1.len : Int) > 0)) then ((t1_1.len : Int) ≠ 0 ∧ (∃ a29 : Addr, t1_1.a = some a29 ∧ (0 : Int) ≤ (Int.tmod t4_1 (t1_1.len : Int)) ∧ (Int.tmod t4_1 (t1_1.len : Int)) < (t1_1.len : Int) ∧ (∃ v30 : Int, cellH h_1 (a29.add ((Int.tmod t4_1 (t1_1.len : Int)).toNat * 1)) = some (.int .u8 v30) ∧ (∃ x31 : Int, x31 = (Int.tmod v30 3) ∧ (ref09_Disk_Boot_j3 t0_1 t1_1 t4_1 t5_1 x31 k nx1 h_1))))) else (ref09_Disk_Boot_j3 t0_1 t1_1 t4_1 t5_1 0 k nx1 h_1)))))) else (∃ h32 : Heap, WrH h_1 (a1.add 1) ∧ h32 = setH h_1 (a1.add 1) (.int .i64 0) ∧ (∃ h33 : Heap, WrH h32 (a1.add 2) ∧ h33 = setH h32 (a1.add 2) (.bool false) ∧ (k () h33)))))
def ref09_Disk_Boot_l1 (t0_1 : Option Addr) (t1_1 : Slc) (i4 : Int) (i5 : Int) (k : (Unit) → Heap → Prop) (h : Heap) : Prop :=
  ∃ (I : (Int × Int) → Heap → Prop) (μ : (Int × Int) → Heap → Nat), I (i4, i5) h ∧ ∀ (t4_1 : Int) (t5_1 : Int) (h : Heap), I (t4_1, t5_1) h → ref09_Disk_Boot_l1b t0_1 t1_1 t4_1 t5_1 k (fun s h' => I s h' ∧ μ s h' < μ (t4_1, t5_1) h) h
def ref09_Disk_Boot (p0 : Option Addr) (p1 : Slc) (k : (Unit) → Heap → Prop) (h : Heap) : Prop :=
  ref09_Disk_Boot_l1 p0 p1 0 0 k h

/-- (*quaestor quaestorref09.Disk).Copy -/
def ref09_Disk_Copy (p0 : Option Addr) (k : (Option Addr) → Heap → Prop) (h : Heap) : Prop :=
  ∃ a1 : Addr, p0 = some a1 ∧ (∃ v2 : Slc, cellH h a1 = some (Slc.v v2) ∧ (∃ v3 : Int, cellH h (a1.add 1) = some (.int .i64 v3) ∧ (∃ v4 : Bool, cellH h (a1.add 2) = some (.bool v4) ∧ (∃ v5 : Int, cellH h (a1.add 3) = some (.int .i64 v5) ∧ (∃ (b6 : Nat) (h7 : Heap), b6 = h.size ∧ h7 = h.push (.cells ([]).toArray 115) ∧ (cellH h7 (a1.add 3) = some (.int .i64 v5) ∧ cellH h7 (a1.add 2) = some (.bool v4) ∧ cellH h7 (a1.add 1) = some (.int .i64 v3) ∧ cellH h7 a1 = some (Slc.v v2) ∧ (∃ l14 : List Value, SlcAt h7 v2 l14 ∧ App 115 6 64 [.int .i64 0, .slice none 0 0, .slice none 0 0, .bool false, .bool false, .bool false] h7 (⟨some ⟨b6, 0, none⟩, 0, 0⟩ : Slc) v2.len l14 (fun s12 h13 => cellH h13 (a1.add 3) = some (.int .i64 v5) ∧ cellH h13 (a1.add 2) = some (.bool v4) ∧ cellH h13 (a1.add 1) = some (.int .i64 v3) ∧ (∃ (b18 : Nat) (h19 : Heap), b18 = h13.size ∧ h19 = h13.push (.cells (S_quaestorref09_Disk.cs (⟨s12, v3, v4, v5⟩ : S_quaestorref09_Disk)).toArray 105) ∧ (k (some (⟨b18, 0, none⟩ : Addr)) h19))))))))))

/-- quaestor quaestorref09.SameAt -/
def ref09_SameAt (p0 : Slc) (p1 : Int) (p2 : Option Addr) (p3 : Int) (k : (Bool) → Heap → Prop) (h : Heap) : Prop :=
  ref09_Disk_Read p2 p3 (fun (r1 : Slc × Int) h2 => ref01_Same p0 r1.1 (fun (r3 : Bool) h4 => k (r3 && (p1 == r1.2)) h4) h2) h

theorem ref01_Same_ok : CallOk Go.Proofs.Try.prog 28 := ⟨_, Go.Proofs.Try.func28, by kernel_rfl, by kernel_rfl⟩
theorem ref01_Same_ref (p0 : Slc) (p1 : Slc) (k : (Bool) → Heap → Prop) (h : Heap) (H : ref01_Same p0 p1 k h) : CallsH Go.Proofs.Try.prog 28 #[Slc.v p0, Slc.v p1] h (fun v h' => ∃ r : Bool, v = .bool r ∧ k r h') := by
  refine f_enter (N := 26) Go.Proofs.Try.func28 rfl rfl rfl (fun w0 => ?_)
  unfold ref01_Same at H
  refine c_weak [(0, Slc.v p0), (1, Slc.v p1)] ⟨rfl, rfl, trivial⟩ ?_
  refine c_seq ?_
  refine c_region ?_
  refine w_p tok rfl rfl rfl ?_
  refine w_end ?_
  refine x_seq ?_
  refine c_seq ?_
  refine c_seq ?_
  refine c_region ?_
  refine w_p tok rfl rfl rfl ?_
  refine w_p tok rfl rfl rfl ?_
  refine w_p tok rfl rfl rfl ?_
  refine w_p tok rfl rfl rfl ?_
  refine w_p tok rfl rfl rfl ?_
  refine w_end ?_
  refine x_seq ?_
  refine c_if H rfl (fun H => ?_) (fun H => ?_)
  ·
    refine c_seq ?_
    refine c_region ?_
    refine w_p tok rfl rfl rfl ?_
    refine w_end ?_
    refine x_seq ?_
    refine c_weak [(4, .bool false)] ⟨rfl, trivial⟩ ?_
    refine c_ret ?_
    refine x_tr ?_
    exact x_ret _ rfl _ rfl ⟨false, rfl, H⟩
  ·
    refine c_skip ?_
    refine x_seq ?_
    refine c_seq ?_
    refine c_seq ?_
    refine c_region ?_
    refine w_p tok rfl rfl rfl ?_
    refine w_end ?_
    refine x_seq ?_
    refine c_block ?_
    obtain ⟨I1, μ1, H0, HI⟩ := H
    refine c_loop (σ := Int) (fun (s : Int) => [(5, .int .i64 s), (0, Slc.v p0), (1, Slc.v p1)]) I1 μ1 0 H0 ⟨rfl, rfl, rfl, trivial⟩ ?_
    rintro t5_1 h_1 H
    replace H := HI t5_1 h_1 H
    unfold ref01_Same_l1b at H
    refine c_weak [(5, .int .i64 t5_1), (0, Slc.v p0), (1, Slc.v p1)] ⟨rfl, rfl, rfl, trivial⟩ ?_
    refine c_seq ?_
    refine c_seq ?_
    refine c_region ?_
    refine w_p tok rfl rfl rfl ?_
    refine w_p tok rfl rfl rfl ?_
    refine w_p tok rfl rfl rfl ?_
    refine w_p tok rfl rfl rfl ?_
    refine w_end ?_
    refine x_seq ?_
    refine c_if H rfl (fun H => ?_) (fun H => ?_)
    ·
      refine c_skip ?_
      refine x_seq ?_
      refine c_seq ?_
      refine c_block ?_
      refine c_seq ?_
      refine c_draw (by kernel_rfl) (by kernel_rfl) ?_
      refine q_p tok rfl rfl rfl ?_
      refine q_p tok rfl rfl rfl ?_
      obtain ⟨a1, ha1, la1, ua1, H⟩ := H
      refine q_y (y_ixa' tok rfl rfl ha1 rfl rfl rfl la1 ua1) rfl rfl ?_
      obtain ⟨v2, hv2, H⟩ := H
      refine q_y (y_ld tok rfl rfl rfl rfl hv2) rfl rfl ?_
      refine q_p tok rfl rfl rfl ?_
      refine q_p tok rfl rfl rfl ?_
      obtain ⟨a3, ha3, la3, ua3, H⟩ := H
      refine q_y (y_ixa' tok rfl rfl ha3 rfl rfl rfl la3 ua3) rfl rfl ?_
      obtain ⟨v4, hv4, H⟩ := H
      refine q_y (y_ld tok rfl rfl rfl rfl hv4) rfl rfl ?_
      refine q_p tok rfl rfl rfl ?_
      refine q_end ?_
      refine x_seq ?_
      refine c_weak [(5, .int .i64 t5_1), (0, Slc.v p0), (1, Slc.v p1), (25, .bool (v2 != v4))] ⟨rfl, rfl, rfl, rfl, trivial⟩ ?_
      refine c_if H rfl (fun H => ?_) (fun H => ?_)
      ·
        refine c_seq ?_
        refine c_region ?_
        refine w_p tok rfl rfl rfl ?_
        refine w_end ?_
        refine x_seq ?_
        refine c_ret ?_
        refine x_br ?_
        refine x_tr ?_
        refine x_tr ?_
        refine x_br ?_
        refine x_tr ?_
        exact x_ret _ rfl _ rfl ⟨false, rfl, H⟩
      ·
        refine c_skip ?_
        refine x_blk ?_
        refine x_seq ?_
        refine c_region ?_
        refine w_p tok rfl rfl rfl ?_
        refine w_p tok rfl rfl rfl ?_
        obtain ⟨x5, ex5, H⟩ := H
        refine w_pe tok rfl (congrArg (fun z => (.int .i64 z : Value)) ex5) rfl rfl ?_
        refine w_end ?_
        exact x_join x5 H ⟨rfl, rfl, rfl, trivial⟩
    ·
      refine c_exit ?_
      refine x_te ?_
      refine x_te ?_
      refine x_bh ?_
      refine x_seq ?_
      refine c_weak [] trivial ?_
      refine c_seq ?_
      refine c_region ?_
      refine w_p tok rfl rfl rfl ?_
      refine w_end ?_
      refine x_seq ?_
      refine c_ret ?_
      exact x_ret _ rfl _ rfl ⟨true, rfl, H⟩

theorem ref01_Pick_ok : CallOk Go.Proofs.Try.prog 39 := ⟨_, Go.Proofs.Try.func39, by kernel_rfl, by kernel_rfl⟩
theorem ref01_Pick_ref (p0 : Int) (p1 : Int) (k : (Int) → Heap → Prop) (h : Heap) (H : ref01_Pick p0 p1 k h) : CallsH Go.Proofs.Try.prog 39 #[.int .i64 p0, .int .i64 p1] h (fun v h' => ∃ r : Int, v = .int .i64 r ∧ k r h') := by
  refine f_enter (N := 17) Go.Proofs.Try.func39 rfl rfl rfl (fun w0 => ?_)
  unfold ref01_Pick at H
  refine c_weak [(0, .int .i64 p0), (1, .int .i64 p1)] ⟨rfl, rfl, trivial⟩ ?_
  refine c_seq ?_
  refine c_region ?_
  refine w_p tok rfl rfl rfl ?_
  refine w_end ?_
  refine x_seq ?_
  refine c_seq ?_
  refine c_seq ?_
  refine c_region ?_
  refine w_p tok rfl rfl rfl ?_
  refine w_p tok rfl rfl rfl ?_
  refine w_end ?_
  refine x_seq ?_
  refine c_if H rfl (fun H => ?_) (fun H => ?_)
  ·
    refine c_seq ?_
    refine c_region ?_
    refine w_p tok rfl rfl rfl ?_
    refine w_end ?_
    refine x_seq ?_
    refine c_ret ?_
    refine x_tr ?_
    exact x_ret _ rfl _ rfl ⟨0, rfl, H⟩
  ·
    refine c_skip ?_
    refine x_seq ?_
    refine c_seq ?_
    refine c_region ?_
    refine w_p tok rfl rfl rfl ?_
    refine w_p tok rfl rfl rfl ?_
    obtain ⟨z1, H⟩ := H
    refine w_y (y_rem rfl rfl rfl z1) rfl rfl ?_
    obtain ⟨x2, ex2, H⟩ := H
    refine w_pe tok rfl (congrArg (fun z => (.int .i64 z : Value)) ex2) rfl rfl ?_
    refine w_end ?_
    refine x_seq ?_
    refine c_weak [(1, .int .i64 p1), (5, .int .i64 x2)] ⟨rfl, rfl, trivial⟩ ?_
    refine c_seqJ (α := Int) (fun (s : Int) => [(5, .int .i64 s)]) (fun (s : Int) h => ref01_Pick_j1 s k h) ?_ ?_
    ·
      rintro t5_1 h_1 H
      replace H : ref01_Pick_j1 t5_1 k h_1 := H
      unfold ref01_Pick_j1 at H
      refine c_weak [(5, .int .i64 t5_1)] ⟨rfl, trivial⟩ ?_
      refine c_seq ?_
      refine c_region ?_
      refine w_p tok rfl rfl rfl ?_
      refine w_p tok rfl rfl rfl ?_
      refine w_end ?_
      refine x_seq ?_
      refine c_ret ?_
      exact x_ret _ rfl _ rfl ⟨t5_1, rfl, H⟩
    ·
      refine c_seq ?_
      refine c_region ?_
      refine w_p tok rfl rfl rfl ?_
      refine w_p tok rfl rfl rfl ?_
      refine w_end ?_
      refine x_seq ?_
      refine c_if H rfl (fun H => ?_) (fun H => ?_)
      ·
        refine c_region ?_
        refine w_p tok rfl rfl rfl ?_
        refine w_p tok rfl rfl rfl ?_
        refine w_p tok rfl rfl rfl ?_
        obtain ⟨x3, ex3, H⟩ := H
        refine w_pe tok rfl (congrArg (fun z => (.int .i64 z : Value)) ex3) rfl rfl ?_
        refine w_end ?_
        exact x_join x3 H ⟨rfl, trivial⟩
      ·
        refine c_skip ?_
        exact x_join x2 H ⟨rfl, trivial⟩

theorem ref09_zero_ok : CallOk Go.Proofs.Try.prog 136 := ⟨_, Go.Proofs.Try.func136, by kernel_rfl, by kernel_rfl⟩
theorem ref09_zero_ref (k : (Slc) → Heap → Prop) (h : Heap) (H : ref09_zero k h) : CallsH Go.Proofs.Try.prog 136 #[] h (fun v h' => ∃ r : Slc, v = Slc.v r ∧ k r h') := by
  refine f_enter (N := 2) Go.Proofs.Try.func136 rfl rfl rfl (fun w0 => ?_)
  unfold ref09_zero at H
  refine c_seq ?_
  refine c_region ?_
  refine w_p tok rfl rfl rfl ?_
  refine w_end ?_
  refine x_seq ?_
  refine c_seq ?_
  refine c_region ?_
  obtain ⟨b1, h2, ph2, qh2, rh2, th2, eb1, eh2, H⟩ := H
  refine w_h (h_mk tok rfl rfl rfl rfl rfl rfl ph2 qh2 rh2 th2 eb1 eh2) rfl rfl ?_
  refine w_p tok rfl rfl rfl ?_
  refine w_end ?_
  refine x_seq ?_
  refine c_ret ?_
  exact x_ret _ rfl _ rfl ⟨(⟨some ⟨b1, 0, none⟩, (128 : Int).toNat, (128 : Int).toNat⟩ : Slc), rfl, H⟩

theorem ref09_Disk_find_ok : CallOk Go.Proofs.Try.prog 135 := ⟨_, Go.Proofs.Try.func135, by kernel_rfl, by kernel_rfl⟩
theorem ref09_Disk_find_ref (p0 : Option Addr) (p1 : Int) (k : (Int) → Heap → Prop) (h : Heap) (H : ref09_Disk_find p0 p1 k h) : CallsH Go.Proofs.Try.prog 135 #[.pointer p0, .int .i64 p1] h (fun v h' => ∃ r : Int, v = .int .i64 r ∧ k r h') := by
  refine f_enter (N := 26) Go.Proofs.Try.func135 rfl rfl rfl (fun w0 => ?_)
  unfold ref09_Disk_find at H
  refine c_weak [(0, .pointer p0), (1, .int .i64 p1)] ⟨rfl, rfl, trivial⟩ ?_
  refine c_seq ?_
  refine c_region ?_
  refine w_p tok rfl rfl rfl ?_
  refine w_end ?_
  refine x_seq ?_
  refine c_seq ?_
  refine c_seq ?_
  refine c_region ?_
  refine w_p tok rfl rfl rfl ?_
  refine w_end ?_
  refine x_seq ?_
  refine c_block ?_
  obtain ⟨I1, μ1, H0, HI⟩ := H
  refine c_loop (σ := Int) (fun (s : Int) => [(5, .int .i64 s), (0, .pointer p0), (1, .int .i64 p1)]) I1 μ1 0 H0 ⟨rfl, rfl, rfl, trivial⟩ ?_
  rintro t5_1 h_1 H
  replace H := HI t5_1 h_1 H
  unfold ref09_Disk_find_l1b at H
  refine c_weak [(5, .int .i64 t5_1), (0, .pointer p0), (1, .int .i64 p1)] ⟨rfl, rfl, rfl, trivial⟩ ?_
  refine c_seq ?_
  refine c_seq ?_
  refine c_region ?_
  refine w_p tok rfl rfl rfl ?_
  refine w_p tok rfl rfl rfl ?_
  obtain ⟨a1, ha1, H⟩ := H
  refine w_y (y_nil' rfl rfl ha1) rfl rfl ?_
  refine w_p tok rfl rfl rfl ?_
  obtain ⟨v2, hv2, H⟩ := H
  refine w_y (y_ld tok rfl rfl rfl rfl hv2) rfl rfl ?_
  refine w_p tok rfl rfl rfl ?_
  refine w_p tok rfl rfl rfl ?_
  refine w_end ?_
  refine x_seq ?_
  refine c_if H rfl (fun H => ?_) (fun H => ?_)
  ·
    refine c_skip ?_
    refine x_seq ?_
    refine c_weak [(5, .int .i64 t5_1), (0, .pointer p0), (1, .int .i64 p1)] ⟨rfl, rfl, rfl, trivial⟩ ?_
    refine c_seq ?_
    refine c_block ?_
    refine c_seq ?_
    refine c_region ?_
    refine w_p tok rfl rfl rfl ?_
    refine w_y (y_nil' rfl rfl ha1) rfl rfl ?_
    refine w_p tok rfl rfl rfl ?_
    obtain ⟨v3, hv3, H⟩ := H
    refine w_y (y_ld tok rfl rfl rfl rfl hv3) rfl rfl ?_
    refine w_p tok rfl rfl rfl ?_
    obtain ⟨a4, ha4, la4, ua4, H⟩ := H
    refine w_y (y_ixa' tok rfl rfl ha4 rfl rfl rfl la4 ua4) rfl rfl ?_
    refine w_p tok rfl rfl rfl ?_
    obtain ⟨v5, hv5, H⟩ := H
    refine w_y (y_ld tok rfl rfl rfl rfl hv5) rfl rfl ?_
    refine w_p tok rfl rfl rfl ?_
    refine w_p tok rfl rfl rfl ?_
    refine w_end ?_
    refine x_seq ?_
    refine c_weak [(5, .int .i64 t5_1), (0, .pointer p0), (1, .int .i64 p1), (24, .bool (v5 == p1))] ⟨rfl, rfl, rfl, rfl, trivial⟩ ?_
    refine c_if H rfl (fun H => ?_) (fun H => ?_)
    ·
      refine c_seq ?_
      refine c_region ?_
      refine w_p tok rfl rfl rfl ?_
      refine w_p tok rfl rfl rfl ?_
      refine w_end ?_
      refine x_seq ?_
      refine c_ret ?_
      refine x_br ?_
      refine x_tr ?_
      refine x_tr ?_
      refine x_br ?_
      refine x_tr ?_
      exact x_ret _ rfl _ rfl ⟨t5_1, rfl, H⟩
    ·
      refine c_skip ?_
      refine x_blk ?_
      refine x_seq ?_
      refine c_region ?_
      refine w_p tok rfl rfl rfl ?_
      refine w_p tok rfl rfl rfl ?_
      obtain ⟨x6, ex6, H⟩ := H
      refine w_pe tok rfl (congrArg (fun z => (.int .i64 z : Value)) ex6) rfl rfl ?_
      refine w_end ?_
      exact x_join x6 H ⟨rfl, rfl, rfl, trivial⟩
  ·
    refine c_exit ?_
    refine x_te ?_
    refine x_te ?_
    refine x_bh ?_
    refine x_seq ?_
    refine c_weak [] trivial ?_
    refine c_seq ?_
    refine c_region ?_
    obtain ⟨x7, ex7, H⟩ := H
    refine w_pe tok rfl (congrArg (fun z => (.int .i64 z : Value)) ex7) rfl rfl ?_
    refine w_end ?_
    refine x_seq ?_
    refine c_ret ?_
    exact x_ret _ rfl _ rfl ⟨x7, rfl, H⟩

theorem ref09_Disk_burn_ok : CallOk Go.Proofs.Try.prog 183 := ⟨_, Go.Proofs.Try.func183, by kernel_rfl, by kernel_rfl⟩
theorem ref09_Disk_burn_ref (p0 : Option Addr) (k : (Bool) → Heap → Prop) (h : Heap) (H : ref09_Disk_burn p0 k h) : CallsH Go.Proofs.Try.prog 183 #[.pointer p0] h (fun v h' => ∃ r : Bool, v = .bool r ∧ k r h') := by
  refine f_enter (N := 30) Go.Proofs.Try.func183 rfl rfl rfl (fun w0 => ?_)
  unfold ref09_Disk_burn at H
  refine c_weak [(0, .pointer p0)] ⟨rfl, trivial⟩ ?_
  refine c_seq ?_
  refine c_region ?_
  refine w_p tok rfl rfl rfl ?_
  refine w_end ?_
  refine x_seq ?_
  refine c_seq ?_
  refine c_region ?_
  refine w_p tok rfl rfl rfl ?_
  obtain ⟨a1, ha1, H⟩ := H
  refine w_y (y_nil' rfl rfl ha1) rfl rfl ?_
  refine w_p tok rfl rfl rfl ?_
  obtain ⟨v2, hv2, H⟩ := H
  refine w_y (y_ld tok rfl rfl rfl rfl hv2) rfl rfl ?_
  refine w_p tok rfl rfl rfl ?_
  refine w_y (y_nil' rfl rfl ha1) rfl rfl ?_
  refine w_p tok rfl rfl rfl ?_
  obtain ⟨h3, wh3, eh3, H⟩ := H
  refine w_h (h_st tok rfl rfl rfl rfl rfl rfl wh3 eh3) rfl rfl ?_
  refine w_end ?_
  refine x_seq ?_
  refine c_weak [(0, .pointer p0)] ⟨rfl, trivial⟩ ?_
  refine c_seqJ (α := Unit) (fun (s : Unit) => []) (fun (s : Unit) h => ref09_Disk_burn_j1 k h) ?_ ?_
  ·
    rintro _ h_1 H
    replace H : ref09_Disk_burn_j1 k h_1 := H
    unfold ref09_Disk_burn_j1 at H
    refine c_weak [] trivial ?_
    refine c_seq ?_
    refine c_region ?_
    refine w_p tok rfl rfl rfl ?_
    refine w_end ?_
    refine x_seq ?_
    refine c_ret ?_
    exact x_ret _ rfl _ rfl ⟨false, rfl, H⟩
  ·
    refine c_seq ?_
    refine c_region ?_
    refine w_p tok rfl rfl rfl ?_
    refine w_y (y_nil' rfl rfl ha1) rfl rfl ?_
    refine w_p tok rfl rfl rfl ?_
    obtain ⟨v4, hv4, H⟩ := H
    refine w_y (y_ld tok rfl rfl rfl rfl hv4) rfl rfl ?_
    refine w_p tok rfl rfl rfl ?_
    refine w_end ?_
    refine x_seq ?_
    refine c_if H rfl (fun H => ?_) (fun H => ?_)
    ·
      refine c_seq ?_
      refine c_region ?_
      refine w_p tok rfl rfl rfl ?_
      refine w_y (y_nil' rfl rfl ha1) rfl rfl ?_
      refine w_p tok rfl rfl rfl ?_
      obtain ⟨v5, hv5, H⟩ := H
      refine w_y (y_ld tok rfl rfl rfl rfl hv5) rfl rfl ?_
      refine w_p tok rfl rfl rfl ?_
      refine w_y (y_nil' rfl rfl ha1) rfl rfl ?_
      refine w_p tok rfl rfl rfl ?_
      obtain ⟨h6, wh6, eh6, H⟩ := H
      refine w_h (h_st tok rfl rfl rfl rfl rfl rfl wh6 eh6) rfl rfl ?_
      refine w_end ?_
      refine x_seq ?_
      refine c_weak [(0, .pointer p0)] ⟨rfl, trivial⟩ ?_
      refine c_seq ?_
      refine c_region ?_
      refine w_p tok rfl rfl rfl ?_
      refine w_y (y_nil' rfl rfl ha1) rfl rfl ?_
      refine w_p tok rfl rfl rfl ?_
      obtain ⟨v7, hv7, H⟩ := H
      refine w_y (y_ld tok rfl rfl rfl rfl hv7) rfl rfl ?_
      refine w_p tok rfl rfl rfl ?_
      refine w_end ?_
      refine x_seq ?_
      refine c_if H rfl (fun H => ?_) (fun H => ?_)
      ·
        refine c_seq ?_
        refine c_region ?_
        refine w_p tok rfl rfl rfl ?_
        refine w_y (y_nil' rfl rfl ha1) rfl rfl ?_
        refine w_p tok rfl rfl rfl ?_
        obtain ⟨h8, wh8, eh8, H⟩ := H
        refine w_h (h_st tok rfl rfl rfl rfl rfl rfl wh8 eh8) rfl rfl ?_
        refine w_end ?_
        refine x_seq ?_
        refine c_weak [] trivial ?_
        refine c_seq ?_
        refine c_region ?_
        refine w_p tok rfl rfl rfl ?_
        refine w_end ?_
        refine x_seq ?_
        refine c_ret ?_
        refine x_tr ?_
        exact x_ret _ rfl _ rfl ⟨true, rfl, H⟩
      ·
        refine c_skip ?_
        exact x_join () H trivial
    ·
      refine c_skip ?_
      exact x_join () H trivial

theorem ref09_Disk_Write_ok : CallOk Go.Proofs.Try.prog 131 := ⟨_, Go.Proofs.Try.func131, by kernel_rfl, by kernel_rfl⟩
theorem ref09_Disk_Write_ref (p0 : Option Addr) (p1 : Int) (p2 : Slc) (k : (Int) → Heap → Prop) (h : Heap) (H : ref09_Disk_Write p0 p1 p2 k h) : CallsH Go.Proofs.Try.prog 131 #[.pointer p0, .int .i64 p1, Slc.v p2] h (fun v h' => ∃ r : Int, v = .int .i64 r ∧ k r h') := by
  refine f_enter (N := 127) Go.Proofs.Try.func131 rfl rfl rfl (fun w0 => ?_)
  unfold ref09_Disk_Write at H
  refine c_weak [(0, .pointer p0), (1, .int .i64 p1), (2, Slc.v p2)] ⟨rfl, rfl, rfl, trivial⟩ ?_
  refine c_seq ?_
  refine c_region ?_
  refine w_p tok rfl rfl rfl ?_
  refine w_end ?_
  refine x_seq ?_
  refine c_seq ?_
  refine c_seq ?_
  refine c_region ?_
  refine w_p tok rfl rfl rfl ?_
  obtain ⟨a1, ha1, H⟩ := H
  refine w_y (y_nil' rfl rfl ha1) rfl rfl ?_
  refine w_p tok rfl rfl rfl ?_
  obtain ⟨v2, hv2, H⟩ := H
  refine w_y (y_ld tok rfl rfl rfl rfl hv2) rfl rfl ?_
  refine w_end ?_
  refine x_seq ?_
  refine c_if H rfl (fun H => ?_) (fun H => ?_)
  ·
    refine c_seq ?_
    refine c_region ?_
    refine w_p tok rfl rfl rfl ?_
    refine w_end ?_
    refine x_seq ?_
    refine c_weak [(6, .int .i64 10)] ⟨rfl, trivial⟩ ?_
    refine c_ret ?_
    refine x_tr ?_
    exact x_ret _ rfl _ rfl ⟨10, rfl, H⟩
  ·
    refine c_skip ?_
    refine x_seq ?_
    refine c_seq ?_
    refine c_seq ?_
    refine c_region ?_
    refine w_p tok rfl rfl rfl ?_
    refine w_p tok rfl rfl rfl ?_
    refine w_p tok rfl rfl rfl ?_
    refine w_cutU 3 [(22, .bool ((decide (p1 < 0)) || (decide (p1 ≥ 1024)))), (0, .pointer p0), (1, .int .i64 p1), (2, Slc.v p2)] ?_ ?_
    ·
      refine w_end ?_
      refine x_seq ?_
      refine c_if H rfl (fun H => ?_) (fun H => ?_)
      ·
        refine c_seq ?_
        refine c_region ?_
        refine w_p tok rfl rfl rfl ?_
        refine w_end ?_
        refine x_seq ?_
        refine c_ret ?_
        refine x_tr ?_
        exact x_ret _ rfl _ rfl ⟨1, rfl, H⟩
      ·
        refine c_skip ?_
        refine x_seq ?_
        refine c_seq ?_
        refine c_seq ?_
        refine c_region ?_
        refine w_p tok rfl rfl rfl ?_
        refine w_p tok rfl rfl rfl ?_
        refine w_p tok rfl rfl rfl ?_
        refine w_end ?_
        refine x_seq ?_
        refine c_if H rfl (fun H => ?_) (fun H => ?_)
        ·
          refine c_seq ?_
          refine c_region ?_
          refine w_p tok rfl rfl rfl ?_
          refine w_end ?_
          refine x_seq ?_
          refine c_weak [(6, .int .i64 3)] ⟨rfl, trivial⟩ ?_
          refine c_ret ?_
          refine x_tr ?_
          exact x_ret _ rfl _ rfl ⟨3, rfl, H⟩
        ·
          refine c_skip ?_
          refine x_seq ?_
          refine c_seqJ (α := Unit) (fun (s : Unit) => [(0, .pointer p0), (1, .int .i64 p1), (2, Slc.v p2)]) (fun (s : Unit) h => ref09_Disk_Write_j1 p0 p1 p2 k h) ?_ ?_
          ·
            rintro _ h_1 H
            replace H : ref09_Disk_Write_j1 p0 p1 p2 k h_1 := H
            unfold ref09_Disk_Write_j1 at H
            refine c_weak [(0, .pointer p0), (1, .int .i64 p1), (2, Slc.v p2)] ⟨rfl, rfl, rfl, trivial⟩ ?_
            refine c_seq ?_
            refine c_region ?_
            refine w_p tok rfl rfl rfl ?_
            refine w_p tok rfl rfl rfl ?_
            refine w_call ref09_Disk_find_ok (ref09_Disk_find_ref _ _ _ _ H) rfl rfl rfl rfl ?_
            rintro _ h4 ⟨r3, rfl, H⟩
            refine w_p tok rfl rfl rfl ?_
            refine w_end ?_
            refine x_seq ?_
            refine c_seq ?_
            refine c_region ?_
            refine w_p tok rfl rfl rfl ?_
            obtain ⟨a5, ha5, H⟩ := H
            refine w_y (y_nil' rfl rfl ha5) rfl rfl ?_
            refine w_p tok rfl rfl rfl ?_
            obtain ⟨v6, hv6, H⟩ := H
            refine w_y (y_ld tok rfl rfl rfl rfl hv6) rfl rfl ?_
            refine w_p tok rfl rfl rfl ?_
            obtain ⟨a7, ha7, la7, ua7, H⟩ := H
            refine w_y (y_ixa' tok rfl rfl ha7 rfl rfl rfl la7 ua7) rfl rfl ?_
            obtain ⟨v8, hv8, H⟩ := H
            refine w_y (y_lda tok rfl rfl rfl rfl rfl hv8) rfl rfl ?_
            obtain ⟨b9, h10, eb9, eh10, H⟩ := H
            refine w_h (h_alloc tok rfl rfl eb9 eh10) rfl rfl ?_
            obtain ⟨h11, wh11, eh11, H⟩ := H
            refine w_h (h_sts tok rfl rfl rfl rfl rfl (oneC (by kernel_rfl)) wh11 eh11) rfl rfl ?_
            refine w_end ?_
            refine x_seq ?_
            refine c_weak [(0, .pointer p0), (2, Slc.v p2), (10, .int .i64 r3), (11, .pointer (some (⟨b9, 0, none⟩ : Addr)))] ⟨rfl, rfl, rfl, rfl, trivial⟩ ?_
            refine c_seqJ (α := Unit) (fun (s : Unit) => [(0, .pointer p0), (2, Slc.v p2), (10, .int .i64 r3), (11, .pointer (some (⟨b9, 0, none⟩ : Addr)))]) (fun (s : Unit) h => ref09_Disk_Write_j2 p0 p2 r3 (⟨b9, 0, none⟩ : Addr) k h) ?_ ?_
            ·
              rintro _ h_2 H
              replace H : ref09_Disk_Write_j2 p0 p2 r3 (⟨b9, 0, none⟩ : Addr) k h_2 := H
              unfold ref09_Disk_Write_j2 at H
              refine c_weak [(0, .pointer p0), (2, Slc.v p2), (10, .int .i64 r3), (11, .pointer (some (⟨b9, 0, none⟩ : Addr)))] ⟨rfl, rfl, rfl, rfl, trivial⟩ ?_
              refine c_seq ?_
              refine c_region ?_
              refine w_call ref09_zero_ok (ref09_zero_ref  _ _ H) rfl rfl rfl rfl ?_
              rintro _ h13 ⟨r12, rfl, H⟩
              refine w_p tok rfl rfl rfl ?_
              obtain ⟨h14, wh14, eh14, H⟩ := H
              refine w_h (h_st tok rfl rfl rfl rfl rfl rfl wh14 eh14) rfl rfl ?_
              refine w_end ?_
              refine x_seq ?_
              refine c_seq ?_
              refine c_seq ?_
              refine c_region ?_
              refine w_p tok rfl rfl rfl ?_
              refine w_end ?_
              refine x_seq ?_
              refine c_block ?_
              obtain ⟨I3, μ3, H0, HI⟩ := H
              refine c_loop (σ := Int) (fun (s : Int) => [(12, .int .i64 s), (0, .pointer p0), (2, Slc.v p2), (10, .int .i64 r3), (11, .pointer (some (⟨b9, 0, none⟩ : Addr)))]) I3 μ3 0 H0 ⟨rfl, rfl, rfl, rfl, rfl, trivial⟩ ?_
              rintro t12_3 h_3 H
              replace H := HI t12_3 h_3 H
              unfold ref09_Disk_Write_l3b at H
              refine c_weak [(12, .int .i64 t12_3), (0, .pointer p0), (2, Slc.v p2), (10, .int .i64 r3), (11, .pointer (some (⟨b9, 0, none⟩ : Addr)))] ⟨rfl, rfl, rfl, rfl, rfl, trivial⟩ ?_
              refine c_seq ?_
              refine c_seq ?_
              refine c_region ?_
              refine w_p tok rfl rfl rfl ?_
              refine w_p tok rfl rfl rfl ?_
              refine w_p tok rfl rfl rfl ?_
              refine w_p tok rfl rfl rfl ?_
              refine w_end ?_
              refine x_seq ?_
              refine c_if H rfl (fun H => ?_) (fun H => ?_)
              ·
                refine c_skip ?_
                refine x_seq ?_
                refine c_seq ?_
                refine c_block ?_
                refine c_sim [(0, .pointer p0), (2, Slc.v p2), (10, .int .i64 r3), (11, .pointer (some (⟨b9, 0, none⟩ : Addr))), (12, .int .i64 t12_3)] (by kernel_rfl) (by kernel_rfl) ⟨rfl, rfl, rfl, rfl, rfl, trivial⟩ (fun wf => ?_)
                refine sim_p 0 (ei := [(11, .pointer (some (⟨b9, 0, none⟩ : Addr)))]) (d := (some 109)) wf (by kernel_rfl) ⟨rfl, trivial⟩ (by kernel_rfl) (by kernel_rfl) (fun _ => pf_p tok rfl rfl rfl rfl) (fun P_0 => ?_)
                obtain ⟨v15, hv15, H⟩ := H
                refine sim_l 1 (ei := [(109, .pointer (some ((⟨b9, 0, none⟩ : Addr).add 1)))]) (d := (some 110)) wf (by kernel_rfl) ⟨rfl, trivial⟩ (by kernel_rfl) (by kernel_rfl) (pf_y rfl rfl rfl (y_ld tok rfl rfl rfl rfl hv15)) (fun P_1 => ?_)
                refine sim_p 2 (ei := [(12, .int .i64 t12_3)]) (d := (some 111)) wf (by kernel_rfl) ⟨rfl, trivial⟩ (by kernel_rfl) (by kernel_rfl) (fun _ => pf_p tok rfl rfl rfl rfl) (fun P_2 => ?_)
                refine sim_p 3 (ei := [(2, Slc.v p2)]) (d := (some 112)) wf (by kernel_rfl) ⟨rfl, trivial⟩ (by kernel_rfl) (by kernel_rfl) (fun _ => pf_p tok rfl rfl rfl rfl) (fun P_3 => ?_)
                refine sim_p 4 (ei := [(12, .int .i64 t12_3)]) (d := (some 113)) wf (by kernel_rfl) ⟨rfl, trivial⟩ (by kernel_rfl) (by kernel_rfl) (fun _ => pf_p tok rfl rfl rfl rfl) (fun P_4 => ?_)
                obtain ⟨a16, ha16, la16, ua16, H⟩ := H
                refine sim_p 5 (ei := [(112, Slc.v p2), (113, .int .i64 t12_3)]) (d := (some 114)) wf (by kernel_rfl) ⟨rfl, rfl, trivial⟩ (by kernel_rfl) (by kernel_rfl) (fun _ => pf_y rfl rfl rfl (y_ixa' tok rfl rfl ha16 rfl rfl rfl la16 ua16)) (fun P_5 => ?_)
                obtain ⟨v17, hv17, H⟩ := H
                refine sim_l 6 (ei := [(114, .pointer (some (a16.add (t12_3.toNat * 1))))]) (d := (some 115)) wf (by kernel_rfl) ⟨rfl, trivial⟩ (by kernel_rfl) (by kernel_rfl) (pf_y rfl rfl rfl (y_ld tok rfl rfl rfl rfl hv17)) (fun P_6 => ?_)
                obtain ⟨a18, ha18, la18, ua18, H⟩ := H
                refine sim_p 7 (ei := [(110, Slc.v v15), (111, .int .i64 t12_3)]) (d := (some 116)) wf (by kernel_rfl) ⟨rfl, rfl, trivial⟩ (by kernel_rfl) (by kernel_rfl) (fun _ => pf_y rfl rfl rfl (y_ixa' tok rfl rfl ha18 rfl rfl rfl la18 ua18)) (fun P_7 => ?_)
                obtain ⟨h19, wh19, eh19, H⟩ := H
                refine sim_h 8 [0, 1, 2, 3, 4, 5, 6, 7] [0, 1, 2, 3, 4, 5, 6, 7] (ei := [(115, .int .u8 v17), (116, .pointer (some (a18.add (t12_3.toNat * 1))))]) wf ⟨P_7 _, P_6, P_5 _, P_4 _, P_3 _, P_2 _, P_1, P_0 _, trivial⟩ (by kernel_rfl) ⟨rfl, rfl, trivial⟩ (by kernel_rfl) rfl rfl rfl (h_st tok rfl rfl rfl rfl rfl rfl wh19 eh19) ?_
                refine sim_end wf ⟨trivial, trivial, trivial, trivial, trivial, trivial, trivial, trivial, trivial⟩ (by kernel_rfl) ?_
                clear wf P_0 P_1 P_2 P_3 P_4 P_5 P_6 P_7
                refine x_blk ?_
                refine x_seq ?_
                refine c_weak [(0, .pointer p0), (2, Slc.v p2), (10, .int .i64 r3), (11, .pointer (some (⟨b9, 0, none⟩ : Addr))), (12, .int .i64 t12_3)] ⟨rfl, rfl, rfl, rfl, rfl, trivial⟩ ?_
                refine c_region ?_
                refine w_p tok rfl rfl rfl ?_
                refine w_p tok rfl rfl rfl ?_
                obtain ⟨x20, ex20, H⟩ := H
                refine w_pe tok rfl (congrArg (fun z => (.int .i64 z : Value)) ex20) rfl rfl ?_
                refine w_end ?_
                exact x_join x20 H ⟨rfl, rfl, rfl, rfl, rfl, trivial⟩
              ·
                refine c_exit ?_
                refine x_te ?_
                refine x_te ?_
                refine x_bh ?_
                refine x_seq ?_
                refine c_seq ?_
                refine c_region ?_
                refine w_p tok rfl rfl rfl ?_
                obtain ⟨h21, wh21, eh21, H⟩ := H
                refine w_h (h_st tok rfl rfl rfl rfl rfl rfl wh21 eh21) rfl rfl ?_
                refine w_end ?_
                refine x_seq ?_
                refine c_weak [(0, .pointer p0), (10, .int .i64 r3), (11, .pointer (some (⟨b9, 0, none⟩ : Addr)))] ⟨rfl, rfl, rfl, trivial⟩ ?_
                refine c_seq ?_
                refine c_sim [(0, .pointer p0), (10, .int .i64 r3), (11, .pointer (some (⟨b9, 0, none⟩ : Addr)))] (by kernel_rfl) (by kernel_rfl) ⟨rfl, rfl, rfl, trivial⟩ (fun wf => ?_)
                refine sim_p 0 (ei := [(0, .pointer p0)]) (d := (some 118)) wf (by kernel_rfl) ⟨rfl, trivial⟩ (by kernel_rfl) (by kernel_rfl) (fun _ => pf_p tok rfl rfl rfl rfl) (fun P_0 => ?_)
                obtain ⟨a22, ha22, H⟩ := H
                refine sim_p 1 (ei := [(118, .pointer p0)]) (d := (some 119)) wf (by kernel_rfl) ⟨rfl, trivial⟩ (by kernel_rfl) (by kernel_rfl) (fun _ => pf_y rfl rfl rfl (y_nil' rfl rfl ha22)) (fun P_1 => ?_)
                refine sim_p 2 (ei := [(119, .pointer (some a22))]) (d := (some 120)) wf (by kernel_rfl) ⟨rfl, trivial⟩ (by kernel_rfl) (by kernel_rfl) (fun _ => pf_p tok rfl rfl rfl rfl) (fun P_2 => ?_)
                obtain ⟨v23, hv23, H⟩ := H
                refine sim_l 3 (ei := [(120, .pointer (some a22))]) (d := (some 121)) wf (by kernel_rfl) ⟨rfl, trivial⟩ (by kernel_rfl) (by kernel_rfl) (pf_y rfl rfl rfl (y_ld tok rfl rfl rfl rfl hv23)) (fun P_3 => ?_)
                refine sim_p 4 (ei := [(10, .int .i64 r3)]) (d := (some 122)) wf (by kernel_rfl) ⟨rfl, trivial⟩ (by kernel_rfl) (by kernel_rfl) (fun _ => pf_p tok rfl rfl rfl rfl) (fun P_4 => ?_)
                obtain ⟨v24, hv24, H⟩ := H
                refine sim_l 5 (ei := [(11, .pointer (some (⟨b9, 0, none⟩ : Addr)))]) (d := (some 123)) wf (by kernel_rfl) ⟨rfl, trivial⟩ (by kernel_rfl) (by kernel_rfl) (pf_y rfl rfl rfl (y_lda tok rfl rfl rfl rfl rfl hv24)) (fun P_5 => ?_)
                obtain ⟨a25, ha25, la25, ua25, H⟩ := H
                refine sim_p 6 (ei := [(121, Slc.v v23), (122, .int .i64 r3)]) (d := (some 124)) wf (by kernel_rfl) ⟨rfl, rfl, trivial⟩ (by kernel_rfl) (by kernel_rfl) (fun _ => pf_y rfl rfl rfl (y_ixa' tok rfl rfl ha25 rfl rfl rfl la25 ua25)) (fun P_6 => ?_)
                obtain ⟨h26, wh26, eh26, H⟩ := H
                refine sim_h 7 [0, 1, 2, 3, 4, 5, 6] [0, 1, 2, 3, 4, 5, 6] (ei := [(123, .agg (S_quaestorref09_Place.cs v24).toArray), (124, .pointer (some (a25.add (r3.toNat * 6))))]) wf ⟨P_6 _, P_5, P_4 _, P_3, P_2 _, P_1 _, P_0 _, trivial⟩ (by kernel_rfl) ⟨rfl, rfl, trivial⟩ (by kernel_rfl) rfl rfl rfl (h_sts tok rfl rfl rfl rfl rfl (oneC (by kernel_rfl)) wh26 eh26) ?_
                refine sim_end wf ⟨trivial, trivial, trivial, trivial, trivial, trivial, trivial, trivial⟩ (by kernel_rfl) ?_
                clear wf P_0 P_1 P_2 P_3 P_4 P_5 P_6
                refine x_seq ?_
                refine c_weak [(0, .pointer p0)] ⟨rfl, trivial⟩ ?_
                refine c_seq ?_
                refine c_seq ?_
                refine c_region ?_
                refine w_p tok rfl rfl rfl ?_
                refine w_call ref09_Disk_burn_ok (ref09_Disk_burn_ref _ _ _ H) rfl rfl rfl rfl ?_
                rintro _ h28 ⟨r27, rfl, H⟩
                refine w_end ?_
                refine x_seq ?_
                refine c_if H rfl (fun H => ?_) (fun H => ?_)
                ·
                  refine c_seq ?_
                  refine c_region ?_
                  refine w_p tok rfl rfl rfl ?_
                  refine w_end ?_
                  refine x_seq ?_
                  refine c_ret ?_
                  refine x_tr ?_
                  exact x_ret _ rfl _ rfl ⟨10, rfl, H⟩
                ·
                  refine c_skip ?_
                  refine x_seq ?_
                  refine c_seq ?_
                  refine c_region ?_
                  refine w_p tok rfl rfl rfl ?_
                  refine w_end ?_
                  refine x_seq ?_
                  refine c_ret ?_
                  exact x_ret _ rfl _ rfl ⟨0, rfl, H⟩
            ·
              refine c_seq ?_
              refine c_region ?_
              refine w_p tok rfl rfl rfl ?_
              obtain ⟨v29, hv29, H⟩ := H
              refine w_y (y_ld tok rfl rfl rfl rfl hv29) rfl rfl ?_
              refine w_p tok rfl rfl rfl ?_
              refine w_end ?_
              refine x_seq ?_
              refine c_if H rfl (fun H => ?_) (fun H => ?_)
              ·
                refine c_seq ?_
                refine c_region ?_
                refine w_p tok rfl rfl rfl ?_
                obtain ⟨v30, hv30, H⟩ := H
                refine w_y (y_ld tok rfl rfl rfl rfl hv30) rfl rfl ?_
                refine w_p tok rfl rfl rfl ?_
                obtain ⟨h31, wh31, eh31, H⟩ := H
                refine w_h (h_st tok rfl rfl rfl rfl rfl rfl wh31 eh31) rfl rfl ?_
                refine w_end ?_
                refine x_seq ?_
                refine c_seq ?_
                refine c_region ?_
                refine w_p tok rfl rfl rfl ?_
                obtain ⟨v32, hv32, H⟩ := H
                refine w_y (y_ld tok rfl rfl rfl rfl hv32) rfl rfl ?_
                refine w_p tok rfl rfl rfl ?_
                obtain ⟨h33, wh33, eh33, H⟩ := H
                refine w_h (h_st tok rfl rfl rfl rfl rfl rfl wh33 eh33) rfl rfl ?_
                refine w_end ?_
                refine x_seq ?_
                refine c_weak [(0, .pointer p0), (2, Slc.v p2), (10, .int .i64 r3), (11, .pointer (some (⟨b9, 0, none⟩ : Addr)))] ⟨rfl, rfl, rfl, rfl, trivial⟩ ?_
                refine c_region ?_
                refine w_p tok rfl rfl rfl ?_
                obtain ⟨h34, wh34, eh34, H⟩ := H
                refine w_h (h_st tok rfl rfl rfl rfl rfl rfl wh34 eh34) rfl rfl ?_
                refine w_end ?_
                exact x_join () H ⟨rfl, rfl, rfl, rfl, trivial⟩
              ·
                refine c_skip ?_
                exact x_join () H ⟨rfl, rfl, rfl, rfl, trivial⟩
          ·
            refine c_seq ?_
            refine c_region ?_
            refine w_p tok rfl rfl rfl ?_
            refine w_p tok rfl rfl rfl ?_
            refine w_call ref09_Disk_find_ok (ref09_Disk_find_ref _ _ _ _ H) rfl rfl rfl rfl ?_
            rintro _ h36 ⟨r35, rfl, H⟩
            refine w_p tok rfl rfl rfl ?_
            refine w_end ?_
            refine x_seq ?_
            refine c_weak [(0, .pointer p0), (1, .int .i64 p1), (2, Slc.v p2), (29, .bool (decide (r35 < 0)))] ⟨rfl, rfl, rfl, rfl, trivial⟩ ?_
            refine c_if H rfl (fun H => ?_) (fun H => ?_)
            ·
              refine c_seq ?_
              refine c_region ?_
              refine w_p tok rfl rfl rfl ?_
              refine w_end ?_
              refine x_seq ?_
              refine c_seq ?_
              refine c_seq ?_
              refine c_region ?_
              refine w_p tok rfl rfl rfl ?_
              refine w_end ?_
              refine x_seq ?_
              refine c_block ?_
              obtain ⟨I4, μ4, H0, HI⟩ := H
              refine c_loop (σ := Slc × Int) (fun (s : Slc × Int) => [(7, Slc.v s.1), (8, .int .i64 s.2), (0, .pointer p0), (1, .int .i64 p1), (2, Slc.v p2)]) I4 μ4 ((⟨none, 0, 0⟩ : Slc), 0) H0 ⟨rfl, rfl, rfl, rfl, rfl, trivial⟩ ?_
              rintro ⟨t7_4, t8_4⟩ h_4 H
              replace H := HI t7_4 t8_4 h_4 H
              unfold ref09_Disk_Write_l4b at H
              refine c_weak [(7, Slc.v t7_4), (8, .int .i64 t8_4), (0, .pointer p0), (1, .int .i64 p1), (2, Slc.v p2)] ⟨rfl, rfl, rfl, rfl, rfl, trivial⟩ ?_
              refine c_seq ?_
              refine c_seq ?_
              refine c_region ?_
              refine w_p tok rfl rfl rfl ?_
              refine w_p tok rfl rfl rfl ?_
              obtain ⟨a37, ha37, H⟩ := H
              refine w_y (y_nil' rfl rfl ha37) rfl rfl ?_
              refine w_p tok rfl rfl rfl ?_
              obtain ⟨v38, hv38, H⟩ := H
              refine w_y (y_ld tok rfl rfl rfl rfl hv38) rfl rfl ?_
              refine w_p tok rfl rfl rfl ?_
              refine w_p tok rfl rfl rfl ?_
              refine w_p tok rfl rfl rfl ?_
              refine w_cut 11 (α := Bool) (fun (s : Bool) => [(48, .bool s), (0, .pointer p0), (1, .int .i64 p1), (2, Slc.v p2), (7, Slc.v t7_4), (8, .int .i64 t8_4)]) (fun (s : Bool) h => ref09_Disk_Write_g5 p0 p1 p2 t7_4 t8_4 s k (fun s h' => I4 s h' ∧ μ4 s h' < μ4 (t7_4, t8_4) h_4) h) ?_ ?_
              ·
                rintro t48_5 h_5 H
                replace H : ref09_Disk_Write_g5 p0 p1 p2 t7_4 t8_4 t48_5 k (fun s h' => I4 s h' ∧ μ4 s h' < μ4 (t7_4, t8_4) h_4) h_5 := H
                unfold ref09_Disk_Write_g5 at H
                refine w_weak [(48, .bool t48_5), (0, .pointer p0), (1, .int .i64 p1), (2, Slc.v p2), (7, Slc.v t7_4), (8, .int .i64 t8_4)] ⟨rfl, rfl, rfl, rfl, rfl, rfl, trivial⟩ ?_
                refine w_end ?_
                refine x_seq ?_
                refine c_if H rfl (fun H => ?_) (fun H => ?_)
                ·
                  refine c_skip ?_
                  refine x_seq ?_
                  refine c_seq ?_
                  refine c_block ?_
                  refine c_region ?_
                  refine w_p tok rfl rfl rfl ?_
                  refine w_p tok rfl rfl rfl ?_
                  obtain ⟨a39, ha39, H⟩ := H
                  refine w_y (y_nil' rfl rfl ha39) rfl rfl ?_
                  refine w_p tok rfl rfl rfl ?_
                  obtain ⟨v40, hv40, H⟩ := H
                  refine w_y (y_ld tok rfl rfl rfl rfl hv40) rfl rfl ?_
                  refine w_p tok rfl rfl rfl ?_
                  obtain ⟨a41, ha41, la41, ua41, H⟩ := H
                  refine w_y (y_ixa' tok rfl rfl ha41 rfl rfl rfl la41 ua41) rfl rfl ?_
                  obtain ⟨v42, hv42, H⟩ := H
                  refine w_y (y_lda tok rfl rfl rfl rfl rfl hv42) rfl rfl ?_
                  obtain ⟨b43, h44, eb43, eh44, H⟩ := H
                  refine w_h (h_bs tok rfl rfl rfl rfl rfl rfl rfl eb43 eh44) rfl rfl ?_
                  refine w_a (a_app (s := t7_4) (r := (⟨some ⟨b43, 0, none⟩, 1, 1⟩ : Slc)) tok rfl rfl rfl rfl rfl (slcAt_push eb43 eh44) H) rfl rfl ?_
                  rintro _ h46 ⟨s45, rfl, H⟩
                  refine w_p tok rfl rfl rfl ?_
                  refine w_end ?_
                  refine x_blk ?_
                  refine x_seq ?_
                  refine c_weak [(0, .pointer p0), (1, .int .i64 p1), (2, Slc.v p2), (7, Slc.v s45), (8, .int .i64 t8_4)] ⟨rfl, rfl, rfl, rfl, rfl, trivial⟩ ?_
                  refine c_region ?_
                  refine w_p tok rfl rfl rfl ?_
                  refine w_p tok rfl rfl rfl ?_
                  obtain ⟨x47, ex47, H⟩ := H
                  refine w_pe tok rfl (congrArg (fun z => (.int .i64 z : Value)) ex47) rfl rfl ?_
                  refine w_end ?_
                  exact x_join (s45, x47) H ⟨rfl, rfl, rfl, rfl, rfl, trivial⟩
                ·
                  refine c_exit ?_
                  refine x_te ?_
                  refine x_te ?_
                  refine x_bh ?_
                  refine x_seq ?_
                  refine c_seq ?_
                  refine c_region ?_
                  refine w_p tok rfl rfl rfl ?_
                  refine w_p tok rfl rfl rfl ?_
                  obtain ⟨x48, ex48, H⟩ := H
                  refine w_pe tok rfl (congrArg (fun z => (.int .i64 z : Value)) ex48) rfl rfl ?_
                  refine w_end ?_
                  refine x_seq ?_
                  refine c_seq ?_
                  refine c_region ?_
                  refine w_p tok rfl rfl rfl ?_
                  refine w_p tok rfl rfl rfl ?_
                  refine w_call ref09_zero_ok (ref09_zero_ref  _ _ H) rfl rfl rfl rfl ?_
                  rintro _ h50 ⟨r49, rfl, H⟩
                  refine w_call ref09_zero_ok (ref09_zero_ref  _ _ H) rfl rfl rfl rfl ?_
                  rintro _ h52 ⟨r51, rfl, H⟩
                  refine w_y (y_build tok rfl rfl rfl rfl rfl) rfl rfl ?_
                  obtain ⟨b53, h54, eb53, eh54, H⟩ := H
                  refine w_h (h_bs tok rfl rfl rfl rfl rfl rfl rfl eb53 eh54) rfl rfl ?_
                  refine w_a (a_app (s := t7_4) (r := (⟨some ⟨b53, 0, none⟩, 1, 1⟩ : Slc)) tok rfl rfl rfl rfl rfl (slcAt_push eb53 eh54) H) rfl rfl ?_
                  rintro _ h56 ⟨s55, rfl, H⟩
                  refine w_p tok rfl rfl rfl ?_
                  refine w_end ?_
                  refine x_seq ?_
                  refine c_weak [(0, .pointer p0), (1, .int .i64 p1), (2, Slc.v p2), (7, Slc.v s55), (9, .int .i64 x48)] ⟨rfl, rfl, rfl, rfl, rfl, trivial⟩ ?_
                  refine c_region ?_
                  refine w_p tok rfl rfl rfl ?_
                  refine w_p tok rfl rfl rfl ?_
                  refine w_p tok rfl rfl rfl ?_
                  obtain ⟨a57, ha57, H⟩ := H
                  refine w_y (y_nil' rfl rfl ha57) rfl rfl ?_
                  refine w_p tok rfl rfl rfl ?_
                  obtain ⟨v58, hv58, H⟩ := H
                  refine w_y (y_ld tok rfl rfl rfl rfl hv58) rfl rfl ?_
                  refine w_p tok rfl rfl rfl ?_
                  obtain ⟨s59, ps59, qs59, rs59, ts59, es59, H⟩ := H
                  refine w_ye (y_sl (s := v58) (L := x48) (H := (v58.len : Int)) (M := (v58.cap : Int)) tok rfl rfl rfl rfl rfl rfl rfl (by simp) ps59 qs59 rs59 ts59) (congrArg Slc.v es59) rfl rfl ?_
                  obtain ⟨l62, hl62, H⟩ := H
                  refine w_a (a_app (s := s55) (r := s59) tok rfl rfl rfl rfl rfl hl62 H) rfl rfl ?_
                  rintro _ h61 ⟨s60, rfl, H⟩
                  refine w_y (y_nil' rfl rfl ha57) rfl rfl ?_
                  refine w_p tok rfl rfl rfl ?_
                  obtain ⟨h63, wh63, eh63, H⟩ := H
                  refine w_h (h_st tok rfl rfl rfl rfl rfl rfl wh63 eh63) rfl rfl ?_
                  refine w_end ?_
                  exact x_join () H ⟨rfl, rfl, rfl, trivial⟩
              ·
                refine w_gif (d := 37) H rfl (fun H => ?_) (fun H => ?_)
                ·
                  refine w_p tok rfl rfl rfl ?_
                  refine w_y (y_nil' rfl rfl ha37) rfl rfl ?_
                  refine w_p tok rfl rfl rfl ?_
                  obtain ⟨v64, hv64, H⟩ := H
                  refine w_y (y_ld tok rfl rfl rfl rfl hv64) rfl rfl ?_
                  refine w_p tok rfl rfl rfl ?_
                  obtain ⟨a65, ha65, la65, ua65, H⟩ := H
                  refine w_y (y_ixa' tok rfl rfl ha65 rfl rfl rfl la65 ua65) rfl rfl ?_
                  refine w_p tok rfl rfl rfl ?_
                  obtain ⟨v66, hv66, H⟩ := H
                  refine w_y (y_ld tok rfl rfl rfl rfl hv66) rfl rfl ?_
                  refine w_p tok rfl rfl rfl ?_
                  refine w_p tok rfl rfl rfl ?_
                  refine w_p tok rfl rfl rfl ?_
                  exact w_jn (decide (v66 < p1)) H ⟨rfl, rfl, rfl, rfl, rfl, rfl, trivial⟩
                ·
                  refine w_skip rfl rfl ?_
                  refine w_skip rfl rfl ?_
                  refine w_skip rfl rfl ?_
                  refine w_skip rfl rfl ?_
                  refine w_skip rfl rfl ?_
                  refine w_skip rfl rfl ?_
                  refine w_skip rfl rfl ?_
                  refine w_skip rfl rfl ?_
                  refine w_skip rfl rfl ?_
                  refine w_skip rfl rfl ?_
                  refine w_p tok rfl rfl rfl ?_
                  exact w_jn false H ⟨rfl, rfl, rfl, rfl, rfl, rfl, trivial⟩
            ·
              refine c_skip ?_
              exact x_join () H ⟨rfl, rfl, rfl, trivial⟩
    ·
      refine w_gs (d := 19) rfl (fun hb => ?_) (fun hb => ?_)
      ·
        refine w_skip rfl rfl ?_
        refine w_skip rfl rfl ?_
        refine w_p tok rfl rfl rfl ?_
        refine w_jn () rfl ⟨?_, rfl, rfl, rfl, trivial⟩
        exact congrArg (fun b => some (Value.bool b)) (or_t hb)
      ·
        refine w_p tok rfl rfl rfl ?_
        refine w_p tok rfl rfl rfl ?_
        refine w_p tok rfl rfl rfl ?_
        refine w_jn () rfl ⟨?_, rfl, rfl, rfl, trivial⟩
        exact congrArg (fun b => some (Value.bool b)) (or_f hb)

theorem ref09_Disk_Sync_ok : CallOk Go.Proofs.Try.prog 129 := ⟨_, Go.Proofs.Try.func129, by kernel_rfl, by kernel_rfl⟩
theorem ref09_Disk_Sync_ref (p0 : Option Addr) (k : (Int) → Heap → Prop) (h : Heap) (H : ref09_Disk_Sync p0 k h) : CallsH Go.Proofs.Try.prog 129 #[.pointer p0] h (fun v h' => ∃ r : Int, v = .int .i64 r ∧ k r h') := by
  refine f_enter (N := 26) Go.Proofs.Try.func129 rfl rfl rfl (fun w0 => ?_)
  unfold ref09_Disk_Sync at H
  refine c_weak [(0, .pointer p0)] ⟨rfl, trivial⟩ ?_
  refine c_seq ?_
  refine c_region ?_
  refine w_p tok rfl rfl rfl ?_
  refine w_end ?_
  refine x_seq ?_
  refine c_seq ?_
  refine c_seq ?_
  refine c_region ?_
  refine w_p tok rfl rfl rfl ?_
  obtain ⟨a1, ha1, H⟩ := H
  refine w_y (y_nil' rfl rfl ha1) rfl rfl ?_
  refine w_p tok rfl rfl rfl ?_
  obtain ⟨v2, hv2, H⟩ := H
  refine w_y (y_ld tok rfl rfl rfl rfl hv2) rfl rfl ?_
  refine w_end ?_
  refine x_seq ?_
  refine c_if H rfl (fun H => ?_) (fun H => ?_)
  ·
    refine c_seq ?_
    refine c_region ?_
    refine w_p tok rfl rfl rfl ?_
    refine w_end ?_
    refine x_seq ?_
    refine c_ret ?_
    refine x_tr ?_
    exact x_ret _ rfl _ rfl ⟨10, rfl, H⟩
  ·
    refine c_skip ?_
    refine x_seq ?_
    refine c_seq ?_
    refine c_seq ?_
    refine c_region ?_
    refine w_p tok rfl rfl rfl ?_
    refine w_call ref09_Disk_burn_ok (ref09_Disk_burn_ref _ _ _ H) rfl rfl rfl rfl ?_
    rintro _ h4 ⟨r3, rfl, H⟩
    refine w_end ?_
    refine x_seq ?_
    refine c_if H rfl (fun H => ?_) (fun H => ?_)
    ·
      refine c_seq ?_
      refine c_region ?_
      refine w_p tok rfl rfl rfl ?_
      refine w_end ?_
      refine x_seq ?_
      refine c_weak [(2, .int .i64 10)] ⟨rfl, trivial⟩ ?_
      refine c_ret ?_
      refine x_tr ?_
      exact x_ret _ rfl _ rfl ⟨10, rfl, H⟩
    ·
      refine c_skip ?_
      refine x_seq ?_
      refine c_weak [(0, .pointer p0)] ⟨rfl, trivial⟩ ?_
      refine c_seq ?_
      refine c_seq ?_
      refine c_region ?_
      refine w_p tok rfl rfl rfl ?_
      refine w_end ?_
      refine x_seq ?_
      refine c_block ?_
      obtain ⟨I1, μ1, H0, HI⟩ := H
      refine c_loop (σ := Int) (fun (s : Int) => [(3, .int .i64 s), (0, .pointer p0)]) I1 μ1 0 H0 ⟨rfl, rfl, trivial⟩ ?_
      rintro t3_1 h_1 H
      replace H := HI t3_1 h_1 H
      unfold ref09_Disk_Sync_l1b at H
      refine c_weak [(3, .int .i64 t3_1), (0, .pointer p0)] ⟨rfl, rfl, trivial⟩ ?_
      refine c_seq ?_
      refine c_seq ?_
      refine c_region ?_
      refine w_p tok rfl rfl rfl ?_
      refine w_p tok rfl rfl rfl ?_
      obtain ⟨a5, ha5, H⟩ := H
      refine w_y (y_nil' rfl rfl ha5) rfl rfl ?_
      refine w_p tok rfl rfl rfl ?_
      obtain ⟨v6, hv6, H⟩ := H
      refine w_y (y_ld tok rfl rfl rfl rfl hv6) rfl rfl ?_
      refine w_p tok rfl rfl rfl ?_
      refine w_p tok rfl rfl rfl ?_
      refine w_end ?_
      refine x_seq ?_
      refine c_if H rfl (fun H => ?_) (fun H => ?_)
      ·
        refine c_skip ?_
        refine x_seq ?_
        refine c_weak [(3, .int .i64 t3_1), (0, .pointer p0)] ⟨rfl, rfl, trivial⟩ ?_
        refine c_seq ?_
        refine c_block ?_
        refine c_region ?_
        refine w_p tok rfl rfl rfl ?_
        refine w_y (y_nil' rfl rfl ha5) rfl rfl ?_
        refine w_p tok rfl rfl rfl ?_
        obtain ⟨v7, hv7, H⟩ := H
        refine w_y (y_ld tok rfl rfl rfl rfl hv7) rfl rfl ?_
        refine w_p tok rfl rfl rfl ?_
        obtain ⟨a8, ha8, la8, ua8, H⟩ := H
        refine w_y (y_ixa' tok rfl rfl ha8 rfl rfl rfl la8 ua8) rfl rfl ?_
        refine w_p tok rfl rfl rfl ?_
        obtain ⟨h9, wh9, eh9, H⟩ := H
        refine w_h (h_st tok rfl rfl rfl rfl rfl rfl wh9 eh9) rfl rfl ?_
        refine w_end ?_
        refine x_blk ?_
        refine x_seq ?_
        refine c_weak [(3, .int .i64 t3_1), (0, .pointer p0)] ⟨rfl, rfl, trivial⟩ ?_
        refine c_region ?_
        refine w_p tok rfl rfl rfl ?_
        refine w_p tok rfl rfl rfl ?_
        obtain ⟨x10, ex10, H⟩ := H
        refine w_pe tok rfl (congrArg (fun z => (.int .i64 z : Value)) ex10) rfl rfl ?_
        refine w_end ?_
        exact x_join x10 H ⟨rfl, rfl, trivial⟩
      ·
        refine c_exit ?_
        refine x_te ?_
        refine x_te ?_
        refine x_bh ?_
        refine x_seq ?_
        refine c_weak [] trivial ?_
        refine c_seq ?_
        refine c_region ?_
        refine w_p tok rfl rfl rfl ?_
        refine w_end ?_
        refine x_seq ?_
        refine c_ret ?_
        exact x_ret _ rfl _ rfl ⟨0, rfl, H⟩

theorem ref09_Disk_Read_ok : CallOk Go.Proofs.Try.prog 66 := ⟨_, Go.Proofs.Try.func66, by kernel_rfl, by kernel_rfl⟩
theorem ref09_Disk_Read_ref (p0 : Option Addr) (p1 : Int) (k : (Slc × Int) → Heap → Prop) (h : Heap) (H : ref09_Disk_Read p0 p1 k h) : CallsH Go.Proofs.Try.prog 66 #[.pointer p0, .int .i64 p1] h (fun v h' => ∃ r : Slc × Int, v = .tuple #[Slc.v r.1, .int .i64 r.2] ∧ k r h') := by
  refine f_enter (N := 35) Go.Proofs.Try.func66 rfl rfl rfl (fun w0 => ?_)
  unfold ref09_Disk_Read at H
  refine c_weak [(0, .pointer p0), (1, .int .i64 p1)] ⟨rfl, rfl, trivial⟩ ?_
  refine c_seq ?_
  refine c_region ?_
  refine w_p tok rfl rfl rfl ?_
  refine w_p tok rfl rfl rfl ?_
  refine w_end ?_
  refine x_seq ?_
  refine c_seq ?_
  refine c_seq ?_
  refine c_region ?_
  refine w_p tok rfl rfl rfl ?_
  refine w_p tok rfl rfl rfl ?_
  refine w_p tok rfl rfl rfl ?_
  refine w_cutU 3 [(12, .bool ((decide (p1 < 0)) || (decide (p1 ≥ 1024)))), (0, .pointer p0), (1, .int .i64 p1)] ?_ ?_
  ·
    refine w_end ?_
    refine x_seq ?_
    refine c_if H rfl (fun H => ?_) (fun H => ?_)
    ·
      refine c_seq ?_
      refine c_region ?_
      refine w_p tok rfl rfl rfl ?_
      refine w_p tok rfl rfl rfl ?_
      refine w_end ?_
      refine x_seq ?_
      refine c_ret ?_
      refine x_tr ?_
      exact x_ret _ rfl _ rfl ⟨((⟨none, 0, 0⟩ : Slc), 1), rfl, H⟩
    ·
      refine c_skip ?_
      refine x_seq ?_
      refine c_seq ?_
      refine c_region ?_
      refine w_p tok rfl rfl rfl ?_
      refine w_p tok rfl rfl rfl ?_
      refine w_call ref09_Disk_find_ok (ref09_Disk_find_ref _ _ _ _ H) rfl rfl rfl rfl ?_
      rintro _ h2 ⟨r1, rfl, H⟩
      refine w_p tok rfl rfl rfl ?_
      refine w_end ?_
      refine x_seq ?_
      refine c_seq ?_
      refine c_seq ?_
      refine c_region ?_
      refine w_p tok rfl rfl rfl ?_
      refine w_p tok rfl rfl rfl ?_
      refine w_end ?_
      refine x_seq ?_
      refine c_if H rfl (fun H => ?_) (fun H => ?_)
      ·
        refine c_seq ?_
        refine c_region ?_
        refine w_call ref09_zero_ok (ref09_zero_ref  _ _ H) rfl rfl rfl rfl ?_
        rintro _ h4 ⟨r3, rfl, H⟩
        refine w_p tok rfl rfl rfl ?_
        refine w_p tok rfl rfl rfl ?_
        refine w_end ?_
        refine x_seq ?_
        refine c_weak [(4, Slc.v r3), (5, .int .i64 0)] ⟨rfl, rfl, trivial⟩ ?_
        refine c_ret ?_
        refine x_tr ?_
        exact x_ret _ rfl _ rfl ⟨(r3, 0), rfl, H⟩
      ·
        refine c_skip ?_
        refine x_seq ?_
        refine c_weak [(0, .pointer p0), (6, .int .i64 r1)] ⟨rfl, rfl, trivial⟩ ?_
        refine c_seq ?_
        refine c_seq ?_
        refine c_region ?_
        refine w_p tok rfl rfl rfl ?_
        obtain ⟨a5, ha5, H⟩ := H
        refine w_y (y_nil' rfl rfl ha5) rfl rfl ?_
        refine w_p tok rfl rfl rfl ?_
        obtain ⟨v6, hv6, H⟩ := H
        refine w_y (y_ld tok rfl rfl rfl rfl hv6) rfl rfl ?_
        refine w_p tok rfl rfl rfl ?_
        obtain ⟨a7, ha7, la7, ua7, H⟩ := H
        refine w_y (y_ixa' tok rfl rfl ha7 rfl rfl rfl la7 ua7) rfl rfl ?_
        refine w_p tok rfl rfl rfl ?_
        obtain ⟨v8, hv8, H⟩ := H
        refine w_y (y_ld tok rfl rfl rfl rfl hv8) rfl rfl ?_
        refine w_end ?_
        refine x_seq ?_
        refine c_weak [(0, .pointer p0), (6, .int .i64 r1), (26, .bool v8)] ⟨rfl, rfl, rfl, trivial⟩ ?_
        refine c_if H rfl (fun H => ?_) (fun H => ?_)
        ·
          refine c_seq ?_
          refine c_region ?_
          refine w_p tok rfl rfl rfl ?_
          refine w_p tok rfl rfl rfl ?_
          refine w_end ?_
          refine x_seq ?_
          refine c_ret ?_
          refine x_tr ?_
          exact x_ret _ rfl _ rfl ⟨((⟨none, 0, 0⟩ : Slc), 9), rfl, H⟩
        ·
          refine c_skip ?_
          refine x_seq ?_
          refine c_seq ?_
          refine c_region ?_
          refine w_p tok rfl rfl rfl ?_
          refine w_y (y_nil' rfl rfl ha5) rfl rfl ?_
          refine w_p tok rfl rfl rfl ?_
          obtain ⟨v9, hv9, H⟩ := H
          refine w_y (y_ld tok rfl rfl rfl rfl hv9) rfl rfl ?_
          refine w_p tok rfl rfl rfl ?_
          obtain ⟨a10, ha10, la10, ua10, H⟩ := H
          refine w_y (y_ixa' tok rfl rfl ha10 rfl rfl rfl la10 ua10) rfl rfl ?_
          refine w_p tok rfl rfl rfl ?_
          obtain ⟨v11, hv11, H⟩ := H
          refine w_y (y_ld tok rfl rfl rfl rfl hv11) rfl rfl ?_
          refine w_p tok rfl rfl rfl ?_
          refine w_p tok rfl rfl rfl ?_
          refine w_end ?_
          refine x_seq ?_
          refine c_weak [(4, Slc.v v11), (5, .int .i64 0)] ⟨rfl, rfl, trivial⟩ ?_
          refine c_ret ?_
          exact x_ret _ rfl _ rfl ⟨(v11, 0), rfl, H⟩
  ·
    refine w_gs (d := 9) rfl (fun hb => ?_) (fun hb => ?_)
    ·
      refine w_skip rfl rfl ?_
      refine w_skip rfl rfl ?_
      refine w_p tok rfl rfl rfl ?_
      refine w_jn () rfl ⟨?_, rfl, rfl, trivial⟩
      exact congrArg (fun b => some (Value.bool b)) (or_t hb)
    ·
      refine w_p tok rfl rfl rfl ?_
      refine w_p tok rfl rfl rfl ?_
      refine w_p tok rfl rfl rfl ?_
      refine w_jn () rfl ⟨?_, rfl, rfl, trivial⟩
      exact congrArg (fun b => some (Value.bool b)) (or_f hb)

theorem ref09_Disk_Boot_ok : CallOk Go.Proofs.Try.prog 130 := ⟨_, Go.Proofs.Try.func130, by kernel_rfl, by kernel_rfl⟩
theorem ref09_Disk_Boot_ref (p0 : Option Addr) (p1 : Slc) (k : (Unit) → Heap → Prop) (h : Heap) (H : ref09_Disk_Boot p0 p1 k h) : CallsH Go.Proofs.Try.prog 130 #[.pointer p0, Slc.v p1] h (fun v h' => ∃ r : Unit, v = .tuple #[] ∧ k r h') := by
  refine f_enter (N := 92) Go.Proofs.Try.func130 rfl rfl rfl (fun w0 => ?_)
  unfold ref09_Disk_Boot at H
  refine c_weak [(0, .pointer p0), (1, Slc.v p1)] ⟨rfl, rfl, trivial⟩ ?_
  refine c_seq ?_
  refine c_region ?_
  refine w_p tok rfl rfl rfl ?_
  refine w_end ?_
  refine x_seq ?_
  refine c_seq ?_
  refine c_seq ?_
  refine c_region ?_
  refine w_p tok rfl rfl rfl ?_
  refine w_end ?_
  refine x_seq ?_
  refine c_block ?_
  obtain ⟨I1, μ1, H0, HI⟩ := H
  refine c_loop (σ := Int × Int) (fun (s : Int × Int) => [(4, .int .i64 s.1), (5, .int .i64 s.2), (0, .pointer p0), (1, Slc.v p1)]) I1 μ1 (0, 0) H0 ⟨rfl, rfl, rfl, rfl, trivial⟩ ?_
  rintro ⟨t4_1, t5_1⟩ h_1 H
  replace H := HI t4_1 t5_1 h_1 H
  unfold ref09_Disk_Boot_l1b at H
  refine c_weak [(4, .int .i64 t4_1), (5, .int .i64 t5_1), (0, .pointer p0), (1, Slc.v p1)] ⟨rfl, rfl, rfl, rfl, trivial⟩ ?_
  refine c_seq ?_
  refine c_seq ?_
  refine c_region ?_
  refine w_p tok rfl rfl rfl ?_
  refine w_p tok rfl rfl rfl ?_
  obtain ⟨a1, ha1, H⟩ := H
  refine w_y (y_nil' rfl rfl ha1) rfl rfl ?_
  refine w_p tok rfl rfl rfl ?_
  obtain ⟨v2, hv2, H⟩ := H
  refine w_y (y_ld tok rfl rfl rfl rfl hv2) rfl rfl ?_
  refine w_p tok rfl rfl rfl ?_
  refine w_p tok rfl rfl rfl ?_
  refine w_end ?_
  refine x_seq ?_
  refine c_if H rfl (fun H => ?_) (fun H => ?_)
  ·
    refine c_skip ?_
    refine x_seq ?_
    refine c_weak [(4, .int .i64 t4_1), (5, .int .i64 t5_1), (0, .pointer p0), (1, Slc.v p1)] ⟨rfl, rfl, rfl, rfl, trivial⟩ ?_
    refine c_seqJ (α := Int) (fun (s : Int) => [(4, .int .i64 s), (0, .pointer p0), (1, Slc.v p1), (5, .int .i64 t5_1)]) (fun (s : Int) h => ref09_Disk_Boot_j2 p0 p1 t5_1 s k (fun s h' => I1 s h' ∧ μ1 s h' < μ1 (t4_1, t5_1) h_1) h) ?_ ?_
    ·
      rintro t4_2 h_2 H
      replace H : ref09_Disk_Boot_j2 p0 p1 t5_1 t4_2 k (fun s h' => I1 s h' ∧ μ1 s h' < μ1 (t4_1, t5_1) h_1) h_2 := H
      unfold ref09_Disk_Boot_j2 at H
      refine c_weak [(4, .int .i64 t4_2), (0, .pointer p0), (1, Slc.v p1), (5, .int .i64 t5_1)] ⟨rfl, rfl, rfl, rfl, trivial⟩ ?_
      refine c_region ?_
      refine w_p tok rfl rfl rfl ?_
      refine w_p tok rfl rfl rfl ?_
      obtain ⟨x3, ex3, H⟩ := H
      refine w_pe tok rfl (congrArg (fun z => (.int .i64 z : Value)) ex3) rfl rfl ?_
      refine w_end ?_
      exact x_join (t4_2, x3) H ⟨rfl, rfl, rfl, rfl, trivial⟩
    ·
      refine c_block ?_
      refine c_seq ?_
      refine c_seq ?_
      refine c_region ?_
      refine w_p tok rfl rfl rfl ?_
      refine w_y (y_nil' rfl rfl ha1) rfl rfl ?_
      refine w_p tok rfl rfl rfl ?_
      obtain ⟨v4, hv4, H⟩ := H
      refine w_y (y_ld tok rfl rfl rfl rfl hv4) rfl rfl ?_
      refine w_p tok rfl rfl rfl ?_
      obtain ⟨a5, ha5, la5, ua5, H⟩ := H
      refine w_y (y_ixa' tok rfl rfl ha5 rfl rfl rfl la5 ua5) rfl rfl ?_
      refine w_p tok rfl rfl rfl ?_
      obtain ⟨v6, hv6, H⟩ := H
      refine w_y (y_ld tok rfl rfl rfl rfl hv6) rfl rfl ?_
      refine w_p tok rfl rfl rfl ?_
      refine w_end ?_
      refine x_seq ?_
      refine c_weak [(4, .int .i64 t4_1), (5, .int .i64 t5_1), (0, .pointer p0), (1, Slc.v p1), (24, .bool (!v6))] ⟨rfl, rfl, rfl, rfl, rfl, trivial⟩ ?_
      refine c_if H rfl (fun H => ?_) (fun H => ?_)
      ·
        refine c_exit ?_
        refine x_te ?_
        refine x_bh ?_
        exact x_join t4_1 H ⟨rfl, rfl, rfl, rfl, trivial⟩
      ·
        refine c_skip ?_
        refine x_seq ?_
        refine c_seq ?_
        refine c_region ?_
        refine w_p tok rfl rfl rfl ?_
        refine w_end ?_
        refine x_seq ?_
        refine c_seqJ (α := Int) (fun (s : Int) => [(6, .int .u8 s), (0, .pointer p0), (1, Slc.v p1), (4, .int .i64 t4_1), (5, .int .i64 t5_1)]) (fun (s : Int) h => ref09_Disk_Boot_j3 p0 p1 t4_1 t5_1 s k (fun s h' => I1 s h' ∧ μ1 s h' < μ1 (t4_1, t5_1) h_1) h) ?_ ?_
        ·
          rintro t6_3 h_3 H
          replace H : ref09_Disk_Boot_j3 p0 p1 t4_1 t5_1 t6_3 k (fun s h' => I1 s h' ∧ μ1 s h' < μ1 (t4_1, t5_1) h_1) h_3 := H
          unfold ref09_Disk_Boot_j3 at H
          refine c_weak [(6, .int .u8 t6_3), (0, .pointer p0), (1, Slc.v p1), (4, .int .i64 t4_1), (5, .int .i64 t5_1)] ⟨rfl, rfl, rfl, rfl, rfl, trivial⟩ ?_
          refine c_seq ?_
          refine c_region ?_
          refine w_p tok rfl rfl rfl ?_
          refine w_p tok rfl rfl rfl ?_
          obtain ⟨x7, ex7, H⟩ := H
          refine w_pe tok rfl (congrArg (fun z => (.int .i64 z : Value)) ex7) rfl rfl ?_
          refine w_end ?_
          refine x_seq ?_
          refine c_seq ?_
          refine c_region ?_
          refine w_p tok rfl rfl rfl ?_
          obtain ⟨a8, ha8, H⟩ := H
          refine w_y (y_nil' rfl rfl ha8) rfl rfl ?_
          refine w_p tok rfl rfl rfl ?_
          obtain ⟨v9, hv9, H⟩ := H
          refine w_y (y_ld tok rfl rfl rfl rfl hv9) rfl rfl ?_
          refine w_p tok rfl rfl rfl ?_
          obtain ⟨a10, ha10, la10, ua10, H⟩ := H
          refine w_y (y_ixa' tok rfl rfl ha10 rfl rfl rfl la10 ua10) rfl rfl ?_
          refine w_p tok rfl rfl rfl ?_
          obtain ⟨h11, wh11, eh11, H⟩ := H
          refine w_h (h_st tok rfl rfl rfl rfl rfl rfl wh11 eh11) rfl rfl ?_
          refine w_end ?_
          refine x_seq ?_
          refine c_weak [(6, .int .u8 t6_3), (0, .pointer p0), (1, Slc.v p1), (4, .int .i64 x7), (5, .int .i64 t5_1)] ⟨rfl, rfl, rfl, rfl, rfl, trivial⟩ ?_
          refine c_seqJ (α := Unit) (fun (s : Unit) => [(0, .pointer p0), (1, Slc.v p1), (4, .int .i64 x7), (5, .int .i64 t5_1), (6, .int .u8 t6_3)]) (fun (s : Unit) h => ref09_Disk_Boot_j4 p0 p1 x7 t5_1 t6_3 k (fun s h' => I1 s h' ∧ μ1 s h' < μ1 (t4_1, t5_1) h_1) h) ?_ ?_
          ·
            rintro _ h_4 H
            replace H : ref09_Disk_Boot_j4 p0 p1 x7 t5_1 t6_3 k (fun s h' => I1 s h' ∧ μ1 s h' < μ1 (t4_1, t5_1) h_1) h_4 := H
            unfold ref09_Disk_Boot_j4 at H
            refine c_weak [(0, .pointer p0), (1, Slc.v p1), (4, .int .i64 x7), (5, .int .i64 t5_1), (6, .int .u8 t6_3)] ⟨rfl, rfl, rfl, rfl, rfl, trivial⟩ ?_
            refine c_seq ?_
            refine c_region ?_
            refine w_p tok rfl rfl rfl ?_
            refine w_p tok rfl rfl rfl ?_
            refine w_end ?_
            refine x_seq ?_
            refine c_if H rfl (fun H => ?_) (fun H => ?_)
            ·
              refine c_region ?_
              refine w_p tok rfl rfl rfl ?_
              obtain ⟨a12, ha12, H⟩ := H
              refine w_y (y_nil' rfl rfl ha12) rfl rfl ?_
              refine w_p tok rfl rfl rfl ?_
              obtain ⟨v13, hv13, H⟩ := H
              refine w_y (y_ld tok rfl rfl rfl rfl hv13) rfl rfl ?_
              refine w_p tok rfl rfl rfl ?_
              obtain ⟨a14, ha14, la14, ua14, H⟩ := H
              refine w_y (y_ixa' tok rfl rfl ha14 rfl rfl rfl la14 ua14) rfl rfl ?_
              refine w_p tok rfl rfl rfl ?_
              obtain ⟨h15, wh15, eh15, H⟩ := H
              refine w_h (h_st tok rfl rfl rfl rfl rfl rfl wh15 eh15) rfl rfl ?_
              refine w_end ?_
              refine x_blk ?_
              exact x_join x7 H ⟨rfl, rfl, rfl, rfl, trivial⟩
            ·
              refine c_skip ?_
              refine x_blk ?_
              exact x_join x7 H ⟨rfl, rfl, rfl, rfl, trivial⟩
          ·
            refine c_seq ?_
            refine c_region ?_
            refine w_p tok rfl rfl rfl ?_
            refine w_p tok rfl rfl rfl ?_
            refine w_end ?_
            refine x_seq ?_
            refine c_if H rfl (fun H => ?_) (fun H => ?_)
            ·
              refine c_seq ?_
              refine c_sim [(0, .pointer p0), (1, Slc.v p1), (4, .int .i64 x7), (5, .int .i64 t5_1), (6, .int .u8 t6_3)] (by kernel_rfl) (by kernel_rfl) ⟨rfl, rfl, rfl, rfl, rfl, trivial⟩ (fun wf => ?_)
              refine sim_p 0 (ei := [(0, .pointer p0)]) (d := (some 47)) wf (by kernel_rfl) ⟨rfl, trivial⟩ (by kernel_rfl) (by kernel_rfl) (fun _ => pf_p tok rfl rfl rfl rfl) (fun P_0 => ?_)
              refine sim_p 1 (ei := [(47, .pointer p0)]) (d := (some 48)) wf (by kernel_rfl) ⟨rfl, trivial⟩ (by kernel_rfl) (by kernel_rfl) (fun _ => pf_y rfl rfl rfl (y_nil' rfl rfl ha8)) (fun P_1 => ?_)
              refine sim_p 2 (ei := [(48, .pointer (some a8))]) (d := (some 49)) wf (by kernel_rfl) ⟨rfl, trivial⟩ (by kernel_rfl) (by kernel_rfl) (fun _ => pf_p tok rfl rfl rfl rfl) (fun P_2 => ?_)
              obtain ⟨v16, hv16, H⟩ := H
              refine sim_l 3 (ei := [(49, .pointer (some a8))]) (d := (some 50)) wf (by kernel_rfl) ⟨rfl, trivial⟩ (by kernel_rfl) (by kernel_rfl) (pf_y rfl rfl rfl (y_ld tok rfl rfl rfl rfl hv16)) (fun P_3 => ?_)
              refine sim_p 4 (ei := [(5, .int .i64 t5_1)]) (d := (some 51)) wf (by kernel_rfl) ⟨rfl, trivial⟩ (by kernel_rfl) (by kernel_rfl) (fun _ => pf_p tok rfl rfl rfl rfl) (fun P_4 => ?_)
              refine sim_p 5 (ei := [(0, .pointer p0)]) (d := (some 52)) wf (by kernel_rfl) ⟨rfl, trivial⟩ (by kernel_rfl) (by kernel_rfl) (fun _ => pf_p tok rfl rfl rfl rfl) (fun P_5 => ?_)
              refine sim_p 6 (ei := [(52, .pointer p0)]) (d := (some 53)) wf (by kernel_rfl) ⟨rfl, trivial⟩ (by kernel_rfl) (by kernel_rfl) (fun _ => pf_y rfl rfl rfl (y_nil' rfl rfl ha8)) (fun P_6 => ?_)
              refine sim_p 7 (ei := [(53, .pointer (some a8))]) (d := (some 54)) wf (by kernel_rfl) ⟨rfl, trivial⟩ (by kernel_rfl) (by kernel_rfl) (fun _ => pf_p tok rfl rfl rfl rfl) (fun P_7 => ?_)
              obtain ⟨v17, hv17, H⟩ := H
              refine sim_l 8 (ei := [(54, .pointer (some a8))]) (d := (some 55)) wf (by kernel_rfl) ⟨rfl, trivial⟩ (by kernel_rfl) (by kernel_rfl) (pf_y rfl rfl rfl (y_ld tok rfl rfl rfl rfl hv17)) (fun P_8 => ?_)
              refine sim_p 9 (ei := [(5, .int .i64 t5_1)]) (d := (some 56)) wf (by kernel_rfl) ⟨rfl, trivial⟩ (by kernel_rfl) (by kernel_rfl) (fun _ => pf_p tok rfl rfl rfl rfl) (fun P_9 => ?_)
              obtain ⟨a18, ha18, la18, ua18, H⟩ := H
              refine sim_p 10 (ei := [(55, Slc.v v17), (56, .int .i64 t5_1)]) (d := (some 57)) wf (by kernel_rfl) ⟨rfl, rfl, trivial⟩ (by kernel_rfl) (by kernel_rfl) (fun _ => pf_y rfl rfl rfl (y_ixa' tok rfl rfl ha18 rfl rfl rfl la18 ua18)) (fun P_10 => ?_)
              refine sim_p 11 (ei := [(57, .pointer (some (a18.add (t5_1.toNat * 6))))]) (d := (some 58)) wf (by kernel_rfl) ⟨rfl, trivial⟩ (by kernel_rfl) (by kernel_rfl) (fun _ => pf_p tok rfl rfl rfl rfl) (fun P_11 => ?_)
              obtain ⟨v19, hv19, H⟩ := H
              refine sim_l 12 (ei := [(58, .pointer (some ((a18.add (t5_1.toNat * 6)).add 2)))]) (d := (some 59)) wf (by kernel_rfl) ⟨rfl, trivial⟩ (by kernel_rfl) (by kernel_rfl) (pf_y rfl rfl rfl (y_ld tok rfl rfl rfl rfl hv19)) (fun P_12 => ?_)
              obtain ⟨a20, ha20, la20, ua20, H⟩ := H
              refine sim_p 13 (ei := [(50, Slc.v v16), (51, .int .i64 t5_1)]) (d := (some 60)) wf (by kernel_rfl) ⟨rfl, rfl, trivial⟩ (by kernel_rfl) (by kernel_rfl) (fun _ => pf_y rfl rfl rfl (y_ixa' tok rfl rfl ha20 rfl rfl rfl la20 ua20)) (fun P_13 => ?_)
              refine sim_p 14 (ei := [(60, .pointer (some (a20.add (t5_1.toNat * 6))))]) (d := (some 61)) wf (by kernel_rfl) ⟨rfl, trivial⟩ (by kernel_rfl) (by kernel_rfl) (fun _ => pf_p tok rfl rfl rfl rfl) (fun P_14 => ?_)
              obtain ⟨h21, wh21, eh21, H⟩ := H
              refine sim_h 15 [0, 1, 2, 3, 4, 5, 6, 7, 8, 9, 10, 11, 12, 13, 14] [0, 1, 2, 3, 4, 5, 6, 7, 8, 9, 10, 11, 12, 13, 14] (ei := [(59, Slc.v v19), (61, .pointer (some ((a20.add (t5_1.toNat * 6)).add 1)))]) wf ⟨P_14 _, P_13 _, P_12, P_11 _, P_10 _, P_9 _, P_8, P_7 _, P_6 _, P_5 _, P_4 _, P_3, P_2 _, P_1 _, P_0 _, trivial⟩ (by kernel_rfl) ⟨rfl, rfl, trivial⟩ (by kernel_rfl) rfl rfl rfl (h_st tok rfl rfl rfl rfl rfl rfl wh21 eh21) ?_
              refine sim_end wf ⟨trivial, trivial, trivial, trivial, trivial, trivial, trivial, trivial, trivial, trivial, trivial, trivial, trivial, trivial, trivial, trivial⟩ (by kernel_rfl) ?_
              clear wf P_0 P_1 P_10 P_11 P_12 P_13 P_14 P_2 P_3 P_4 P_5 P_6 P_7 P_8 P_9
              refine x_seq ?_
              refine c_weak [(0, .pointer p0), (1, Slc.v p1), (4, .int .i64 x7), (5, .int .i64 t5_1), (6, .int .u8 t6_3)] ⟨rfl, rfl, rfl, rfl, rfl, trivial⟩ ?_
              refine c_sim [(0, .pointer p0), (1, Slc.v p1), (4, .int .i64 x7), (5, .int .i64 t5_1), (6, .int .u8 t6_3)] (by kernel_rfl) (by kernel_rfl) ⟨rfl, rfl, rfl, rfl, rfl, trivial⟩ (fun wf => ?_)
              refine sim_p 0 (ei := [(0, .pointer p0)]) (d := (some 62)) wf (by kernel_rfl) ⟨rfl, trivial⟩ (by kernel_rfl) (by kernel_rfl) (fun _ => pf_p tok rfl rfl rfl rfl) (fun P_0 => ?_)
              refine sim_p 1 (ei := [(62, .pointer p0)]) (d := (some 63)) wf (by kernel_rfl) ⟨rfl, trivial⟩ (by kernel_rfl) (by kernel_rfl) (fun _ => pf_y rfl rfl rfl (y_nil' rfl rfl ha8)) (fun P_1 => ?_)
              refine sim_p 2 (ei := [(63, .pointer (some a8))]) (d := (some 64)) wf (by kernel_rfl) ⟨rfl, trivial⟩ (by kernel_rfl) (by kernel_rfl) (fun _ => pf_p tok rfl rfl rfl rfl) (fun P_2 => ?_)
              obtain ⟨v22, hv22, H⟩ := H
              refine sim_l 3 (ei := [(64, .pointer (some a8))]) (d := (some 65)) wf (by kernel_rfl) ⟨rfl, trivial⟩ (by kernel_rfl) (by kernel_rfl) (pf_y rfl rfl rfl (y_ld tok rfl rfl rfl rfl hv22)) (fun P_3 => ?_)
              refine sim_p 4 (ei := [(5, .int .i64 t5_1)]) (d := (some 66)) wf (by kernel_rfl) ⟨rfl, trivial⟩ (by kernel_rfl) (by kernel_rfl) (fun _ => pf_p tok rfl rfl rfl rfl) (fun P_4 => ?_)
              refine sim_p 5 (ei := [(0, .pointer p0)]) (d := (some 67)) wf (by kernel_rfl) ⟨rfl, trivial⟩ (by kernel_rfl) (by kernel_rfl) (fun _ => pf_p tok rfl rfl rfl rfl) (fun P_5 => ?_)
              refine sim_p 6 (ei := [(67, .pointer p0)]) (d := (some 68)) wf (by kernel_rfl) ⟨rfl, trivial⟩ (by kernel_rfl) (by kernel_rfl) (fun _ => pf_y rfl rfl rfl (y_nil' rfl rfl ha8)) (fun P_6 => ?_)
              refine sim_p 7 (ei := [(68, .pointer (some a8))]) (d := (some 69)) wf (by kernel_rfl) ⟨rfl, trivial⟩ (by kernel_rfl) (by kernel_rfl) (fun _ => pf_p tok rfl rfl rfl rfl) (fun P_7 => ?_)
              obtain ⟨v23, hv23, H⟩ := H
              refine sim_l 8 (ei := [(69, .pointer (some a8))]) (d := (some 70)) wf (by kernel_rfl) ⟨rfl, trivial⟩ (by kernel_rfl) (by kernel_rfl) (pf_y rfl rfl rfl (y_ld tok rfl rfl rfl rfl hv23)) (fun P_8 => ?_)
              refine sim_p 9 (ei := [(5, .int .i64 t5_1)]) (d := (some 71)) wf (by kernel_rfl) ⟨rfl, trivial⟩ (by kernel_rfl) (by kernel_rfl) (fun _ => pf_p tok rfl rfl rfl rfl) (fun P_9 => ?_)
              obtain ⟨a24, ha24, la24, ua24, H⟩ := H
              refine sim_p 10 (ei := [(70, Slc.v v23), (71, .int .i64 t5_1)]) (d := (some 72)) wf (by kernel_rfl) ⟨rfl, rfl, trivial⟩ (by kernel_rfl) (by kernel_rfl) (fun _ => pf_y rfl rfl rfl (y_ixa' tok rfl rfl ha24 rfl rfl rfl la24 ua24)) (fun P_10 => ?_)
              refine sim_p 11 (ei := [(72, .pointer (some (a24.add (t5_1.toNat * 6))))]) (d := (some 73)) wf (by kernel_rfl) ⟨rfl, trivial⟩ (by kernel_rfl) (by kernel_rfl) (fun _ => pf_p tok rfl rfl rfl rfl) (fun P_11 => ?_)
              obtain ⟨v25, hv25, H⟩ := H
              refine sim_l 12 (ei := [(73, .pointer (some ((a24.add (t5_1.toNat * 6)).add 4)))]) (d := (some 74)) wf (by kernel_rfl) ⟨rfl, trivial⟩ (by kernel_rfl) (by kernel_rfl) (pf_y rfl rfl rfl (y_ld tok rfl rfl rfl rfl hv25)) (fun P_12 => ?_)
              obtain ⟨a26, ha26, la26, ua26, H⟩ := H
              refine sim_p 13 (ei := [(65, Slc.v v22), (66, .int .i64 t5_1)]) (d := (some 75)) wf (by kernel_rfl) ⟨rfl, rfl, trivial⟩ (by kernel_rfl) (by kernel_rfl) (fun _ => pf_y rfl rfl rfl (y_ixa' tok rfl rfl ha26 rfl rfl rfl la26 ua26)) (fun P_13 => ?_)
              refine sim_p 14 (ei := [(75, .pointer (some (a26.add (t5_1.toNat * 6))))]) (d := (some 76)) wf (by kernel_rfl) ⟨rfl, trivial⟩ (by kernel_rfl) (by kernel_rfl) (fun _ => pf_p tok rfl rfl rfl rfl) (fun P_14 => ?_)
              obtain ⟨h27, wh27, eh27, H⟩ := H
              refine sim_h 15 [0, 1, 2, 3, 4, 5, 6, 7, 8, 9, 10, 11, 12, 13, 14] [0, 1, 2, 3, 4, 5, 6, 7, 8, 9, 10, 11, 12, 13, 14] (ei := [(74, .bool v25), (76, .pointer (some ((a26.add (t5_1.toNat * 6)).add 3)))]) wf ⟨P_14 _, P_13 _, P_12, P_11 _, P_10 _, P_9 _, P_8, P_7 _, P_6 _, P_5 _, P_4 _, P_3, P_2 _, P_1 _, P_0 _, trivial⟩ (by kernel_rfl) ⟨rfl, rfl, trivial⟩ (by kernel_rfl) rfl rfl rfl (h_st tok rfl rfl rfl rfl rfl rfl wh27 eh27) ?_
              refine sim_end wf ⟨trivial, trivial, trivial, trivial, trivial, trivial, trivial, trivial, trivial, trivial, trivial, trivial, trivial, trivial, trivial, trivial⟩ (by kernel_rfl) ?_
              clear wf P_0 P_1 P_10 P_11 P_12 P_13 P_14 P_2 P_3 P_4 P_5 P_6 P_7 P_8 P_9
              exact x_join () H ⟨rfl, rfl, rfl, rfl, rfl, trivial⟩
            ·
              refine c_skip ?_
              exact x_join () H ⟨rfl, rfl, rfl, rfl, rfl, trivial⟩
        ·
          refine c_seq ?_
          refine c_region ?_
          refine w_p tok rfl rfl rfl ?_
          refine w_p tok rfl rfl rfl ?_
          refine w_p tok rfl rfl rfl ?_
          refine w_end ?_
          refine x_seq ?_
          refine c_if H rfl (fun H => ?_) (fun H => ?_)
          ·
            refine c_region ?_
            refine w_p tok rfl rfl rfl ?_
            refine w_p tok rfl rfl rfl ?_
            refine w_p tok rfl rfl rfl ?_
            refine w_p tok rfl rfl rfl ?_
            obtain ⟨z28, H⟩ := H
            refine w_y (y_rem rfl rfl rfl z28) rfl rfl ?_
            obtain ⟨a29, ha29, la29, ua29, H⟩ := H
            refine w_y (y_ixa' tok rfl rfl ha29 rfl rfl rfl la29 ua29) rfl rfl ?_
            obtain ⟨v30, hv30, H⟩ := H
            refine w_y (y_ld tok rfl rfl rfl rfl hv30) rfl rfl ?_
            refine w_p tok rfl rfl rfl ?_
            obtain ⟨x31, ex31, H⟩ := H
            refine w_pe tok rfl (congrArg (fun z => (.int .u8 z : Value)) ex31) rfl rfl ?_
            refine w_end ?_
            exact x_join x31 H ⟨rfl, rfl, rfl, rfl, rfl, trivial⟩
          ·
            refine c_skip ?_
            exact x_join 0 H ⟨rfl, rfl, rfl, rfl, rfl, trivial⟩
  ·
    refine c_exit ?_
    refine x_te ?_
    refine x_te ?_
    refine x_bh ?_
    refine x_seq ?_
    refine c_weak [(0, .pointer p0)] ⟨rfl, trivial⟩ ?_
    refine c_seq ?_
    refine c_region ?_
    refine w_p tok rfl rfl rfl ?_
    refine w_y (y_nil' rfl rfl ha1) rfl rfl ?_
    refine w_p tok rfl rfl rfl ?_
    obtain ⟨h32, wh32, eh32, H⟩ := H
    refine w_h (h_st tok rfl rfl rfl rfl rfl rfl wh32 eh32) rfl rfl ?_
    refine w_end ?_
    refine x_seq ?_
    refine c_region ?_
    refine w_p tok rfl rfl rfl ?_
    refine w_y (y_nil' rfl rfl ha1) rfl rfl ?_
    refine w_p tok rfl rfl rfl ?_
    obtain ⟨h33, wh33, eh33, H⟩ := H
    refine w_h (h_st tok rfl rfl rfl rfl rfl rfl wh33 eh33) rfl rfl ?_
    refine w_end ?_
    exact x_end _ rfl _ rfl ⟨(), rfl, H⟩

theorem ref09_Disk_Copy_ok : CallOk Go.Proofs.Try.prog 68 := ⟨_, Go.Proofs.Try.func68, by kernel_rfl, by kernel_rfl⟩
theorem ref09_Disk_Copy_ref (p0 : Option Addr) (k : (Option Addr) → Heap → Prop) (h : Heap) (H : ref09_Disk_Copy p0 k h) : CallsH Go.Proofs.Try.prog 68 #[.pointer p0] h (fun v h' => ∃ r : Option Addr, v = .pointer r ∧ k r h') := by
  refine f_enter (N := 23) Go.Proofs.Try.func68 rfl rfl rfl (fun w0 => ?_)
  unfold ref09_Disk_Copy at H
  refine c_weak [(0, .pointer p0)] ⟨rfl, trivial⟩ ?_
  refine c_seq ?_
  refine c_region ?_
  refine w_p tok rfl rfl rfl ?_
  refine w_end ?_
  refine x_seq ?_
  refine c_seq ?_
  refine c_sim [(0, .pointer p0)] (by kernel_rfl) (by kernel_rfl) ⟨rfl, trivial⟩ (fun wf => ?_)
  refine sim_p 1 (ei := [(0, .pointer p0)]) (d := (some 4)) wf (by kernel_rfl) ⟨rfl, trivial⟩ (by kernel_rfl) (by kernel_rfl) (fun _ => pf_p tok rfl rfl rfl rfl) (fun P_1 => ?_)
  obtain ⟨a1, ha1, H⟩ := H
  refine sim_p 2 (ei := [(4, .pointer p0)]) (d := (some 5)) wf (by kernel_rfl) ⟨rfl, trivial⟩ (by kernel_rfl) (by kernel_rfl) (fun _ => pf_y rfl rfl rfl (y_nil' rfl rfl ha1)) (fun P_2 => ?_)
  refine sim_p 3 (ei := [(5, .pointer (some a1))]) (d := (some 6)) wf (by kernel_rfl) ⟨rfl, trivial⟩ (by kernel_rfl) (by kernel_rfl) (fun _ => pf_p tok rfl rfl rfl rfl) (fun P_3 => ?_)
  obtain ⟨v2, hv2, H⟩ := H
  refine sim_l 4 (ei := [(6, .pointer (some a1))]) (d := (some 7)) wf (by kernel_rfl) ⟨rfl, trivial⟩ (by kernel_rfl) (by kernel_rfl) (pf_y rfl rfl rfl (y_ld tok rfl rfl rfl rfl hv2)) (fun P_4 => ?_)
  refine sim_p 6 (ei := [(0, .pointer p0)]) (d := (some 9)) wf (by kernel_rfl) ⟨rfl, trivial⟩ (by kernel_rfl) (by kernel_rfl) (fun _ => pf_p tok rfl rfl rfl rfl) (fun P_6 => ?_)
  refine sim_p 7 (ei := [(9, .pointer p0)]) (d := (some 10)) wf (by kernel_rfl) ⟨rfl, trivial⟩ (by kernel_rfl) (by kernel_rfl) (fun _ => pf_y rfl rfl rfl (y_nil' rfl rfl ha1)) (fun P_7 => ?_)
  refine sim_p 8 (ei := [(10, .pointer (some a1))]) (d := (some 11)) wf (by kernel_rfl) ⟨rfl, trivial⟩ (by kernel_rfl) (by kernel_rfl) (fun _ => pf_p tok rfl rfl rfl rfl) (fun P_8 => ?_)
  obtain ⟨v3, hv3, H⟩ := H
  refine sim_l 9 (ei := [(11, .pointer (some (a1.add 1)))]) (d := (some 12)) wf (by kernel_rfl) ⟨rfl, trivial⟩ (by kernel_rfl) (by kernel_rfl) (pf_y rfl rfl rfl (y_ld tok rfl rfl rfl rfl hv3)) (fun P_9 => ?_)
  refine sim_p 10 (ei := [(0, .pointer p0)]) (d := (some 13)) wf (by kernel_rfl) ⟨rfl, trivial⟩ (by kernel_rfl) (by kernel_rfl) (fun _ => pf_p tok rfl rfl rfl rfl) (fun P_10 => ?_)
  refine sim_p 11 (ei := [(13, .pointer p0)]) (d := (some 14)) wf (by kernel_rfl) ⟨rfl, trivial⟩ (by kernel_rfl) (by kernel_rfl) (fun _ => pf_y rfl rfl rfl (y_nil' rfl rfl ha1)) (fun P_11 => ?_)
  refine sim_p 12 (ei := [(14, .pointer (some a1))]) (d := (some 15)) wf (by kernel_rfl) ⟨rfl, trivial⟩ (by kernel_rfl) (by kernel_rfl) (fun _ => pf_p tok rfl rfl rfl rfl) (fun P_12 => ?_)
  obtain ⟨v4, hv4, H⟩ := H
  refine sim_l 13 (ei := [(15, .pointer (some (a1.add 2)))]) (d := (some 16)) wf (by kernel_rfl) ⟨rfl, trivial⟩ (by kernel_rfl) (by kernel_rfl) (pf_y rfl rfl rfl (y_ld tok rfl rfl rfl rfl hv4)) (fun P_13 => ?_)
  refine sim_p 14 (ei := [(0, .pointer p0)]) (d := (some 17)) wf (by kernel_rfl) ⟨rfl, trivial⟩ (by kernel_rfl) (by kernel_rfl) (fun _ => pf_p tok rfl rfl rfl rfl) (fun P_14 => ?_)
  refine sim_p 15 (ei := [(17, .pointer p0)]) (d := (some 18)) wf (by kernel_rfl) ⟨rfl, trivial⟩ (by kernel_rfl) (by kernel_rfl) (fun _ => pf_y rfl rfl rfl (y_nil' rfl rfl ha1)) (fun P_15 => ?_)
  refine sim_p 16 (ei := [(18, .pointer (some a1))]) (d := (some 19)) wf (by kernel_rfl) ⟨rfl, trivial⟩ (by kernel_rfl) (by kernel_rfl) (fun _ => pf_p tok rfl rfl rfl rfl) (fun P_16 => ?_)
  obtain ⟨v5, hv5, H⟩ := H
  refine sim_l 17 (ei := [(19, .pointer (some (a1.add 3)))]) (d := (some 20)) wf (by kernel_rfl) ⟨rfl, trivial⟩ (by kernel_rfl) (by kernel_rfl) (pf_y rfl rfl rfl (y_ld tok rfl rfl rfl rfl hv5)) (fun P_17 => ?_)
  obtain ⟨b6, h7, eb6, eh7, H⟩ := H
  refine sim_h 0 [] [] (ei := []) wf ⟨P_17, P_16 _, P_15 _, P_14 _, P_13, P_12 _, P_11 _, P_10 _, P_9, P_8 _, P_7 _, P_6 _, P_4, P_3 _, P_2 _, P_1 _, trivial⟩ (by kernel_rfl) trivial (by kernel_rfl) rfl rfl rfl (h_bs tok rfl rfl rfl rfl rfl rfl rfl eb6 eh7) ?_
  obtain ⟨hy8, hy9, hy10, hy11, H⟩ := H
  refine sim_re (x := ⟨17, .int .i64 v5, [(19, .pointer (some (a1.add 3)))]⟩) (pf_y rfl rfl rfl (y_ld tok rfl rfl rfl rfl hy8)) (fun P_17 => ?_)
  refine sim_re (x := ⟨13, .bool v4, [(15, .pointer (some (a1.add 2)))]⟩) (pf_y rfl rfl rfl (y_ld tok rfl rfl rfl rfl hy9)) (fun P_13 => ?_)
  refine sim_re (x := ⟨9, .int .i64 v3, [(11, .pointer (some (a1.add 1)))]⟩) (pf_y rfl rfl rfl (y_ld tok rfl rfl rfl rfl hy10)) (fun P_9 => ?_)
  refine sim_re (x := ⟨4, Slc.v v2, [(6, .pointer (some a1))]⟩) (pf_y rfl rfl rfl (y_ld tok rfl rfl rfl rfl hy11)) (fun P_4 => ?_)
  obtain ⟨l14, hl14, H⟩ := H
  refine sim_a 5 [0, 1, 2, 3, 4] [1, 2, 3, 4] (ei := [(3, Slc.v (⟨some ⟨b6, 0, none⟩, 0, 0⟩ : Slc)), (7, Slc.v v2)]) wf ⟨P_17, P_16 _, P_15 _, P_14 _, P_13, P_12 _, P_11 _, P_10 _, P_9, P_8 _, P_7 _, P_6 _, P_4, P_3 _, P_2 _, P_1 _, trivial⟩ (by kernel_rfl) ⟨rfl, rfl, trivial⟩ (by kernel_rfl) rfl rfl rfl (a_app (s := (⟨some ⟨b6, 0, none⟩, 0, 0⟩ : Slc)) (r := v2) tok rfl rfl rfl rfl rfl hl14 H) ?_
  rintro _ h13 ⟨s12, rfl, H⟩
  obtain ⟨hy15, hy16, hy17, H⟩ := H
  refine sim_re (x := ⟨17, .int .i64 v5, [(19, .pointer (some (a1.add 3)))]⟩) (pf_y rfl rfl rfl (y_ld tok rfl rfl rfl rfl hy15)) (fun P_17 => ?_)
  refine sim_re (x := ⟨13, .bool v4, [(15, .pointer (some (a1.add 2)))]⟩) (pf_y rfl rfl rfl (y_ld tok rfl rfl rfl rfl hy16)) (fun P_13 => ?_)
  refine sim_re (x := ⟨9, .int .i64 v3, [(11, .pointer (some (a1.add 1)))]⟩) (pf_y rfl rfl rfl (y_ld tok rfl rfl rfl rfl hy17)) (fun P_9 => ?_)
  refine sim_p 18 (ei := [(8, Slc.v s12), (12, .int .i64 v3), (16, .bool v4), (20, .int .i64 v5)]) (d := (some 21)) wf (by kernel_rfl) ⟨rfl, rfl, rfl, rfl, trivial⟩ (by kernel_rfl) (by kernel_rfl) (fun _ => pf_y rfl rfl rfl (y_build tok rfl rfl rfl rfl rfl)) (fun P_18 => ?_)
  obtain ⟨b18, h19, eb18, eh19, H⟩ := H
  refine sim_h 19 [0, 1, 2, 3, 4, 5, 6, 7, 8, 9, 10, 11, 12, 13, 14, 15, 16, 17, 18] [1, 2, 3, 4, 6, 7, 8, 9, 10, 11, 12, 13, 14, 15, 16, 17, 18] (ei := [(21, .agg (S_quaestorref09_Disk.cs (⟨s12, v3, v4, v5⟩ : S_quaestorref09_Disk)).toArray)]) wf ⟨P_18 _, P_17, P_16 _, P_15 _, P_14 _, P_13, P_12 _, P_11 _, P_10 _, P_9, P_8 _, P_7 _, P_6 _, trivial, trivial, trivial, trivial, trivial⟩ (by kernel_rfl) ⟨rfl, trivial⟩ (by kernel_rfl) rfl rfl rfl (h_box rfl rfl eb18 eh19) ?_
  refine sim_p 20 (ei := [(22, .pointer (some (⟨b18, 0, none⟩ : Addr)))]) (d := (some 2)) wf (by kernel_rfl) ⟨rfl, trivial⟩ (by kernel_rfl) (by kernel_rfl) (fun _ => pf_p tok rfl rfl rfl rfl) (fun P_20 => ?_)
  refine sim_end wf ⟨P_20 _, trivial, trivial, trivial, trivial, trivial, trivial, trivial, trivial, trivial, trivial, trivial, trivial, trivial, trivial, trivial, trivial, trivial, trivial⟩ (by kernel_rfl) ?_
  clear wf P_1 P_10 P_11 P_12 P_13 P_14 P_15 P_16 P_17 P_18 P_2 P_20 P_3 P_4 P_6 P_7 P_8 P_9
  refine x_seq ?_
  refine c_weak [(2, .pointer (some (⟨b18, 0, none⟩ : Addr)))] ⟨rfl, trivial⟩ ?_
  refine c_ret ?_
  exact x_ret _ rfl _ rfl ⟨(some (⟨b18, 0, none⟩ : Addr)), rfl, H⟩

theorem ref09_SameAt_ok : CallOk Go.Proofs.Try.prog 134 := ⟨_, Go.Proofs.Try.func134, by kernel_rfl, by kernel_rfl⟩
theorem ref09_SameAt_ref (p0 : Slc) (p1 : Int) (p2 : Option Addr) (p3 : Int) (k : (Bool) → Heap → Prop) (h : Heap) (H : ref09_SameAt p0 p1 p2 p3 k h) : CallsH Go.Proofs.Try.prog 134 #[Slc.v p0, .int .i64 p1, .pointer p2, .int .i64 p3] h (fun v h' => ∃ r : Bool, v = .bool r ∧ k r h') := by
  refine f_enter (N := 25) Go.Proofs.Try.func134 rfl rfl rfl (fun w0 => ?_)
  unfold ref09_SameAt at H
  refine c_weak [(0, Slc.v p0), (1, .int .i64 p1), (2, .pointer p2), (3, .int .i64 p3)] ⟨rfl, rfl, rfl, rfl, trivial⟩ ?_
  refine c_seq ?_
  refine c_region ?_
  refine w_p tok rfl rfl rfl ?_
  refine w_end ?_
  refine x_seq ?_
  refine c_seq ?_
  refine c_region ?_
  refine w_p tok rfl rfl rfl ?_
  refine w_p tok rfl rfl rfl ?_
  refine w_call ref09_Disk_Read_ok (ref09_Disk_Read_ref _ _ _ _ H) rfl rfl rfl rfl ?_
  rintro _ h2 ⟨r1, rfl, H⟩
  refine w_p tok rfl rfl rfl ?_
  refine w_p tok rfl rfl rfl ?_
  refine w_p tok rfl rfl rfl ?_
  refine w_p tok rfl rfl rfl ?_
  refine w_p tok rfl rfl rfl ?_
  refine w_end ?_
  refine x_seq ?_
  refine c_weak [(0, Slc.v p0), (1, .int .i64 p1), (9, Slc.v r1.1), (10, .int .i64 r1.2)] ⟨rfl, rfl, rfl, rfl, trivial⟩ ?_
  refine c_seq ?_
  refine c_region ?_
  refine w_p tok rfl rfl rfl ?_
  refine w_p tok rfl rfl rfl ?_
  refine w_call ref01_Same_ok (ref01_Same_ref _ _ _ _ H) rfl rfl rfl rfl ?_
  rintro _ h4 ⟨r3, rfl, H⟩
  refine w_p tok rfl rfl rfl ?_
  refine w_cutU 4 [(24, .bool (r3 && (p1 == r1.2)))] ?_ ?_
  ·
    refine w_p tok rfl rfl rfl ?_
    refine w_end ?_
    refine x_seq ?_
    refine c_ret ?_
    exact x_ret _ rfl _ rfl ⟨(r3 && (p1 == r1.2)), rfl, H⟩
  ·
    refine w_gs (d := 20) rfl (fun hb => ?_) (fun hb => ?_)
    ·
      refine w_p tok rfl rfl rfl ?_
      refine w_p tok rfl rfl rfl ?_
      refine w_p tok rfl rfl rfl ?_
      refine w_p tok rfl rfl rfl ?_
      refine w_jn () rfl ⟨?_, trivial⟩
      exact congrArg (fun b => some (Value.bool b)) (and_t hb)
    ·
      refine w_skip rfl rfl ?_
      refine w_skip rfl rfl ?_
      refine w_skip rfl rfl ?_
      refine w_p tok rfl rfl rfl ?_
      refine w_jn () rfl ⟨?_, trivial⟩
      exact congrArg (fun b => some (Value.bool b)) (and_f hb)
end Go.Q.Yb

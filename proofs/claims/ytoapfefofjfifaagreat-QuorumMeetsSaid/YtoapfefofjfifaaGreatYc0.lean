/- A part of the proof of statements of this seat: lemmas, no statement of their own. -/
import Derived.Test.YtoapfefofjfifaaGreatYcTab
import Derived.Test.YtoapfefofjfifaaGreatQMap
import Derived.Test.YtoapfefofjfifaaGreatQDraw2
set_option linter.unusedVariables false
set_option maxRecDepth 100000
set_option maxHeartbeats 1000000
namespace Go.Q.Yc
/-- quaestor quorum.Needs -/
def quorum_Needs (p0 : S_api_Op) (k : (Int) → Heap → Prop) (h : Heap) : Prop :=
  ∃ (b1 : Nat) (h2 : Heap), b1 = h.size ∧ h2 = h.push (.cells (S_api_Op.cs p0).toArray 40) ∧ (∃ v3 : Int, cellH h2 ((⟨b1, 0, none⟩ : Addr).add 1) = some (.int .i64 v3) ∧ (if (v3 == 1) then (∃ v4 : Slc, cellH h2 ((⟨b1, 0, none⟩ : Addr).add 27) = some (Slc.v v4) ∧ (∃ x5 : Int, x5 = (if (v4.len : Int) < 2 then (v4.len : Int) else 2) ∧ (k x5 h2))) else (if (v3 == 2) then (∃ v6 : Slc, cellH h2 ((⟨b1, 0, none⟩ : Addr).add 27) = some (Slc.v v6) ∧ (∃ x7 : Int, x7 = (if (IntKind.i64.wrap ((v6.len : Int) - 1)) > 1 then (IntKind.i64.wrap ((v6.len : Int) - 1)) else 1) ∧ (k x7 h2))) else (if (v3 == 3) then (k 1 h2) else (k 0 h2)))))

/-- slices.Index   int int  -/
def slices_Index_int_int_l1b (t0_1 : Slc) (t1_1 : Int) (t7_1 : Int) (t8_1 : Int) (k : (Int) → Heap → Prop) (nx1 : (Int) → Heap → Prop) (h_1 : Heap) : Prop :=
  if (decide (t8_1 < t7_1)) then (∃ a1 : Addr, t0_1.a = some a1 ∧ (0 : Int) ≤ t8_1 ∧ t8_1 < (t0_1.len : Int) ∧ (∃ v2 : Int, cellH h_1 (a1.add (t8_1.toNat * 1)) = some (.int .i64 v2) ∧ (if (t1_1 == v2) then (k t8_1 h_1) else (nx1 (IntKind.i64.wrap (t8_1 + 1)) h_1)))) else (∃ x3 : Int, x3 = (-1) ∧ (k x3 h_1))
def slices_Index_int_int_l1 (t0_1 : Slc) (t1_1 : Int) (t7_1 : Int) (i8 : Int) (k : (Int) → Heap → Prop) (h : Heap) : Prop :=
  ∃ (I : Int → Heap → Prop) (μ : Int → Heap → Nat), I i8 h ∧ ∀ (t8_1 : Int) (h : Heap), I t8_1 h → slices_Index_int_int_l1b t0_1 t1_1 t7_1 t8_1 k (fun s h' => I s h' ∧ μ s h' < μ t8_1 h) h
def slices_Index_int_int (p0 : Slc) (p1 : Int) (k : (Int) → Heap → Prop) (h : Heap) : Prop :=
  slices_Index_int_int_l1 p0 p1 (p0.len : Int) 0 k h

/-- slices.Contains   int int  -/
def slices_Contains_int_int (p0 : Slc) (p1 : Int) (k : (Bool) → Heap → Prop) (h : Heap) : Prop :=
  slices_Index_int_int p0 p1 (fun (r1 : Int) h2 => k (decide (r1 ≥ 0)) h2) h

/-- quaestor quorum.twice -/
def quorum_twice_l1b (t0_1 : Slc) (t5_1 : Slc) (t6_1 : Int) (t7_1 : Int) (k : (Bool) → Heap → Prop) (nx1 : (Int) → Heap → Prop) (h_1 : Heap) : Prop :=
  if (decide (t7_1 < t6_1)) then (∃ a1 : Addr, t5_1.a = some a1 ∧ (0 : Int) ≤ t7_1 ∧ t7_1 < (t5_1.len : Int) ∧ (∃ v2 : Int, cellH h_1 (a1.add (t7_1.toNat * 1)) = some (.int .i64 v2) ∧ (∃ s3 : Slc, (0 : Int) ≤ 0 ∧ (0 : Int) ≤ t7_1 ∧ (t7_1 : Int) ≤ (t0_1.cap : Int) ∧ (t0_1.cap : Int) ≤ (t0_1.cap : Int) ∧ s3 = subS t0_1 1 (0 : Int).toNat t7_1.toNat (t0_1.cap : Int).toNat ∧ (slices_Contains_int_int s3 v2 (fun (r4 : Bool) h5 => if r4 then (k true h5) else (nx1 (IntKind.i64.wrap (t7_1 + 1)) h5)) h_1)))) else (k false h_1)
def quorum_twice_l1 (t0_1 : Slc) (t5_1 : Slc) (t6_1 : Int) (i7 : Int) (k : (Bool) → Heap → Prop) (h : Heap) : Prop :=
  ∃ (I : Int → Heap → Prop) (μ : Int → Heap → Nat), I i7 h ∧ ∀ (t7_1 : Int) (h : Heap), I t7_1 h → quorum_twice_l1b t0_1 t5_1 t6_1 t7_1 k (fun s h' => I s h' ∧ μ s h' < μ t7_1 h) h
def quorum_twice (p0 : Slc) (k : (Bool) → Heap → Prop) (h : Heap) : Prop :=
  quorum_twice_l1 p0 p0 (p0.len : Int) 0 k h

/-- quaestor quaestorref13.Great -/
def ref13_Great_l1b (t0_1 : Slc) (t1_1 : Int) (t5_1 : Int) (k : (Bool) → Heap → Prop) (nx1 : (Int) → Heap → Prop) (h_1 : Heap) : Prop :=
  if ((decide (t5_1 < (t0_1.len : Int))) && (decide (t5_1 < t1_1))) then (∃ a1 : Addr, t0_1.a = some a1 ∧ (0 : Int) ≤ t5_1 ∧ t5_1 < (t0_1.len : Int) ∧ (∃ v2 : ByteArray, cellH h_1 (a1.add (t5_1.toNat * 5)) = some (.string v2) ∧ (if (decide ((v2.size : Int) > 400)) then (k true h_1) else (∃ x3 : Int, x3 = (IntKind.i64.wrap (t5_1 + 1)) ∧ (nx1 x3 h_1))))) else (k (decide ((t0_1.len : Int) > t1_1)) h_1)
def ref13_Great_l1 (t0_1 : Slc) (t1_1 : Int) (i5 : Int) (k : (Bool) → Heap → Prop) (h : Heap) : Prop :=
  ∃ (I : Int → Heap → Prop) (μ : Int → Heap → Nat), I i5 h ∧ ∀ (t5_1 : Int) (h : Heap), I t5_1 h → ref13_Great_l1b t0_1 t1_1 t5_1 k (fun s h' => I s h' ∧ μ s h' < μ t5_1 h) h
def ref13_Great (p0 : Slc) (p1 : Int) (k : (Bool) → Heap → Prop) (h : Heap) : Prop :=
  ref13_Great_l1 p0 p1 0 k h

/-- quaestor quaestorlaw31.great -/
def law31_great_g3 (t26_3 : Bool) (k : (Bool) → Heap → Prop) (h_3 : Heap) : Prop :=
  k t26_3 h_3
def law31_great_g2 (t1_2 : Addr) (t18_2 : Bool) (k : (Bool) → Heap → Prop) (h_2 : Heap) : Prop :=
  if t18_2 then (law31_great_g3 true k h_2) else (∃ v6 : ByteArray, cellH h_2 ((t1_2.add 1).add 4) = some (.string v6) ∧ (law31_great_g3 (decide ((v6.size : Int) > 300)) k h_2))
def law31_great_g1 (t1_1 : Addr) (t11_1 : Bool) (k : (Bool) → Heap → Prop) (h_1 : Heap) : Prop :=
  if t11_1 then (law31_great_g2 t1_1 true k h_1) else (∃ v7 : Slc, cellH h_1 ((t1_1.add 1).add 27) = some (Slc.v v7) ∧ (law31_great_g2 t1_1 (decide ((v7.len : Int) > 40)) k h_1))
def law31_great (p0 : S_quaestorlaw31_Act) (k : (Bool) → Heap → Prop) (h : Heap) : Prop :=
  ∃ (b1 : Nat) (h2 : Heap), b1 = h.size ∧ h2 = h.push (.cells (S_quaestorlaw31_Act.cs p0).toArray 46) ∧ (∃ v3 : Slc, cellH h2 ((⟨b1, 0, none⟩ : Addr).add 36) = some (Slc.v v3) ∧ (ref13_Great v3 20 (fun (r4 : Bool) h5 => if r4 then (law31_great_g1 (⟨b1, 0, none⟩ : Addr) true k h5) else (∃ v8 : Slc, cellH h5 (((⟨b1, 0, none⟩ : Addr).add 1).add 3) = some (Slc.v v8) ∧ (ref13_Great v8 20 (fun (r9 : Bool) h10 => law31_great_g1 (⟨b1, 0, none⟩ : Addr) r9 k h10) h5))) h2))

/-- slices.Clone   quaestor api.Piece quaestor api.Piece  -/
def slices_Clone_api_Piece_api_Piece (p0 : Slc) (k : (Slc) → Heap → Prop) (h : Heap) : Prop :=
  if (p0.a.isNone) then (k (⟨none, 0, 0⟩ : Slc) h) else (∃ (b1 : Nat) (h2 : Heap), b1 = h.size ∧ h2 = h.push (.cells ([]).toArray 75) ∧ (∃ l5 : List Value, SlcAt h2 p0 l5 ∧ App 75 5 48 [.string ByteArray.empty, .int .i64 0, .int .i64 0, .int .u64 0, .int .u16 0] h2 (⟨some ⟨b1, 0, none⟩, 0, 0⟩ : Slc) p0.len l5 (fun s3 h4 => k s3 h4)))

/-- slices.Clone   int int  -/
def slices_Clone_int_int (p0 : Slc) (k : (Slc) → Heap → Prop) (h : Heap) : Prop :=
  if (p0.a.isNone) then (k (⟨none, 0, 0⟩ : Slc) h) else (∃ (b1 : Nat) (h2 : Heap), b1 = h.size ∧ h2 = h.push (.cells ([]).toArray 3) ∧ (∃ l5 : List Value, SlcAt h2 p0 l5 ∧ App 3 1 8 [.int .i64 0] h2 (⟨some ⟨b1, 0, none⟩, 0, 0⟩ : Slc) p0.len l5 (fun s3 h4 => k s3 h4)))

/-- slices.Clone   quaestor api.Row quaestor api.Row  -/
def slices_Clone_api_Row_api_Row (p0 : Slc) (k : (Slc) → Heap → Prop) (h : Heap) : Prop :=
  if (p0.a.isNone) then (k (⟨none, 0, 0⟩ : Slc) h) else (∃ (b1 : Nat) (h2 : Heap), b1 = h.size ∧ h2 = h.push (.cells ([]).toArray 81) ∧ (∃ l5 : List Value, SlcAt h2 p0 l5 ∧ App 81 4 40 [.string ByteArray.empty, .int .i64 0, .int .i64 0, .int .u64 0] h2 (⟨some ⟨b1, 0, none⟩, 0, 0⟩ : Slc) p0.len l5 (fun s3 h4 => k s3 h4)))

/-- slices.Clone   byte byte  -/
def slices_Clone_byte_byte (p0 : Slc) (k : (Slc) → Heap → Prop) (h : Heap) : Prop :=
  if (p0.a.isNone) then (k (⟨none, 0, 0⟩ : Slc) h) else (∃ (b1 : Nat) (h2 : Heap), b1 = h.size ∧ h2 = h.push (.cells ([]).toArray 5) ∧ (∃ l5 : List Value, SlcAt h2 p0 l5 ∧ App 5 1 1 [.int .u8 0] h2 (⟨some ⟨b1, 0, none⟩, 0, 0⟩ : Slc) p0.len l5 (fun s3 h4 => k s3 h4)))

/-- quaestor quorum.copied -/
def quorum_copied (p0 : S_api_Op) (k : (S_api_Op) → Heap → Prop) (h : Heap) : Prop :=
  ∃ (b1 : Nat) (h2 : Heap), b1 = h.size ∧ h2 = h.push (.cells (S_api_Op.cs p0).toArray 40) ∧ (∃ (b3 : Nat) (h4 : Heap), b3 = h2.size ∧ h4 = h2.push (.cells (S_api_Op.cs (⟨0, 0, ByteArray.empty, (⟨none, 0, 0⟩ : Slc), (⟨ByteArray.empty, 0, 0, 0, 0⟩ : S_api_Query), (⟨0, ByteArray.empty, 0, ([] : List Int), (⟨none, 0, 0⟩ : Slc), 0⟩ : S_api_Command), 0, (⟨none, 0, 0⟩ : Slc), (⟨none, 0, 0⟩ : Slc), 0, false, 0, (⟨none, 0, 0⟩ : Slc)⟩ : S_api_Op)).toArray 40) ∧ (∃ v5 : Slc, cellH h4 ((⟨b1, 0, none⟩ : Addr).add 3) = some (Slc.v v5) ∧ (∃ v6 : Slc, cellH h4 ((⟨b1, 0, none⟩ : Addr).add 27) = some (Slc.v v6) ∧ (∃ v7 : Slc, cellH h4 ((⟨b1, 0, none⟩ : Addr).add 28) = some (Slc.v v7) ∧ (∃ v8 : Slc, cellH h4 ((⟨b1, 0, none⟩ : Addr).add 32) = some (Slc.v v8) ∧ (slices_Clone_api_Piece_api_Piece v5 (fun (r9 : Slc) h10 => cellH h10 ((⟨b1, 0, none⟩ : Addr).add 32) = some (Slc.v v8) ∧ cellH h10 ((⟨b1, 0, none⟩ : Addr).add 28) = some (Slc.v v7) ∧ cellH h10 ((⟨b1, 0, none⟩ : Addr).add 27) = some (Slc.v v6) ∧ (slices_Clone_int_int v6 (fun (r14 : Slc) h15 => cellH h15 ((⟨b1, 0, none⟩ : Addr).add 32) = some (Slc.v v8) ∧ cellH h15 ((⟨b1, 0, none⟩ : Addr).add 28) = some (Slc.v v7) ∧ (slices_Clone_int_int v7 (fun (r18 : Slc) h19 => cellH h19 ((⟨b1, 0, none⟩ : Addr).add 32) = some (Slc.v v8) ∧ (slices_Clone_api_Row_api_Row v8 (fun (r21 : Slc) h22 => ∃ h23 : Heap, WrH h22 ((⟨b1, 0, none⟩ : Addr).add 3) ∧ h23 = setH h22 ((⟨b1, 0, none⟩ : Addr).add 3) (Slc.v r9) ∧ (∃ h24 : Heap, WrH h23 ((⟨b1, 0, none⟩ : Addr).add 27) ∧ h24 = setH h23 ((⟨b1, 0, none⟩ : Addr).add 27) (Slc.v r14) ∧ (∃ h25 : Heap, WrH h24 ((⟨b1, 0, none⟩ : Addr).add 28) ∧ h25 = setH h24 ((⟨b1, 0, none⟩ : Addr).add 28) (Slc.v r18) ∧ (∃ h26 : Heap, WrH h25 ((⟨b1, 0, none⟩ : Addr).add 32) ∧ h26 = setH h25 ((⟨b1, 0, none⟩ : Addr).add 32) (Slc.v r21) ∧ (∃ v27 : Slc, cellH h26 (((⟨b1, 0, none⟩ : Addr).add 9).add 15) = some (Slc.v v27) ∧ (slices_Clone_byte_byte v27 (fun (r28 : Slc) h29 => ∃ h30 : Heap, WrH h29 (((⟨b1, 0, none⟩ : Addr).add 9).add 15) ∧ h30 = setH h29 (((⟨b1, 0, none⟩ : Addr).add 9).add 15) (Slc.v r28) ∧ (∃ v31 : S_api_Op, CellsAt h30 (⟨b1, 0, none⟩ : Addr) (S_api_Op.cs v31) ∧ (∃ h32 : Heap, WrsAt h30 (⟨b3, 0, none⟩ : Addr) 33 ∧ h32 = setsH h30 (⟨b3, 0, none⟩ : Addr) 0 (S_api_Op.cs v31) ∧ (∃ v33 : S_api_Op, CellsAt h32 (⟨b3, 0, none⟩ : Addr) (S_api_Op.cs v33) ∧ k v33 h32)))) h26)))))) h19)) h15)) h10)) h4))))))

/-- (*quaestor quorum.Desk).open -/
def quorum_Desk_open_g2 (t21_2 : Option Addr) (t37_2 : Bool) (k : (Option Addr × Bool) → Heap → Prop) (h_2 : Heap) : Prop :=
  k (t21_2, t37_2) h_2
def quorum_Desk_open_g1 (t2_1 : Int) (t8_1 : Option Addr) (t21_1 : Option Addr) (t29_1 : Bool) (k : (Option Addr × Bool) → Heap → Prop) (h_1 : Heap) : Prop :=
  if t29_1 then (∃ a4 : Addr, t8_1 = some a4 ∧ (∃ v5 : Slc, cellH h_1 (a4.add 27) = some (Slc.v v5) ∧ (slices_Contains_int_int v5 t2_1 (fun (r6 : Bool) h7 => quorum_Desk_open_g2 t21_1 r6 k h7) h_1))) else (quorum_Desk_open_g2 t21_1 false k h_1)
def quorum_Desk_open (p0 : Option Addr) (p1 : Int) (p2 : Int) (k : (Option Addr × Bool) → Heap → Prop) (h : Heap) : Prop :=
  if (p0.isNone) then (k (none, false) h) else (∃ a1 : Addr, p0 = some a1 ∧ (∃ v2 : Option Nat, cellH h a1 = some (.map v2) ∧ (∃ l3 : List (Int × Option Addr), MapAt (K := Int) (V := Option Addr) (.int .u64) (Value.int .u64) (fun v : Option Addr => (.pointer v : Value)) h v2 l3 ∧ (if (mget l3 p1).isSome then (∃ a8 : Addr, ((mget l3 p1).getD none) = some a8 ∧ (∃ v9 : Bool, cellH h (a8.add 30) = some (.bool v9) ∧ (quorum_Desk_open_g1 p2 ((mget l3 p1).getD none) ((mget l3 p1).getD none) (!v9) k h))) else (quorum_Desk_open_g1 p2 ((mget l3 p1).getD none) ((mget l3 p1).getD none) false k h)))))

/-- quaestor quorum.New -/
def quorum_New (k : (Option Addr) → Heap → Prop) (h : Heap) : Prop :=
  ∃ (b1 : Nat) (h2 : Heap), b1 = h.size ∧ h2 = h.push (.map #[] 0) ∧ (∃ (b3 : Nat) (h4 : Heap), b3 = h2.size ∧ h4 = h2.push (.cells (S_quorum_Desk.cs (⟨(some b1)⟩ : S_quorum_Desk)).toArray 53) ∧ (k (some (⟨b3, 0, none⟩ : Addr)) h4))

/-- (*quaestor quorum.Desk).Start -/
def quorum_Desk_Start_j4 (t0_4 : Option Addr) (t3_4 : Addr) (k : (Int) → Heap → Prop) (h_4 : Heap) : Prop :=
  ∃ a16 : Addr, t0_4 = some a16 ∧ (∃ v17 : Option Nat, cellH h_4 a16 = some (.map v17) ∧ (∃ v18 : Int, cellH h_4 t3_4 = some (.int .u64 v18) ∧ (∃ (r19 : Nat) (l20 : List (Int × Option Addr)) (h21 : Heap), v17 = some r19 ∧ MapAt (K := Int) (V := Option Addr) (.int .u64) (Value.int .u64) (fun v : Option Addr => (.pointer v : Value)) h_4 (some r19) l20 ∧ h21 = setM h_4 r19 ((Value.int .u64) v18) (.pointer (some t3_4)) ∧ (k 0 h21))))
def quorum_Desk_Start_g3 (t0_3 : Option Addr) (t3_3 : Addr) (t24_3 : Bool) (k : (Int) → Heap → Prop) (h_3 : Heap) : Prop :=
  if t24_3 then (k 1 h_3) else (∃ a3 : Addr, t0_3 = some a3 ∧ (∃ v4 : Option Nat, cellH h_3 a3 = some (.map v4) ∧ (∃ v5 : Int, cellH h_3 t3_3 = some (.int .u64 v5) ∧ (∃ l6 : List (Int × Option Addr), MapAt (K := Int) (V := Option Addr) (.int .u64) (Value.int .u64) (fun v : Option Addr => (.pointer v : Value)) h_3 v4 l6 ∧ (if (mget l6 v5).isSome then (k 7 h_3) else (∃ v7 : S_api_Op, CellsAt h_3 t3_3 (S_api_Op.cs v7) ∧ (quorum_copied v7 (fun (r8 : S_api_Op) h9 => ∃ h10 : Heap, WrsAt h9 t3_3 33 ∧ h10 = setsH h9 t3_3 0 (S_api_Op.cs r8) ∧ (∃ h11 : Heap, WrH h10 (t3_3.add 28) ∧ h11 = setH h10 (t3_3.add 28) (Slc.v (⟨none, 0, 0⟩ : Slc)) ∧ (∃ h12 : Heap, WrH h11 (t3_3.add 32) ∧ h12 = setH h11 (t3_3.add 32) (Slc.v (⟨none, 0, 0⟩ : Slc)) ∧ (∃ h13 : Heap, WrH h12 (t3_3.add 29) ∧ h13 = setH h12 (t3_3.add 29) (.int .i64 0) ∧ (∃ h14 : Heap, WrH h13 (t3_3.add 30) ∧ h14 = setH h13 (t3_3.add 30) (.bool false) ∧ (∃ h15 : Heap, WrH h14 (t3_3.add 31) ∧ h15 = setH h14 (t3_3.add 31) (.int .i64 0) ∧ (∃ v22 : Int, cellH h15 (t3_3.add 1) = some (.int .i64 v22) ∧ (if (v22 != 1) then (∃ h23 : Heap, WrH h15 (t3_3.add 3) ∧ h23 = setH h15 (t3_3.add 3) (Slc.v (⟨none, 0, 0⟩ : Slc)) ∧ (quorum_Desk_Start_j4 t0_3 t3_3 k h23)) else (quorum_Desk_Start_j4 t0_3 t3_3 k h15))))))))) h_3)))))))
def quorum_Desk_Start_g2 (t0_2 : Option Addr) (t3_2 : Addr) (t19_2 : Bool) (k : (Int) → Heap → Prop) (h_2 : Heap) : Prop :=
  if t19_2 then (quorum_Desk_Start_g3 t0_2 t3_2 true k h_2) else (∃ v24 : Slc, cellH h_2 (t3_2.add 27) = some (Slc.v v24) ∧ (quorum_twice v24 (fun (r25 : Bool) h26 => quorum_Desk_Start_g3 t0_2 t3_2 r25 k h26) h_2))
def quorum_Desk_Start_g1 (t0_1 : Option Addr) (t3_1 : Addr) (t13_1 : Bool) (k : (Int) → Heap → Prop) (h_1 : Heap) : Prop :=
  if t13_1 then (quorum_Desk_Start_g2 t0_1 t3_1 true k h_1) else (∃ v27 : Slc, cellH h_1 (t3_1.add 27) = some (Slc.v v27) ∧ (quorum_Desk_Start_g2 t0_1 t3_1 ((v27.len : Int) == 0) k h_1))
def quorum_Desk_Start (p0 : Option Addr) (p1 : S_api_Op) (k : (Int) → Heap → Prop) (h : Heap) : Prop :=
  ∃ (b1 : Nat) (h2 : Heap), b1 = h.size ∧ h2 = h.push (.cells (S_api_Op.cs p1).toArray 40) ∧ (if (p0.isNone) then (quorum_Desk_Start_g1 p0 (⟨b1, 0, none⟩ : Addr) true k h2) else (∃ v28 : S_api_Op, CellsAt h2 (⟨b1, 0, none⟩ : Addr) (S_api_Op.cs v28) ∧ (quorum_Needs v28 (fun (r29 : Int) h30 => quorum_Desk_Start_g1 p0 (⟨b1, 0, none⟩ : Addr) (r29 == 0) k h30) h2)))

/-- (*quaestor quorum.Desk).Op -/
def quorum_Desk_Op (p0 : Option Addr) (p1 : Int) (k : (S_api_Op × Int) → Heap → Prop) (h : Heap) : Prop :=
  ∃ (b1 : Nat) (h2 : Heap), b1 = h.size ∧ h2 = h.push (.cells (S_api_Op.cs (⟨0, 0, ByteArray.empty, (⟨none, 0, 0⟩ : Slc), (⟨ByteArray.empty, 0, 0, 0, 0⟩ : S_api_Query), (⟨0, ByteArray.empty, 0, ([] : List Int), (⟨none, 0, 0⟩ : Slc), 0⟩ : S_api_Command), 0, (⟨none, 0, 0⟩ : Slc), (⟨none, 0, 0⟩ : Slc), 0, false, 0, (⟨none, 0, 0⟩ : Slc)⟩ : S_api_Op)).toArray 40) ∧ (if (p0.isNone) then (∃ h3 : Heap, WrsAt h2 (⟨b1, 0, none⟩ : Addr) 33 ∧ h3 = setsH h2 (⟨b1, 0, none⟩ : Addr) 0 (S_api_Op.cs (⟨0, 0, ByteArray.empty, (⟨none, 0, 0⟩ : Slc), (⟨ByteArray.empty, 0, 0, 0, 0⟩ : S_api_Query), (⟨0, ByteArray.empty, 0, ([] : List Int), (⟨none, 0, 0⟩ : Slc), 0⟩ : S_api_Command), 0, (⟨none, 0, 0⟩ : Slc), (⟨none, 0, 0⟩ : Slc), 0, false, 0, (⟨none, 0, 0⟩ : Slc)⟩ : S_api_Op)) ∧ (∃ v4 : S_api_Op, CellsAt h3 (⟨b1, 0, none⟩ : Addr) (S_api_Op.cs v4) ∧ k (v4, 6) h3)) else (∃ a5 : Addr, p0 = some a5 ∧ (∃ v6 : Option Nat, cellH h2 a5 = some (.map v6) ∧ (∃ l7 : List (Int × Option Addr), MapAt (K := Int) (V := Option Addr) (.int .u64) (Value.int .u64) (fun v : Option Addr => (.pointer v : Value)) h2 v6 l7 ∧ (if (!(mget l7 p1).isSome) then (∃ h8 : Heap, WrsAt h2 (⟨b1, 0, none⟩ : Addr) 33 ∧ h8 = setsH h2 (⟨b1, 0, none⟩ : Addr) 0 (S_api_Op.cs (⟨0, 0, ByteArray.empty, (⟨none, 0, 0⟩ : Slc), (⟨ByteArray.empty, 0, 0, 0, 0⟩ : S_api_Query), (⟨0, ByteArray.empty, 0, ([] : List Int), (⟨none, 0, 0⟩ : Slc), 0⟩ : S_api_Command), 0, (⟨none, 0, 0⟩ : Slc), (⟨none, 0, 0⟩ : Slc), 0, false, 0, (⟨none, 0, 0⟩ : Slc)⟩ : S_api_Op)) ∧ (∃ v9 : S_api_Op, CellsAt h8 (⟨b1, 0, none⟩ : Addr) (S_api_Op.cs v9) ∧ k (v9, 6) h8)) else (∃ a10 : Addr, ((mget l7 p1).getD none) = some a10 ∧ (∃ v11 : S_api_Op, CellsAt h2 a10 (S_api_Op.cs v11) ∧ (quorum_copied v11 (fun (r12 : S_api_Op) h13 => ∃ h14 : Heap, WrsAt h13 (⟨b1, 0, none⟩ : Addr) 33 ∧ h14 = setsH h13 (⟨b1, 0, none⟩ : Addr) 0 (S_api_Op.cs r12) ∧ (∃ v15 : S_api_Op, CellsAt h14 (⟨b1, 0, none⟩ : Addr) (S_api_Op.cs v15) ∧ k (v15, 0) h14)) h2))))))))

/-- (*quaestor quorum.Desk).Result -/
def quorum_Desk_Result_g1 (t4_1 : Addr) (t6_1 : Addr) (t7_1 : Int) (t20_1 : Bool) (k : (S_api_Op × Int) → Heap → Prop) (h_1 : Heap) : Prop :=
  if t20_1 then (∃ h8 : Heap, WrsAt h_1 t4_1 33 ∧ h8 = setsH h_1 t4_1 0 (S_api_Op.cs (⟨0, 0, ByteArray.empty, (⟨none, 0, 0⟩ : Slc), (⟨ByteArray.empty, 0, 0, 0, 0⟩ : S_api_Query), (⟨0, ByteArray.empty, 0, ([] : List Int), (⟨none, 0, 0⟩ : Slc), 0⟩ : S_api_Command), 0, (⟨none, 0, 0⟩ : Slc), (⟨none, 0, 0⟩ : Slc), 0, false, 0, (⟨none, 0, 0⟩ : Slc)⟩ : S_api_Op)) ∧ (∃ v9 : S_api_Op, CellsAt h8 t4_1 (S_api_Op.cs v9) ∧ k (v9, 14) h8)) else (∃ v10 : S_api_Op, CellsAt h_1 t6_1 (S_api_Op.cs v10) ∧ (∃ h11 : Heap, WrsAt h_1 t4_1 33 ∧ h11 = setsH h_1 t4_1 0 (S_api_Op.cs v10) ∧ (∃ v12 : S_api_Op, CellsAt h11 t4_1 (S_api_Op.cs v12) ∧ k (v12, t7_1) h11)))
def quorum_Desk_Result (p0 : Option Addr) (p1 : Int) (k : (S_api_Op × Int) → Heap → Prop) (h : Heap) : Prop :=
  ∃ (b1 : Nat) (h2 : Heap), b1 = h.size ∧ h2 = h.push (.cells (S_api_Op.cs (⟨0, 0, ByteArray.empty, (⟨none, 0, 0⟩ : Slc), (⟨ByteArray.empty, 0, 0, 0, 0⟩ : S_api_Query), (⟨0, ByteArray.empty, 0, ([] : List Int), (⟨none, 0, 0⟩ : Slc), 0⟩ : S_api_Command), 0, (⟨none, 0, 0⟩ : Slc), (⟨none, 0, 0⟩ : Slc), 0, false, 0, (⟨none, 0, 0⟩ : Slc)⟩ : S_api_Op)).toArray 40) ∧ (quorum_Desk_Op p0 p1 (fun (r3 : S_api_Op × Int) h4 => ∃ (b5 : Nat) (h6 : Heap), b5 = h4.size ∧ h6 = h4.push (.cells (S_api_Op.cs (⟨0, 0, ByteArray.empty, (⟨none, 0, 0⟩ : Slc), (⟨ByteArray.empty, 0, 0, 0, 0⟩ : S_api_Query), (⟨0, ByteArray.empty, 0, ([] : List Int), (⟨none, 0, 0⟩ : Slc), 0⟩ : S_api_Command), 0, (⟨none, 0, 0⟩ : Slc), (⟨none, 0, 0⟩ : Slc), 0, false, 0, (⟨none, 0, 0⟩ : Slc)⟩ : S_api_Op)).toArray 40) ∧ (∃ h7 : Heap, WrsAt h6 (⟨b5, 0, none⟩ : Addr) 33 ∧ h7 = setsH h6 (⟨b5, 0, none⟩ : Addr) 0 (S_api_Op.cs r3.1) ∧ (if (r3.2 == 0) then (∃ v13 : Bool, cellH h7 ((⟨b5, 0, none⟩ : Addr).add 30) = some (.bool v13) ∧ (quorum_Desk_Result_g1 (⟨b1, 0, none⟩ : Addr) (⟨b5, 0, none⟩ : Addr) r3.2 (!v13) k h7)) else (quorum_Desk_Result_g1 (⟨b1, 0, none⟩ : Addr) (⟨b5, 0, none⟩ : Addr) r3.2 false k h7)))) h2)

theorem quorum_Needs_ok : CallOk Go.Proofs.Tryz.prog 15 := ⟨_, Go.Proofs.Tryz.func15, by kernel_rfl, by kernel_rfl⟩
theorem quorum_Needs_ref (p0 : S_api_Op) (k : (Int) → Heap → Prop) (h : Heap) (H : quorum_Needs p0 k h) : CallsH Go.Proofs.Tryz.prog 15 #[.agg (S_api_Op.cs p0).toArray] h (fun v h' => ∃ r : Int, v = .int .i64 r ∧ k r h') := by
  refine f_enter (N := 20) Go.Proofs.Tryz.func15 rfl rfl rfl (fun w0 => ?_)
  unfold quorum_Needs at H
  refine c_weak [(0, .agg (S_api_Op.cs p0).toArray)] ⟨rfl, trivial⟩ ?_
  refine c_seq ?_
  refine c_region ?_
  obtain ⟨b1, h2, eb1, eh2, H⟩ := H
  refine w_h (h_box rfl rfl eb1 eh2) rfl rfl ?_
  refine w_p tok rfl rfl rfl ?_
  refine w_end ?_
  refine x_seq ?_
  refine c_seq ?_
  refine c_seq ?_
  refine c_region ?_
  refine w_p tok rfl rfl rfl ?_
  obtain ⟨v3, hv3, H⟩ := H
  refine w_y (y_ld tok rfl rfl rfl rfl hv3) rfl rfl ?_
  refine w_end ?_
  refine x_seq ?_
  refine c_block ?_
  refine c_seq ?_
  refine c_region ?_
  refine w_p tok rfl rfl rfl ?_
  refine w_p tok rfl rfl rfl ?_
  refine w_end ?_
  refine x_seq ?_
  refine c_if H rfl (fun H => ?_) (fun H => ?_)
  ·
    refine c_seq ?_
    refine c_region ?_
    refine w_p tok rfl rfl rfl ?_
    obtain ⟨v4, hv4, H⟩ := H
    refine w_y (y_ld tok rfl rfl rfl rfl hv4) rfl rfl ?_
    refine w_p tok rfl rfl rfl ?_
    refine w_p tok rfl rfl rfl ?_
    obtain ⟨x5, ex5, H⟩ := H
    refine w_pe tok rfl (congrArg (fun z => (.int .i64 z : Value)) ex5) rfl rfl ?_
    refine w_end ?_
    refine x_seq ?_
    refine c_weak [(2, .int .i64 x5)] ⟨rfl, trivial⟩ ?_
    refine c_ret ?_
    refine x_br ?_
    refine x_tr ?_
    exact x_ret _ rfl _ rfl ⟨x5, rfl, H⟩
  ·
    refine c_seq ?_
    refine c_region ?_
    refine w_p tok rfl rfl rfl ?_
    refine w_p tok rfl rfl rfl ?_
    refine w_end ?_
    refine x_seq ?_
    refine c_if H rfl (fun H => ?_) (fun H => ?_)
    ·
      refine c_seq ?_
      refine c_region ?_
      refine w_p tok rfl rfl rfl ?_
      obtain ⟨v6, hv6, H⟩ := H
      refine w_y (y_ld tok rfl rfl rfl rfl hv6) rfl rfl ?_
      refine w_p tok rfl rfl rfl ?_
      refine w_p tok rfl rfl rfl ?_
      refine w_p tok rfl rfl rfl ?_
      obtain ⟨x7, ex7, H⟩ := H
      refine w_pe tok rfl (congrArg (fun z => (.int .i64 z : Value)) ex7) rfl rfl ?_
      refine w_end ?_
      refine x_seq ?_
      refine c_weak [(2, .int .i64 x7)] ⟨rfl, trivial⟩ ?_
      refine c_ret ?_
      refine x_br ?_
      refine x_tr ?_
      exact x_ret _ rfl _ rfl ⟨x7, rfl, H⟩
    ·
      refine c_seq ?_
      refine c_region ?_
      refine w_p tok rfl rfl rfl ?_
      refine w_p tok rfl rfl rfl ?_
      refine w_end ?_
      refine x_seq ?_
      refine c_weak [(18, .bool (v3 == 3))] ⟨rfl, trivial⟩ ?_
      refine c_if H rfl (fun H => ?_) (fun H => ?_)
      ·
        refine c_seq ?_
        refine c_region ?_
        refine w_p tok rfl rfl rfl ?_
        refine w_end ?_
        refine x_seq ?_
        refine c_ret ?_
        refine x_br ?_
        refine x_tr ?_
        exact x_ret _ rfl _ rfl ⟨1, rfl, H⟩
      ·
        refine c_skip ?_
        refine x_blk ?_
        refine x_seq ?_
        refine c_seq ?_
        refine c_region ?_
        refine w_p tok rfl rfl rfl ?_
        refine w_end ?_
        refine x_seq ?_
        refine c_ret ?_
        exact x_ret _ rfl _ rfl ⟨0, rfl, H⟩

theorem slices_Index_int_int_ok : CallOk Go.Proofs.Tryz.prog 29 := ⟨_, Go.Proofs.Tryz.func29, by kernel_rfl, by kernel_rfl⟩
theorem slices_Index_int_int_ref (p0 : Slc) (p1 : Int) (k : (Int) → Heap → Prop) (h : Heap) (H : slices_Index_int_int p0 p1 k h) : CallsH Go.Proofs.Tryz.prog 29 #[Slc.v p0, .int .i64 p1] h (fun v h' => ∃ r : Int, v = .int .i64 r ∧ k r h') := by
  refine f_enter (N := 19) Go.Proofs.Tryz.func29 rfl rfl rfl (fun w0 => ?_)
  unfold slices_Index_int_int at H
  refine c_weak [(0, Slc.v p0), (1, .int .i64 p1)] ⟨rfl, rfl, trivial⟩ ?_
  refine c_seq ?_
  refine c_region ?_
  refine w_p tok rfl rfl rfl ?_
  refine w_end ?_
  refine x_seq ?_
  refine c_seq ?_
  refine c_seq ?_
  refine c_region ?_
  refine w_p tok rfl rfl rfl ?_
  refine w_p tok rfl rfl rfl ?_
  refine w_p tok rfl rfl rfl ?_
  refine w_end ?_
  refine x_seq ?_
  refine c_block ?_
  obtain ⟨I1, μ1, H0, HI⟩ := H
  refine c_loop (σ := Int) (fun (s : Int) => [(8, .int .i64 s), (0, Slc.v p0), (1, .int .i64 p1), (7, .int .i64 (p0.len : Int))]) I1 μ1 0 H0 ⟨rfl, rfl, rfl, rfl, trivial⟩ ?_
  rintro t8_1 h_1 H
  replace H := HI t8_1 h_1 H
  unfold slices_Index_int_int_l1b at H
  refine c_weak [(8, .int .i64 t8_1), (0, Slc.v p0), (1, .int .i64 p1), (7, .int .i64 (p0.len : Int))] ⟨rfl, rfl, rfl, rfl, trivial⟩ ?_
  refine c_seq ?_
  refine c_region ?_
  refine w_p tok rfl rfl rfl ?_
  refine w_end ?_
  refine x_seq ?_
  refine c_seq ?_
  refine c_if H rfl (fun H => ?_) (fun H => ?_)
  ·
    refine c_skip ?_
    refine x_seq ?_
    refine c_seq ?_
    refine c_block ?_
    refine c_seq ?_
    refine c_region ?_
    refine w_p tok rfl rfl rfl ?_
    refine w_p tok rfl rfl rfl ?_
    refine w_end ?_
    refine x_seq ?_
    refine c_seq ?_
    refine c_region ?_
    refine w_p tok rfl rfl rfl ?_
    refine w_p tok rfl rfl rfl ?_
    refine w_p tok rfl rfl rfl ?_
    obtain ⟨a1, ha1, la1, ua1, H⟩ := H
    refine w_y (y_ixa' tok rfl rfl ha1 rfl rfl rfl la1 ua1) rfl rfl ?_
    obtain ⟨v2, hv2, H⟩ := H
    refine w_y (y_ld tok rfl rfl rfl rfl hv2) rfl rfl ?_
    refine w_p tok rfl rfl rfl ?_
    refine w_end ?_
    refine x_seq ?_
    refine c_weak [(8, .int .i64 t8_1), (0, Slc.v p0), (1, .int .i64 p1), (7, .int .i64 (p0.len : Int)), (5, .int .i64 t8_1), (16, .bool (p1 == v2))] ⟨rfl, rfl, rfl, rfl, rfl, rfl, trivial⟩ ?_
    refine c_if H rfl (fun H => ?_) (fun H => ?_)
    ·
      refine c_seq ?_
      refine c_region ?_
      refine w_p tok rfl rfl rfl ?_
      refine w_p tok rfl rfl rfl ?_
      refine w_end ?_
      refine x_seq ?_
      refine c_weak [(4, .int .i64 t8_1)] ⟨rfl, trivial⟩ ?_
      refine c_ret ?_
      refine x_br ?_
      refine x_tr ?_
      refine x_tr ?_
      refine x_br ?_
      refine x_tr ?_
      exact x_ret _ rfl _ rfl ⟨t8_1, rfl, H⟩
    ·
      refine c_skip ?_
      refine x_blk ?_
      refine x_seq ?_
      refine c_region ?_
      refine w_p tok rfl rfl rfl ?_
      refine w_p tok rfl rfl rfl ?_
      refine w_end ?_
      exact x_join (IntKind.i64.wrap (t8_1 + 1)) H ⟨rfl, rfl, rfl, rfl, trivial⟩
  ·
    refine c_exit ?_
    refine x_te ?_
    refine x_te ?_
    refine x_bh ?_
    refine x_seq ?_
    refine c_seq ?_
    refine c_region ?_
    obtain ⟨x3, ex3, H⟩ := H
    refine w_pe tok rfl (congrArg (fun z => (.int .i64 z : Value)) ex3) rfl rfl ?_
    refine w_end ?_
    refine x_seq ?_
    refine c_ret ?_
    exact x_ret _ rfl _ rfl ⟨x3, rfl, H⟩

theorem slices_Contains_int_int_ok : CallOk Go.Proofs.Tryz.prog 19 := ⟨_, Go.Proofs.Tryz.func19, by kernel_rfl, by kernel_rfl⟩
theorem slices_Contains_int_int_ref (p0 : Slc) (p1 : Int) (k : (Bool) → Heap → Prop) (h : Heap) (H : slices_Contains_int_int p0 p1 k h) : CallsH Go.Proofs.Tryz.prog 19 #[Slc.v p0, .int .i64 p1] h (fun v h' => ∃ r : Bool, v = .bool r ∧ k r h') := by
  refine f_enter (N := 9) Go.Proofs.Tryz.func19 rfl rfl rfl (fun w0 => ?_)
  unfold slices_Contains_int_int at H
  refine c_weak [(0, Slc.v p0), (1, .int .i64 p1)] ⟨rfl, rfl, trivial⟩ ?_
  refine c_seq ?_
  refine c_region ?_
  refine w_p tok rfl rfl rfl ?_
  refine w_end ?_
  refine x_seq ?_
  refine c_seq ?_
  refine c_region ?_
  refine w_p tok rfl rfl rfl ?_
  refine w_p tok rfl rfl rfl ?_
  refine w_call slices_Index_int_int_ok (slices_Index_int_int_ref _ _ _ _ H) rfl rfl rfl rfl ?_
  rintro _ h2 ⟨r1, rfl, H⟩
  refine w_p tok rfl rfl rfl ?_
  refine w_p tok rfl rfl rfl ?_
  refine w_end ?_
  refine x_seq ?_
  refine c_ret ?_
  exact x_ret _ rfl _ rfl ⟨(decide (r1 ≥ 0)), rfl, H⟩

theorem quorum_twice_ok : CallOk Go.Proofs.Tryz.prog 16 := ⟨_, Go.Proofs.Tryz.func16, by kernel_rfl, by kernel_rfl⟩
theorem quorum_twice_ref (p0 : Slc) (k : (Bool) → Heap → Prop) (h : Heap) (H : quorum_twice p0 k h) : CallsH Go.Proofs.Tryz.prog 16 #[Slc.v p0] h (fun v h' => ∃ r : Bool, v = .bool r ∧ k r h') := by
  refine f_enter (N := 18) Go.Proofs.Tryz.func16 rfl rfl rfl (fun w0 => ?_)
  unfold quorum_twice at H
  refine c_weak [(0, Slc.v p0)] ⟨rfl, trivial⟩ ?_
  refine c_seq ?_
  refine c_region ?_
  refine w_p tok rfl rfl rfl ?_
  refine w_end ?_
  refine x_seq ?_
  refine c_seq ?_
  refine c_seq ?_
  refine c_region ?_
  refine w_p tok rfl rfl rfl ?_
  refine w_p tok rfl rfl rfl ?_
  refine w_p tok rfl rfl rfl ?_
  refine w_end ?_
  refine x_seq ?_
  refine c_block ?_
  obtain ⟨I1, μ1, H0, HI⟩ := H
  refine c_loop (σ := Int) (fun (s : Int) => [(7, .int .i64 s), (0, Slc.v p0), (5, Slc.v p0), (6, .int .i64 (p0.len : Int))]) I1 μ1 0 H0 ⟨rfl, rfl, rfl, rfl, trivial⟩ ?_
  rintro t7_1 h_1 H
  replace H := HI t7_1 h_1 H
  unfold quorum_twice_l1b at H
  refine c_weak [(7, .int .i64 t7_1), (0, Slc.v p0), (5, Slc.v p0), (6, .int .i64 (p0.len : Int))] ⟨rfl, rfl, rfl, rfl, trivial⟩ ?_
  refine c_seq ?_
  refine c_region ?_
  refine w_p tok rfl rfl rfl ?_
  refine w_end ?_
  refine x_seq ?_
  refine c_seq ?_
  refine c_if H rfl (fun H => ?_) (fun H => ?_)
  ·
    refine c_skip ?_
    refine x_seq ?_
    refine c_seq ?_
    refine c_block ?_
    refine c_seq ?_
    refine c_region ?_
    refine w_p tok rfl rfl rfl ?_
    obtain ⟨a1, ha1, la1, ua1, H⟩ := H
    refine w_y (y_ixa' tok rfl rfl ha1 rfl rfl rfl la1 ua1) rfl rfl ?_
    obtain ⟨v2, hv2, H⟩ := H
    refine w_y (y_ld tok rfl rfl rfl rfl hv2) rfl rfl ?_
    refine w_p tok rfl rfl rfl ?_
    refine w_p tok rfl rfl rfl ?_
    refine w_end ?_
    refine x_seq ?_
    refine c_seq ?_
    refine c_region ?_
    refine w_p tok rfl rfl rfl ?_
    refine w_p tok rfl rfl rfl ?_
    obtain ⟨s3, ps3, qs3, rs3, ts3, es3, H⟩ := H
    refine w_ye (y_sl (s := p0) (L := 0) (H := t7_1) (M := (p0.cap : Int)) tok rfl rfl rfl rfl rfl rfl rfl (by simp) ps3 qs3 rs3 ts3) (congrArg Slc.v es3) rfl rfl ?_
    refine w_p tok rfl rfl rfl ?_
    refine w_call slices_Contains_int_int_ok (slices_Contains_int_int_ref _ _ _ _ H) rfl rfl rfl rfl ?_
    rintro _ h5 ⟨r4, rfl, H⟩
    refine w_end ?_
    refine x_seq ?_
    refine c_weak [(7, .int .i64 t7_1), (0, Slc.v p0), (5, Slc.v p0), (6, .int .i64 (p0.len : Int)), (16, .bool r4)] ⟨rfl, rfl, rfl, rfl, rfl, trivial⟩ ?_
    refine c_if H rfl (fun H => ?_) (fun H => ?_)
    ·
      refine c_seq ?_
      refine c_region ?_
      refine w_p tok rfl rfl rfl ?_
      refine w_end ?_
      refine x_seq ?_
      refine c_ret ?_
      refine x_br ?_
      refine x_tr ?_
      refine x_tr ?_
      refine x_br ?_
      refine x_tr ?_
      exact x_ret _ rfl _ rfl ⟨true, rfl, H⟩
    ·
      refine c_skip ?_
      refine x_blk ?_
      refine x_seq ?_
      refine c_region ?_
      refine w_p tok rfl rfl rfl ?_
      refine w_p tok rfl rfl rfl ?_
      refine w_end ?_
      exact x_join (IntKind.i64.wrap (t7_1 + 1)) H ⟨rfl, rfl, rfl, rfl, trivial⟩
  ·
    refine c_exit ?_
    refine x_te ?_
    refine x_te ?_
    refine x_bh ?_
    refine x_seq ?_
    refine c_seq ?_
    refine c_region ?_
    refine w_p tok rfl rfl rfl ?_
    refine w_end ?_
    refine x_seq ?_
    refine c_ret ?_
    exact x_ret _ rfl _ rfl ⟨false, rfl, H⟩

theorem ref13_Great_ok : CallOk Go.Proofs.Tryz.prog 22 := ⟨_, Go.Proofs.Tryz.func22, by kernel_rfl, by kernel_rfl⟩
theorem ref13_Great_ref (p0 : Slc) (p1 : Int) (k : (Bool) → Heap → Prop) (h : Heap) (H : ref13_Great p0 p1 k h) : CallsH Go.Proofs.Tryz.prog 22 #[Slc.v p0, .int .i64 p1] h (fun v h' => ∃ r : Bool, v = .bool r ∧ k r h') := by
  refine f_enter (N := 28) Go.Proofs.Tryz.func22 rfl rfl rfl (fun w0 => ?_)
  unfold ref13_Great at H
  refine c_weak [(0, Slc.v p0), (1, .int .i64 p1)] ⟨rfl, rfl, trivial⟩ ?_
  refine c_seq ?_
  refine c_region ?_
  refine w_p tok rfl rfl rfl ?_
  refine w_end ?_
  refine x_seq ?_
  refine c_seq ?_
  refine c_seq ?_
  refine c_region ?_
  refine w_p tok rfl rfl rfl ?_
  refine w_end ?_
  refine x_seq ?_
  refine c_block ?_
  obtain ⟨I1, μ1, H0, HI⟩ := H
  refine c_loop (σ := Int) (fun (s : Int) => [(5, .int .i64 s), (0, Slc.v p0), (1, .int .i64 p1)]) I1 μ1 0 H0 ⟨rfl, rfl, rfl, trivial⟩ ?_
  rintro t5_1 h_1 H
  replace H := HI t5_1 h_1 H
  unfold ref13_Great_l1b at H
  refine c_weak [(5, .int .i64 t5_1), (0, Slc.v p0), (1, .int .i64 p1)] ⟨rfl, rfl, rfl, trivial⟩ ?_
  refine c_seq ?_
  refine c_seq ?_
  refine c_region ?_
  refine w_p tok rfl rfl rfl ?_
  refine w_p tok rfl rfl rfl ?_
  refine w_p tok rfl rfl rfl ?_
  refine w_p tok rfl rfl rfl ?_
  refine w_p tok rfl rfl rfl ?_
  refine w_cutU 4 [(14, .bool ((decide (t5_1 < (p0.len : Int))) && (decide (t5_1 < p1)))), (0, Slc.v p0), (1, .int .i64 p1), (5, .int .i64 t5_1)] ?_ ?_
  ·
    refine w_end ?_
    refine x_seq ?_
    refine c_if H rfl (fun H => ?_) (fun H => ?_)
    ·
      refine c_skip ?_
      refine x_seq ?_
      refine c_seq ?_
      refine c_block ?_
      refine c_seq ?_
      refine c_region ?_
      refine w_p tok rfl rfl rfl ?_
      refine w_p tok rfl rfl rfl ?_
      obtain ⟨a1, ha1, la1, ua1, H⟩ := H
      refine w_y (y_ixa' tok rfl rfl ha1 rfl rfl rfl la1 ua1) rfl rfl ?_
      refine w_p tok rfl rfl rfl ?_
      obtain ⟨v2, hv2, H⟩ := H
      refine w_y (y_ld tok rfl rfl rfl rfl hv2) rfl rfl ?_
      refine w_p tok rfl rfl rfl ?_
      refine w_p tok rfl rfl rfl ?_
      refine w_end ?_
      refine x_seq ?_
      refine c_weak [(0, Slc.v p0), (1, .int .i64 p1), (5, .int .i64 t5_1), (23, .bool (decide ((v2.size : Int) > 400)))] ⟨rfl, rfl, rfl, rfl, trivial⟩ ?_
      refine c_if H rfl (fun H => ?_) (fun H => ?_)
      ·
        refine c_seq ?_
        refine c_region ?_
        refine w_p tok rfl rfl rfl ?_
        refine w_end ?_
        refine x_seq ?_
        refine c_ret ?_
        refine x_br ?_
        refine x_tr ?_
        refine x_tr ?_
        refine x_br ?_
        refine x_tr ?_
        exact x_ret _ rfl _ rfl ⟨true, rfl, H⟩
      ·
        refine c_skip ?_
        refine x_blk ?_
        refine x_seq ?_
        refine c_region ?_
        refine w_p tok rfl rfl rfl ?_
        refine w_p tok rfl rfl rfl ?_
        obtain ⟨x3, ex3, H⟩ := H
        refine w_pe tok rfl (congrArg (fun z => (.int .i64 z : Value)) ex3) rfl rfl ?_
        refine w_end ?_
        exact x_join x3 H ⟨rfl, rfl, rfl, trivial⟩
    ·
      refine c_exit ?_
      refine x_te ?_
      refine x_te ?_
      refine x_bh ?_
      refine x_seq ?_
      refine c_seq ?_
      refine c_region ?_
      refine w_p tok rfl rfl rfl ?_
      refine w_p tok rfl rfl rfl ?_
      refine w_p tok rfl rfl rfl ?_
      refine w_p tok rfl rfl rfl ?_
      refine w_p tok rfl rfl rfl ?_
      refine w_end ?_
      refine x_seq ?_
      refine c_weak [(4, .bool (decide ((p0.len : Int) > p1)))] ⟨rfl, trivial⟩ ?_
      refine c_ret ?_
      exact x_ret _ rfl _ rfl ⟨(decide ((p0.len : Int) > p1)), rfl, H⟩
  ·
    refine w_gs (d := 10) rfl (fun hb => ?_) (fun hb => ?_)
    ·
      refine w_p tok rfl rfl rfl ?_
      refine w_p tok rfl rfl rfl ?_
      refine w_p tok rfl rfl rfl ?_
      refine w_p tok rfl rfl rfl ?_
      refine w_jn () rfl ⟨?_, rfl, rfl, rfl, trivial⟩
      exact congrArg (fun b => some (Value.bool b)) (and_t hb)
    ·
      refine w_skip rfl rfl ?_
      refine w_skip rfl rfl ?_
      refine w_skip rfl rfl ?_
      refine w_p tok rfl rfl rfl ?_
      refine w_jn () rfl ⟨?_, rfl, rfl, rfl, trivial⟩
      exact congrArg (fun b => some (Value.bool b)) (and_f hb)

theorem law31_great_ok : CallOk Go.Proofs.Tryz.prog 10 := ⟨_, Go.Proofs.Tryz.func10, by kernel_rfl, by kernel_rfl⟩
theorem law31_great_ref (p0 : S_quaestorlaw31_Act) (k : (Bool) → Heap → Prop) (h : Heap) (H : law31_great p0 k h) : CallsH Go.Proofs.Tryz.prog 10 #[.agg (S_quaestorlaw31_Act.cs p0).toArray] h (fun v h' => ∃ r : Bool, v = .bool r ∧ k r h') := by
  refine f_enter (N := 27) Go.Proofs.Tryz.func10 rfl rfl rfl (fun w0 => ?_)
  unfold law31_great at H
  refine c_weak [(0, .agg (S_quaestorlaw31_Act.cs p0).toArray)] ⟨rfl, trivial⟩ ?_
  refine c_seq ?_
  refine c_region ?_
  obtain ⟨b1, h2, eb1, eh2, H⟩ := H
  refine w_h (h_box rfl rfl eb1 eh2) rfl rfl ?_
  refine w_p tok rfl rfl rfl ?_
  refine w_end ?_
  refine x_seq ?_
  refine c_seq ?_
  refine c_region ?_
  refine w_p tok rfl rfl rfl ?_
  obtain ⟨v3, hv3, H⟩ := H
  refine w_y (y_ld tok rfl rfl rfl rfl hv3) rfl rfl ?_
  refine w_call ref13_Great_ok (ref13_Great_ref _ _ _ _ H) rfl rfl rfl rfl ?_
  rintro _ h5 ⟨r4, rfl, H⟩
  refine w_p tok rfl rfl rfl ?_
  refine w_cut 5 (α := Bool) (fun (s : Bool) => [(11, .bool s), (1, .pointer (some (⟨b1, 0, none⟩ : Addr)))]) (fun (s : Bool) h => law31_great_g1 (⟨b1, 0, none⟩ : Addr) s k h) ?_ ?_
  ·
    rintro t11_1 h_1 H
    replace H : law31_great_g1 (⟨b1, 0, none⟩ : Addr) t11_1 k h_1 := H
    unfold law31_great_g1 at H
    refine w_weak [(11, .bool t11_1), (1, .pointer (some (⟨b1, 0, none⟩ : Addr)))] ⟨rfl, rfl, trivial⟩ ?_
    refine w_p tok rfl rfl rfl ?_
    refine w_cut 6 (α := Bool) (fun (s : Bool) => [(18, .bool s), (1, .pointer (some (⟨b1, 0, none⟩ : Addr)))]) (fun (s : Bool) h => law31_great_g2 (⟨b1, 0, none⟩ : Addr) s k h) ?_ ?_
    ·
      rintro t18_2 h_2 H
      replace H : law31_great_g2 (⟨b1, 0, none⟩ : Addr) t18_2 k h_2 := H
      unfold law31_great_g2 at H
      refine w_weak [(18, .bool t18_2), (1, .pointer (some (⟨b1, 0, none⟩ : Addr)))] ⟨rfl, rfl, trivial⟩ ?_
      refine w_p tok rfl rfl rfl ?_
      refine w_cut 7 (α := Bool) (fun (s : Bool) => [(26, .bool s)]) (fun (s : Bool) h => law31_great_g3 s k h) ?_ ?_
      ·
        rintro t26_3 h_3 H
        replace H : law31_great_g3 t26_3 k h_3 := H
        unfold law31_great_g3 at H
        refine w_weak [(26, .bool t26_3)] ⟨rfl, trivial⟩ ?_
        refine w_p tok rfl rfl rfl ?_
        refine w_end ?_
        refine x_seq ?_
        refine c_ret ?_
        exact x_ret _ rfl _ rfl ⟨t26_3, rfl, H⟩
      ·
        refine w_gif (d := 19) H rfl (fun H => ?_) (fun H => ?_)
        ·
          refine w_skip rfl rfl ?_
          refine w_skip rfl rfl ?_
          refine w_skip rfl rfl ?_
          refine w_skip rfl rfl ?_
          refine w_skip rfl rfl ?_
          refine w_skip rfl rfl ?_
          refine w_p tok rfl rfl rfl ?_
          exact w_jn true H ⟨rfl, trivial⟩
        ·
          refine w_p tok rfl rfl rfl ?_
          refine w_p tok rfl rfl rfl ?_
          refine w_p tok rfl rfl rfl ?_
          obtain ⟨v6, hv6, H⟩ := H
          refine w_y (y_ld tok rfl rfl rfl rfl hv6) rfl rfl ?_
          refine w_p tok rfl rfl rfl ?_
          refine w_p tok rfl rfl rfl ?_
          refine w_p tok rfl rfl rfl ?_
          exact w_jn (decide ((v6.size : Int) > 300)) H ⟨rfl, trivial⟩
    ·
      refine w_gif (d := 12) H rfl (fun H => ?_) (fun H => ?_)
      ·
        refine w_skip rfl rfl ?_
        refine w_skip rfl rfl ?_
        refine w_skip rfl rfl ?_
        refine w_skip rfl rfl ?_
        refine w_skip rfl rfl ?_
        refine w_p tok rfl rfl rfl ?_
        exact w_jn true H ⟨rfl, rfl, trivial⟩
      ·
        refine w_p tok rfl rfl rfl ?_
        refine w_p tok rfl rfl rfl ?_
        obtain ⟨v7, hv7, H⟩ := H
        refine w_y (y_ld tok rfl rfl rfl rfl hv7) rfl rfl ?_
        refine w_p tok rfl rfl rfl ?_
        refine w_p tok rfl rfl rfl ?_
        refine w_p tok rfl rfl rfl ?_
        exact w_jn (decide ((v7.len : Int) > 40)) H ⟨rfl, rfl, trivial⟩
  ·
    refine w_gif (d := 6) H rfl (fun H => ?_) (fun H => ?_)
    ·
      refine w_skip rfl rfl ?_
      refine w_skip rfl rfl ?_
      refine w_skip rfl rfl ?_
      refine w_skip rfl rfl ?_
      refine w_p tok rfl rfl rfl ?_
      exact w_jn true H ⟨rfl, rfl, trivial⟩
    ·
      refine w_p tok rfl rfl rfl ?_
      refine w_p tok rfl rfl rfl ?_
      obtain ⟨v8, hv8, H⟩ := H
      refine w_y (y_ld tok rfl rfl rfl rfl hv8) rfl rfl ?_
      refine w_call ref13_Great_ok (ref13_Great_ref _ _ _ _ H) rfl rfl rfl rfl ?_
      rintro _ h10 ⟨r9, rfl, H⟩
      refine w_p tok rfl rfl rfl ?_
      exact w_jn r9 H ⟨rfl, rfl, trivial⟩

theorem slices_Clone_api_Piece_api_Piece_ok : CallOk Go.Proofs.Tryz.prog 25 := ⟨_, Go.Proofs.Tryz.func25, by kernel_rfl, by kernel_rfl⟩
theorem slices_Clone_api_Piece_api_Piece_ref (p0 : Slc) (k : (Slc) → Heap → Prop) (h : Heap) (H : slices_Clone_api_Piece_api_Piece p0 k h) : CallsH Go.Proofs.Tryz.prog 25 #[Slc.v p0] h (fun v h' => ∃ r : Slc, v = Slc.v r ∧ k r h') := by
  refine f_enter (N := 8) Go.Proofs.Tryz.func25 rfl rfl rfl (fun w0 => ?_)
  unfold slices_Clone_api_Piece_api_Piece at H
  refine c_weak [(0, Slc.v p0)] ⟨rfl, trivial⟩ ?_
  refine c_seq ?_
  refine c_region ?_
  refine w_p tok rfl rfl rfl ?_
  refine w_end ?_
  refine x_seq ?_
  refine c_seq ?_
  refine c_seq ?_
  refine c_region ?_
  refine w_p tok rfl rfl rfl ?_
  refine w_p tok rfl rfl rfl ?_
  refine w_end ?_
  refine x_seq ?_
  refine c_if H rfl (fun H => ?_) (fun H => ?_)
  ·
    refine c_seq ?_
    refine c_region ?_
    refine w_p tok rfl rfl rfl ?_
    refine w_end ?_
    refine x_seq ?_
    refine c_ret ?_
    refine x_tr ?_
    exact x_ret _ rfl _ rfl ⟨(⟨none, 0, 0⟩ : Slc), rfl, H⟩
  ·
    refine c_skip ?_
    refine x_seq ?_
    refine c_seq ?_
    refine c_region ?_
    obtain ⟨b1, h2, eb1, eh2, H⟩ := H
    refine w_h (h_bs tok rfl rfl rfl rfl rfl rfl rfl eb1 eh2) rfl rfl ?_
    refine w_p tok rfl rfl rfl ?_
    obtain ⟨l5, hl5, H⟩ := H
    refine w_a (a_app (s := (⟨some ⟨b1, 0, none⟩, 0, 0⟩ : Slc)) (r := p0) tok rfl rfl rfl rfl rfl hl5 H) rfl rfl ?_
    rintro _ h4 ⟨s3, rfl, H⟩
    refine w_p tok rfl rfl rfl ?_
    refine w_end ?_
    refine x_seq ?_
    refine c_ret ?_
    exact x_ret _ rfl _ rfl ⟨s3, rfl, H⟩

theorem slices_Clone_int_int_ok : CallOk Go.Proofs.Tryz.prog 26 := ⟨_, Go.Proofs.Tryz.func26, by kernel_rfl, by kernel_rfl⟩
theorem slices_Clone_int_int_ref (p0 : Slc) (k : (Slc) → Heap → Prop) (h : Heap) (H : slices_Clone_int_int p0 k h) : CallsH Go.Proofs.Tryz.prog 26 #[Slc.v p0] h (fun v h' => ∃ r : Slc, v = Slc.v r ∧ k r h') := by
  refine f_enter (N := 8) Go.Proofs.Tryz.func26 rfl rfl rfl (fun w0 => ?_)
  unfold slices_Clone_int_int at H
  refine c_weak [(0, Slc.v p0)] ⟨rfl, trivial⟩ ?_
  refine c_seq ?_
  refine c_region ?_
  refine w_p tok rfl rfl rfl ?_
  refine w_end ?_
  refine x_seq ?_
  refine c_seq ?_
  refine c_seq ?_
  refine c_region ?_
  refine w_p tok rfl rfl rfl ?_
  refine w_p tok rfl rfl rfl ?_
  refine w_end ?_
  refine x_seq ?_
  refine c_if H rfl (fun H => ?_) (fun H => ?_)
  ·
    refine c_seq ?_
    refine c_region ?_
    refine w_p tok rfl rfl rfl ?_
    refine w_end ?_
    refine x_seq ?_
    refine c_ret ?_
    refine x_tr ?_
    exact x_ret _ rfl _ rfl ⟨(⟨none, 0, 0⟩ : Slc), rfl, H⟩
  ·
    refine c_skip ?_
    refine x_seq ?_
    refine c_seq ?_
    refine c_region ?_
    obtain ⟨b1, h2, eb1, eh2, H⟩ := H
    refine w_h (h_bs tok rfl rfl rfl rfl rfl rfl rfl eb1 eh2) rfl rfl ?_
    refine w_p tok rfl rfl rfl ?_
    obtain ⟨l5, hl5, H⟩ := H
    refine w_a (a_app (s := (⟨some ⟨b1, 0, none⟩, 0, 0⟩ : Slc)) (r := p0) tok rfl rfl rfl rfl rfl hl5 H) rfl rfl ?_
    rintro _ h4 ⟨s3, rfl, H⟩
    refine w_p tok rfl rfl rfl ?_
    refine w_end ?_
    refine x_seq ?_
    refine c_ret ?_
    exact x_ret _ rfl _ rfl ⟨s3, rfl, H⟩

theorem slices_Clone_api_Row_api_Row_ok : CallOk Go.Proofs.Tryz.prog 27 := ⟨_, Go.Proofs.Tryz.func27, by kernel_rfl, by kernel_rfl⟩
theorem slices_Clone_api_Row_api_Row_ref (p0 : Slc) (k : (Slc) → Heap → Prop) (h : Heap) (H : slices_Clone_api_Row_api_Row p0 k h) : CallsH Go.Proofs.Tryz.prog 27 #[Slc.v p0] h (fun v h' => ∃ r : Slc, v = Slc.v r ∧ k r h') := by
  refine f_enter (N := 8) Go.Proofs.Tryz.func27 rfl rfl rfl (fun w0 => ?_)
  unfold slices_Clone_api_Row_api_Row at H
  refine c_weak [(0, Slc.v p0)] ⟨rfl, trivial⟩ ?_
  refine c_seq ?_
  refine c_region ?_
  refine w_p tok rfl rfl rfl ?_
  refine w_end ?_
  refine x_seq ?_
  refine c_seq ?_
  refine c_seq ?_
  refine c_region ?_
  refine w_p tok rfl rfl rfl ?_
  refine w_p tok rfl rfl rfl ?_
  refine w_end ?_
  refine x_seq ?_
  refine c_if H rfl (fun H => ?_) (fun H => ?_)
  ·
    refine c_seq ?_
    refine c_region ?_
    refine w_p tok rfl rfl rfl ?_
    refine w_end ?_
    refine x_seq ?_
    refine c_ret ?_
    refine x_tr ?_
    exact x_ret _ rfl _ rfl ⟨(⟨none, 0, 0⟩ : Slc), rfl, H⟩
  ·
    refine c_skip ?_
    refine x_seq ?_
    refine c_seq ?_
    refine c_region ?_
    obtain ⟨b1, h2, eb1, eh2, H⟩ := H
    refine w_h (h_bs tok rfl rfl rfl rfl rfl rfl rfl eb1 eh2) rfl rfl ?_
    refine w_p tok rfl rfl rfl ?_
    obtain ⟨l5, hl5, H⟩ := H
    refine w_a (a_app (s := (⟨some ⟨b1, 0, none⟩, 0, 0⟩ : Slc)) (r := p0) tok rfl rfl rfl rfl rfl hl5 H) rfl rfl ?_
    rintro _ h4 ⟨s3, rfl, H⟩
    refine w_p tok rfl rfl rfl ?_
    refine w_end ?_
    refine x_seq ?_
    refine c_ret ?_
    exact x_ret _ rfl _ rfl ⟨s3, rfl, H⟩

theorem slices_Clone_byte_byte_ok : CallOk Go.Proofs.Tryz.prog 28 := ⟨_, Go.Proofs.Tryz.func28, by kernel_rfl, by kernel_rfl⟩
theorem slices_Clone_byte_byte_ref (p0 : Slc) (k : (Slc) → Heap → Prop) (h : Heap) (H : slices_Clone_byte_byte p0 k h) : CallsH Go.Proofs.Tryz.prog 28 #[Slc.v p0] h (fun v h' => ∃ r : Slc, v = Slc.v r ∧ k r h') := by
  refine f_enter (N := 8) Go.Proofs.Tryz.func28 rfl rfl rfl (fun w0 => ?_)
  unfold slices_Clone_byte_byte at H
  refine c_weak [(0, Slc.v p0)] ⟨rfl, trivial⟩ ?_
  refine c_seq ?_
  refine c_region ?_
  refine w_p tok rfl rfl rfl ?_
  refine w_end ?_
  refine x_seq ?_
  refine c_seq ?_
  refine c_seq ?_
  refine c_region ?_
  refine w_p tok rfl rfl rfl ?_
  refine w_p tok rfl rfl rfl ?_
  refine w_end ?_
  refine x_seq ?_
  refine c_if H rfl (fun H => ?_) (fun H => ?_)
  ·
    refine c_seq ?_
    refine c_region ?_
    refine w_p tok rfl rfl rfl ?_
    refine w_end ?_
    refine x_seq ?_
    refine c_ret ?_
    refine x_tr ?_
    exact x_ret _ rfl _ rfl ⟨(⟨none, 0, 0⟩ : Slc), rfl, H⟩
  ·
    refine c_skip ?_
    refine x_seq ?_
    refine c_seq ?_
    refine c_region ?_
    obtain ⟨b1, h2, eb1, eh2, H⟩ := H
    refine w_h (h_bs tok rfl rfl rfl rfl rfl rfl rfl eb1 eh2) rfl rfl ?_
    refine w_p tok rfl rfl rfl ?_
    obtain ⟨l5, hl5, H⟩ := H
    refine w_a (a_app (s := (⟨some ⟨b1, 0, none⟩, 0, 0⟩ : Slc)) (r := p0) tok rfl rfl rfl rfl rfl hl5 H) rfl rfl ?_
    rintro _ h4 ⟨s3, rfl, H⟩
    refine w_p tok rfl rfl rfl ?_
    refine w_end ?_
    refine x_seq ?_
    refine c_ret ?_
    exact x_ret _ rfl _ rfl ⟨s3, rfl, H⟩

theorem quorum_copied_ok : CallOk Go.Proofs.Tryz.prog 17 := ⟨_, Go.Proofs.Tryz.func17, by kernel_rfl, by kernel_rfl⟩
theorem quorum_copied_ref (p0 : S_api_Op) (k : (S_api_Op) → Heap → Prop) (h : Heap) (H : quorum_copied p0 k h) : CallsH Go.Proofs.Tryz.prog 17 #[.agg (S_api_Op.cs p0).toArray] h (fun v h' => ∃ r : S_api_Op, v = .agg (S_api_Op.cs r).toArray ∧ k r h') := by
  refine f_enter (N := 26) Go.Proofs.Tryz.func17 rfl rfl rfl (fun w0 => ?_)
  unfold quorum_copied at H
  refine c_weak [(0, .agg (S_api_Op.cs p0).toArray)] ⟨rfl, trivial⟩ ?_
  refine c_seq ?_
  refine c_region ?_
  obtain ⟨b1, h2, eb1, eh2, H⟩ := H
  refine w_h (h_box rfl rfl eb1 eh2) rfl rfl ?_
  obtain ⟨b3, h4, eb3, eh4, H⟩ := H
  refine w_h (h_alloc tok rfl rfl eb3 eh4) rfl rfl ?_
  refine w_end ?_
  refine x_seq ?_
  refine c_seq ?_
  refine c_sim [(1, .pointer (some (⟨b1, 0, none⟩ : Addr))), (2, .pointer (some (⟨b3, 0, none⟩ : Addr)))] (by kernel_rfl) (by kernel_rfl) ⟨rfl, rfl, trivial⟩ (fun wf => ?_)
  refine sim_p 0 (ei := [(1, .pointer (some (⟨b1, 0, none⟩ : Addr)))]) (d := (some 3)) wf (by kernel_rfl) ⟨rfl, trivial⟩ (by kernel_rfl) (by kernel_rfl) (fun _ => pf_p tok rfl rfl rfl rfl) (fun P_0 => ?_)
  obtain ⟨v5, hv5, H⟩ := H
  refine sim_l 1 (ei := [(3, .pointer (some ((⟨b1, 0, none⟩ : Addr).add 3)))]) (d := (some 4)) wf (by kernel_rfl) ⟨rfl, trivial⟩ (by kernel_rfl) (by kernel_rfl) (pf_y rfl rfl rfl (y_ld tok rfl rfl rfl rfl hv5)) (fun P_1 => ?_)
  refine sim_p 3 (ei := [(1, .pointer (some (⟨b1, 0, none⟩ : Addr)))]) (d := (some 6)) wf (by kernel_rfl) ⟨rfl, trivial⟩ (by kernel_rfl) (by kernel_rfl) (fun _ => pf_p tok rfl rfl rfl rfl) (fun P_3 => ?_)
  obtain ⟨v6, hv6, H⟩ := H
  refine sim_l 4 (ei := [(6, .pointer (some ((⟨b1, 0, none⟩ : Addr).add 27)))]) (d := (some 7)) wf (by kernel_rfl) ⟨rfl, trivial⟩ (by kernel_rfl) (by kernel_rfl) (pf_y rfl rfl rfl (y_ld tok rfl rfl rfl rfl hv6)) (fun P_4 => ?_)
  refine sim_p 6 (ei := [(1, .pointer (some (⟨b1, 0, none⟩ : Addr)))]) (d := (some 9)) wf (by kernel_rfl) ⟨rfl, trivial⟩ (by kernel_rfl) (by kernel_rfl) (fun _ => pf_p tok rfl rfl rfl rfl) (fun P_6 => ?_)
  obtain ⟨v7, hv7, H⟩ := H
  refine sim_l 7 (ei := [(9, .pointer (some ((⟨b1, 0, none⟩ : Addr).add 28)))]) (d := (some 10)) wf (by kernel_rfl) ⟨rfl, trivial⟩ (by kernel_rfl) (by kernel_rfl) (pf_y rfl rfl rfl (y_ld tok rfl rfl rfl rfl hv7)) (fun P_7 => ?_)
  refine sim_p 9 (ei := [(1, .pointer (some (⟨b1, 0, none⟩ : Addr)))]) (d := (some 12)) wf (by kernel_rfl) ⟨rfl, trivial⟩ (by kernel_rfl) (by kernel_rfl) (fun _ => pf_p tok rfl rfl rfl rfl) (fun P_9 => ?_)
  obtain ⟨v8, hv8, H⟩ := H
  refine sim_l 10 (ei := [(12, .pointer (some ((⟨b1, 0, none⟩ : Addr).add 32)))]) (d := (some 13)) wf (by kernel_rfl) ⟨rfl, trivial⟩ (by kernel_rfl) (by kernel_rfl) (pf_y rfl rfl rfl (y_ld tok rfl rfl rfl rfl hv8)) (fun P_10 => ?_)
  refine sim_c 2 [0, 1] [0, 1] (ei := [(4, Slc.v v5)]) slices_Clone_api_Piece_api_Piece_ok (slices_Clone_api_Piece_api_Piece_ref _ _ _ H) wf ⟨P_10, P_9 _, P_7, P_6 _, P_4, P_3 _, P_1, P_0 _, trivial⟩ (by kernel_rfl) ⟨rfl, trivial⟩ (by kernel_rfl) rfl rfl rfl rfl rfl ?_
  rintro _ h10 ⟨r9, rfl, H⟩
  obtain ⟨hy11, hy12, hy13, H⟩ := H
  refine sim_re (x := ⟨10, Slc.v v8, [(12, .pointer (some ((⟨b1, 0, none⟩ : Addr).add 32)))]⟩) (pf_y rfl rfl rfl (y_ld tok rfl rfl rfl rfl hy11)) (fun P_10 => ?_)
  refine sim_re (x := ⟨7, Slc.v v7, [(9, .pointer (some ((⟨b1, 0, none⟩ : Addr).add 28)))]⟩) (pf_y rfl rfl rfl (y_ld tok rfl rfl rfl rfl hy12)) (fun P_7 => ?_)
  refine sim_re (x := ⟨4, Slc.v v6, [(6, .pointer (some ((⟨b1, 0, none⟩ : Addr).add 27)))]⟩) (pf_y rfl rfl rfl (y_ld tok rfl rfl rfl rfl hy13)) (fun P_4 => ?_)
  refine sim_p 12 (ei := [(1, .pointer (some (⟨b1, 0, none⟩ : Addr)))]) (d := (some 15)) wf (by kernel_rfl) ⟨rfl, trivial⟩ (by kernel_rfl) (by kernel_rfl) (fun _ => pf_p tok rfl rfl rfl rfl) (fun P_12 => ?_)
  refine sim_c 5 [0, 1, 2, 3, 4] [0, 1, 3, 4] (ei := [(7, Slc.v v6)]) slices_Clone_int_int_ok (slices_Clone_int_int_ref _ _ _ H) wf ⟨P_12 _, P_10, P_9 _, P_7, P_6 _, P_4, P_3 _, trivial, trivial, trivial⟩ (by kernel_rfl) ⟨rfl, trivial⟩ (by kernel_rfl) rfl rfl rfl rfl rfl ?_
  rintro _ h15 ⟨r14, rfl, H⟩
  obtain ⟨hy16, hy17, H⟩ := H
  refine sim_re (x := ⟨10, Slc.v v8, [(12, .pointer (some ((⟨b1, 0, none⟩ : Addr).add 32)))]⟩) (pf_y rfl rfl rfl (y_ld tok rfl rfl rfl rfl hy16)) (fun P_10 => ?_)
  refine sim_re (x := ⟨7, Slc.v v7, [(9, .pointer (some ((⟨b1, 0, none⟩ : Addr).add 28)))]⟩) (pf_y rfl rfl rfl (y_ld tok rfl rfl rfl rfl hy17)) (fun P_7 => ?_)
  refine sim_c 8 [0, 1, 2, 3, 4, 5, 6, 7] [0, 1, 3, 4, 6, 7] (ei := [(10, Slc.v v7)]) slices_Clone_int_int_ok (slices_Clone_int_int_ref _ _ _ H) wf ⟨P_12 _, P_10, P_9 _, P_7, P_6 _, trivial, trivial, trivial, trivial, trivial⟩ (by kernel_rfl) ⟨rfl, trivial⟩ (by kernel_rfl) rfl rfl rfl rfl rfl ?_
  rintro _ h19 ⟨r18, rfl, H⟩
  obtain ⟨hy20, H⟩ := H
  refine sim_re (x := ⟨10, Slc.v v8, [(12, .pointer (some ((⟨b1, 0, none⟩ : Addr).add 32)))]⟩) (pf_y rfl rfl rfl (y_ld tok rfl rfl rfl rfl hy20)) (fun P_10 => ?_)
  refine sim_c 11 [0, 1, 2, 3, 4, 5, 6, 7, 8, 9, 10] [0, 1, 3, 4, 6, 7, 9, 10] (ei := [(13, Slc.v v8)]) slices_Clone_api_Row_api_Row_ok (slices_Clone_api_Row_api_Row_ref _ _ _ H) wf ⟨P_12 _, P_10, P_9 _, trivial, trivial, trivial, trivial, trivial, trivial, trivial⟩ (by kernel_rfl) ⟨rfl, trivial⟩ (by kernel_rfl) rfl rfl rfl rfl rfl ?_
  rintro _ h22 ⟨r21, rfl, H⟩
  obtain ⟨h23, wh23, eh23, H⟩ := H
  refine sim_h 13 [0, 1, 2, 3, 4, 5, 6, 7, 8, 9, 10, 11, 12] [0, 1, 3, 4, 6, 7, 9, 10, 12] (ei := [(5, Slc.v r9), (15, .pointer (some ((⟨b1, 0, none⟩ : Addr).add 3)))]) wf ⟨P_12 _, trivial, trivial, trivial, trivial, trivial, trivial, trivial, trivial, trivial⟩ (by kernel_rfl) ⟨rfl, rfl, trivial⟩ (by kernel_rfl) rfl rfl rfl (h_st tok rfl rfl rfl rfl rfl rfl wh23 eh23) ?_
  refine sim_p 14 (ei := [(1, .pointer (some (⟨b1, 0, none⟩ : Addr)))]) (d := (some 16)) wf (by kernel_rfl) ⟨rfl, trivial⟩ (by kernel_rfl) (by kernel_rfl) (fun _ => pf_p tok rfl rfl rfl rfl) (fun P_14 => ?_)
  obtain ⟨h24, wh24, eh24, H⟩ := H
  refine sim_h 15 [0, 1, 2, 3, 4, 5, 6, 7, 8, 9, 10, 11, 12, 13, 14] [0, 1, 3, 4, 6, 7, 9, 10, 12, 14] (ei := [(8, Slc.v r14), (16, .pointer (some ((⟨b1, 0, none⟩ : Addr).add 27)))]) wf ⟨P_14 _, trivial, trivial, trivial, trivial, trivial, trivial, trivial, trivial, trivial, trivial⟩ (by kernel_rfl) ⟨rfl, rfl, trivial⟩ (by kernel_rfl) rfl rfl rfl (h_st tok rfl rfl rfl rfl rfl rfl wh24 eh24) ?_
  refine sim_p 16 (ei := [(1, .pointer (some (⟨b1, 0, none⟩ : Addr)))]) (d := (some 17)) wf (by kernel_rfl) ⟨rfl, trivial⟩ (by kernel_rfl) (by kernel_rfl) (fun _ => pf_p tok rfl rfl rfl rfl) (fun P_16 => ?_)
  obtain ⟨h25, wh25, eh25, H⟩ := H
  refine sim_h 17 [0, 1, 2, 3, 4, 5, 6, 7, 8, 9, 10, 11, 12, 13, 14, 15, 16] [0, 1, 3, 4, 6, 7, 9, 10, 12, 14, 16] (ei := [(11, Slc.v r18), (17, .pointer (some ((⟨b1, 0, none⟩ : Addr).add 28)))]) wf ⟨P_16 _, trivial, trivial, trivial, trivial, trivial, trivial, trivial, trivial, trivial, trivial, trivial⟩ (by kernel_rfl) ⟨rfl, rfl, trivial⟩ (by kernel_rfl) rfl rfl rfl (h_st tok rfl rfl rfl rfl rfl rfl wh25 eh25) ?_
  refine sim_p 18 (ei := [(1, .pointer (some (⟨b1, 0, none⟩ : Addr)))]) (d := (some 18)) wf (by kernel_rfl) ⟨rfl, trivial⟩ (by kernel_rfl) (by kernel_rfl) (fun _ => pf_p tok rfl rfl rfl rfl) (fun P_18 => ?_)
  obtain ⟨h26, wh26, eh26, H⟩ := H
  refine sim_h 19 [0, 1, 2, 3, 4, 5, 6, 7, 8, 9, 10, 11, 12, 13, 14, 15, 16, 17, 18] [0, 1, 3, 4, 6, 7, 9, 10, 12, 14, 16, 18] (ei := [(14, Slc.v r21), (18, .pointer (some ((⟨b1, 0, none⟩ : Addr).add 32)))]) wf ⟨P_18 _, trivial, trivial, trivial, trivial, trivial, trivial, trivial, trivial, trivial, trivial, trivial, trivial⟩ (by kernel_rfl) ⟨rfl, rfl, trivial⟩ (by kernel_rfl) rfl rfl rfl (h_st tok rfl rfl rfl rfl rfl rfl wh26 eh26) ?_
  refine sim_end wf ⟨trivial, trivial, trivial, trivial, trivial, trivial, trivial, trivial, trivial, trivial, trivial, trivial, trivial⟩ (by kernel_rfl) ?_
  clear wf P_0 P_1 P_10 P_12 P_14 P_16 P_18 P_3 P_4 P_6 P_7 P_9
  refine x_seq ?_
  refine c_weak [(1, .pointer (some (⟨b1, 0, none⟩ : Addr))), (2, .pointer (some (⟨b3, 0, none⟩ : Addr)))] ⟨rfl, rfl, trivial⟩ ?_
  refine c_seq ?_
  refine c_region ?_
  refine w_p tok rfl rfl rfl ?_
  refine w_p tok rfl rfl rfl ?_
  obtain ⟨v27, hv27, H⟩ := H
  refine w_y (y_ld tok rfl rfl rfl rfl hv27) rfl rfl ?_
  refine w_call slices_Clone_byte_byte_ok (slices_Clone_byte_byte_ref _ _ _ H) rfl rfl rfl rfl ?_
  rintro _ h29 ⟨r28, rfl, H⟩
  refine w_p tok rfl rfl rfl ?_
  refine w_p tok rfl rfl rfl ?_
  obtain ⟨h30, wh30, eh30, H⟩ := H
  refine w_h (h_st tok rfl rfl rfl rfl rfl rfl wh30 eh30) rfl rfl ?_
  refine w_end ?_
  refine x_seq ?_
  refine c_seq ?_
  refine c_region ?_
  obtain ⟨v31, hv31, H⟩ := H
  refine w_y (y_lda tok rfl rfl rfl rfl rfl hv31) rfl rfl ?_
  obtain ⟨h32, wh32, eh32, H⟩ := H
  refine w_h (h_sts tok rfl rfl rfl rfl rfl (oneC (by kernel_rfl)) wh32 eh32) rfl rfl ?_
  refine w_end ?_
  refine x_seq ?_
  refine c_weak [(2, .pointer (some (⟨b3, 0, none⟩ : Addr)))] ⟨rfl, trivial⟩ ?_
  refine c_ret ?_
  obtain ⟨v33, hv33, H⟩ := H
  exact x_retc tok _ rfl [.agg (S_api_Op.cs v33).toArray] ⟨⟨_, _, rfl, rfl, .inr ⟨rfl, _, rfl, rfl, hv33⟩⟩, trivial⟩ ⟨v33, rfl, H⟩

theorem quorum_Desk_open_ok : CallOk Go.Proofs.Tryz.prog 18 := ⟨_, Go.Proofs.Tryz.func18, by kernel_rfl, by kernel_rfl⟩
theorem quorum_Desk_open_ref (p0 : Option Addr) (p1 : Int) (p2 : Int) (k : (Option Addr × Bool) → Heap → Prop) (h : Heap) (H : quorum_Desk_open p0 p1 p2 k h) : CallsH Go.Proofs.Tryz.prog 18 #[.pointer p0, .int .u64 p1, .int .i64 p2] h (fun v h' => ∃ r : Option Addr × Bool, v = .tuple #[.pointer r.1, .bool r.2] ∧ k r h') := by
  refine f_enter (N := 38) Go.Proofs.Tryz.func18 rfl rfl rfl (fun w0 => ?_)
  unfold quorum_Desk_open at H
  refine c_weak [(0, .pointer p0), (1, .int .u64 p1), (2, .int .i64 p2)] ⟨rfl, rfl, rfl, trivial⟩ ?_
  refine c_seq ?_
  refine c_region ?_
  refine w_p tok rfl rfl rfl ?_
  refine w_p tok rfl rfl rfl ?_
  refine w_end ?_
  refine x_seq ?_
  refine c_seq ?_
  refine c_seq ?_
  refine c_region ?_
  refine w_p tok rfl rfl rfl ?_
  refine w_p tok rfl rfl rfl ?_
  refine w_end ?_
  refine x_seq ?_
  refine c_if H rfl (fun H => ?_) (fun H => ?_)
  ·
    refine c_seq ?_
    refine c_region ?_
    refine w_p tok rfl rfl rfl ?_
    refine w_p tok rfl rfl rfl ?_
    refine w_end ?_
    refine x_seq ?_
    refine c_ret ?_
    refine x_tr ?_
    exact x_ret _ rfl _ rfl ⟨(none, false), rfl, H⟩
  ·
    refine c_skip ?_
    refine x_seq ?_
    refine c_seq ?_
    refine c_region ?_
    refine w_p tok rfl rfl rfl ?_
    obtain ⟨a1, ha1, H⟩ := H
    refine w_y (y_nil' rfl rfl ha1) rfl rfl ?_
    refine w_p tok rfl rfl rfl ?_
    obtain ⟨v2, hv2, H⟩ := H
    refine w_y (y_ld tok rfl rfl rfl rfl hv2) rfl rfl ?_
    refine w_p tok rfl rfl rfl ?_
    obtain ⟨l3, hl3, H⟩ := H
    refine w_y (y_lk2 (K := Int) (V := (Option Addr)) (d := (.int .u64)) (kf := (Value.int .u64)) (vf := (fun v : Option Addr => (.pointer v : Value))) (kt := 29) (et := 56) (k := p1) (z := none) (m := v2) (l := l3) rfl rfl rfl (by kernel_rfl) (by kernel_rfl) (kInt .u64) (zero_1 tok (T := tab) rfl rfl rfl) hl3) rfl rfl ?_
    refine w_p tok rfl rfl rfl ?_
    refine w_p tok rfl rfl rfl ?_
    refine w_p tok rfl rfl rfl ?_
    refine w_p tok rfl rfl rfl ?_
    refine w_p tok rfl rfl rfl ?_
    refine w_end ?_
    refine x_seq ?_
    refine c_weak [(2, .int .i64 p2), (8, .pointer ((mget l3 p1).getD none)), (9, .bool ((mget l3 p1).isSome))] ⟨rfl, rfl, rfl, trivial⟩ ?_
    refine c_seq ?_
    refine c_region ?_
    refine w_p tok rfl rfl rfl ?_
    refine w_p tok rfl rfl rfl ?_
    refine w_p tok rfl rfl rfl ?_
    refine w_cut 6 (α := Bool) (fun (s : Bool) => [(29, .bool s), (2, .int .i64 p2), (8, .pointer ((mget l3 p1).getD none)), (21, .pointer ((mget l3 p1).getD none))]) (fun (s : Bool) h => quorum_Desk_open_g1 p2 ((mget l3 p1).getD none) ((mget l3 p1).getD none) s k h) ?_ ?_
    ·
      rintro t29_1 h_1 H
      replace H : quorum_Desk_open_g1 p2 ((mget l3 p1).getD none) ((mget l3 p1).getD none) t29_1 k h_1 := H
      unfold quorum_Desk_open_g1 at H
      refine w_weak [(29, .bool t29_1), (2, .int .i64 p2), (8, .pointer ((mget l3 p1).getD none)), (21, .pointer ((mget l3 p1).getD none))] ⟨rfl, rfl, rfl, rfl, trivial⟩ ?_
      refine w_p tok rfl rfl rfl ?_
      refine w_cut 7 (α := Bool) (fun (s : Bool) => [(37, .bool s), (21, .pointer ((mget l3 p1).getD none))]) (fun (s : Bool) h => quorum_Desk_open_g2 ((mget l3 p1).getD none) s k h) ?_ ?_
      ·
        rintro t37_2 h_2 H
        replace H : quorum_Desk_open_g2 ((mget l3 p1).getD none) t37_2 k h_2 := H
        unfold quorum_Desk_open_g2 at H
        refine w_weak [(37, .bool t37_2), (21, .pointer ((mget l3 p1).getD none))] ⟨rfl, rfl, trivial⟩ ?_
        refine w_p tok rfl rfl rfl ?_
        refine w_p tok rfl rfl rfl ?_
        refine w_end ?_
        refine x_seq ?_
        refine c_ret ?_
        exact x_ret _ rfl _ rfl ⟨(((mget l3 p1).getD none), t37_2), rfl, H⟩
      ·
        refine w_gif (d := 30) H rfl (fun H => ?_) (fun H => ?_)
        ·
          refine w_p tok rfl rfl rfl ?_
          obtain ⟨a4, ha4, H⟩ := H
          refine w_y (y_nil' rfl rfl ha4) rfl rfl ?_
          refine w_p tok rfl rfl rfl ?_
          obtain ⟨v5, hv5, H⟩ := H
          refine w_y (y_ld tok rfl rfl rfl rfl hv5) rfl rfl ?_
          refine w_p tok rfl rfl rfl ?_
          refine w_call slices_Contains_int_int_ok (slices_Contains_int_int_ref _ _ _ _ H) rfl rfl rfl rfl ?_
          rintro _ h7 ⟨r6, rfl, H⟩
          refine w_p tok rfl rfl rfl ?_
          exact w_jn r6 H ⟨rfl, rfl, trivial⟩
        ·
          refine w_skip rfl rfl ?_
          refine w_skip rfl rfl ?_
          refine w_skip rfl rfl ?_
          refine w_skip rfl rfl ?_
          refine w_skip rfl rfl ?_
          refine w_skip rfl rfl ?_
          refine w_p tok rfl rfl rfl ?_
          exact w_jn false H ⟨rfl, rfl, trivial⟩
    ·
      refine w_gif (d := 23) H rfl (fun H => ?_) (fun H => ?_)
      ·
        refine w_p tok rfl rfl rfl ?_
        obtain ⟨a8, ha8, H⟩ := H
        refine w_y (y_nil' rfl rfl ha8) rfl rfl ?_
        refine w_p tok rfl rfl rfl ?_
        obtain ⟨v9, hv9, H⟩ := H
        refine w_y (y_ld tok rfl rfl rfl rfl hv9) rfl rfl ?_
        refine w_p tok rfl rfl rfl ?_
        refine w_p tok rfl rfl rfl ?_
        exact w_jn (!v9) H ⟨rfl, rfl, rfl, rfl, trivial⟩
      ·
        refine w_skip rfl rfl ?_
        refine w_skip rfl rfl ?_
        refine w_skip rfl rfl ?_
        refine w_skip rfl rfl ?_
        refine w_skip rfl rfl ?_
        refine w_p tok rfl rfl rfl ?_
        exact w_jn false H ⟨rfl, rfl, rfl, rfl, trivial⟩

theorem quorum_New_ok : CallOk Go.Proofs.Tryz.prog 6 := ⟨_, Go.Proofs.Tryz.func6, by kernel_rfl, by kernel_rfl⟩
theorem quorum_New_ref (k : (Option Addr) → Heap → Prop) (h : Heap) (H : quorum_New k h) : CallsH Go.Proofs.Tryz.prog 6 #[] h (fun v h' => ∃ r : Option Addr, v = .pointer r ∧ k r h') := by
  refine f_enter (N := 4) Go.Proofs.Tryz.func6 rfl rfl rfl (fun w0 => ?_)
  unfold quorum_New at H
  refine c_seq ?_
  refine c_region ?_
  refine w_p tok rfl rfl rfl ?_
  refine w_end ?_
  refine x_seq ?_
  refine c_seq ?_
  refine c_region ?_
  obtain ⟨b1, h2, eb1, eh2, H⟩ := H
  refine w_h (h_mkm rfl eb1 eh2) rfl rfl ?_
  refine w_y (y_build tok rfl rfl rfl rfl rfl) rfl rfl ?_
  obtain ⟨b3, h4, eb3, eh4, H⟩ := H
  refine w_h (h_box rfl rfl eb3 eh4) rfl rfl ?_
  refine w_p tok rfl rfl rfl ?_
  refine w_end ?_
  refine x_seq ?_
  refine c_ret ?_
  exact x_ret _ rfl _ rfl ⟨(some (⟨b3, 0, none⟩ : Addr)), rfl, H⟩

theorem quorum_Desk_Start_ok : CallOk Go.Proofs.Tryz.prog 7 := ⟨_, Go.Proofs.Tryz.func7, by kernel_rfl, by kernel_rfl⟩
theorem quorum_Desk_Start_ref (p0 : Option Addr) (p1 : S_api_Op) (k : (Int) → Heap → Prop) (h : Heap) (H : quorum_Desk_Start p0 p1 k h) : CallsH Go.Proofs.Tryz.prog 7 #[.pointer p0, .agg (S_api_Op.cs p1).toArray] h (fun v h' => ∃ r : Int, v = .int .i64 r ∧ k r h') := by
  refine f_enter (N := 53) Go.Proofs.Tryz.func7 rfl rfl rfl (fun w0 => ?_)
  unfold quorum_Desk_Start at H
  refine c_weak [(0, .pointer p0), (1, .agg (S_api_Op.cs p1).toArray)] ⟨rfl, rfl, trivial⟩ ?_
  refine c_seq ?_
  refine c_region ?_
  obtain ⟨b1, h2, eb1, eh2, H⟩ := H
  refine w_h (h_box rfl rfl eb1 eh2) rfl rfl ?_
  refine w_p tok rfl rfl rfl ?_
  refine w_end ?_
  refine x_seq ?_
  refine c_seq ?_
  refine c_seq ?_
  refine c_region ?_
  refine w_p tok rfl rfl rfl ?_
  refine w_p tok rfl rfl rfl ?_
  refine w_p tok rfl rfl rfl ?_
  refine w_cut 4 (α := Bool) (fun (s : Bool) => [(13, .bool s), (0, .pointer p0), (3, .pointer (some (⟨b1, 0, none⟩ : Addr)))]) (fun (s : Bool) h => quorum_Desk_Start_g1 p0 (⟨b1, 0, none⟩ : Addr) s k h) ?_ ?_
  ·
    rintro t13_1 h_1 H
    replace H : quorum_Desk_Start_g1 p0 (⟨b1, 0, none⟩ : Addr) t13_1 k h_1 := H
    unfold quorum_Desk_Start_g1 at H
    refine w_weak [(13, .bool t13_1), (0, .pointer p0), (3, .pointer (some (⟨b1, 0, none⟩ : Addr)))] ⟨rfl, rfl, rfl, trivial⟩ ?_
    refine w_p tok rfl rfl rfl ?_
    refine w_cut 5 (α := Bool) (fun (s : Bool) => [(19, .bool s), (0, .pointer p0), (3, .pointer (some (⟨b1, 0, none⟩ : Addr)))]) (fun (s : Bool) h => quorum_Desk_Start_g2 p0 (⟨b1, 0, none⟩ : Addr) s k h) ?_ ?_
    ·
      rintro t19_2 h_2 H
      replace H : quorum_Desk_Start_g2 p0 (⟨b1, 0, none⟩ : Addr) t19_2 k h_2 := H
      unfold quorum_Desk_Start_g2 at H
      refine w_weak [(19, .bool t19_2), (0, .pointer p0), (3, .pointer (some (⟨b1, 0, none⟩ : Addr)))] ⟨rfl, rfl, rfl, trivial⟩ ?_
      refine w_p tok rfl rfl rfl ?_
      refine w_cut 4 (α := Bool) (fun (s : Bool) => [(24, .bool s), (0, .pointer p0), (3, .pointer (some (⟨b1, 0, none⟩ : Addr)))]) (fun (s : Bool) h => quorum_Desk_Start_g3 p0 (⟨b1, 0, none⟩ : Addr) s k h) ?_ ?_
      ·
        rintro t24_3 h_3 H
        replace H : quorum_Desk_Start_g3 p0 (⟨b1, 0, none⟩ : Addr) t24_3 k h_3 := H
        unfold quorum_Desk_Start_g3 at H
        refine w_weak [(24, .bool t24_3), (0, .pointer p0), (3, .pointer (some (⟨b1, 0, none⟩ : Addr)))] ⟨rfl, rfl, rfl, trivial⟩ ?_
        refine w_end ?_
        refine x_seq ?_
        refine c_if H rfl (fun H => ?_) (fun H => ?_)
        ·
          refine c_seq ?_
          refine c_region ?_
          refine w_p tok rfl rfl rfl ?_
          refine w_end ?_
          refine x_seq ?_
          refine c_ret ?_
          refine x_tr ?_
          exact x_ret _ rfl _ rfl ⟨1, rfl, H⟩
        ·
          refine c_skip ?_
          refine x_seq ?_
          refine c_seq ?_
          refine c_seq ?_
          refine c_draw (by kernel_rfl) (by kernel_rfl) ?_
          refine q_p tok rfl rfl rfl ?_
          obtain ⟨a3, ha3, H⟩ := H
          refine q_y (y_nil' rfl rfl ha3) rfl rfl ?_
          refine q_p tok rfl rfl rfl ?_
          obtain ⟨v4, hv4, H⟩ := H
          refine q_y (y_ld tok rfl rfl rfl rfl hv4) rfl rfl ?_
          refine q_p tok rfl rfl rfl ?_
          obtain ⟨v5, hv5, H⟩ := H
          refine q_y (y_ld tok rfl rfl rfl rfl hv5) rfl rfl ?_
          obtain ⟨l6, hl6, H⟩ := H
          refine q_y (y_lk2 (K := Int) (V := (Option Addr)) (d := (.int .u64)) (kf := (Value.int .u64)) (vf := (fun v : Option Addr => (.pointer v : Value))) (kt := 29) (et := 56) (k := v5) (z := none) (m := v4) (l := l6) rfl rfl rfl (by kernel_rfl) (by kernel_rfl) (kInt .u64) (zero_1 tok (T := tab) rfl rfl rfl) hl6) rfl rfl ?_
          refine q_p tok rfl rfl rfl ?_
          refine q_p tok rfl rfl rfl ?_
          refine q_p tok rfl rfl rfl ?_
          refine q_p tok rfl rfl rfl ?_
          refine q_p tok rfl rfl rfl ?_
          refine q_end ?_
          refine x_seq ?_
          refine c_weak [(0, .pointer p0), (3, .pointer (some (⟨b1, 0, none⟩ : Addr))), (6, .bool ((mget l6 v5).isSome))] ⟨rfl, rfl, rfl, trivial⟩ ?_
          refine c_seq ?_
          refine c_region ?_
          refine w_p tok rfl rfl rfl ?_
          refine w_end ?_
          refine x_seq ?_
          refine c_if H rfl (fun H => ?_) (fun H => ?_)
          ·
            refine c_seq ?_
            refine c_region ?_
            refine w_p tok rfl rfl rfl ?_
            refine w_end ?_
            refine x_seq ?_
            refine c_ret ?_
            refine x_tr ?_
            exact x_ret _ rfl _ rfl ⟨7, rfl, H⟩
          ·
            refine c_skip ?_
            refine x_seq ?_
            refine c_seq ?_
            refine c_region ?_
            obtain ⟨v7, hv7, H⟩ := H
            refine w_y (y_lda tok rfl rfl rfl rfl rfl hv7) rfl rfl ?_
            refine w_call quorum_copied_ok (quorum_copied_ref _ _ _ H) rfl rfl rfl rfl ?_
            rintro _ h9 ⟨r8, rfl, H⟩
            obtain ⟨h10, wh10, eh10, H⟩ := H
            refine w_h (h_sts tok rfl rfl rfl rfl rfl (oneC (by kernel_rfl)) wh10 eh10) rfl rfl ?_
            refine w_end ?_
            refine x_seq ?_
            refine c_seq ?_
            refine c_region ?_
            refine w_p tok rfl rfl rfl ?_
            obtain ⟨h11, wh11, eh11, H⟩ := H
            refine w_h (h_st tok rfl rfl rfl rfl rfl rfl wh11 eh11) rfl rfl ?_
            refine w_p tok rfl rfl rfl ?_
            obtain ⟨h12, wh12, eh12, H⟩ := H
            refine w_h (h_st tok rfl rfl rfl rfl rfl rfl wh12 eh12) rfl rfl ?_
            refine w_p tok rfl rfl rfl ?_
            obtain ⟨h13, wh13, eh13, H⟩ := H
            refine w_h (h_st tok rfl rfl rfl rfl rfl rfl wh13 eh13) rfl rfl ?_
            refine w_p tok rfl rfl rfl ?_
            obtain ⟨h14, wh14, eh14, H⟩ := H
            refine w_h (h_st tok rfl rfl rfl rfl rfl rfl wh14 eh14) rfl rfl ?_
            refine w_p tok rfl rfl rfl ?_
            obtain ⟨h15, wh15, eh15, H⟩ := H
            refine w_h (h_st tok rfl rfl rfl rfl rfl rfl wh15 eh15) rfl rfl ?_
            refine w_end ?_
            refine x_seq ?_
            refine c_weak [(0, .pointer p0), (3, .pointer (some (⟨b1, 0, none⟩ : Addr)))] ⟨rfl, rfl, trivial⟩ ?_
            refine c_seqJ (α := Unit) (fun (s : Unit) => [(0, .pointer p0), (3, .pointer (some (⟨b1, 0, none⟩ : Addr)))]) (fun (s : Unit) h => quorum_Desk_Start_j4 p0 (⟨b1, 0, none⟩ : Addr) k h) ?_ ?_
            ·
              rintro _ h_4 H
              replace H : quorum_Desk_Start_j4 p0 (⟨b1, 0, none⟩ : Addr) k h_4 := H
              unfold quorum_Desk_Start_j4 at H
              refine c_weak [(0, .pointer p0), (3, .pointer (some (⟨b1, 0, none⟩ : Addr)))] ⟨rfl, rfl, trivial⟩ ?_
              refine c_seq ?_
              refine c_sim [(0, .pointer p0), (3, .pointer (some (⟨b1, 0, none⟩ : Addr)))] (by kernel_rfl) (by kernel_rfl) ⟨rfl, rfl, trivial⟩ (fun wf => ?_)
              refine sim_p 0 (ei := [(0, .pointer p0)]) (d := (some 47)) wf (by kernel_rfl) ⟨rfl, trivial⟩ (by kernel_rfl) (by kernel_rfl) (fun _ => pf_p tok rfl rfl rfl rfl) (fun P_0 => ?_)
              obtain ⟨a16, ha16, H⟩ := H
              refine sim_p 1 (ei := [(47, .pointer p0)]) (d := (some 48)) wf (by kernel_rfl) ⟨rfl, trivial⟩ (by kernel_rfl) (by kernel_rfl) (fun _ => pf_y rfl rfl rfl (y_nil' rfl rfl ha16)) (fun P_1 => ?_)
              refine sim_p 2 (ei := [(48, .pointer (some a16))]) (d := (some 49)) wf (by kernel_rfl) ⟨rfl, trivial⟩ (by kernel_rfl) (by kernel_rfl) (fun _ => pf_p tok rfl rfl rfl rfl) (fun P_2 => ?_)
              obtain ⟨v17, hv17, H⟩ := H
              refine sim_l 3 (ei := [(49, .pointer (some a16))]) (d := (some 50)) wf (by kernel_rfl) ⟨rfl, trivial⟩ (by kernel_rfl) (by kernel_rfl) (pf_y rfl rfl rfl (y_ld tok rfl rfl rfl rfl hv17)) (fun P_3 => ?_)
              refine sim_p 4 (ei := [(3, .pointer (some (⟨b1, 0, none⟩ : Addr)))]) (d := (some 51)) wf (by kernel_rfl) ⟨rfl, trivial⟩ (by kernel_rfl) (by kernel_rfl) (fun _ => pf_p tok rfl rfl rfl rfl) (fun P_4 => ?_)
              obtain ⟨v18, hv18, H⟩ := H
              refine sim_l 5 (ei := [(51, .pointer (some (⟨b1, 0, none⟩ : Addr)))]) (d := (some 52)) wf (by kernel_rfl) ⟨rfl, trivial⟩ (by kernel_rfl) (by kernel_rfl) (pf_y rfl rfl rfl (y_ld tok rfl rfl rfl rfl hv18)) (fun P_5 => ?_)
              obtain ⟨r19, l20, h21, er19, hl20, eh21, H⟩ := H
              refine sim_h 6 [0, 1, 2, 3, 4, 5] [0, 1, 2, 3, 4, 5] (ei := [(3, .pointer (some (⟨b1, 0, none⟩ : Addr))), (50, .map v17), (52, .int .u64 v18)]) wf ⟨P_5, P_4 _, P_3, P_2 _, P_1 _, P_0 _, trivial⟩ (by kernel_rfl) ⟨rfl, rfl, rfl, trivial⟩ (by kernel_rfl) rfl rfl rfl (h_mu (K := Int) (V := (Option Addr)) (d := (.int .u64)) (kf := (Value.int .u64)) (vf := (fun v : Option Addr => (.pointer v : Value))) (kt := 29) (et := 56) (k := v18) (v := (some (⟨b1, 0, none⟩ : Addr))) (m := v17) (l := l20) rfl rfl rfl rfl (by kernel_rfl) (by kernel_rfl) (kInt .u64) er19 hl20 eh21) ?_
              refine sim_end wf ⟨trivial, trivial, trivial, trivial, trivial, trivial, trivial⟩ (by kernel_rfl) ?_
              clear wf P_0 P_1 P_2 P_3 P_4 P_5
              refine x_seq ?_
              refine c_weak [] trivial ?_
              refine c_seq ?_
              refine c_region ?_
              refine w_p tok rfl rfl rfl ?_
              refine w_end ?_
              refine x_seq ?_
              refine c_ret ?_
              exact x_ret _ rfl _ rfl ⟨0, rfl, H⟩
            ·
              refine c_seq ?_
              refine c_region ?_
              refine w_p tok rfl rfl rfl ?_
              obtain ⟨v22, hv22, H⟩ := H
              refine w_y (y_ld tok rfl rfl rfl rfl hv22) rfl rfl ?_
              refine w_p tok rfl rfl rfl ?_
              refine w_end ?_
              refine x_seq ?_
              refine c_if H rfl (fun H => ?_) (fun H => ?_)
              ·
                refine c_region ?_
                refine w_p tok rfl rfl rfl ?_
                obtain ⟨h23, wh23, eh23, H⟩ := H
                refine w_h (h_st tok rfl rfl rfl rfl rfl rfl wh23 eh23) rfl rfl ?_
                refine w_end ?_
                exact x_join () H ⟨rfl, rfl, trivial⟩
              ·
                refine c_skip ?_
                exact x_join () H ⟨rfl, rfl, trivial⟩
      ·
        refine w_gif (d := 20) H rfl (fun H => ?_) (fun H => ?_)
        ·
          refine w_skip rfl rfl ?_
          refine w_skip rfl rfl ?_
          refine w_skip rfl rfl ?_
          refine w_p tok rfl rfl rfl ?_
          exact w_jn true H ⟨rfl, rfl, rfl, trivial⟩
        ·
          refine w_p tok rfl rfl rfl ?_
          obtain ⟨v24, hv24, H⟩ := H
          refine w_y (y_ld tok rfl rfl rfl rfl hv24) rfl rfl ?_
          refine w_call quorum_twice_ok (quorum_twice_ref _ _ _ H) rfl rfl rfl rfl ?_
          rintro _ h26 ⟨r25, rfl, H⟩
          refine w_p tok rfl rfl rfl ?_
          exact w_jn r25 H ⟨rfl, rfl, rfl, trivial⟩
    ·
      refine w_gif (d := 14) H rfl (fun H => ?_) (fun H => ?_)
      ·
        refine w_skip rfl rfl ?_
        refine w_skip rfl rfl ?_
        refine w_skip rfl rfl ?_
        refine w_skip rfl rfl ?_
        refine w_p tok rfl rfl rfl ?_
        exact w_jn true H ⟨rfl, rfl, rfl, trivial⟩
      ·
        refine w_p tok rfl rfl rfl ?_
        obtain ⟨v27, hv27, H⟩ := H
        refine w_y (y_ld tok rfl rfl rfl rfl hv27) rfl rfl ?_
        refine w_p tok rfl rfl rfl ?_
        refine w_p tok rfl rfl rfl ?_
        refine w_p tok rfl rfl rfl ?_
        exact w_jn ((v27.len : Int) == 0) H ⟨rfl, rfl, rfl, trivial⟩
  ·
    refine w_gif (d := 9) H rfl (fun H => ?_) (fun H => ?_)
    ·
      refine w_skip rfl rfl ?_
      refine w_skip rfl rfl ?_
      refine w_skip rfl rfl ?_
      refine w_p tok rfl rfl rfl ?_
      exact w_jn true H ⟨rfl, rfl, rfl, trivial⟩
    ·
      obtain ⟨v28, hv28, H⟩ := H
      refine w_y (y_lda tok rfl rfl rfl rfl rfl hv28) rfl rfl ?_
      refine w_call quorum_Needs_ok (quorum_Needs_ref _ _ _ H) rfl rfl rfl rfl ?_
      rintro _ h30 ⟨r29, rfl, H⟩
      refine w_p tok rfl rfl rfl ?_
      refine w_p tok rfl rfl rfl ?_
      exact w_jn (r29 == 0) H ⟨rfl, rfl, rfl, trivial⟩

theorem quorum_Desk_Op_ok : CallOk Go.Proofs.Tryz.prog 12 := ⟨_, Go.Proofs.Tryz.func12, by kernel_rfl, by kernel_rfl⟩
theorem quorum_Desk_Op_ref (p0 : Option Addr) (p1 : Int) (k : (S_api_Op × Int) → Heap → Prop) (h : Heap) (H : quorum_Desk_Op p0 p1 k h) : CallsH Go.Proofs.Tryz.prog 12 #[.pointer p0, .int .u64 p1] h (fun v h' => ∃ r : S_api_Op × Int, v = .tuple #[.agg (S_api_Op.cs r.1).toArray, .int .i64 r.2] ∧ k r h') := by
  refine f_enter (N := 27) Go.Proofs.Tryz.func12 rfl rfl rfl (fun w0 => ?_)
  unfold quorum_Desk_Op at H
  refine c_weak [(0, .pointer p0), (1, .int .u64 p1)] ⟨rfl, rfl, trivial⟩ ?_
  refine c_seq ?_
  refine c_region ?_
  obtain ⟨b1, h2, eb1, eh2, H⟩ := H
  refine w_h (h_alloc tok rfl rfl eb1 eh2) rfl rfl ?_
  refine w_p tok rfl rfl rfl ?_
  refine w_end ?_
  refine x_seq ?_
  refine c_seq ?_
  refine c_seq ?_
  refine c_region ?_
  refine w_p tok rfl rfl rfl ?_
  refine w_p tok rfl rfl rfl ?_
  refine w_end ?_
  refine x_seq ?_
  refine c_if H rfl (fun H => ?_) (fun H => ?_)
  ·
    refine c_seq ?_
    refine c_region ?_
    refine w_y (y_build tok rfl rfl rfl rfl rfl) rfl rfl ?_
    obtain ⟨h3, wh3, eh3, H⟩ := H
    refine w_h (h_sts tok rfl rfl rfl rfl rfl (oneC (by kernel_rfl)) wh3 eh3) rfl rfl ?_
    refine w_p tok rfl rfl rfl ?_
    refine w_end ?_
    refine x_seq ?_
    refine c_ret ?_
    refine x_tr ?_
    obtain ⟨v4, hv4, H⟩ := H
    exact x_retc tok _ rfl [.agg (S_api_Op.cs v4).toArray, .int .i64 6] ⟨⟨_, _, rfl, rfl, .inr ⟨rfl, _, rfl, rfl, hv4⟩⟩, rfl, trivial⟩ ⟨(v4, 6), rfl, H⟩
  ·
    refine c_skip ?_
    refine x_seq ?_
    refine c_seq ?_
    refine c_region ?_
    refine w_p tok rfl rfl rfl ?_
    obtain ⟨a5, ha5, H⟩ := H
    refine w_y (y_nil' rfl rfl ha5) rfl rfl ?_
    refine w_p tok rfl rfl rfl ?_
    obtain ⟨v6, hv6, H⟩ := H
    refine w_y (y_ld tok rfl rfl rfl rfl hv6) rfl rfl ?_
    refine w_p tok rfl rfl rfl ?_
    obtain ⟨l7, hl7, H⟩ := H
    refine w_y (y_lk2 (K := Int) (V := (Option Addr)) (d := (.int .u64)) (kf := (Value.int .u64)) (vf := (fun v : Option Addr => (.pointer v : Value))) (kt := 29) (et := 56) (k := p1) (z := none) (m := v6) (l := l7) rfl rfl rfl (by kernel_rfl) (by kernel_rfl) (kInt .u64) (zero_1 tok (T := tab) rfl rfl rfl) hl7) rfl rfl ?_
    refine w_p tok rfl rfl rfl ?_
    refine w_p tok rfl rfl rfl ?_
    refine w_p tok rfl rfl rfl ?_
    refine w_p tok rfl rfl rfl ?_
    refine w_p tok rfl rfl rfl ?_
    refine w_end ?_
    refine x_seq ?_
    refine c_weak [(4, .pointer (some (⟨b1, 0, none⟩ : Addr))), (6, .pointer ((mget l7 p1).getD none)), (7, .bool ((mget l7 p1).isSome))] ⟨rfl, rfl, rfl, trivial⟩ ?_
    refine c_seq ?_
    refine c_seq ?_
    refine c_region ?_
    refine w_p tok rfl rfl rfl ?_
    refine w_p tok rfl rfl rfl ?_
    refine w_end ?_
    refine x_seq ?_
    refine c_if H rfl (fun H => ?_) (fun H => ?_)
    ·
      refine c_seq ?_
      refine c_region ?_
      refine w_y (y_build tok rfl rfl rfl rfl rfl) rfl rfl ?_
      obtain ⟨h8, wh8, eh8, H⟩ := H
      refine w_h (h_sts tok rfl rfl rfl rfl rfl (oneC (by kernel_rfl)) wh8 eh8) rfl rfl ?_
      refine w_p tok rfl rfl rfl ?_
      refine w_end ?_
      refine x_seq ?_
      refine c_ret ?_
      refine x_tr ?_
      obtain ⟨v9, hv9, H⟩ := H
      exact x_retc tok _ rfl [.agg (S_api_Op.cs v9).toArray, .int .i64 6] ⟨⟨_, _, rfl, rfl, .inr ⟨rfl, _, rfl, rfl, hv9⟩⟩, rfl, trivial⟩ ⟨(v9, 6), rfl, H⟩
    ·
      refine c_skip ?_
      refine x_seq ?_
      refine c_seq ?_
      refine c_region ?_
      refine w_p tok rfl rfl rfl ?_
      obtain ⟨a10, ha10, H⟩ := H
      refine w_y (y_nil' rfl rfl ha10) rfl rfl ?_
      obtain ⟨v11, hv11, H⟩ := H
      refine w_y (y_lda tok rfl rfl rfl rfl rfl hv11) rfl rfl ?_
      refine w_call quorum_copied_ok (quorum_copied_ref _ _ _ H) rfl rfl rfl rfl ?_
      rintro _ h13 ⟨r12, rfl, H⟩
      obtain ⟨h14, wh14, eh14, H⟩ := H
      refine w_h (h_sts tok rfl rfl rfl rfl rfl (oneC (by kernel_rfl)) wh14 eh14) rfl rfl ?_
      refine w_p tok rfl rfl rfl ?_
      refine w_end ?_
      refine x_seq ?_
      refine c_weak [(4, .pointer (some (⟨b1, 0, none⟩ : Addr))), (5, .int .i64 0)] ⟨rfl, rfl, trivial⟩ ?_
      refine c_ret ?_
      obtain ⟨v15, hv15, H⟩ := H
      exact x_retc tok _ rfl [.agg (S_api_Op.cs v15).toArray, .int .i64 0] ⟨⟨_, _, rfl, rfl, .inr ⟨rfl, _, rfl, rfl, hv15⟩⟩, rfl, trivial⟩ ⟨(v15, 0), rfl, H⟩

theorem quorum_Desk_Result_ok : CallOk Go.Proofs.Tryz.prog 9 := ⟨_, Go.Proofs.Tryz.func9, by kernel_rfl, by kernel_rfl⟩
theorem quorum_Desk_Result_ref (p0 : Option Addr) (p1 : Int) (k : (S_api_Op × Int) → Heap → Prop) (h : Heap) (H : quorum_Desk_Result p0 p1 k h) : CallsH Go.Proofs.Tryz.prog 9 #[.pointer p0, .int .u64 p1] h (fun v h' => ∃ r : S_api_Op × Int, v = .tuple #[.agg (S_api_Op.cs r.1).toArray, .int .i64 r.2] ∧ k r h') := by
  refine f_enter (N := 24) Go.Proofs.Tryz.func9 rfl rfl rfl (fun w0 => ?_)
  unfold quorum_Desk_Result at H
  refine c_weak [(0, .pointer p0), (1, .int .u64 p1)] ⟨rfl, rfl, trivial⟩ ?_
  refine c_seq ?_
  refine c_region ?_
  obtain ⟨b1, h2, eb1, eh2, H⟩ := H
  refine w_h (h_alloc tok rfl rfl eb1 eh2) rfl rfl ?_
  refine w_p tok rfl rfl rfl ?_
  refine w_end ?_
  refine x_seq ?_
  refine c_seq ?_
  refine c_region ?_
  refine w_p tok rfl rfl rfl ?_
  refine w_p tok rfl rfl rfl ?_
  refine w_call quorum_Desk_Op_ok (quorum_Desk_Op_ref _ _ _ _ H) rfl rfl rfl rfl ?_
  rintro _ h4 ⟨r3, rfl, H⟩
  refine w_p tok rfl rfl rfl ?_
  refine w_p tok rfl rfl rfl ?_
  refine w_p tok rfl rfl rfl ?_
  obtain ⟨b5, h6, eb5, eh6, H⟩ := H
  refine w_h (h_alloc tok rfl rfl eb5 eh6) rfl rfl ?_
  obtain ⟨h7, wh7, eh7, H⟩ := H
  refine w_h (h_sts tok rfl rfl rfl rfl rfl (oneC (by kernel_rfl)) wh7 eh7) rfl rfl ?_
  refine w_p tok rfl rfl rfl ?_
  refine w_end ?_
  refine x_seq ?_
  refine c_weak [(4, .pointer (some (⟨b1, 0, none⟩ : Addr))), (6, .pointer (some (⟨b5, 0, none⟩ : Addr))), (7, .int .i64 r3.2)] ⟨rfl, rfl, rfl, trivial⟩ ?_
  refine c_seq ?_
  refine c_seq ?_
  refine c_region ?_
  refine w_p tok rfl rfl rfl ?_
  refine w_p tok rfl rfl rfl ?_
  refine w_p tok rfl rfl rfl ?_
  refine w_cut 4 (α := Bool) (fun (s : Bool) => [(20, .bool s), (4, .pointer (some (⟨b1, 0, none⟩ : Addr))), (6, .pointer (some (⟨b5, 0, none⟩ : Addr))), (7, .int .i64 r3.2)]) (fun (s : Bool) h => quorum_Desk_Result_g1 (⟨b1, 0, none⟩ : Addr) (⟨b5, 0, none⟩ : Addr) r3.2 s k h) ?_ ?_
  ·
    rintro t20_1 h_1 H
    replace H : quorum_Desk_Result_g1 (⟨b1, 0, none⟩ : Addr) (⟨b5, 0, none⟩ : Addr) r3.2 t20_1 k h_1 := H
    unfold quorum_Desk_Result_g1 at H
    refine w_weak [(20, .bool t20_1), (4, .pointer (some (⟨b1, 0, none⟩ : Addr))), (6, .pointer (some (⟨b5, 0, none⟩ : Addr))), (7, .int .i64 r3.2)] ⟨rfl, rfl, rfl, rfl, trivial⟩ ?_
    refine w_end ?_
    refine x_seq ?_
    refine c_if H rfl (fun H => ?_) (fun H => ?_)
    ·
      refine c_seq ?_
      refine c_region ?_
      refine w_y (y_build tok rfl rfl rfl rfl rfl) rfl rfl ?_
      obtain ⟨h8, wh8, eh8, H⟩ := H
      refine w_h (h_sts tok rfl rfl rfl rfl rfl (oneC (by kernel_rfl)) wh8 eh8) rfl rfl ?_
      refine w_p tok rfl rfl rfl ?_
      refine w_end ?_
      refine x_seq ?_
      refine c_ret ?_
      refine x_tr ?_
      obtain ⟨v9, hv9, H⟩ := H
      exact x_retc tok _ rfl [.agg (S_api_Op.cs v9).toArray, .int .i64 14] ⟨⟨_, _, rfl, rfl, .inr ⟨rfl, _, rfl, rfl, hv9⟩⟩, rfl, trivial⟩ ⟨(v9, 14), rfl, H⟩
    ·
      refine c_skip ?_
      refine x_seq ?_
      refine c_seq ?_
      refine c_region ?_
      obtain ⟨v10, hv10, H⟩ := H
      refine w_y (y_lda tok rfl rfl rfl rfl rfl hv10) rfl rfl ?_
      refine w_p tok rfl rfl rfl ?_
      obtain ⟨h11, wh11, eh11, H⟩ := H
      refine w_h (h_sts tok rfl rfl rfl rfl rfl (oneC (by kernel_rfl)) wh11 eh11) rfl rfl ?_
      refine w_p tok rfl rfl rfl ?_
      refine w_end ?_
      refine x_seq ?_
      refine c_ret ?_
      obtain ⟨v12, hv12, H⟩ := H
      exact x_retc tok _ rfl [.agg (S_api_Op.cs v12).toArray, .int .i64 r3.2] ⟨⟨_, _, rfl, rfl, .inr ⟨rfl, _, rfl, rfl, hv12⟩⟩, rfl, trivial⟩ ⟨(v12, r3.2), rfl, H⟩
  ·
    refine w_gif (d := 16) H rfl (fun H => ?_) (fun H => ?_)
    ·
      refine w_p tok rfl rfl rfl ?_
      obtain ⟨v13, hv13, H⟩ := H
      refine w_y (y_ld tok rfl rfl rfl rfl hv13) rfl rfl ?_
      refine w_p tok rfl rfl rfl ?_
      refine w_p tok rfl rfl rfl ?_
      exact w_jn (!v13) H ⟨rfl, rfl, rfl, rfl, trivial⟩
    ·
      refine w_skip rfl rfl ?_
      refine w_skip rfl rfl ?_
      refine w_skip rfl rfl ?_
      refine w_p tok rfl rfl rfl ?_
      exact w_jn false H ⟨rfl, rfl, rfl, rfl, trivial⟩
end Go.Q.Yc

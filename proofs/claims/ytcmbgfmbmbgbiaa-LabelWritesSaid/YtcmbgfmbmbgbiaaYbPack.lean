/- A part of the proof of statements of this seat: lemmas, no statement of their own. -/
import Derived.Test.YtcmbgfmbmbgbiaaYbTab
import Derived.Test.YtcmbgfmbmbgbiaaQStr
set_option linter.unusedVariables false
set_option maxRecDepth 100000
set_option maxHeartbeats 1000000
namespace Go.Q.Yb
/-- quaestor quaestorref13.Great -/
def ref13_Great_l1b (t0_1 : Slc) (t1_1 : Int) (t5_1 : Int) (k : (Bool) → Heap → Prop) (nx1 : (Int) → Heap → Prop) (h_1 : Heap) : Prop :=
  if ((decide (t5_1 < (t0_1.len : Int))) && (decide (t5_1 < t1_1))) then (∃ a1 : Addr, t0_1.a = some a1 ∧ (0 : Int) ≤ t5_1 ∧ t5_1 < (t0_1.len : Int) ∧ (∃ v2 : ByteArray, cellH h_1 (a1.add (t5_1.toNat * 5)) = some (.string v2) ∧ (if (decide ((v2.size : Int) > 400)) then (k true h_1) else (∃ x3 : Int, x3 = (IntKind.i64.wrap (t5_1 + 1)) ∧ (nx1 x3 h_1))))) else (k (decide ((t0_1.len : Int) > t1_1)) h_1)
def ref13_Great_l1 (t0_1 : Slc) (t1_1 : Int) (i5 : Int) (k : (Bool) → Heap → Prop) (h : Heap) : Prop :=
  ∃ (I : Int → Heap → Prop) (μ : Int → Heap → Nat), I i5 h ∧ ∀ (t5_1 : Int) (h : Heap), I t5_1 h → ref13_Great_l1b t0_1 t1_1 t5_1 k (fun s h' => I s h' ∧ μ s h' < μ t5_1 h) h
def ref13_Great (p0 : Slc) (p1 : Int) (k : (Bool) → Heap → Prop) (h : Heap) : Prop :=
  ref13_Great_l1 p0 p1 0 k h

/-- quaestor quaestorref23.Great -/
def ref23_Great_l1b (t0_1 : Slc) (t3_1 : Int) (k : (Bool) → Heap → Prop) (nx1 : (Int) → Heap → Prop) (h_1 : Heap) : Prop :=
  if ((decide (t3_1 < (t0_1.len : Int))) && (decide (t3_1 < 100))) then (∃ a1 : Addr, t0_1.a = some a1 ∧ (0 : Int) ≤ t3_1 ∧ t3_1 < (t0_1.len : Int) ∧ (∃ v2 : Slc, cellH h_1 ((a1.add (t3_1.toNat * 2)).add 1) = some (Slc.v v2) ∧ (if (decide ((v2.len : Int) > 300)) then (k true h_1) else (∃ x3 : Int, x3 = (IntKind.i64.wrap (t3_1 + 1)) ∧ (nx1 x3 h_1))))) else (k (decide ((t0_1.len : Int) > 100)) h_1)
def ref23_Great_l1 (t0_1 : Slc) (i3 : Int) (k : (Bool) → Heap → Prop) (h : Heap) : Prop :=
  ∃ (I : Int → Heap → Prop) (μ : Int → Heap → Nat), I i3 h ∧ ∀ (t3_1 : Int) (h : Heap), I t3_1 h → ref23_Great_l1b t0_1 t3_1 k (fun s h' => I s h' ∧ μ s h' < μ t3_1 h) h
def ref23_Great (p0 : Slc) (k : (Bool) → Heap → Prop) (h : Heap) : Prop :=
  ref23_Great_l1 p0 0 k h

/-- quaestor quaestorref26.Great -/
def ref26_Great_g1 (t11_1 : Bool) (k : (Bool) → Heap → Prop) (h_1 : Heap) : Prop :=
  k t11_1 h_1
def ref26_Great (p0 : S_api_Msg) (k : (Bool) → Heap → Prop) (h : Heap) : Prop :=
  ∃ (b1 : Nat) (h2 : Heap), b1 = h.size ∧ h2 = h.push (.cells (S_api_Msg.cs p0).toArray 40) ∧ (∃ v3 : Slc, cellH h2 ((⟨b1, 0, none⟩ : Addr).add 6) = some (Slc.v v3) ∧ (ref23_Great v3 (fun (r4 : Bool) h5 => if r4 then (ref26_Great_g1 true k h5) else (∃ v6 : Slc, cellH h5 ((⟨b1, 0, none⟩ : Addr).add 7) = some (Slc.v v6) ∧ (ref26_Great_g1 (decide ((v6.len : Int) > 1000)) k h5))) h2))

/-- quaestor quaestorref25.Great -/
def ref25_Great_g2 (t0_2 : Slc) (t1_2 : Int) (t5_2 : Int) (t32_2 : Bool) (k : (Bool) → Heap → Prop) (nx1 : (Int) → Heap → Prop) (h_2 : Heap) : Prop :=
  if t32_2 then (k true h_2) else (∃ x3 : Int, x3 = (IntKind.i64.wrap (t5_2 + 1)) ∧ (nx1 x3 h_2))
def ref25_Great_l1b (t0_1 : Slc) (t1_1 : Int) (t5_1 : Int) (k : (Bool) → Heap → Prop) (nx1 : (Int) → Heap → Prop) (h_1 : Heap) : Prop :=
  if ((decide (t5_1 < (t0_1.len : Int))) && (decide (t5_1 < t1_1))) then (∃ a1 : Addr, t0_1.a = some a1 ∧ (0 : Int) ≤ t5_1 ∧ t5_1 < (t0_1.len : Int) ∧ (∃ v2 : ByteArray, cellH h_1 ((a1.add (t5_1.toNat * 17)).add 1) = some (.string v2) ∧ (if (decide ((v2.size : Int) > 100)) then (ref25_Great_g2 t0_1 t1_1 t5_1 true k nx1 h_1) else (∃ a4 : Addr, t0_1.a = some a4 ∧ (0 : Int) ≤ t5_1 ∧ t5_1 < (t0_1.len : Int) ∧ (∃ v5 : Slc, cellH h_1 ((a4.add (t5_1.toNat * 17)).add 15) = some (Slc.v v5) ∧ (ref25_Great_g2 t0_1 t1_1 t5_1 (decide ((v5.len : Int) > 200)) k nx1 h_1)))))) else (k (decide ((t0_1.len : Int) > t1_1)) h_1)
def ref25_Great_l1 (t0_1 : Slc) (t1_1 : Int) (i5 : Int) (k : (Bool) → Heap → Prop) (h : Heap) : Prop :=
  ∃ (I : Int → Heap → Prop) (μ : Int → Heap → Nat), I i5 h ∧ ∀ (t5_1 : Int) (h : Heap), I t5_1 h → ref25_Great_l1b t0_1 t1_1 t5_1 k (fun s h' => I s h' ∧ μ s h' < μ t5_1 h) h
def ref25_Great (p0 : Slc) (p1 : Int) (k : (Bool) → Heap → Prop) (h : Heap) : Prop :=
  ref25_Great_l1 p0 p1 0 k h

/-- quaestor quaestorref27.Great -/
def ref27_Great_g5 (t35_5 : Bool) (k : (Bool) → Heap → Prop) (h_5 : Heap) : Prop :=
  k t35_5 h_5
def ref27_Great_g4 (t1_4 : Addr) (t30_4 : Bool) (k : (Bool) → Heap → Prop) (h_4 : Heap) : Prop :=
  if t30_4 then (ref27_Great_g5 true k h_4) else (∃ v6 : S_api_Msg, CellsAt h_4 (t1_4.add 63) (S_api_Msg.cs v6) ∧ (ref26_Great v6 (fun (r7 : Bool) h8 => ref27_Great_g5 r7 k h8) h_4))
def ref27_Great_g3 (t1_3 : Addr) (t24_3 : Bool) (k : (Bool) → Heap → Prop) (h_3 : Heap) : Prop :=
  if t24_3 then (ref27_Great_g4 t1_3 true k h_3) else (∃ v9 : S_api_Command, CellsAt h_3 (t1_3.add 11) (S_api_Command.cs v9) ∧ (∃ (b10 : Nat) (h11 : Heap), b10 = h_3.size ∧ h11 = h_3.push (.cells ((S_api_Command.cs v9)).toArray 32) ∧ (ref25_Great (⟨some ⟨b10, 0, none⟩, 1, 1⟩ : Slc) 1 (fun (r12 : Bool) h13 => ref27_Great_g4 t1_3 r12 k h13) h11)))
def ref27_Great_g2 (t1_2 : Addr) (t17_2 : Bool) (k : (Bool) → Heap → Prop) (h_2 : Heap) : Prop :=
  if t17_2 then (ref27_Great_g3 t1_2 true k h_2) else (∃ v14 : ByteArray, cellH h_2 (t1_2.add 6) = some (.string v14) ∧ (ref27_Great_g3 t1_2 (decide ((v14.size : Int) > 1000)) k h_2))
def ref27_Great_g1 (t1_1 : Addr) (t11_1 : Bool) (k : (Bool) → Heap → Prop) (h_1 : Heap) : Prop :=
  if t11_1 then (ref27_Great_g2 t1_1 true k h_1) else (∃ v15 : ByteArray, cellH h_1 (t1_1.add 4) = some (.string v15) ∧ (ref27_Great_g2 t1_1 (decide ((v15.size : Int) > 1000)) k h_1))
def ref27_Great (p0 : S_api_Note) (k : (Bool) → Heap → Prop) (h : Heap) : Prop :=
  ∃ (b1 : Nat) (h2 : Heap), b1 = h.size ∧ h2 = h.push (.cells (S_api_Note.cs p0).toArray 42) ∧ (∃ v3 : Slc, cellH h2 ((⟨b1, 0, none⟩ : Addr).add 5) = some (Slc.v v3) ∧ (ref13_Great v3 40 (fun (r4 : Bool) h5 => if r4 then (ref27_Great_g1 (⟨b1, 0, none⟩ : Addr) true k h5) else (∃ v16 : Slc, cellH h5 ((⟨b1, 0, none⟩ : Addr).add 29) = some (Slc.v v16) ∧ (ref27_Great_g1 (⟨b1, 0, none⟩ : Addr) (decide ((v16.len : Int) > 80)) k h5))) h2))

/-- quaestor piece.Check -/
def piece_Check_g1 (t12_1 : Bool) (k : (Int) → Heap → Prop) (h_1 : Heap) : Prop :=
  if t12_1 then (k 1 h_1) else (k 0 h_1)
def piece_Check (p0 : S_api_Piece) (k : (Int) → Heap → Prop) (h : Heap) : Prop :=
  ∃ (b1 : Nat) (h2 : Heap), b1 = h.size ∧ h2 = h.push (.cells (S_api_Piece.cs p0).toArray 50) ∧ (∃ v3 : ByteArray, cellH h2 (⟨b1, 0, none⟩ : Addr) = some (.string v3) ∧ (if ((v3.size : Int) == 0) then (piece_Check_g1 true k h2) else (∃ v4 : ByteArray, cellH h2 (⟨b1, 0, none⟩ : Addr) = some (.string v4) ∧ (piece_Check_g1 (decide ((v4.size : Int) > 200)) k h2))))

/-- quaestor pack.Check 1 -/
def pack_Check_1 (p0 : S_api_Piece) (k : (Bool) → Heap → Prop) (h : Heap) : Prop :=
  ∃ (b1 : Nat) (h2 : Heap), b1 = h.size ∧ h2 = h.push (.cells (S_api_Piece.cs p0).toArray 50) ∧ (∃ v3 : S_api_Piece, CellsAt h2 (⟨b1, 0, none⟩ : Addr) (S_api_Piece.cs v3) ∧ (piece_Check v3 (fun (r4 : Int) h5 => k (r4 != 0) h5) h2))

/-- slices.IndexFunc   quaestor api.Piece quaestor api.Piece  -/
def slices_IndexFunc_api_Piece_api_Piece__pack_Check_1_l1b (t0_1 : Slc) (t7_1 : Int) (t8_1 : Int) (k : (Int) → Heap → Prop) (nx1 : (Int) → Heap → Prop) (h_1 : Heap) : Prop :=
  if (decide (t8_1 < t7_1)) then (∃ a1 : Addr, t0_1.a = some a1 ∧ (0 : Int) ≤ t8_1 ∧ t8_1 < (t0_1.len : Int) ∧ (∃ v2 : S_api_Piece, CellsAt h_1 (a1.add (t8_1.toNat * 5)) (S_api_Piece.cs v2) ∧ (pack_Check_1 v2 (fun (r3 : Bool) h4 => if r3 then (k t8_1 h4) else (nx1 (IntKind.i64.wrap (t8_1 + 1)) h4)) h_1))) else (∃ x5 : Int, x5 = (-1) ∧ (k x5 h_1))
def slices_IndexFunc_api_Piece_api_Piece__pack_Check_1_l1 (t0_1 : Slc) (t7_1 : Int) (i8 : Int) (k : (Int) → Heap → Prop) (h : Heap) : Prop :=
  ∃ (I : Int → Heap → Prop) (μ : Int → Heap → Nat), I i8 h ∧ ∀ (t8_1 : Int) (h : Heap), I t8_1 h → slices_IndexFunc_api_Piece_api_Piece__pack_Check_1_l1b t0_1 t7_1 t8_1 k (fun s h' => I s h' ∧ μ s h' < μ t8_1 h) h
def slices_IndexFunc_api_Piece_api_Piece__pack_Check_1 (p0 : Slc) (k : (Int) → Heap → Prop) (h : Heap) : Prop :=
  slices_IndexFunc_api_Piece_api_Piece__pack_Check_1_l1 p0 (p0.len : Int) 0 k h

/-- slices.ContainsFunc   quaestor api.Piece quaestor api.Piece  -/
def slices_ContainsFunc_api_Piece_api_Piece__pack_Check_1 (p0 : Slc) (k : (Bool) → Heap → Prop) (h : Heap) : Prop :=
  slices_IndexFunc_api_Piece_api_Piece__pack_Check_1 p0 (fun (r1 : Int) h2 => k (decide (r1 ≥ 0)) h2) h

/-- slices.Clone   byte byte  -/
def slices_Clone_byte_byte (p0 : Slc) (k : (Slc) → Heap → Prop) (h : Heap) : Prop :=
  if (p0.a.isNone) then (k (⟨none, 0, 0⟩ : Slc) h) else (∃ (b1 : Nat) (h2 : Heap), b1 = h.size ∧ h2 = h.push (.cells ([]).toArray 5) ∧ (∃ l5 : List Value, SlcAt h2 p0 l5 ∧ App 5 1 1 [.int .u8 0] h2 (⟨some ⟨b1, 0, none⟩, 0, 0⟩ : Slc) p0.len l5 (fun s3 h4 => k s3 h4)))

/-- quaestor num.PutShort -/
def num_PutShort_l1b (t1_1 : Int) (t5_1 : Slc) (k : (Slc) → Heap → Prop) (nx1 : (Int × Slc) → Heap → Prop) (h_1 : Heap) : Prop :=
  if (decide (t1_1 ≥ 128)) then (∃ (b3 : Nat) (h4 : Heap), b3 = h_1.size ∧ h4 = h_1.push (.cells ([.int .u8 (bwOr .u8 (IntKind.u8.wrap t1_1) 128)]).toArray 5) ∧ (App 5 1 1 [.int .u8 0] h4 t5_1 1 ([.int .u8 (bwOr .u8 (IntKind.u8.wrap t1_1) 128)]) (fun s5 h6 => ∃ x7 : Int, x7 = (shr .u64 t1_1 (7 : Int).toNat) ∧ (nx1 (x7, s5) h6)))) else (∃ (b8 : Nat) (h9 : Heap), b8 = h_1.size ∧ h9 = h_1.push (.cells ([.int .u8 (IntKind.u8.wrap t1_1)]).toArray 5) ∧ (App 5 1 1 [.int .u8 0] h9 t5_1 1 ([.int .u8 (IntKind.u8.wrap t1_1)]) (fun s10 h11 => k s10 h11)))
def num_PutShort_l1 (i1 : Int) (i5 : Slc) (k : (Slc) → Heap → Prop) (h : Heap) : Prop :=
  ∃ (I : (Int × Slc) → Heap → Prop) (μ : (Int × Slc) → Heap → Nat), I (i1, i5) h ∧ ∀ (t1_1 : Int) (t5_1 : Slc) (h : Heap), I (t1_1, t5_1) h → num_PutShort_l1b t1_1 t5_1 k (fun s h' => I s h' ∧ μ s h' < μ (t1_1, t5_1) h) h
def num_PutShort (p0 : Slc) (p1 : Int) (k : (Slc) → Heap → Prop) (h : Heap) : Prop :=
  slices_Clone_byte_byte p0 (fun (r1 : Slc) h2 => num_PutShort_l1 p1 r1 k h2) h

/-- quaestor pack.text -/
def pack_text (p0 : Slc) (p1 : ByteArray) (k : (Slc) → Heap → Prop) (h : Heap) : Prop :=
  num_PutShort p0 (IntKind.u64.wrap (p1.size : Int)) (fun (r1 : Slc) h2 => App 5 1 1 [.int .u8 0] h2 r1 p1.size (b8 (sB p1)) (fun s3 h4 => k s3 h4)) h

/-- quaestor num.Put -/
def num_Put_l1b (t13_1 : Int) (t1_1 : Int) (t7_1 : Slc) (t14_1 : Int) (k : (Slc) → Heap → Prop) (nx1 : (Int × Slc × Int) → Heap → Prop) (h_1 : Heap) : Prop :=
  if (decide (t14_1 < t13_1)) then (∃ (b3 : Nat) (h4 : Heap), b3 = h_1.size ∧ h4 = h_1.push (.cells ([.int .u8 (IntKind.u8.wrap t1_1)]).toArray 5) ∧ (App 5 1 1 [.int .u8 0] h4 t7_1 1 ([.int .u8 (IntKind.u8.wrap t1_1)]) (fun s5 h6 => ∃ x7 : Int, x7 = (shr .u64 t1_1 (8 : Int).toNat) ∧ (nx1 (x7, s5, (IntKind.i64.wrap (t14_1 + 1))) h6)))) else (k t7_1 h_1)
def num_Put_l1 (t13_1 : Int) (i1 : Int) (i7 : Slc) (i14 : Int) (k : (Slc) → Heap → Prop) (h : Heap) : Prop :=
  ∃ (I : (Int × Slc × Int) → Heap → Prop) (μ : (Int × Slc × Int) → Heap → Nat), I (i1, i7, i14) h ∧ ∀ (t1_1 : Int) (t7_1 : Slc) (t14_1 : Int) (h : Heap), I (t1_1, t7_1, t14_1) h → num_Put_l1b t13_1 t1_1 t7_1 t14_1 k (fun s h' => I s h' ∧ μ s h' < μ (t1_1, t7_1, t14_1) h) h
def num_Put (p0 : Slc) (p1 : Int) (p2 : Int) (k : (Slc) → Heap → Prop) (h : Heap) : Prop :=
  slices_Clone_byte_byte p0 (fun (r1 : Slc) h2 => if (decide (p2 > 8)) then (k r1 h2) else (num_Put_l1 p2 p1 r1 0 k h2)) h

/-- quaestor pack.wide -/
def pack_wide (p0 : Slc) (p1 : Int) (k : (Slc) → Heap → Prop) (h : Heap) : Prop :=
  num_Put p0 (IntKind.u64.wrap p1) 8 (fun (r1 : Slc) h2 => k r1 h2) h

/-- quaestor pack.id -/
def pack_id (p0 : Slc) (p1 : S_api_Id) (k : (Slc) → Heap → Prop) (h : Heap) : Prop :=
  ∃ (b1 : Nat) (h2 : Heap), b1 = h.size ∧ h2 = h.push (.cells (S_api_Id.cs p1).toArray 48) ∧ (∃ v3 : Int, cellH h2 (⟨b1, 0, none⟩ : Addr) = some (.int .u64 v3) ∧ (∃ v4 : Int, cellH h2 ((⟨b1, 0, none⟩ : Addr).add 1) = some (.int .u16 v4) ∧ (num_Put p0 v3 8 (fun (r5 : Slc) h6 => cellH h6 ((⟨b1, 0, none⟩ : Addr).add 1) = some (.int .u16 v4) ∧ (num_Put r5 (IntKind.u64.wrap v4) 2 (fun (r8 : Slc) h9 => k r8 h9) h6)) h2)))

/-- quaestor reg.text -/
def reg_text (p0 : Slc) (p1 : ByteArray) (k : (Slc) → Heap → Prop) (h : Heap) : Prop :=
  num_PutShort p0 (IntKind.u64.wrap (p1.size : Int)) (fun (r1 : Slc) h2 => App 5 1 1 [.int .u8 0] h2 r1 p1.size (b8 (sB p1)) (fun s3 h4 => k s3 h4)) h

/-- quaestor num.Zig -/
def num_Zig (p0 : Int) (k : (Int) → Heap → Prop) (h : Heap) : Prop :=
  ∃ x1 : Int, x1 = (bwXor .u64 (shl .u64 (IntKind.u64.wrap p0) (1 : Int).toNat) (IntKind.u64.wrap (shr .i64 p0 (63 : Int).toNat))) ∧ (k x1 h)

/-- quaestor reg.Put -/
def reg_Put (p0 : S_api_Command) (k : (Slc) → Heap → Prop) (h : Heap) : Prop :=
  ∃ (b1 : Nat) (h2 : Heap), b1 = h.size ∧ h2 = h.push (.cells (S_api_Command.cs p0).toArray 32) ∧ (∃ v3 : Int, cellH h2 (⟨b1, 0, none⟩ : Addr) = some (.int .i64 v3) ∧ (∃ v4 : ByteArray, cellH h2 ((⟨b1, 0, none⟩ : Addr).add 1) = some (.string v4) ∧ (∃ v5 : Int, cellH h2 ((⟨b1, 0, none⟩ : Addr).add 2) = some (.int .u32 v5) ∧ (∃ (b6 : Nat) (h7 : Heap), b6 = h2.size ∧ h7 = h2.push (.cells ([.int .u8 (IntKind.u8.wrap v3)]).toArray 5) ∧ (cellH h7 ((⟨b1, 0, none⟩ : Addr).add 2) = some (.int .u32 v5) ∧ cellH h7 ((⟨b1, 0, none⟩ : Addr).add 1) = some (.string v4) ∧ (reg_text (⟨some ⟨b6, 0, none⟩, 1, 1⟩ : Slc) v4 (fun (r10 : Slc) h11 => cellH h11 ((⟨b1, 0, none⟩ : Addr).add 2) = some (.int .u32 v5) ∧ (num_Put r10 (IntKind.u64.wrap v5) 4 (fun (r13 : Slc) h14 => ∃ s15 : Slc, (0 : Int) ≤ 0 ∧ 0 ≤ (12 : Int) ∧ 12 ≤ (12 : Int) ∧ s15 = subS ⟨some ((⟨b1, 0, none⟩ : Addr).add 3), 12, 12⟩ 1 (0 : Int).toNat (12 : Int).toNat 12 ∧ (∃ v16 : Slc, cellH h14 ((⟨b1, 0, none⟩ : Addr).add 15) = some (Slc.v v16) ∧ (∃ l17 : List Int, l17.length = v16.len ∧ SlcAt h14 v16 (b8 l17) ∧ (∃ l20 : List Value, SlcAt h14 s15 l20 ∧ App 5 1 1 [.int .u8 0] h14 r13 s15.len l20 (fun s18 h19 => SlcAt h19 v16 (b8 l17) ∧ cellH h19 ((⟨b1, 0, none⟩ : Addr).add 15) = some (Slc.v v16) ∧ (reg_text s18 (bsOf l17) (fun (r23 : Slc) h24 => ∃ v25 : Int, cellH h24 ((⟨b1, 0, none⟩ : Addr).add 16) = some (.int .i64 v25) ∧ (num_Zig v25 (fun (r26 : Int) h27 => num_Put r23 r26 8 (fun (r28 : Slc) h29 => k r28 h29) h27) h24)) h19)))))) h11)) h7))))))

/-- quaestor raft.text -/
def raft_text (p0 : Slc) (p1 : Slc) (k : (Slc) → Heap → Prop) (h : Heap) : Prop :=
  num_PutShort p0 (IntKind.u64.wrap (p1.len : Int)) (fun (r1 : Slc) h2 => ∃ l5 : List Value, SlcAt h2 p1 l5 ∧ App 5 1 1 [.int .u8 0] h2 r1 p1.len l5 (fun s3 h4 => k s3 h4)) h

/-- quaestor raft.Put -/
def raft_Put_l3b (t1_3 : Addr) (t43_3 : Slc) (t44_3 : Int) (t3_3 : Slc) (t45_3 : Int) (k : (Slc) → Heap → Prop) (nx1 : (Slc × Int) → Heap → Prop) (nx3 : (Slc × Int) → Heap → Prop) (h_3 : Heap) : Prop :=
  if (decide (t45_3 < t44_3)) then (∃ a26 : Addr, t43_3.a = some a26 ∧ (0 : Int) ≤ t45_3 ∧ t45_3 < (t43_3.len : Int) ∧ (∃ v27 : S_api_Entry, CellsAt h_3 (a26.add (t45_3.toNat * 2)) (S_api_Entry.cs v27) ∧ (∃ (b28 : Nat) (h29 : Heap), b28 = h_3.size ∧ h29 = h_3.push (.cells (S_api_Entry.cs (⟨0, (⟨none, 0, 0⟩ : Slc)⟩ : S_api_Entry)).toArray 254) ∧ (∃ h30 : Heap, WrsAt h29 (⟨b28, 0, none⟩ : Addr) 2 ∧ h30 = setsH h29 (⟨b28, 0, none⟩ : Addr) 0 (S_api_Entry.cs v27) ∧ (∃ v31 : Int, cellH h30 (⟨b28, 0, none⟩ : Addr) = some (.int .u64 v31) ∧ (∃ v32 : Slc, cellH h30 ((⟨b28, 0, none⟩ : Addr).add 1) = some (Slc.v v32) ∧ (num_PutShort t3_3 v31 (fun (r33 : Slc) h34 => cellH h34 ((⟨b28, 0, none⟩ : Addr).add 1) = some (Slc.v v32) ∧ (raft_text r33 v32 (fun (r36 : Slc) h37 => nx3 (r36, (IntKind.i64.wrap (t45_3 + 1))) h37) h34)) h30))))))) else (∃ v38 : Slc, cellH h_3 (t1_3.add 7) = some (Slc.v v38) ∧ (raft_text t3_3 v38 (fun (r39 : Slc) h40 => k r39 h40) h_3))
def raft_Put_l3 (t1_3 : Addr) (t43_3 : Slc) (t44_3 : Int) (i3 : Slc) (i45 : Int) (k : (Slc) → Heap → Prop) (nx1 : (Slc × Int) → Heap → Prop) (h : Heap) : Prop :=
  ∃ (I : (Slc × Int) → Heap → Prop) (μ : (Slc × Int) → Heap → Nat), I (i3, i45) h ∧ ∀ (t3_3 : Slc) (t45_3 : Int) (h : Heap), I (t3_3, t45_3) h → raft_Put_l3b t1_3 t43_3 t44_3 t3_3 t45_3 k nx1 (fun s h' => I s h' ∧ μ s h' < μ (t3_3, t45_3) h) h
def raft_Put_j2 (t1_2 : Addr) (t3_2 : Slc) (t6_2 : Int) (k : (Slc) → Heap → Prop) (nx1 : (Slc × Int) → Heap → Prop) (h_2 : Heap) : Prop :=
  ∃ v16 : Slc, cellH h_2 (t1_2.add 6) = some (Slc.v v16) ∧ (∃ (b17 : Nat) (h18 : Heap), b17 = h_2.size ∧ h18 = h_2.push (.cells ([.int .u8 t6_2]).toArray 5) ∧ (cellH h18 (t1_2.add 6) = some (Slc.v v16) ∧ (App 5 1 1 [.int .u8 0] h18 t3_2 1 ([.int .u8 t6_2]) (fun s20 h21 => cellH h21 (t1_2.add 6) = some (Slc.v v16) ∧ (num_PutShort s20 (IntKind.u64.wrap (v16.len : Int)) (fun (r23 : Slc) h24 => ∃ v25 : Slc, cellH h24 (t1_2.add 6) = some (Slc.v v25) ∧ (raft_Put_l3 t1_2 v25 (v25.len : Int) r23 0 k nx1 h24)) h21)))))
def raft_Put_l1b (t1_1 : Addr) (t21_1 : Slc) (t22_1 : Int) (t3_1 : Slc) (t23_1 : Int) (k : (Slc) → Heap → Prop) (nx1 : (Slc × Int) → Heap → Prop) (h_1 : Heap) : Prop :=
  if (decide (t23_1 < t22_1)) then (∃ a12 : Addr, t21_1.a = some a12 ∧ (0 : Int) ≤ t23_1 ∧ t23_1 < (t21_1.len : Int) ∧ (∃ v13 : Int, cellH h_1 (a12.add (t23_1.toNat * 1)) = some (.int .u64 v13) ∧ (num_PutShort t3_1 v13 (fun (r14 : Slc) h15 => nx1 (r14, (IntKind.i64.wrap (t23_1 + 1))) h15) h_1))) else (∃ v41 : Bool, cellH h_1 (t1_1.add 5) = some (.bool v41) ∧ (if v41 then (raft_Put_j2 t1_1 t3_1 1 k nx1 h_1) else (raft_Put_j2 t1_1 t3_1 0 k nx1 h_1)))
def raft_Put_l1 (t1_1 : Addr) (t21_1 : Slc) (t22_1 : Int) (i3 : Slc) (i23 : Int) (k : (Slc) → Heap → Prop) (h : Heap) : Prop :=
  ∃ (I : (Slc × Int) → Heap → Prop) (μ : (Slc × Int) → Heap → Nat), I (i3, i23) h ∧ ∀ (t3_1 : Slc) (t23_1 : Int) (h : Heap), I (t3_1, t23_1) h → raft_Put_l1b t1_1 t21_1 t22_1 t3_1 t23_1 k (fun s h' => I s h' ∧ μ s h' < μ (t3_1, t23_1) h) h
def raft_Put (p0 : S_api_Msg) (k : (Slc) → Heap → Prop) (h : Heap) : Prop :=
  ∃ (b1 : Nat) (h2 : Heap), b1 = h.size ∧ h2 = h.push (.cells (S_api_Msg.cs p0).toArray 40) ∧ (∃ v3 : Int, cellH h2 (⟨b1, 0, none⟩ : Addr) = some (.int .i64 v3) ∧ (∃ (b4 : Nat) (h5 : Heap), b4 = h2.size ∧ h5 = h2.push (.cells ([.int .u8 (IntKind.u8.wrap v3)]).toArray 5) ∧ (∃ v6 : Int, cellH h5 ((⟨b1, 0, none⟩ : Addr).add 1) = some (.int .u64 v6) ∧ (∃ v7 : Int, cellH h5 ((⟨b1, 0, none⟩ : Addr).add 2) = some (.int .u64 v7) ∧ (∃ v8 : Int, cellH h5 ((⟨b1, 0, none⟩ : Addr).add 3) = some (.int .u64 v8) ∧ (∃ v9 : Int, cellH h5 ((⟨b1, 0, none⟩ : Addr).add 4) = some (.int .u64 v9) ∧ (∃ (b10 : Nat) (h11 : Heap), b10 = h5.size ∧ h11 = h5.push (.cells ([.int .u64 v6, .int .u64 v7, .int .u64 v8, .int .u64 v9]).toArray 22) ∧ (raft_Put_l1 (⟨b1, 0, none⟩ : Addr) (⟨some ⟨b10, 0, none⟩, 4, 4⟩ : Slc) ((⟨some ⟨b10, 0, none⟩, 4, 4⟩ : Slc).len : Int) (⟨some ⟨b4, 0, none⟩, 1, 1⟩ : Slc) 0 k h11))))))))

/-- quaestor pack.form -/
def pack_form_l2b (t1_2 : Addr) (t93_2 : Slc) (t94_2 : Int) (t3_2 : Slc) (t95_2 : Int) (k : (Slc) → Heap → Prop) (nx1 : (Slc × Int) → Heap → Prop) (nx2 : (Slc × Int) → Heap → Prop) (h_2 : Heap) : Prop :=
  if (decide (t95_2 < t94_2)) then (∃ a91 : Addr, t93_2.a = some a91 ∧ (0 : Int) ≤ t95_2 ∧ t95_2 < (t93_2.len : Int) ∧ (∃ v92 : S_api_Id, CellsAt h_2 (a91.add (t95_2.toNat * 2)) (S_api_Id.cs v92) ∧ (∃ (b93 : Nat) (h94 : Heap), b93 = h_2.size ∧ h94 = h_2.push (.cells (S_api_Id.cs (⟨0, 0⟩ : S_api_Id)).toArray 48) ∧ (∃ h95 : Heap, WrsAt h94 (⟨b93, 0, none⟩ : Addr) 2 ∧ h95 = setsH h94 (⟨b93, 0, none⟩ : Addr) 0 (S_api_Id.cs v92) ∧ (∃ v96 : S_api_Id, CellsAt h95 (⟨b93, 0, none⟩ : Addr) (S_api_Id.cs v96) ∧ (pack_id t3_2 v96 (fun (r97 : Slc) h98 => nx2 (r97, (IntKind.i64.wrap (t95_2 + 1))) h98) h95)))))) else (∃ v99 : Int, cellH h_2 (t1_2.add 30) = some (.int .u8 v99) ∧ (∃ s100 : Slc, (0 : Int) ≤ 0 ∧ 0 ≤ (32 : Int) ∧ 32 ≤ (32 : Int) ∧ s100 = subS ⟨some ((t1_2.add 30).add 1), 32, 32⟩ 1 (0 : Int).toNat (32 : Int).toNat 32 ∧ (∃ (b101 : Nat) (h102 : Heap), b101 = h_2.size ∧ h102 = h_2.push (.cells ([.int .u8 v99]).toArray 5) ∧ (App 5 1 1 [.int .u8 0] h102 t3_2 1 ([.int .u8 v99]) (fun s103 h104 => ∃ l107 : List Value, SlcAt h104 s100 l107 ∧ App 5 1 1 [.int .u8 0] h104 s103 s100.len l107 (fun s105 h106 => ∃ v108 : S_api_Msg, CellsAt h106 (t1_2.add 63) (S_api_Msg.cs v108) ∧ (raft_Put v108 (fun (r109 : Slc) h110 => ∃ l111 : List Int, l111.length = r109.len ∧ SlcAt h110 r109 (b8 l111) ∧ (pack_text s105 (bsOf l111) (fun (r112 : Slc) h113 => k r112 h113) h110)) h106)))))))
def pack_form_l2 (t1_2 : Addr) (t93_2 : Slc) (t94_2 : Int) (i3 : Slc) (i95 : Int) (k : (Slc) → Heap → Prop) (nx1 : (Slc × Int) → Heap → Prop) (h : Heap) : Prop :=
  ∃ (I : (Slc × Int) → Heap → Prop) (μ : (Slc × Int) → Heap → Nat), I (i3, i95) h ∧ ∀ (t3_2 : Slc) (t95_2 : Int) (h : Heap), I (t3_2, t95_2) h → pack_form_l2b t1_2 t93_2 t94_2 t3_2 t95_2 k nx1 (fun s h' => I s h' ∧ μ s h' < μ (t3_2, t95_2) h) h
def pack_form_l1b (t1_1 : Addr) (t34_1 : Slc) (t35_1 : Int) (t3_1 : Slc) (t36_1 : Int) (k : (Slc) → Heap → Prop) (nx1 : (Slc × Int) → Heap → Prop) (h_1 : Heap) : Prop :=
  if (decide (t36_1 < t35_1)) then (∃ a29 : Addr, t34_1.a = some a29 ∧ (0 : Int) ≤ t36_1 ∧ t36_1 < (t34_1.len : Int) ∧ (∃ v30 : S_api_Piece, CellsAt h_1 (a29.add (t36_1.toNat * 5)) (S_api_Piece.cs v30) ∧ (∃ (b31 : Nat) (h32 : Heap), b31 = h_1.size ∧ h32 = h_1.push (.cells (S_api_Piece.cs (⟨ByteArray.empty, 0, 0, (⟨0, 0⟩ : S_api_Id)⟩ : S_api_Piece)).toArray 50) ∧ (∃ h33 : Heap, WrsAt h32 (⟨b31, 0, none⟩ : Addr) 5 ∧ h33 = setsH h32 (⟨b31, 0, none⟩ : Addr) 0 (S_api_Piece.cs v30) ∧ (∃ v34 : ByteArray, cellH h33 (⟨b31, 0, none⟩ : Addr) = some (.string v34) ∧ (∃ v35 : Int, cellH h33 ((⟨b31, 0, none⟩ : Addr).add 1) = some (.int .i64 v35) ∧ (∃ v36 : Int, cellH h33 ((⟨b31, 0, none⟩ : Addr).add 2) = some (.int .i64 v36) ∧ (∃ v37 : S_api_Id, CellsAt h33 ((⟨b31, 0, none⟩ : Addr).add 3) (S_api_Id.cs v37) ∧ (pack_text t3_1 v34 (fun (r38 : Slc) h39 => CellsAt h39 ((⟨b31, 0, none⟩ : Addr).add 3) (S_api_Id.cs v37) ∧ cellH h39 ((⟨b31, 0, none⟩ : Addr).add 2) = some (.int .i64 v36) ∧ cellH h39 ((⟨b31, 0, none⟩ : Addr).add 1) = some (.int .i64 v35) ∧ (pack_wide r38 v35 (fun (r43 : Slc) h44 => CellsAt h44 ((⟨b31, 0, none⟩ : Addr).add 3) (S_api_Id.cs v37) ∧ cellH h44 ((⟨b31, 0, none⟩ : Addr).add 2) = some (.int .i64 v36) ∧ (pack_wide r43 v36 (fun (r47 : Slc) h48 => CellsAt h48 ((⟨b31, 0, none⟩ : Addr).add 3) (S_api_Id.cs v37) ∧ (pack_id r47 v37 (fun (r50 : Slc) h51 => nx1 (r50, (IntKind.i64.wrap (t36_1 + 1))) h51) h48)) h44)) h39)) h33))))))))) else (∃ v52 : ByteArray, cellH h_1 (t1_1.add 6) = some (.string v52) ∧ (∃ v53 : Int, cellH h_1 ((t1_1.add 6).add 1) = some (.int .i64 v53) ∧ (∃ v54 : Int, cellH h_1 ((t1_1.add 6).add 2) = some (.int .i64 v54) ∧ (∃ v55 : Int, cellH h_1 ((t1_1.add 6).add 4) = some (.int .i64 v55) ∧ (pack_text t3_1 v52 (fun (r56 : Slc) h57 => cellH h57 ((t1_1.add 6).add 4) = some (.int .i64 v55) ∧ cellH h57 ((t1_1.add 6).add 2) = some (.int .i64 v54) ∧ cellH h57 ((t1_1.add 6).add 1) = some (.int .i64 v53) ∧ (pack_wide r56 v53 (fun (r61 : Slc) h62 => cellH h62 ((t1_1.add 6).add 4) = some (.int .i64 v55) ∧ cellH h62 ((t1_1.add 6).add 2) = some (.int .i64 v54) ∧ (pack_wide r61 v54 (fun (r65 : Slc) h66 => cellH h66 ((t1_1.add 6).add 4) = some (.int .i64 v55) ∧ (pack_wide r65 v55 (fun (r68 : Slc) h69 => ∃ v70 : Int, cellH h69 ((t1_1.add 6).add 3) = some (.int .i64 v70) ∧ (∃ v71 : S_api_Command, CellsAt h69 (t1_1.add 11) (S_api_Command.cs v71) ∧ (∃ (b72 : Nat) (h73 : Heap), b72 = h69.size ∧ h73 = h69.push (.cells ([.int .u8 (IntKind.u8.wrap v70)]).toArray 5) ∧ (CellsAt h73 (t1_1.add 11) (S_api_Command.cs v71) ∧ (App 5 1 1 [.int .u8 0] h73 r68 1 ([.int .u8 (IntKind.u8.wrap v70)]) (fun s75 h76 => CellsAt h76 (t1_1.add 11) (S_api_Command.cs v71) ∧ (reg_Put v71 (fun (r78 : Slc) h79 => ∃ l80 : List Int, l80.length = r78.len ∧ SlcAt h79 r78 (b8 l80) ∧ (pack_text s75 (bsOf l80) (fun (r81 : Slc) h82 => ∃ v83 : Int, cellH h82 (t1_1.add 28) = some (.int .u64 v83) ∧ (∃ v84 : Slc, cellH h82 (t1_1.add 29) = some (Slc.v v84) ∧ (num_PutShort r81 v83 (fun (r85 : Slc) h86 => cellH h86 (t1_1.add 29) = some (Slc.v v84) ∧ (num_PutShort r85 (IntKind.u64.wrap (v84.len : Int)) (fun (r88 : Slc) h89 => ∃ v90 : Slc, cellH h89 (t1_1.add 29) = some (Slc.v v90) ∧ (pack_form_l2 t1_1 v90 (v90.len : Int) r88 0 k nx1 h89)) h86)) h82))) h79)) h76))))))) h66)) h62)) h57)) h_1)))))
def pack_form_l1 (t1_1 : Addr) (t34_1 : Slc) (t35_1 : Int) (i3 : Slc) (i36 : Int) (k : (Slc) → Heap → Prop) (h : Heap) : Prop :=
  ∃ (I : (Slc × Int) → Heap → Prop) (μ : (Slc × Int) → Heap → Nat), I (i3, i36) h ∧ ∀ (t3_1 : Slc) (t36_1 : Int) (h : Heap), I (t3_1, t36_1) h → pack_form_l1b t1_1 t34_1 t35_1 t3_1 t36_1 k (fun s h' => I s h' ∧ μ s h' < μ (t3_1, t36_1) h) h
def pack_form (p0 : S_api_Note) (k : (Slc) → Heap → Prop) (h : Heap) : Prop :=
  ∃ (b1 : Nat) (h2 : Heap), b1 = h.size ∧ h2 = h.push (.cells (S_api_Note.cs p0).toArray 42) ∧ (∃ v3 : Int, cellH h2 (⟨b1, 0, none⟩ : Addr) = some (.int .i64 v3) ∧ (∃ v4 : Int, cellH h2 ((⟨b1, 0, none⟩ : Addr).add 1) = some (.int .u64 v4) ∧ (∃ v5 : Int, cellH h2 ((⟨b1, 0, none⟩ : Addr).add 2) = some (.int .u64 v5) ∧ (∃ (b6 : Nat) (h7 : Heap), b6 = h2.size ∧ h7 = h2.push (.cells ([.int .u8 (IntKind.u8.wrap v3)]).toArray 5) ∧ (cellH h7 ((⟨b1, 0, none⟩ : Addr).add 2) = some (.int .u64 v5) ∧ cellH h7 ((⟨b1, 0, none⟩ : Addr).add 1) = some (.int .u64 v4) ∧ (num_PutShort (⟨some ⟨b6, 0, none⟩, 1, 1⟩ : Slc) v4 (fun (r10 : Slc) h11 => cellH h11 ((⟨b1, 0, none⟩ : Addr).add 2) = some (.int .u64 v5) ∧ (num_PutShort r10 v5 (fun (r13 : Slc) h14 => ∃ v15 : Int, cellH h14 ((⟨b1, 0, none⟩ : Addr).add 3) = some (.int .i64 v15) ∧ (∃ v16 : ByteArray, cellH h14 ((⟨b1, 0, none⟩ : Addr).add 4) = some (.string v16) ∧ (∃ (b17 : Nat) (h18 : Heap), b17 = h14.size ∧ h18 = h14.push (.cells ([.int .u8 (IntKind.u8.wrap v15)]).toArray 5) ∧ (cellH h18 ((⟨b1, 0, none⟩ : Addr).add 4) = some (.string v16) ∧ (App 5 1 1 [.int .u8 0] h18 r13 1 ([.int .u8 (IntKind.u8.wrap v15)]) (fun s20 h21 => cellH h21 ((⟨b1, 0, none⟩ : Addr).add 4) = some (.string v16) ∧ (pack_text s20 v16 (fun (r23 : Slc) h24 => ∃ v25 : Slc, cellH h24 ((⟨b1, 0, none⟩ : Addr).add 5) = some (Slc.v v25) ∧ (num_PutShort r23 (IntKind.u64.wrap (v25.len : Int)) (fun (r26 : Slc) h27 => ∃ v28 : Slc, cellH h27 ((⟨b1, 0, none⟩ : Addr).add 5) = some (Slc.v v28) ∧ (pack_form_l1 (⟨b1, 0, none⟩ : Addr) v28 (v28.len : Int) r26 0 k h27)) h24)) h21))))))) h11)) h7))))))

/-- quaestor pack.bytes 1 -/
def pack_bytes_1 (p0 : Int) (k : (Bool) → Heap → Prop) (h : Heap) : Prop :=
  k ((decide (p0 < 0)) || (decide (p0 > 255))) h

/-- slices.IndexFunc   int int  -/
def slices_IndexFunc_int_int__pack_bytes_1_l1b (t0_1 : Slc) (t7_1 : Int) (t8_1 : Int) (k : (Int) → Heap → Prop) (nx1 : (Int) → Heap → Prop) (h_1 : Heap) : Prop :=
  if (decide (t8_1 < t7_1)) then (∃ a1 : Addr, t0_1.a = some a1 ∧ (0 : Int) ≤ t8_1 ∧ t8_1 < (t0_1.len : Int) ∧ (∃ v2 : Int, cellH h_1 (a1.add (t8_1.toNat * 1)) = some (.int .i64 v2) ∧ (pack_bytes_1 v2 (fun (r3 : Bool) h4 => if r3 then (k t8_1 h4) else (nx1 (IntKind.i64.wrap (t8_1 + 1)) h4)) h_1))) else (∃ x5 : Int, x5 = (-1) ∧ (k x5 h_1))
def slices_IndexFunc_int_int__pack_bytes_1_l1 (t0_1 : Slc) (t7_1 : Int) (i8 : Int) (k : (Int) → Heap → Prop) (h : Heap) : Prop :=
  ∃ (I : Int → Heap → Prop) (μ : Int → Heap → Nat), I i8 h ∧ ∀ (t8_1 : Int) (h : Heap), I t8_1 h → slices_IndexFunc_int_int__pack_bytes_1_l1b t0_1 t7_1 t8_1 k (fun s h' => I s h' ∧ μ s h' < μ t8_1 h) h
def slices_IndexFunc_int_int__pack_bytes_1 (p0 : Slc) (k : (Int) → Heap → Prop) (h : Heap) : Prop :=
  slices_IndexFunc_int_int__pack_bytes_1_l1 p0 (p0.len : Int) 0 k h

/-- slices.ContainsFunc   int int  -/
def slices_ContainsFunc_int_int__pack_bytes_1 (p0 : Slc) (k : (Bool) → Heap → Prop) (h : Heap) : Prop :=
  slices_IndexFunc_int_int__pack_bytes_1 p0 (fun (r1 : Int) h2 => k (decide (r1 ≥ 0)) h2) h

/-- quaestor pack.bytes -/
def pack_bytes (p0 : Slc) (k : (Bool) → Heap → Prop) (h : Heap) : Prop :=
  slices_ContainsFunc_int_int__pack_bytes_1 p0 (fun (r1 : Bool) h2 => k (!r1) h2) h

/-- quaestor pack.Check -/
def pack_Check_g3 (t1_3 : Addr) (t38_3 : Bool) (k : (Int) → Heap → Prop) (h_3 : Heap) : Prop :=
  if t38_3 then (k 1 h_3) else (∃ v5 : Slc, cellH h_3 (t1_3.add 5) = some (Slc.v v5) ∧ (slices_ContainsFunc_api_Piece_api_Piece__pack_Check_1 v5 (fun (r6 : Bool) h7 => if r6 then (k 1 h7) else (∃ v8 : S_api_Note, CellsAt h7 t1_3 (S_api_Note.cs v8) ∧ (pack_form v8 (fun (r9 : Slc) h10 => if (decide ((r9.len : Int) > 4096)) then (k 3 h10) else (k 0 h10)) h7))) h_3))
def pack_Check_g2 (t1_2 : Addr) (t22_2 : Bool) (k : (Int) → Heap → Prop) (h_2 : Heap) : Prop :=
  if t22_2 then (pack_Check_g3 t1_2 true k h_2) else (∃ v11 : Int, cellH h_2 (t1_2.add 3) = some (.int .i64 v11) ∧ (∃ v12 : Int, cellH h_2 ((t1_2.add 6).add 3) = some (.int .i64 v12) ∧ (∃ v13 : Int, cellH h_2 (t1_2.add 11) = some (.int .i64 v13) ∧ (∃ v14 : Int, cellH h_2 (t1_2.add 63) = some (.int .i64 v14) ∧ (∃ (b15 : Nat) (h16 : Heap), b15 = h_2.size ∧ h16 = h_2.push (.cells ([.int .i64 v11, .int .i64 v12, .int .i64 v13, .int .i64 v14]).toArray 3) ∧ (pack_bytes (⟨some ⟨b15, 0, none⟩, 4, 4⟩ : Slc) (fun (r17 : Bool) h18 => pack_Check_g3 t1_2 (!r17) k h18) h16))))))
def pack_Check_g1 (t1_1 : Addr) (t13_1 : Bool) (k : (Int) → Heap → Prop) (h_1 : Heap) : Prop :=
  if t13_1 then (k 3 h_1) else (∃ v4 : Int, cellH h_1 t1_1 = some (.int .i64 v4) ∧ (if (decide (v4 < 1)) then (pack_Check_g2 t1_1 true k h_1) else (∃ v19 : Int, cellH h_1 t1_1 = some (.int .i64 v19) ∧ (pack_Check_g2 t1_1 (decide (v19 > 13)) k h_1))))
def pack_Check (p0 : S_api_Note) (k : (Int) → Heap → Prop) (h : Heap) : Prop :=
  ∃ (b1 : Nat) (h2 : Heap), b1 = h.size ∧ h2 = h.push (.cells (S_api_Note.cs p0).toArray 42) ∧ (∃ v3 : Slc, cellH h2 ((⟨b1, 0, none⟩ : Addr).add 5) = some (Slc.v v3) ∧ (if (decide ((v3.len : Int) > 32)) then (pack_Check_g1 (⟨b1, 0, none⟩ : Addr) true k h2) else (∃ v20 : Slc, cellH h2 ((⟨b1, 0, none⟩ : Addr).add 29) = some (Slc.v v20) ∧ (pack_Check_g1 (⟨b1, 0, none⟩ : Addr) (decide ((v20.len : Int) > 64)) k h2))))

/-- quaestor pack.Put -/
def pack_Put (p0 : S_api_Note) (k : (Slc) → Heap → Prop) (h : Heap) : Prop :=
  ∃ (b1 : Nat) (h2 : Heap), b1 = h.size ∧ h2 = h.push (.cells (S_api_Note.cs p0).toArray 42) ∧ (∃ v3 : S_api_Note, CellsAt h2 (⟨b1, 0, none⟩ : Addr) (S_api_Note.cs v3) ∧ (pack_Check v3 (fun (r4 : Int) h5 => if (r4 != 0) then (k (⟨none, 0, 0⟩ : Slc) h5) else (∃ v6 : S_api_Note, CellsAt h5 (⟨b1, 0, none⟩ : Addr) (S_api_Note.cs v6) ∧ (pack_form v6 (fun (r7 : Slc) h8 => k r7 h8) h5))) h2))

/-- quaestor quaestorlaw27.awake -/
def law27_awake (k : (Bool) → Heap → Prop) (h : Heap) : Prop :=
  pack_Put (⟨1, 0, 0, 0, ByteArray.empty, (⟨none, 0, 0⟩ : Slc), (⟨ByteArray.empty, 0, 0, 0, 0⟩ : S_api_Query), (⟨0, ByteArray.empty, 0, ([] : List Int), (⟨none, 0, 0⟩ : Slc), 0⟩ : S_api_Command), 0, (⟨none, 0, 0⟩ : Slc), (⟨0, ([] : List Int)⟩ : S_api_Share), (⟨0, 0, 0, 0, 0, false, (⟨none, 0, 0⟩ : Slc), (⟨none, 0, 0⟩ : Slc)⟩ : S_api_Msg)⟩ : S_api_Note) (fun (r1 : Slc) h2 => k ((r1.len : Int) == 104) h2) h

/-- quaestor quaestorlaw27.PackEven -/
def law27_PackEven_j2 (t4_2 : Bool) (k : (Bool) → Heap → Prop) (nx1 : (Int) → Heap → Prop) (h_2 : Heap) : Prop :=
  k t4_2 h_2
def law27_PackEven_l1b (t1_1 : Slc) (t2_1 : Addr) (t5_1 : Addr) (t6_1 : Int) (k : (Bool) → Heap → Prop) (nx1 : (Int) → Heap → Prop) (h_1 : Heap) : Prop :=
  ∃ v19 : Slc, cellH h_1 (t5_1.add 5) = some (Slc.v v19) ∧ (if ((decide (t6_1 < (v19.len : Int))) && (decide (t6_1 < (t1_1.len : Int)))) then (∃ v20 : Slc, cellH h_1 (t5_1.add 5) = some (Slc.v v20) ∧ (∃ a21 : Addr, t1_1.a = some a21 ∧ (0 : Int) ≤ t6_1 ∧ t6_1 < (t1_1.len : Int) ∧ (∃ v22 : Int, cellH h_1 (a21.add (t6_1.toNat * 1)) = some (.int .i64 v22) ∧ (∃ a23 : Addr, v20.a = some a23 ∧ (0 : Int) ≤ t6_1 ∧ t6_1 < (v20.len : Int) ∧ (∃ h24 : Heap, WrH h_1 ((a23.add (t6_1.toNat * 5)).add 2) ∧ h24 = setH h_1 ((a23.add (t6_1.toNat * 5)).add 2) (.int .i64 v22) ∧ (∃ x25 : Int, x25 = (IntKind.i64.wrap (t6_1 + 1)) ∧ (nx1 x25 h24))))))) else (∃ v26 : S_api_Note, CellsAt h_1 t2_1 (S_api_Note.cs v26) ∧ (∃ v27 : S_api_Note, CellsAt h_1 t5_1 (S_api_Note.cs v27) ∧ (pack_Check v26 (fun (r28 : Int) h29 => CellsAt h29 t5_1 (S_api_Note.cs v27) ∧ (pack_Check v27 (fun (r31 : Int) h32 => if (r28 == r31) then (∃ v33 : S_api_Note, CellsAt h32 t2_1 (S_api_Note.cs v33) ∧ (∃ v34 : S_api_Note, CellsAt h32 t5_1 (S_api_Note.cs v34) ∧ (pack_Put v33 (fun (r35 : Slc) h36 => CellsAt h36 t5_1 (S_api_Note.cs v34) ∧ (pack_Put v34 (fun (r38 : Slc) h39 => if ((r35.len : Int) == (r38.len : Int)) then (law27_awake  (fun (r40 : Bool) h41 => law27_PackEven_j2 r40 k nx1 h41) h39) else (law27_PackEven_j2 false k nx1 h39)) h36)) h32))) else (if false then (law27_awake  (fun (r42 : Bool) h43 => law27_PackEven_j2 r42 k nx1 h43) h32) else (law27_PackEven_j2 false k nx1 h32))) h29)) h_1))))
def law27_PackEven_l1 (t1_1 : Slc) (t2_1 : Addr) (t5_1 : Addr) (i6 : Int) (k : (Bool) → Heap → Prop) (h : Heap) : Prop :=
  ∃ (I : Int → Heap → Prop) (μ : Int → Heap → Nat), I i6 h ∧ ∀ (t6_1 : Int) (h : Heap), I t6_1 h → law27_PackEven_l1b t1_1 t2_1 t5_1 t6_1 k (fun s h' => I s h' ∧ μ s h' < μ t6_1 h) h
def law27_PackEven (p0 : S_api_Note) (p1 : Slc) (k : (Bool) → Heap → Prop) (h : Heap) : Prop :=
  ∃ (b1 : Nat) (h2 : Heap), b1 = h.size ∧ h2 = h.push (.cells (S_api_Note.cs p0).toArray 42) ∧ (∃ v3 : S_api_Note, CellsAt h2 (⟨b1, 0, none⟩ : Addr) (S_api_Note.cs v3) ∧ (ref27_Great v3 (fun (r4 : Bool) h5 => if r4 then (law27_awake  (fun (r6 : Bool) h7 => k r6 h7) h5) else (∃ v8 : S_api_Note, CellsAt h5 (⟨b1, 0, none⟩ : Addr) (S_api_Note.cs v8) ∧ (∃ (b9 : Nat) (h10 : Heap), b9 = h5.size ∧ h10 = h5.push (.cells (S_api_Note.cs (⟨0, 0, 0, 0, ByteArray.empty, (⟨none, 0, 0⟩ : Slc), (⟨ByteArray.empty, 0, 0, 0, 0⟩ : S_api_Query), (⟨0, ByteArray.empty, 0, ([] : List Int), (⟨none, 0, 0⟩ : Slc), 0⟩ : S_api_Command), 0, (⟨none, 0, 0⟩ : Slc), (⟨0, ([] : List Int)⟩ : S_api_Share), (⟨0, 0, 0, 0, 0, false, (⟨none, 0, 0⟩ : Slc), (⟨none, 0, 0⟩ : Slc)⟩ : S_api_Msg)⟩ : S_api_Note)).toArray 42) ∧ (∃ h11 : Heap, WrsAt h10 (⟨b9, 0, none⟩ : Addr) 71 ∧ h11 = setsH h10 (⟨b9, 0, none⟩ : Addr) 0 (S_api_Note.cs v8) ∧ (∃ (b12 : Nat) (h13 : Heap), b12 = h11.size ∧ h13 = h11.push (.cells ([]).toArray 50) ∧ (∃ v14 : Slc, cellH h13 ((⟨b1, 0, none⟩ : Addr).add 5) = some (Slc.v v14) ∧ (∃ l17 : List Value, SlcAt h13 v14 l17 ∧ App 50 5 48 [.string ByteArray.empty, .int .i64 0, .int .i64 0, .int .u64 0, .int .u16 0] h13 (⟨some ⟨b12, 0, none⟩, 0, 0⟩ : Slc) v14.len l17 (fun s15 h16 => ∃ h18 : Heap, WrH h16 ((⟨b9, 0, none⟩ : Addr).add 5) ∧ h18 = setH h16 ((⟨b9, 0, none⟩ : Addr).add 5) (Slc.v s15) ∧ (law27_PackEven_l1 p1 (⟨b1, 0, none⟩ : Addr) (⟨b9, 0, none⟩ : Addr) 0 k h18))))))))) h2))

theorem ref13_Great_ok : CallOk Go.Proofs.Try.prog 84 := ⟨_, Go.Proofs.Try.func84, by kernel_rfl, by kernel_rfl⟩
theorem ref13_Great_ref (p0 : Slc) (p1 : Int) (k : (Bool) → Heap → Prop) (h : Heap) (H : ref13_Great p0 p1 k h) : CallsH Go.Proofs.Try.prog 84 #[Slc.v p0, .int .i64 p1] h (fun v h' => ∃ r : Bool, v = .bool r ∧ k r h') := by
  refine f_enter (N := 28) Go.Proofs.Try.func84 rfl rfl rfl (fun w0 => ?_)
  unfold ref13_Great at H
  refine c_weak [(0, Slc.v p0), (1, .int .i64 p1)] ⟨rfl, rfl, trivial⟩ ?_
  refine c_seq ?_
  refine c_region ?_
  refine w_p tok rfl rfl rfl ?_
  refine w_end ?_
  refine x_seq ?_
  refine c_seq ?_
  refine c_seq ?_
  refine c_region ?_
  refine w_p tok rfl rfl rfl ?_
  refine w_end ?_
  refine x_seq ?_
  refine c_block ?_
  obtain ⟨I1, μ1, H0, HI⟩ := H
  refine c_loop (σ := Int) (fun (s : Int) => [(5, .int .i64 s), (0, Slc.v p0), (1, .int .i64 p1)]) I1 μ1 0 H0 ⟨rfl, rfl, rfl, trivial⟩ ?_
  rintro t5_1 h_1 H
  replace H := HI t5_1 h_1 H
  unfold ref13_Great_l1b at H
  refine c_weak [(5, .int .i64 t5_1), (0, Slc.v p0), (1, .int .i64 p1)] ⟨rfl, rfl, rfl, trivial⟩ ?_
  refine c_seq ?_
  refine c_seq ?_
  refine c_region ?_
  refine w_p tok rfl rfl rfl ?_
  refine w_p tok rfl rfl rfl ?_
  refine w_p tok rfl rfl rfl ?_
  refine w_p tok rfl rfl rfl ?_
  refine w_p tok rfl rfl rfl ?_
  refine w_cutU 4 [(14, .bool ((decide (t5_1 < (p0.len : Int))) && (decide (t5_1 < p1)))), (0, Slc.v p0), (1, .int .i64 p1), (5, .int .i64 t5_1)] ?_ ?_
  ·
    refine w_end ?_
    refine x_seq ?_
    refine c_if H rfl (fun H => ?_) (fun H => ?_)
    ·
      refine c_skip ?_
      refine x_seq ?_
      refine c_seq ?_
      refine c_block ?_
      refine c_seq ?_
      refine c_region ?_
      refine w_p tok rfl rfl rfl ?_
      refine w_p tok rfl rfl rfl ?_
      obtain ⟨a1, ha1, la1, ua1, H⟩ := H
      refine w_y (y_ixa' tok rfl rfl ha1 rfl rfl rfl la1 ua1) rfl rfl ?_
      refine w_p tok rfl rfl rfl ?_
      obtain ⟨v2, hv2, H⟩ := H
      refine w_y (y_ld tok rfl rfl rfl rfl hv2) rfl rfl ?_
      refine w_p tok rfl rfl rfl ?_
      refine w_p tok rfl rfl rfl ?_
      refine w_end ?_
      refine x_seq ?_
      refine c_weak [(0, Slc.v p0), (1, .int .i64 p1), (5, .int .i64 t5_1), (23, .bool (decide ((v2.size : Int) > 400)))] ⟨rfl, rfl, rfl, rfl, trivial⟩ ?_
      refine c_if H rfl (fun H => ?_) (fun H => ?_)
      ·
        refine c_seq ?_
        refine c_region ?_
        refine w_p tok rfl rfl rfl ?_
        refine w_end ?_
        refine x_seq ?_
        refine c_ret ?_
        refine x_br ?_
        refine x_tr ?_
        refine x_tr ?_
        refine x_br ?_
        refine x_tr ?_
        exact x_ret _ rfl _ rfl ⟨true, rfl, H⟩
      ·
        refine c_skip ?_
        refine x_blk ?_
        refine x_seq ?_
        refine c_region ?_
        refine w_p tok rfl rfl rfl ?_
        refine w_p tok rfl rfl rfl ?_
        obtain ⟨x3, ex3, H⟩ := H
        refine w_pe tok rfl (congrArg (fun z => (.int .i64 z : Value)) ex3) rfl rfl ?_
        refine w_end ?_
        exact x_join x3 H ⟨rfl, rfl, rfl, trivial⟩
    ·
      refine c_exit ?_
      refine x_te ?_
      refine x_te ?_
      refine x_bh ?_
      refine x_seq ?_
      refine c_seq ?_
      refine c_region ?_
      refine w_p tok rfl rfl rfl ?_
      refine w_p tok rfl rfl rfl ?_
      refine w_p tok rfl rfl rfl ?_
      refine w_p tok rfl rfl rfl ?_
      refine w_p tok rfl rfl rfl ?_
      refine w_end ?_
      refine x_seq ?_
      refine c_weak [(4, .bool (decide ((p0.len : Int) > p1)))] ⟨rfl, trivial⟩ ?_
      refine c_ret ?_
      exact x_ret _ rfl _ rfl ⟨(decide ((p0.len : Int) > p1)), rfl, H⟩
  ·
    refine w_gs (d := 10) rfl (fun hb => ?_) (fun hb => ?_)
    ·
      refine w_p tok rfl rfl rfl ?_
      refine w_p tok rfl rfl rfl ?_
      refine w_p tok rfl rfl rfl ?_
      refine w_p tok rfl rfl rfl ?_
      refine w_jn () rfl ⟨?_, rfl, rfl, rfl, trivial⟩
      exact congrArg (fun b => some (Value.bool b)) (and_t hb)
    ·
      refine w_skip rfl rfl ?_
      refine w_skip rfl rfl ?_
      refine w_skip rfl rfl ?_
      refine w_p tok rfl rfl rfl ?_
      refine w_jn () rfl ⟨?_, rfl, rfl, rfl, trivial⟩
      exact congrArg (fun b => some (Value.bool b)) (and_f hb)

theorem ref23_Great_ok : CallOk Go.Proofs.Try.prog 154 := ⟨_, Go.Proofs.Try.func154, by kernel_rfl, by kernel_rfl⟩
theorem ref23_Great_ref (p0 : Slc) (k : (Bool) → Heap → Prop) (h : Heap) (H : ref23_Great p0 k h) : CallsH Go.Proofs.Try.prog 154 #[Slc.v p0] h (fun v h' => ∃ r : Bool, v = .bool r ∧ k r h') := by
  refine f_enter (N := 24) Go.Proofs.Try.func154 rfl rfl rfl (fun w0 => ?_)
  unfold ref23_Great at H
  refine c_weak [(0, Slc.v p0)] ⟨rfl, trivial⟩ ?_
  refine c_seq ?_
  refine c_region ?_
  refine w_p tok rfl rfl rfl ?_
  refine w_end ?_
  refine x_seq ?_
  refine c_seq ?_
  refine c_seq ?_
  refine c_region ?_
  refine w_p tok rfl rfl rfl ?_
  refine w_end ?_
  refine x_seq ?_
  refine c_block ?_
  obtain ⟨I1, μ1, H0, HI⟩ := H
  refine c_loop (σ := Int) (fun (s : Int) => [(3, .int .i64 s), (0, Slc.v p0)]) I1 μ1 0 H0 ⟨rfl, rfl, trivial⟩ ?_
  rintro t3_1 h_1 H
  replace H := HI t3_1 h_1 H
  unfold ref23_Great_l1b at H
  refine c_weak [(3, .int .i64 t3_1), (0, Slc.v p0)] ⟨rfl, rfl, trivial⟩ ?_
  refine c_seq ?_
  refine c_seq ?_
  refine c_region ?_
  refine w_p tok rfl rfl rfl ?_
  refine w_p tok rfl rfl rfl ?_
  refine w_p tok rfl rfl rfl ?_
  refine w_p tok rfl rfl rfl ?_
  refine w_p tok rfl rfl rfl ?_
  refine w_cutU 3 [(11, .bool ((decide (t3_1 < (p0.len : Int))) && (decide (t3_1 < 100)))), (0, Slc.v p0), (3, .int .i64 t3_1)] ?_ ?_
  ·
    refine w_end ?_
    refine x_seq ?_
    refine c_if H rfl (fun H => ?_) (fun H => ?_)
    ·
      refine c_skip ?_
      refine x_seq ?_
      refine c_seq ?_
      refine c_block ?_
      refine c_seq ?_
      refine c_region ?_
      refine w_p tok rfl rfl rfl ?_
      refine w_p tok rfl rfl rfl ?_
      obtain ⟨a1, ha1, la1, ua1, H⟩ := H
      refine w_y (y_ixa' tok rfl rfl ha1 rfl rfl rfl la1 ua1) rfl rfl ?_
      refine w_p tok rfl rfl rfl ?_
      obtain ⟨v2, hv2, H⟩ := H
      refine w_y (y_ld tok rfl rfl rfl rfl hv2) rfl rfl ?_
      refine w_p tok rfl rfl rfl ?_
      refine w_p tok rfl rfl rfl ?_
      refine w_end ?_
      refine x_seq ?_
      refine c_weak [(0, Slc.v p0), (3, .int .i64 t3_1), (20, .bool (decide ((v2.len : Int) > 300)))] ⟨rfl, rfl, rfl, trivial⟩ ?_
      refine c_if H rfl (fun H => ?_) (fun H => ?_)
      ·
        refine c_seq ?_
        refine c_region ?_
        refine w_p tok rfl rfl rfl ?_
        refine w_end ?_
        refine x_seq ?_
        refine c_ret ?_
        refine x_br ?_
        refine x_tr ?_
        refine x_tr ?_
        refine x_br ?_
        refine x_tr ?_
        exact x_ret _ rfl _ rfl ⟨true, rfl, H⟩
      ·
        refine c_skip ?_
        refine x_blk ?_
        refine x_seq ?_
        refine c_region ?_
        refine w_p tok rfl rfl rfl ?_
        refine w_p tok rfl rfl rfl ?_
        obtain ⟨x3, ex3, H⟩ := H
        refine w_pe tok rfl (congrArg (fun z => (.int .i64 z : Value)) ex3) rfl rfl ?_
        refine w_end ?_
        exact x_join x3 H ⟨rfl, rfl, trivial⟩
    ·
      refine c_exit ?_
      refine x_te ?_
      refine x_te ?_
      refine x_bh ?_
      refine x_seq ?_
      refine c_seq ?_
      refine c_region ?_
      refine w_p tok rfl rfl rfl ?_
      refine w_p tok rfl rfl rfl ?_
      refine w_p tok rfl rfl rfl ?_
      refine w_p tok rfl rfl rfl ?_
      refine w_end ?_
      refine x_seq ?_
      refine c_ret ?_
      exact x_ret _ rfl _ rfl ⟨(decide ((p0.len : Int) > 100)), rfl, H⟩
  ·
    refine w_gs (d := 8) rfl (fun hb => ?_) (fun hb => ?_)
    ·
      refine w_p tok rfl rfl rfl ?_
      refine w_p tok rfl rfl rfl ?_
      refine w_p tok rfl rfl rfl ?_
      refine w_jn () rfl ⟨?_, rfl, rfl, trivial⟩
      exact congrArg (fun b => some (Value.bool b)) (and_t hb)
    ·
      refine w_skip rfl rfl ?_
      refine w_skip rfl rfl ?_
      refine w_p tok rfl rfl rfl ?_
      refine w_jn () rfl ⟨?_, rfl, rfl, trivial⟩
      exact congrArg (fun b => some (Value.bool b)) (and_f hb)

theorem ref26_Great_ok : CallOk Go.Proofs.Try.prog 85 := ⟨_, Go.Proofs.Try.func85, by kernel_rfl, by kernel_rfl⟩
theorem ref26_Great_ref (p0 : S_api_Msg) (k : (Bool) → Heap → Prop) (h : Heap) (H : ref26_Great p0 k h) : CallsH Go.Proofs.Try.prog 85 #[.agg (S_api_Msg.cs p0).toArray] h (fun v h' => ∃ r : Bool, v = .bool r ∧ k r h') := by
  refine f_enter (N := 12) Go.Proofs.Try.func85 rfl rfl rfl (fun w0 => ?_)
  unfold ref26_Great at H
  refine c_weak [(0, .agg (S_api_Msg.cs p0).toArray)] ⟨rfl, trivial⟩ ?_
  refine c_seq ?_
  refine c_region ?_
  obtain ⟨b1, h2, eb1, eh2, H⟩ := H
  refine w_h (h_box rfl rfl eb1 eh2) rfl rfl ?_
  refine w_p tok rfl rfl rfl ?_
  refine w_end ?_
  refine x_seq ?_
  refine c_seq ?_
  refine c_region ?_
  refine w_p tok rfl rfl rfl ?_
  obtain ⟨v3, hv3, H⟩ := H
  refine w_y (y_ld tok rfl rfl rfl rfl hv3) rfl rfl ?_
  refine w_call ref23_Great_ok (ref23_Great_ref _ _ _ H) rfl rfl rfl rfl ?_
  rintro _ h5 ⟨r4, rfl, H⟩
  refine w_p tok rfl rfl rfl ?_
  refine w_cut 5 (α := Bool) (fun (s : Bool) => [(11, .bool s)]) (fun (s : Bool) h => ref26_Great_g1 s k h) ?_ ?_
  ·
    rintro t11_1 h_1 H
    replace H : ref26_Great_g1 t11_1 k h_1 := H
    unfold ref26_Great_g1 at H
    refine w_weak [(11, .bool t11_1)] ⟨rfl, trivial⟩ ?_
    refine w_p tok rfl rfl rfl ?_
    refine w_end ?_
    refine x_seq ?_
    refine c_ret ?_
    exact x_ret _ rfl _ rfl ⟨t11_1, rfl, H⟩
  ·
    refine w_gif (d := 6) H rfl (fun H => ?_) (fun H => ?_)
    ·
      refine w_skip rfl rfl ?_
      refine w_skip rfl rfl ?_
      refine w_skip rfl rfl ?_
      refine w_skip rfl rfl ?_
      refine w_p tok rfl rfl rfl ?_
      exact w_jn true H ⟨rfl, trivial⟩
    ·
      refine w_p tok rfl rfl rfl ?_
      obtain ⟨v6, hv6, H⟩ := H
      refine w_y (y_ld tok rfl rfl rfl rfl hv6) rfl rfl ?_
      refine w_p tok rfl rfl rfl ?_
      refine w_p tok rfl rfl rfl ?_
      refine w_p tok rfl rfl rfl ?_
      exact w_jn (decide ((v6.len : Int) > 1000)) H ⟨rfl, trivial⟩

theorem ref25_Great_ok : CallOk Go.Proofs.Try.prog 24 := ⟨_, Go.Proofs.Try.func24, by kernel_rfl, by kernel_rfl⟩
theorem ref25_Great_ref (p0 : Slc) (p1 : Int) (k : (Bool) → Heap → Prop) (h : Heap) (H : ref25_Great p0 p1 k h) : CallsH Go.Proofs.Try.prog 24 #[Slc.v p0, .int .i64 p1] h (fun v h' => ∃ r : Bool, v = .bool r ∧ k r h') := by
  refine f_enter (N := 37) Go.Proofs.Try.func24 rfl rfl rfl (fun w0 => ?_)
  unfold ref25_Great at H
  refine c_weak [(0, Slc.v p0), (1, .int .i64 p1)] ⟨rfl, rfl, trivial⟩ ?_
  refine c_seq ?_
  refine c_region ?_
  refine w_p tok rfl rfl rfl ?_
  refine w_end ?_
  refine x_seq ?_
  refine c_seq ?_
  refine c_seq ?_
  refine c_region ?_
  refine w_p tok rfl rfl rfl ?_
  refine w_end ?_
  refine x_seq ?_
  refine c_block ?_
  obtain ⟨I1, μ1, H0, HI⟩ := H
  refine c_loop (σ := Int) (fun (s : Int) => [(5, .int .i64 s), (0, Slc.v p0), (1, .int .i64 p1)]) I1 μ1 0 H0 ⟨rfl, rfl, rfl, trivial⟩ ?_
  rintro t5_1 h_1 H
  replace H := HI t5_1 h_1 H
  unfold ref25_Great_l1b at H
  refine c_weak [(5, .int .i64 t5_1), (0, Slc.v p0), (1, .int .i64 p1)] ⟨rfl, rfl, rfl, trivial⟩ ?_
  refine c_seq ?_
  refine c_seq ?_
  refine c_region ?_
  refine w_p tok rfl rfl rfl ?_
  refine w_p tok rfl rfl rfl ?_
  refine w_p tok rfl rfl rfl ?_
  refine w_p tok rfl rfl rfl ?_
  refine w_p tok rfl rfl rfl ?_
  refine w_cutU 4 [(14, .bool ((decide (t5_1 < (p0.len : Int))) && (decide (t5_1 < p1)))), (0, Slc.v p0), (1, .int .i64 p1), (5, .int .i64 t5_1)] ?_ ?_
  ·
    refine w_end ?_
    refine x_seq ?_
    refine c_if H rfl (fun H => ?_) (fun H => ?_)
    ·
      refine c_skip ?_
      refine x_seq ?_
      refine c_seq ?_
      refine c_block ?_
      refine c_seq ?_
      refine c_region ?_
      refine w_p tok rfl rfl rfl ?_
      refine w_p tok rfl rfl rfl ?_
      obtain ⟨a1, ha1, la1, ua1, H⟩ := H
      refine w_y (y_ixa' tok rfl rfl ha1 rfl rfl rfl la1 ua1) rfl rfl ?_
      refine w_p tok rfl rfl rfl ?_
      obtain ⟨v2, hv2, H⟩ := H
      refine w_y (y_ld tok rfl rfl rfl rfl hv2) rfl rfl ?_
      refine w_p tok rfl rfl rfl ?_
      refine w_p tok rfl rfl rfl ?_
      refine w_p tok rfl rfl rfl ?_
      refine w_cut 8 (α := Bool) (fun (s : Bool) => [(32, .bool s), (0, Slc.v p0), (1, .int .i64 p1), (5, .int .i64 t5_1)]) (fun (s : Bool) h => ref25_Great_g2 p0 p1 t5_1 s k (fun s h' => I1 s h' ∧ μ1 s h' < μ1 t5_1 h_1) h) ?_ ?_
      ·
        rintro t32_2 h_2 H
        replace H : ref25_Great_g2 p0 p1 t5_1 t32_2 k (fun s h' => I1 s h' ∧ μ1 s h' < μ1 t5_1 h_1) h_2 := H
        unfold ref25_Great_g2 at H
        refine w_weak [(32, .bool t32_2), (0, Slc.v p0), (1, .int .i64 p1), (5, .int .i64 t5_1)] ⟨rfl, rfl, rfl, rfl, trivial⟩ ?_
        refine w_end ?_
        refine x_seq ?_
        refine c_if H rfl (fun H => ?_) (fun H => ?_)
        ·
          refine c_seq ?_
          refine c_region ?_
          refine w_p tok rfl rfl rfl ?_
          refine w_end ?_
          refine x_seq ?_
          refine c_ret ?_
          refine x_br ?_
          refine x_tr ?_
          refine x_tr ?_
          refine x_br ?_
          refine x_tr ?_
          exact x_ret _ rfl _ rfl ⟨true, rfl, H⟩
        ·
          refine c_skip ?_
          refine x_blk ?_
          refine x_seq ?_
          refine c_region ?_
          refine w_p tok rfl rfl rfl ?_
          refine w_p tok rfl rfl rfl ?_
          obtain ⟨x3, ex3, H⟩ := H
          refine w_pe tok rfl (congrArg (fun z => (.int .i64 z : Value)) ex3) rfl rfl ?_
          refine w_end ?_
          exact x_join x3 H ⟨rfl, rfl, rfl, trivial⟩
      ·
        refine w_gif (d := 24) H rfl (fun H => ?_) (fun H => ?_)
        ·
          refine w_skip rfl rfl ?_
          refine w_skip rfl rfl ?_
          refine w_skip rfl rfl ?_
          refine w_skip rfl rfl ?_
          refine w_skip rfl rfl ?_
          refine w_skip rfl rfl ?_
          refine w_skip rfl rfl ?_
          refine w_p tok rfl rfl rfl ?_
          exact w_jn true H ⟨rfl, rfl, rfl, rfl, trivial⟩
        ·
          refine w_p tok rfl rfl rfl ?_
          refine w_p tok rfl rfl rfl ?_
          obtain ⟨a4, ha4, la4, ua4, H⟩ := H
          refine w_y (y_ixa' tok rfl rfl ha4 rfl rfl rfl la4 ua4) rfl rfl ?_
          refine w_p tok rfl rfl rfl ?_
          obtain ⟨v5, hv5, H⟩ := H
          refine w_y (y_ld tok rfl rfl rfl rfl hv5) rfl rfl ?_
          refine w_p tok rfl rfl rfl ?_
          refine w_p tok rfl rfl rfl ?_
          refine w_p tok rfl rfl rfl ?_
          exact w_jn (decide ((v5.len : Int) > 200)) H ⟨rfl, rfl, rfl, rfl, trivial⟩
    ·
      refine c_exit ?_
      refine x_te ?_
      refine x_te ?_
      refine x_bh ?_
      refine x_seq ?_
      refine c_seq ?_
      refine c_region ?_
      refine w_p tok rfl rfl rfl ?_
      refine w_p tok rfl rfl rfl ?_
      refine w_p tok rfl rfl rfl ?_
      refine w_p tok rfl rfl rfl ?_
      refine w_p tok rfl rfl rfl ?_
      refine w_end ?_
      refine x_seq ?_
      refine c_weak [(4, .bool (decide ((p0.len : Int) > p1)))] ⟨rfl, trivial⟩ ?_
      refine c_ret ?_
      exact x_ret _ rfl _ rfl ⟨(decide ((p0.len : Int) > p1)), rfl, H⟩
  ·
    refine w_gs (d := 10) rfl (fun hb => ?_) (fun hb => ?_)
    ·
      refine w_p tok rfl rfl rfl ?_
      refine w_p tok rfl rfl rfl ?_
      refine w_p tok rfl rfl rfl ?_
      refine w_p tok rfl rfl rfl ?_
      refine w_jn () rfl ⟨?_, rfl, rfl, rfl, trivial⟩
      exact congrArg (fun b => some (Value.bool b)) (and_t hb)
    ·
      refine w_skip rfl rfl ?_
      refine w_skip rfl rfl ?_
      refine w_skip rfl rfl ?_
      refine w_p tok rfl rfl rfl ?_
      refine w_jn () rfl ⟨?_, rfl, rfl, rfl, trivial⟩
      exact congrArg (fun b => some (Value.bool b)) (and_f hb)

theorem ref27_Great_ok : CallOk Go.Proofs.Try.prog 20 := ⟨_, Go.Proofs.Try.func20, by kernel_rfl, by kernel_rfl⟩
theorem ref27_Great_ref (p0 : S_api_Note) (k : (Bool) → Heap → Prop) (h : Heap) (H : ref27_Great p0 k h) : CallsH Go.Proofs.Try.prog 20 #[.agg (S_api_Note.cs p0).toArray] h (fun v h' => ∃ r : Bool, v = .bool r ∧ k r h') := by
  refine f_enter (N := 36) Go.Proofs.Try.func20 rfl rfl rfl (fun w0 => ?_)
  unfold ref27_Great at H
  refine c_weak [(0, .agg (S_api_Note.cs p0).toArray)] ⟨rfl, trivial⟩ ?_
  refine c_seq ?_
  refine c_region ?_
  obtain ⟨b1, h2, eb1, eh2, H⟩ := H
  refine w_h (h_box rfl rfl eb1 eh2) rfl rfl ?_
  refine w_p tok rfl rfl rfl ?_
  refine w_end ?_
  refine x_seq ?_
  refine c_seq ?_
  refine c_region ?_
  refine w_p tok rfl rfl rfl ?_
  obtain ⟨v3, hv3, H⟩ := H
  refine w_y (y_ld tok rfl rfl rfl rfl hv3) rfl rfl ?_
  refine w_call ref13_Great_ok (ref13_Great_ref _ _ _ _ H) rfl rfl rfl rfl ?_
  rintro _ h5 ⟨r4, rfl, H⟩
  refine w_p tok rfl rfl rfl ?_
  refine w_cut 5 (α := Bool) (fun (s : Bool) => [(11, .bool s), (1, .pointer (some (⟨b1, 0, none⟩ : Addr)))]) (fun (s : Bool) h => ref27_Great_g1 (⟨b1, 0, none⟩ : Addr) s k h) ?_ ?_
  ·
    rintro t11_1 h_1 H
    replace H : ref27_Great_g1 (⟨b1, 0, none⟩ : Addr) t11_1 k h_1 := H
    unfold ref27_Great_g1 at H
    refine w_weak [(11, .bool t11_1), (1, .pointer (some (⟨b1, 0, none⟩ : Addr)))] ⟨rfl, rfl, trivial⟩ ?_
    refine w_p tok rfl rfl rfl ?_
    refine w_cut 5 (α := Bool) (fun (s : Bool) => [(17, .bool s), (1, .pointer (some (⟨b1, 0, none⟩ : Addr)))]) (fun (s : Bool) h => ref27_Great_g2 (⟨b1, 0, none⟩ : Addr) s k h) ?_ ?_
    ·
      rintro t17_2 h_2 H
      replace H : ref27_Great_g2 (⟨b1, 0, none⟩ : Addr) t17_2 k h_2 := H
      unfold ref27_Great_g2 at H
      refine w_weak [(17, .bool t17_2), (1, .pointer (some (⟨b1, 0, none⟩ : Addr)))] ⟨rfl, rfl, trivial⟩ ?_
      refine w_p tok rfl rfl rfl ?_
      refine w_cut 6 (α := Bool) (fun (s : Bool) => [(24, .bool s), (1, .pointer (some (⟨b1, 0, none⟩ : Addr)))]) (fun (s : Bool) h => ref27_Great_g3 (⟨b1, 0, none⟩ : Addr) s k h) ?_ ?_
      ·
        rintro t24_3 h_3 H
        replace H : ref27_Great_g3 (⟨b1, 0, none⟩ : Addr) t24_3 k h_3 := H
        unfold ref27_Great_g3 at H
        refine w_weak [(24, .bool t24_3), (1, .pointer (some (⟨b1, 0, none⟩ : Addr)))] ⟨rfl, rfl, trivial⟩ ?_
        refine w_p tok rfl rfl rfl ?_
        refine w_cut 5 (α := Bool) (fun (s : Bool) => [(30, .bool s), (1, .pointer (some (⟨b1, 0, none⟩ : Addr)))]) (fun (s : Bool) h => ref27_Great_g4 (⟨b1, 0, none⟩ : Addr) s k h) ?_ ?_
        ·
          rintro t30_4 h_4 H
          replace H : ref27_Great_g4 (⟨b1, 0, none⟩ : Addr) t30_4 k h_4 := H
          unfold ref27_Great_g4 at H
          refine w_weak [(30, .bool t30_4), (1, .pointer (some (⟨b1, 0, none⟩ : Addr)))] ⟨rfl, rfl, trivial⟩ ?_
          refine w_p tok rfl rfl rfl ?_
          refine w_cut 4 (α := Bool) (fun (s : Bool) => [(35, .bool s)]) (fun (s : Bool) h => ref27_Great_g5 s k h) ?_ ?_
          ·
            rintro t35_5 h_5 H
            replace H : ref27_Great_g5 t35_5 k h_5 := H
            unfold ref27_Great_g5 at H
            refine w_weak [(35, .bool t35_5)] ⟨rfl, trivial⟩ ?_
            refine w_p tok rfl rfl rfl ?_
            refine w_end ?_
            refine x_seq ?_
            refine c_ret ?_
            exact x_ret _ rfl _ rfl ⟨t35_5, rfl, H⟩
          ·
            refine w_gif (d := 31) H rfl (fun H => ?_) (fun H => ?_)
            ·
              refine w_skip rfl rfl ?_
              refine w_skip rfl rfl ?_
              refine w_skip rfl rfl ?_
              refine w_p tok rfl rfl rfl ?_
              exact w_jn true H ⟨rfl, trivial⟩
            ·
              refine w_p tok rfl rfl rfl ?_
              obtain ⟨v6, hv6, H⟩ := H
              refine w_y (y_lda tok rfl rfl rfl rfl rfl hv6) rfl rfl ?_
              refine w_call ref26_Great_ok (ref26_Great_ref _ _ _ H) rfl rfl rfl rfl ?_
              rintro _ h8 ⟨r7, rfl, H⟩
              refine w_p tok rfl rfl rfl ?_
              exact w_jn r7 H ⟨rfl, trivial⟩
        ·
          refine w_gif (d := 25) H rfl (fun H => ?_) (fun H => ?_)
          ·
            refine w_skip rfl rfl ?_
            refine w_skip rfl rfl ?_
            refine w_skip rfl rfl ?_
            refine w_skip rfl rfl ?_
            refine w_p tok rfl rfl rfl ?_
            exact w_jn true H ⟨rfl, rfl, trivial⟩
          ·
            refine w_p tok rfl rfl rfl ?_
            obtain ⟨v9, hv9, H⟩ := H
            refine w_y (y_lda tok rfl rfl rfl rfl rfl hv9) rfl rfl ?_
            obtain ⟨b10, h11, eb10, eh11, H⟩ := H
            refine w_h (h_bs tok rfl rfl rfl rfl rfl rfl rfl eb10 eh11) rfl rfl ?_
            refine w_call ref25_Great_ok (ref25_Great_ref _ _ _ _ H) rfl rfl rfl rfl ?_
            rintro _ h13 ⟨r12, rfl, H⟩
            refine w_p tok rfl rfl rfl ?_
            exact w_jn r12 H ⟨rfl, rfl, trivial⟩
      ·
        refine w_gif (d := 18) H rfl (fun H => ?_) (fun H => ?_)
        ·
          refine w_skip rfl rfl ?_
          refine w_skip rfl rfl ?_
          refine w_skip rfl rfl ?_
          refine w_skip rfl rfl ?_
          refine w_skip rfl rfl ?_
          refine w_p tok rfl rfl rfl ?_
          exact w_jn true H ⟨rfl, rfl, trivial⟩
        ·
          refine w_p tok rfl rfl rfl ?_
          refine w_p tok rfl rfl rfl ?_
          obtain ⟨v14, hv14, H⟩ := H
          refine w_y (y_ld tok rfl rfl rfl rfl hv14) rfl rfl ?_
          refine w_p tok rfl rfl rfl ?_
          refine w_p tok rfl rfl rfl ?_
          refine w_p tok rfl rfl rfl ?_
          exact w_jn (decide ((v14.size : Int) > 1000)) H ⟨rfl, rfl, trivial⟩
    ·
      refine w_gif (d := 12) H rfl (fun H => ?_) (fun H => ?_)
      ·
        refine w_skip rfl rfl ?_
        refine w_skip rfl rfl ?_
        refine w_skip rfl rfl ?_
        refine w_skip rfl rfl ?_
        refine w_p tok rfl rfl rfl ?_
        exact w_jn true H ⟨rfl, rfl, trivial⟩
      ·
        refine w_p tok rfl rfl rfl ?_
        obtain ⟨v15, hv15, H⟩ := H
        refine w_y (y_ld tok rfl rfl rfl rfl hv15) rfl rfl ?_
        refine w_p tok rfl rfl rfl ?_
        refine w_p tok rfl rfl rfl ?_
        refine w_p tok rfl rfl rfl ?_
        exact w_jn (decide ((v15.size : Int) > 1000)) H ⟨rfl, rfl, trivial⟩
  ·
    refine w_gif (d := 6) H rfl (fun H => ?_) (fun H => ?_)
    ·
      refine w_skip rfl rfl ?_
      refine w_skip rfl rfl ?_
      refine w_skip rfl rfl ?_
      refine w_skip rfl rfl ?_
      refine w_p tok rfl rfl rfl ?_
      exact w_jn true H ⟨rfl, rfl, trivial⟩
    ·
      refine w_p tok rfl rfl rfl ?_
      obtain ⟨v16, hv16, H⟩ := H
      refine w_y (y_ld tok rfl rfl rfl rfl hv16) rfl rfl ?_
      refine w_p tok rfl rfl rfl ?_
      refine w_p tok rfl rfl rfl ?_
      refine w_p tok rfl rfl rfl ?_
      exact w_jn (decide ((v16.len : Int) > 80)) H ⟨rfl, rfl, trivial⟩

theorem piece_Check_ok : CallOk Go.Proofs.Try.prog 89 := ⟨_, Go.Proofs.Try.func89, by kernel_rfl, by kernel_rfl⟩
theorem piece_Check_ref (p0 : S_api_Piece) (k : (Int) → Heap → Prop) (h : Heap) (H : piece_Check p0 k h) : CallsH Go.Proofs.Try.prog 89 #[.agg (S_api_Piece.cs p0).toArray] h (fun v h' => ∃ r : Int, v = .int .i64 r ∧ k r h') := by
  refine f_enter (N := 13) Go.Proofs.Try.func89 rfl rfl rfl (fun w0 => ?_)
  unfold piece_Check at H
  refine c_weak [(0, .agg (S_api_Piece.cs p0).toArray)] ⟨rfl, trivial⟩ ?_
  refine c_seq ?_
  refine c_region ?_
  obtain ⟨b1, h2, eb1, eh2, H⟩ := H
  refine w_h (h_box rfl rfl eb1 eh2) rfl rfl ?_
  refine w_p tok rfl rfl rfl ?_
  refine w_end ?_
  refine x_seq ?_
  refine c_seq ?_
  refine c_seq ?_
  refine c_region ?_
  refine w_p tok rfl rfl rfl ?_
  obtain ⟨v3, hv3, H⟩ := H
  refine w_y (y_ld tok rfl rfl rfl rfl hv3) rfl rfl ?_
  refine w_p tok rfl rfl rfl ?_
  refine w_p tok rfl rfl rfl ?_
  refine w_p tok rfl rfl rfl ?_
  refine w_cut 5 (α := Bool) (fun (s : Bool) => [(12, .bool s)]) (fun (s : Bool) h => piece_Check_g1 s k h) ?_ ?_
  ·
    rintro t12_1 h_1 H
    replace H : piece_Check_g1 t12_1 k h_1 := H
    unfold piece_Check_g1 at H
    refine w_weak [(12, .bool t12_1)] ⟨rfl, trivial⟩ ?_
    refine w_end ?_
    refine x_seq ?_
    refine c_if H rfl (fun H => ?_) (fun H => ?_)
    ·
      refine c_seq ?_
      refine c_region ?_
      refine w_p tok rfl rfl rfl ?_
      refine w_end ?_
      refine x_seq ?_
      refine c_ret ?_
      refine x_tr ?_
      exact x_ret _ rfl _ rfl ⟨1, rfl, H⟩
    ·
      refine c_skip ?_
      refine x_seq ?_
      refine c_seq ?_
      refine c_region ?_
      refine w_p tok rfl rfl rfl ?_
      refine w_end ?_
      refine x_seq ?_
      refine c_ret ?_
      exact x_ret _ rfl _ rfl ⟨0, rfl, H⟩
  ·
    refine w_gif (d := 7) H rfl (fun H => ?_) (fun H => ?_)
    ·
      refine w_skip rfl rfl ?_
      refine w_skip rfl rfl ?_
      refine w_skip rfl rfl ?_
      refine w_skip rfl rfl ?_
      refine w_p tok rfl rfl rfl ?_
      exact w_jn true H ⟨rfl, trivial⟩
    ·
      refine w_p tok rfl rfl rfl ?_
      obtain ⟨v4, hv4, H⟩ := H
      refine w_y (y_ld tok rfl rfl rfl rfl hv4) rfl rfl ?_
      refine w_p tok rfl rfl rfl ?_
      refine w_p tok rfl rfl rfl ?_
      refine w_p tok rfl rfl rfl ?_
      exact w_jn (decide ((v4.size : Int) > 200)) H ⟨rfl, trivial⟩

theorem pack_Check_1_ok : CallOk Go.Proofs.Try.prog 88 := ⟨_, Go.Proofs.Try.func88, by kernel_rfl, by kernel_rfl⟩
theorem pack_Check_1_ref (p0 : S_api_Piece) (k : (Bool) → Heap → Prop) (h : Heap) (H : pack_Check_1 p0 k h) : CallsH Go.Proofs.Try.prog 88 #[.agg (S_api_Piece.cs p0).toArray] h (fun v h' => ∃ r : Bool, v = .bool r ∧ k r h') := by
  refine f_enter (N := 6) Go.Proofs.Try.func88 rfl rfl rfl (fun w0 => ?_)
  unfold pack_Check_1 at H
  refine c_weak [(0, .agg (S_api_Piece.cs p0).toArray)] ⟨rfl, trivial⟩ ?_
  refine c_seq ?_
  refine c_region ?_
  obtain ⟨b1, h2, eb1, eh2, H⟩ := H
  refine w_h (h_box rfl rfl eb1 eh2) rfl rfl ?_
  refine w_p tok rfl rfl rfl ?_
  refine w_end ?_
  refine x_seq ?_
  refine c_seq ?_
  refine c_region ?_
  obtain ⟨v3, hv3, H⟩ := H
  refine w_y (y_lda tok rfl rfl rfl rfl rfl hv3) rfl rfl ?_
  refine w_call piece_Check_ok (piece_Check_ref _ _ _ H) rfl rfl rfl rfl ?_
  rintro _ h5 ⟨r4, rfl, H⟩
  refine w_p tok rfl rfl rfl ?_
  refine w_p tok rfl rfl rfl ?_
  refine w_end ?_
  refine x_seq ?_
  refine c_ret ?_
  exact x_ret _ rfl _ rfl ⟨(r4 != 0), rfl, H⟩

theorem slices_IndexFunc_api_Piece_api_Piece__pack_Check_1_ok : CallOk Go.Proofs.Try.prog 157 := ⟨_, Go.Proofs.Try.func157, by kernel_rfl, by kernel_rfl⟩
theorem slices_IndexFunc_api_Piece_api_Piece__pack_Check_1_ref (p0 : Slc) (k : (Int) → Heap → Prop) (h : Heap) (H : slices_IndexFunc_api_Piece_api_Piece__pack_Check_1 p0 k h) : CallsH Go.Proofs.Try.prog 157 #[Slc.v p0, (Value.func (.func 88) #[] #[])] h (fun v h' => ∃ r : Int, v = .int .i64 r ∧ k r h') := by
  refine f_enter (N := 19) Go.Proofs.Try.func157 rfl rfl rfl (fun w0 => ?_)
  unfold slices_IndexFunc_api_Piece_api_Piece__pack_Check_1 at H
  refine c_weak [(0, Slc.v p0), (1, (Value.func (.func 88) #[] #[]))] ⟨rfl, rfl, trivial⟩ ?_
  refine c_seq ?_
  refine c_region ?_
  refine w_p tok rfl rfl rfl ?_
  refine w_end ?_
  refine x_seq ?_
  refine c_seq ?_
  refine c_seq ?_
  refine c_region ?_
  refine w_p tok rfl rfl rfl ?_
  refine w_p tok rfl rfl rfl ?_
  refine w_p tok rfl rfl rfl ?_
  refine w_end ?_
  refine x_seq ?_
  refine c_block ?_
  obtain ⟨I1, μ1, H0, HI⟩ := H
  refine c_loop (σ := Int) (fun (s : Int) => [(8, .int .i64 s), (0, Slc.v p0), (1, (Value.func (.func 88) #[] #[])), (7, .int .i64 (p0.len : Int))]) I1 μ1 0 H0 ⟨rfl, rfl, rfl, rfl, trivial⟩ ?_
  rintro t8_1 h_1 H
  replace H := HI t8_1 h_1 H
  unfold slices_IndexFunc_api_Piece_api_Piece__pack_Check_1_l1b at H
  refine c_weak [(8, .int .i64 t8_1), (0, Slc.v p0), (1, (Value.func (.func 88) #[] #[])), (7, .int .i64 (p0.len : Int))] ⟨rfl, rfl, rfl, rfl, trivial⟩ ?_
  refine c_seq ?_
  refine c_region ?_
  refine w_p tok rfl rfl rfl ?_
  refine w_end ?_
  refine x_seq ?_
  refine c_seq ?_
  refine c_if H rfl (fun H => ?_) (fun H => ?_)
  ·
    refine c_skip ?_
    refine x_seq ?_
    refine c_seq ?_
    refine c_block ?_
    refine c_seq ?_
    refine c_region ?_
    refine w_p tok rfl rfl rfl ?_
    refine w_p tok rfl rfl rfl ?_
    refine w_end ?_
    refine x_seq ?_
    refine c_seq ?_
    refine c_region ?_
    refine w_p tok rfl rfl rfl ?_
    refine w_p tok rfl rfl rfl ?_
    refine w_p tok rfl rfl rfl ?_
    obtain ⟨a1, ha1, la1, ua1, H⟩ := H
    refine w_y (y_ixa' tok rfl rfl ha1 rfl rfl rfl la1 ua1) rfl rfl ?_
    obtain ⟨v2, hv2, H⟩ := H
    refine w_y (y_lda tok rfl rfl rfl rfl rfl hv2) rfl rfl ?_
    refine w_callv pack_Check_1_ok (pack_Check_1_ref _ _ _ H) rfl rfl rfl rfl rfl ?_
    rintro _ h4 ⟨r3, rfl, H⟩
    refine w_end ?_
    refine x_seq ?_
    refine c_weak [(8, .int .i64 t8_1), (0, Slc.v p0), (1, (Value.func (.func 88) #[] #[])), (7, .int .i64 (p0.len : Int)), (5, .int .i64 t8_1), (16, .bool r3)] ⟨rfl, rfl, rfl, rfl, rfl, rfl, trivial⟩ ?_
    refine c_if H rfl (fun H => ?_) (fun H => ?_)
    ·
      refine c_seq ?_
      refine c_region ?_
      refine w_p tok rfl rfl rfl ?_
      refine w_p tok rfl rfl rfl ?_
      refine w_end ?_
      refine x_seq ?_
      refine c_weak [(4, .int .i64 t8_1)] ⟨rfl, trivial⟩ ?_
      refine c_ret ?_
      refine x_br ?_
      refine x_tr ?_
      refine x_tr ?_
      refine x_br ?_
      refine x_tr ?_
      exact x_ret _ rfl _ rfl ⟨t8_1, rfl, H⟩
    ·
      refine c_skip ?_
      refine x_blk ?_
      refine x_seq ?_
      refine c_region ?_
      refine w_p tok rfl rfl rfl ?_
      refine w_p tok rfl rfl rfl ?_
      refine w_end ?_
      exact x_join (IntKind.i64.wrap (t8_1 + 1)) H ⟨rfl, rfl, rfl, rfl, trivial⟩
  ·
    refine c_exit ?_
    refine x_te ?_
    refine x_te ?_
    refine x_bh ?_
    refine x_seq ?_
    refine c_seq ?_
    refine c_region ?_
    obtain ⟨x5, ex5, H⟩ := H
    refine w_pe tok rfl (congrArg (fun z => (.int .i64 z : Value)) ex5) rfl rfl ?_
    refine w_end ?_
    refine x_seq ?_
    refine c_ret ?_
    exact x_ret _ rfl _ rfl ⟨x5, rfl, H⟩

theorem slices_ContainsFunc_api_Piece_api_Piece__pack_Check_1_ok : CallOk Go.Proofs.Try.prog 87 := ⟨_, Go.Proofs.Try.func87, by kernel_rfl, by kernel_rfl⟩
theorem slices_ContainsFunc_api_Piece_api_Piece__pack_Check_1_ref (p0 : Slc) (k : (Bool) → Heap → Prop) (h : Heap) (H : slices_ContainsFunc_api_Piece_api_Piece__pack_Check_1 p0 k h) : CallsH Go.Proofs.Try.prog 87 #[Slc.v p0, (Value.func (.func 88) #[] #[])] h (fun v h' => ∃ r : Bool, v = .bool r ∧ k r h') := by
  refine f_enter (N := 9) Go.Proofs.Try.func87 rfl rfl rfl (fun w0 => ?_)
  unfold slices_ContainsFunc_api_Piece_api_Piece__pack_Check_1 at H
  refine c_weak [(0, Slc.v p0), (1, (Value.func (.func 88) #[] #[]))] ⟨rfl, rfl, trivial⟩ ?_
  refine c_seq ?_
  refine c_region ?_
  refine w_p tok rfl rfl rfl ?_
  refine w_end ?_
  refine x_seq ?_
  refine c_seq ?_
  refine c_region ?_
  refine w_p tok rfl rfl rfl ?_
  refine w_p tok rfl rfl rfl ?_
  refine w_call slices_IndexFunc_api_Piece_api_Piece__pack_Check_1_ok (slices_IndexFunc_api_Piece_api_Piece__pack_Check_1_ref _ _ _ H) rfl rfl rfl rfl ?_
  rintro _ h2 ⟨r1, rfl, H⟩
  refine w_p tok rfl rfl rfl ?_
  refine w_p tok rfl rfl rfl ?_
  refine w_end ?_
  refine x_seq ?_
  refine c_ret ?_
  exact x_ret _ rfl _ rfl ⟨(decide (r1 ≥ 0)), rfl, H⟩

theorem slices_Clone_byte_byte_ok : CallOk Go.Proofs.Try.prog 141 := ⟨_, Go.Proofs.Try.func141, by kernel_rfl, by kernel_rfl⟩
theorem slices_Clone_byte_byte_ref (p0 : Slc) (k : (Slc) → Heap → Prop) (h : Heap) (H : slices_Clone_byte_byte p0 k h) : CallsH Go.Proofs.Try.prog 141 #[Slc.v p0] h (fun v h' => ∃ r : Slc, v = Slc.v r ∧ k r h') := by
  refine f_enter (N := 8) Go.Proofs.Try.func141 rfl rfl rfl (fun w0 => ?_)
  unfold slices_Clone_byte_byte at H
  refine c_weak [(0, Slc.v p0)] ⟨rfl, trivial⟩ ?_
  refine c_seq ?_
  refine c_region ?_
  refine w_p tok rfl rfl rfl ?_
  refine w_end ?_
  refine x_seq ?_
  refine c_seq ?_
  refine c_seq ?_
  refine c_region ?_
  refine w_p tok rfl rfl rfl ?_
  refine w_p tok rfl rfl rfl ?_
  refine w_end ?_
  refine x_seq ?_
  refine c_if H rfl (fun H => ?_) (fun H => ?_)
  ·
    refine c_seq ?_
    refine c_region ?_
    refine w_p tok rfl rfl rfl ?_
    refine w_end ?_
    refine x_seq ?_
    refine c_ret ?_
    refine x_tr ?_
    exact x_ret _ rfl _ rfl ⟨(⟨none, 0, 0⟩ : Slc), rfl, H⟩
  ·
    refine c_skip ?_
    refine x_seq ?_
    refine c_seq ?_
    refine c_region ?_
    obtain ⟨b1, h2, eb1, eh2, H⟩ := H
    refine w_h (h_bs tok rfl rfl rfl rfl rfl rfl rfl eb1 eh2) rfl rfl ?_
    refine w_p tok rfl rfl rfl ?_
    obtain ⟨l5, hl5, H⟩ := H
    refine w_a (a_app (s := (⟨some ⟨b1, 0, none⟩, 0, 0⟩ : Slc)) (r := p0) tok rfl rfl rfl rfl rfl hl5 H) rfl rfl ?_
    rintro _ h4 ⟨s3, rfl, H⟩
    refine w_p tok rfl rfl rfl ?_
    refine w_end ?_
    refine x_seq ?_
    refine c_ret ?_
    exact x_ret _ rfl _ rfl ⟨s3, rfl, H⟩

theorem num_PutShort_ok : CallOk Go.Proofs.Try.prog 149 := ⟨_, Go.Proofs.Try.func149, by kernel_rfl, by kernel_rfl⟩
theorem num_PutShort_ref (p0 : Slc) (p1 : Int) (k : (Slc) → Heap → Prop) (h : Heap) (H : num_PutShort p0 p1 k h) : CallsH Go.Proofs.Try.prog 149 #[Slc.v p0, .int .u64 p1] h (fun v h' => ∃ r : Slc, v = Slc.v r ∧ k r h') := by
  refine f_enter (N := 23) Go.Proofs.Try.func149 rfl rfl rfl (fun w0 => ?_)
  unfold num_PutShort at H
  refine c_weak [(0, Slc.v p0), (1, .int .u64 p1)] ⟨rfl, rfl, trivial⟩ ?_
  refine c_seq ?_
  refine c_region ?_
  refine w_p tok rfl rfl rfl ?_
  refine w_end ?_
  refine x_seq ?_
  refine c_seq ?_
  refine c_region ?_
  refine w_p tok rfl rfl rfl ?_
  refine w_call slices_Clone_byte_byte_ok (slices_Clone_byte_byte_ref _ _ _ H) rfl rfl rfl rfl ?_
  rintro _ h2 ⟨r1, rfl, H⟩
  refine w_p tok rfl rfl rfl ?_
  refine w_end ?_
  refine x_seq ?_
  refine c_seq ?_
  refine c_block ?_
  obtain ⟨I1, μ1, H0, HI⟩ := H
  refine c_loop (σ := Int × Slc) (fun (s : Int × Slc) => [(1, .int .u64 s.1), (5, Slc.v s.2)]) I1 μ1 (p1, r1) H0 ⟨rfl, rfl, trivial⟩ ?_
  rintro ⟨t1_1, t5_1⟩ h_1 H
  replace H := HI t1_1 t5_1 h_1 H
  unfold num_PutShort_l1b at H
  refine c_weak [(1, .int .u64 t1_1), (5, Slc.v t5_1)] ⟨rfl, rfl, trivial⟩ ?_
  refine c_seq ?_
  refine c_seq ?_
  refine c_region ?_
  refine w_p tok rfl rfl rfl ?_
  refine w_p tok rfl rfl rfl ?_
  refine w_end ?_
  refine x_seq ?_
  refine c_if H rfl (fun H => ?_) (fun H => ?_)
  ·
    refine c_skip ?_
    refine x_seq ?_
    refine c_seq ?_
    refine c_block ?_
    refine c_region ?_
    refine w_p tok rfl rfl rfl ?_
    refine w_p tok rfl rfl rfl ?_
    refine w_p tok rfl rfl rfl ?_
    refine w_p tok rfl rfl rfl ?_
    obtain ⟨b3, h4, eb3, eh4, H⟩ := H
    refine w_h (h_bs tok rfl rfl rfl rfl rfl rfl rfl eb3 eh4) rfl rfl ?_
    refine w_a (a_app (s := t5_1) (r := (⟨some ⟨b3, 0, none⟩, 1, 1⟩ : Slc)) tok rfl rfl rfl rfl rfl (slcAt_push eb3 eh4) H) rfl rfl ?_
    rintro _ h6 ⟨s5, rfl, H⟩
    refine w_p tok rfl rfl rfl ?_
    refine w_end ?_
    refine x_blk ?_
    refine x_seq ?_
    refine c_weak [(1, .int .u64 t1_1), (5, Slc.v s5)] ⟨rfl, rfl, trivial⟩ ?_
    refine c_region ?_
    refine w_p tok rfl rfl rfl ?_
    refine w_p tok rfl rfl rfl ?_
    obtain ⟨x7, ex7, H⟩ := H
    refine w_pe tok rfl (congrArg (fun z => (.int .u64 z : Value)) ex7) rfl rfl ?_
    refine w_end ?_
    exact x_join (x7, s5) H ⟨rfl, rfl, trivial⟩
  ·
    refine c_exit ?_
    refine x_te ?_
    refine x_te ?_
    refine x_bh ?_
    refine x_seq ?_
    refine c_seq ?_
    refine c_region ?_
    refine w_p tok rfl rfl rfl ?_
    refine w_p tok rfl rfl rfl ?_
    refine w_p tok rfl rfl rfl ?_
    obtain ⟨b8, h9, eb8, eh9, H⟩ := H
    refine w_h (h_bs tok rfl rfl rfl rfl rfl rfl rfl eb8 eh9) rfl rfl ?_
    refine w_a (a_app (s := t5_1) (r := (⟨some ⟨b8, 0, none⟩, 1, 1⟩ : Slc)) tok rfl rfl rfl rfl rfl (slcAt_push eb8 eh9) H) rfl rfl ?_
    rintro _ h11 ⟨s10, rfl, H⟩
    refine w_p tok rfl rfl rfl ?_
    refine w_end ?_
    refine x_seq ?_
    refine c_weak [(4, Slc.v s10)] ⟨rfl, trivial⟩ ?_
    refine c_ret ?_
    exact x_ret _ rfl _ rfl ⟨s10, rfl, H⟩

theorem pack_text_ok : CallOk Go.Proofs.Try.prog 158 := ⟨_, Go.Proofs.Try.func158, by kernel_rfl, by kernel_rfl⟩
theorem pack_text_ref (p0 : Slc) (p1 : ByteArray) (k : (Slc) → Heap → Prop) (h : Heap) (H : pack_text p0 p1 k h) : CallsH Go.Proofs.Try.prog 158 #[Slc.v p0, .string p1] h (fun v h' => ∃ r : Slc, v = Slc.v r ∧ k r h') := by
  refine f_enter (N := 12) Go.Proofs.Try.func158 rfl rfl rfl (fun w0 => ?_)
  unfold pack_text at H
  refine c_weak [(0, Slc.v p0), (1, .string p1)] ⟨rfl, rfl, trivial⟩ ?_
  refine c_seq ?_
  refine c_region ?_
  refine w_p tok rfl rfl rfl ?_
  refine w_end ?_
  refine x_seq ?_
  refine c_seq ?_
  refine c_region ?_
  refine w_p tok rfl rfl rfl ?_
  refine w_p tok rfl rfl rfl ?_
  refine w_p tok rfl rfl rfl ?_
  refine w_p tok rfl rfl rfl ?_
  refine w_call num_PutShort_ok (num_PutShort_ref _ _ _ _ H) rfl rfl rfl rfl ?_
  rintro _ h2 ⟨r1, rfl, H⟩
  refine w_p tok rfl rfl rfl ?_
  refine w_a (a_apps (s := r1) (str := p1) tok rfl rfl rfl rfl rfl rfl H) rfl rfl ?_
  rintro _ h4 ⟨s3, rfl, H⟩
  refine w_p tok rfl rfl rfl ?_
  refine w_end ?_
  refine x_seq ?_
  refine c_weak [(4, Slc.v s3)] ⟨rfl, trivial⟩ ?_
  refine c_ret ?_
  exact x_ret _ rfl _ rfl ⟨s3, rfl, H⟩

theorem num_Put_ok : CallOk Go.Proofs.Try.prog 91 := ⟨_, Go.Proofs.Try.func91, by kernel_rfl, by kernel_rfl⟩
theorem num_Put_ref (p0 : Slc) (p1 : Int) (p2 : Int) (k : (Slc) → Heap → Prop) (h : Heap) (H : num_Put p0 p1 p2 k h) : CallsH Go.Proofs.Try.prog 91 #[Slc.v p0, .int .u64 p1, .int .i64 p2] h (fun v h' => ∃ r : Slc, v = Slc.v r ∧ k r h') := by
  refine f_enter (N := 25) Go.Proofs.Try.func91 rfl rfl rfl (fun w0 => ?_)
  unfold num_Put at H
  refine c_weak [(0, Slc.v p0), (1, .int .u64 p1), (2, .int .i64 p2)] ⟨rfl, rfl, rfl, trivial⟩ ?_
  refine c_seq ?_
  refine c_region ?_
  refine w_p tok rfl rfl rfl ?_
  refine w_end ?_
  refine x_seq ?_
  refine c_seq ?_
  refine c_region ?_
  refine w_p tok rfl rfl rfl ?_
  refine w_call slices_Clone_byte_byte_ok (slices_Clone_byte_byte_ref _ _ _ H) rfl rfl rfl rfl ?_
  rintro _ h2 ⟨r1, rfl, H⟩
  refine w_p tok rfl rfl rfl ?_
  refine w_end ?_
  refine x_seq ?_
  refine c_seq ?_
  refine c_seq ?_
  refine c_region ?_
  refine w_p tok rfl rfl rfl ?_
  refine w_p tok rfl rfl rfl ?_
  refine w_end ?_
  refine x_seq ?_
  refine c_if H rfl (fun H => ?_) (fun H => ?_)
  ·
    refine c_seq ?_
    refine c_region ?_
    refine w_p tok rfl rfl rfl ?_
    refine w_p tok rfl rfl rfl ?_
    refine w_end ?_
    refine x_seq ?_
    refine c_weak [(6, Slc.v r1)] ⟨rfl, trivial⟩ ?_
    refine c_ret ?_
    refine x_tr ?_
    exact x_ret _ rfl _ rfl ⟨r1, rfl, H⟩
  ·
    refine c_skip ?_
    refine x_seq ?_
    refine c_seq ?_
    refine c_seq ?_
    refine c_region ?_
    refine w_p tok rfl rfl rfl ?_
    refine w_p tok rfl rfl rfl ?_
    refine w_end ?_
    refine x_seq ?_
    refine c_weak [(1, .int .u64 p1), (7, Slc.v r1), (13, .int .i64 p2), (14, .int .i64 0)] ⟨rfl, rfl, rfl, rfl, trivial⟩ ?_
    refine c_block ?_
    obtain ⟨I1, μ1, H0, HI⟩ := H
    refine c_loop (σ := Int × Slc × Int) (fun (s : Int × Slc × Int) => [(1, .int .u64 s.1), (7, Slc.v s.2.1), (14, .int .i64 s.2.2), (13, .int .i64 p2)]) I1 μ1 (p1, r1, 0) H0 ⟨rfl, rfl, rfl, rfl, trivial⟩ ?_
    rintro ⟨t1_1, t7_1, t14_1⟩ h_1 H
    replace H := HI t1_1 t7_1 t14_1 h_1 H
    unfold num_Put_l1b at H
    refine c_weak [(1, .int .u64 t1_1), (7, Slc.v t7_1), (14, .int .i64 t14_1), (13, .int .i64 p2)] ⟨rfl, rfl, rfl, rfl, trivial⟩ ?_
    refine c_seq ?_
    refine c_region ?_
    refine w_p tok rfl rfl rfl ?_
    refine w_end ?_
    refine x_seq ?_
    refine c_seq ?_
    refine c_if H rfl (fun H => ?_) (fun H => ?_)
    ·
      refine c_skip ?_
      refine x_seq ?_
      refine c_seq ?_
      refine c_block ?_
      refine c_seq ?_
      refine c_region ?_
      refine w_p tok rfl rfl rfl ?_
      refine w_p tok rfl rfl rfl ?_
      refine w_p tok rfl rfl rfl ?_
      obtain ⟨b3, h4, eb3, eh4, H⟩ := H
      refine w_h (h_bs tok rfl rfl rfl rfl rfl rfl rfl eb3 eh4) rfl rfl ?_
      refine w_a (a_app (s := t7_1) (r := (⟨some ⟨b3, 0, none⟩, 1, 1⟩ : Slc)) tok rfl rfl rfl rfl rfl (slcAt_push eb3 eh4) H) rfl rfl ?_
      rintro _ h6 ⟨s5, rfl, H⟩
      refine w_p tok rfl rfl rfl ?_
      refine w_end ?_
      refine x_seq ?_
      refine c_region ?_
      refine w_p tok rfl rfl rfl ?_
      refine w_p tok rfl rfl rfl ?_
      obtain ⟨x7, ex7, H⟩ := H
      refine w_pe tok rfl (congrArg (fun z => (.int .u64 z : Value)) ex7) rfl rfl ?_
      refine w_end ?_
      refine x_blk ?_
      refine x_seq ?_
      refine c_weak [(1, .int .u64 x7), (7, Slc.v s5), (14, .int .i64 t14_1), (13, .int .i64 p2)] ⟨rfl, rfl, rfl, rfl, trivial⟩ ?_
      refine c_region ?_
      refine w_p tok rfl rfl rfl ?_
      refine w_p tok rfl rfl rfl ?_
      refine w_end ?_
      exact x_join (x7, s5, (IntKind.i64.wrap (t14_1 + 1))) H ⟨rfl, rfl, rfl, rfl, trivial⟩
    ·
      refine c_exit ?_
      refine x_te ?_
      refine x_te ?_
      refine x_bh ?_
      refine x_seq ?_
      refine c_seq ?_
      refine c_region ?_
      refine w_p tok rfl rfl rfl ?_
      refine w_p tok rfl rfl rfl ?_
      refine w_end ?_
      refine x_seq ?_
      refine c_ret ?_
      exact x_ret _ rfl _ rfl ⟨t7_1, rfl, H⟩

theorem pack_wide_ok : CallOk Go.Proofs.Try.prog 160 := ⟨_, Go.Proofs.Try.func160, by kernel_rfl, by kernel_rfl⟩
theorem pack_wide_ref (p0 : Slc) (p1 : Int) (k : (Slc) → Heap → Prop) (h : Heap) (H : pack_wide p0 p1 k h) : CallsH Go.Proofs.Try.prog 160 #[Slc.v p0, .int .i64 p1] h (fun v h' => ∃ r : Slc, v = Slc.v r ∧ k r h') := by
  refine f_enter (N := 9) Go.Proofs.Try.func160 rfl rfl rfl (fun w0 => ?_)
  unfold pack_wide at H
  refine c_weak [(0, Slc.v p0), (1, .int .i64 p1)] ⟨rfl, rfl, trivial⟩ ?_
  refine c_seq ?_
  refine c_region ?_
  refine w_p tok rfl rfl rfl ?_
  refine w_end ?_
  refine x_seq ?_
  refine c_seq ?_
  refine c_region ?_
  refine w_p tok rfl rfl rfl ?_
  refine w_p tok rfl rfl rfl ?_
  refine w_p tok rfl rfl rfl ?_
  refine w_call num_Put_ok (num_Put_ref _ _ _ _ _ H) rfl rfl rfl rfl ?_
  rintro _ h2 ⟨r1, rfl, H⟩
  refine w_p tok rfl rfl rfl ?_
  refine w_end ?_
  refine x_seq ?_
  refine c_ret ?_
  exact x_ret _ rfl _ rfl ⟨r1, rfl, H⟩

theorem pack_id_ok : CallOk Go.Proofs.Try.prog 159 := ⟨_, Go.Proofs.Try.func159, by kernel_rfl, by kernel_rfl⟩
theorem pack_id_ref (p0 : Slc) (p1 : S_api_Id) (k : (Slc) → Heap → Prop) (h : Heap) (H : pack_id p0 p1 k h) : CallsH Go.Proofs.Try.prog 159 #[Slc.v p0, .agg (S_api_Id.cs p1).toArray] h (fun v h' => ∃ r : Slc, v = Slc.v r ∧ k r h') := by
  refine f_enter (N := 13) Go.Proofs.Try.func159 rfl rfl rfl (fun w0 => ?_)
  unfold pack_id at H
  refine c_weak [(0, Slc.v p0), (1, .agg (S_api_Id.cs p1).toArray)] ⟨rfl, rfl, trivial⟩ ?_
  refine c_seq ?_
  refine c_region ?_
  obtain ⟨b1, h2, eb1, eh2, H⟩ := H
  refine w_h (h_box rfl rfl eb1 eh2) rfl rfl ?_
  refine w_p tok rfl rfl rfl ?_
  refine w_end ?_
  refine x_seq ?_
  refine c_seq ?_
  refine c_sim [(0, Slc.v p0), (3, .pointer (some (⟨b1, 0, none⟩ : Addr)))] (by kernel_rfl) (by kernel_rfl) ⟨rfl, rfl, trivial⟩ (fun wf => ?_)
  refine sim_p 0 (ei := [(0, Slc.v p0)]) (d := (some 5)) wf (by kernel_rfl) ⟨rfl, trivial⟩ (by kernel_rfl) (by kernel_rfl) (fun _ => pf_p tok rfl rfl rfl rfl) (fun P_0 => ?_)
  refine sim_p 1 (ei := [(3, .pointer (some (⟨b1, 0, none⟩ : Addr)))]) (d := (some 6)) wf (by kernel_rfl) ⟨rfl, trivial⟩ (by kernel_rfl) (by kernel_rfl) (fun _ => pf_p tok rfl rfl rfl rfl) (fun P_1 => ?_)
  obtain ⟨v3, hv3, H⟩ := H
  refine sim_l 2 (ei := [(6, .pointer (some (⟨b1, 0, none⟩ : Addr)))]) (d := (some 7)) wf (by kernel_rfl) ⟨rfl, trivial⟩ (by kernel_rfl) (by kernel_rfl) (pf_y rfl rfl rfl (y_ld tok rfl rfl rfl rfl hv3)) (fun P_2 => ?_)
  refine sim_p 4 (ei := [(3, .pointer (some (⟨b1, 0, none⟩ : Addr)))]) (d := (some 9)) wf (by kernel_rfl) ⟨rfl, trivial⟩ (by kernel_rfl) (by kernel_rfl) (fun _ => pf_p tok rfl rfl rfl rfl) (fun P_4 => ?_)
  obtain ⟨v4, hv4, H⟩ := H
  refine sim_l 5 (ei := [(9, .pointer (some ((⟨b1, 0, none⟩ : Addr).add 1)))]) (d := (some 10)) wf (by kernel_rfl) ⟨rfl, trivial⟩ (by kernel_rfl) (by kernel_rfl) (pf_y rfl rfl rfl (y_ld tok rfl rfl rfl rfl hv4)) (fun P_5 => ?_)
  refine sim_p 6 (ei := [(10, .int .u16 v4)]) (d := (some 11)) wf (by kernel_rfl) ⟨rfl, trivial⟩ (by kernel_rfl) (by kernel_rfl) (fun _ => pf_p tok rfl rfl rfl rfl) (fun P_6 => ?_)
  refine sim_c 3 [0, 1, 2] [0, 1, 2] (ei := [(5, Slc.v p0), (7, .int .u64 v3)]) num_Put_ok (num_Put_ref _ _ _ _ _ H) wf ⟨P_6 _, P_5, P_4 _, P_2, P_1 _, P_0 _, trivial⟩ (by kernel_rfl) ⟨rfl, rfl, trivial⟩ (by kernel_rfl) rfl rfl rfl rfl rfl ?_
  rintro _ h6 ⟨r5, rfl, H⟩
  obtain ⟨hy7, H⟩ := H
  refine sim_re (x := ⟨5, .int .u16 v4, [(9, .pointer (some ((⟨b1, 0, none⟩ : Addr).add 1)))]⟩) (pf_y rfl rfl rfl (y_ld tok rfl rfl rfl rfl hy7)) (fun P_5 => ?_)
  refine sim_c 7 [0, 1, 2, 3, 4, 5, 6] [0, 1, 2, 4, 5, 6] (ei := [(8, Slc.v r5), (11, .int .u64 (IntKind.u64.wrap v4))]) num_Put_ok (num_Put_ref _ _ _ _ _ H) wf ⟨P_6 _, P_5, P_4 _, trivial, trivial, trivial, trivial⟩ (by kernel_rfl) ⟨rfl, rfl, trivial⟩ (by kernel_rfl) rfl rfl rfl rfl rfl ?_
  rintro _ h9 ⟨r8, rfl, H⟩
  refine sim_p 8 (ei := [(12, Slc.v r8)]) (d := (some 4)) wf (by kernel_rfl) ⟨rfl, trivial⟩ (by kernel_rfl) (by kernel_rfl) (fun _ => pf_p tok rfl rfl rfl rfl) (fun P_8 => ?_)
  refine sim_end wf ⟨P_8 _, trivial, trivial, trivial, trivial, trivial, trivial, trivial⟩ (by kernel_rfl) ?_
  clear wf P_0 P_1 P_2 P_4 P_5 P_6 P_8
  refine x_seq ?_
  refine c_weak [(4, Slc.v r8)] ⟨rfl, trivial⟩ ?_
  refine c_ret ?_
  exact x_ret _ rfl _ rfl ⟨r8, rfl, H⟩

theorem reg_text_ok : CallOk Go.Proofs.Try.prog 92 := ⟨_, Go.Proofs.Try.func92, by kernel_rfl, by kernel_rfl⟩
theorem reg_text_ref (p0 : Slc) (p1 : ByteArray) (k : (Slc) → Heap → Prop) (h : Heap) (H : reg_text p0 p1 k h) : CallsH Go.Proofs.Try.prog 92 #[Slc.v p0, .string p1] h (fun v h' => ∃ r : Slc, v = Slc.v r ∧ k r h') := by
  refine f_enter (N := 12) Go.Proofs.Try.func92 rfl rfl rfl (fun w0 => ?_)
  unfold reg_text at H
  refine c_weak [(0, Slc.v p0), (1, .string p1)] ⟨rfl, rfl, trivial⟩ ?_
  refine c_seq ?_
  refine c_region ?_
  refine w_p tok rfl rfl rfl ?_
  refine w_end ?_
  refine x_seq ?_
  refine c_seq ?_
  refine c_region ?_
  refine w_p tok rfl rfl rfl ?_
  refine w_p tok rfl rfl rfl ?_
  refine w_p tok rfl rfl rfl ?_
  refine w_p tok rfl rfl rfl ?_
  refine w_call num_PutShort_ok (num_PutShort_ref _ _ _ _ H) rfl rfl rfl rfl ?_
  rintro _ h2 ⟨r1, rfl, H⟩
  refine w_p tok rfl rfl rfl ?_
  refine w_a (a_apps (s := r1) (str := p1) tok rfl rfl rfl rfl rfl rfl H) rfl rfl ?_
  rintro _ h4 ⟨s3, rfl, H⟩
  refine w_p tok rfl rfl rfl ?_
  refine w_end ?_
  refine x_seq ?_
  refine c_weak [(4, Slc.v s3)] ⟨rfl, trivial⟩ ?_
  refine c_ret ?_
  exact x_ret _ rfl _ rfl ⟨s3, rfl, H⟩

theorem num_Zig_ok : CallOk Go.Proofs.Try.prog 93 := ⟨_, Go.Proofs.Try.func93, by kernel_rfl, by kernel_rfl⟩
theorem num_Zig_ref (p0 : Int) (k : (Int) → Heap → Prop) (h : Heap) (H : num_Zig p0 k h) : CallsH Go.Proofs.Try.prog 93 #[.int .i64 p0] h (fun v h' => ∃ r : Int, v = .int .u64 r ∧ k r h') := by
  refine f_enter (N := 10) Go.Proofs.Try.func93 rfl rfl rfl (fun w0 => ?_)
  unfold num_Zig at H
  refine c_weak [(0, .int .i64 p0)] ⟨rfl, trivial⟩ ?_
  refine c_seq ?_
  refine c_region ?_
  refine w_p tok rfl rfl rfl ?_
  refine w_end ?_
  refine x_seq ?_
  refine c_seq ?_
  refine c_region ?_
  refine w_p tok rfl rfl rfl ?_
  refine w_p tok rfl rfl rfl ?_
  refine w_p tok rfl rfl rfl ?_
  refine w_p tok rfl rfl rfl ?_
  refine w_p tok rfl rfl rfl ?_
  refine w_p tok rfl rfl rfl ?_
  refine w_p tok rfl rfl rfl ?_
  obtain ⟨x1, ex1, H⟩ := H
  refine w_pe tok rfl (congrArg (fun z => (.int .u64 z : Value)) ex1) rfl rfl ?_
  refine w_end ?_
  refine x_seq ?_
  refine c_weak [(2, .int .u64 x1)] ⟨rfl, trivial⟩ ?_
  refine c_ret ?_
  exact x_ret _ rfl _ rfl ⟨x1, rfl, H⟩

theorem reg_Put_ok : CallOk Go.Proofs.Try.prog 26 := ⟨_, Go.Proofs.Try.func26, by kernel_rfl, by kernel_rfl⟩
theorem reg_Put_ref (p0 : S_api_Command) (k : (Slc) → Heap → Prop) (h : Heap) (H : reg_Put p0 k h) : CallsH Go.Proofs.Try.prog 26 #[.agg (S_api_Command.cs p0).toArray] h (fun v h' => ∃ r : Slc, v = Slc.v r ∧ k r h') := by
  refine f_enter (N := 28) Go.Proofs.Try.func26 rfl rfl rfl (fun w0 => ?_)
  unfold reg_Put at H
  refine c_weak [(0, .agg (S_api_Command.cs p0).toArray)] ⟨rfl, trivial⟩ ?_
  refine c_seq ?_
  refine c_region ?_
  obtain ⟨b1, h2, eb1, eh2, H⟩ := H
  refine w_h (h_box rfl rfl eb1 eh2) rfl rfl ?_
  refine w_p tok rfl rfl rfl ?_
  refine w_end ?_
  refine x_seq ?_
  refine c_seq ?_
  refine c_sim [(1, .pointer (some (⟨b1, 0, none⟩ : Addr)))] (by kernel_rfl) (by kernel_rfl) ⟨rfl, trivial⟩ (fun wf => ?_)
  refine sim_p 0 (ei := [(1, .pointer (some (⟨b1, 0, none⟩ : Addr)))]) (d := (some 4)) wf (by kernel_rfl) ⟨rfl, trivial⟩ (by kernel_rfl) (by kernel_rfl) (fun _ => pf_p tok rfl rfl rfl rfl) (fun P_0 => ?_)
  obtain ⟨v3, hv3, H⟩ := H
  refine sim_l 1 (ei := [(4, .pointer (some (⟨b1, 0, none⟩ : Addr)))]) (d := (some 5)) wf (by kernel_rfl) ⟨rfl, trivial⟩ (by kernel_rfl) (by kernel_rfl) (pf_y rfl rfl rfl (y_ld tok rfl rfl rfl rfl hv3)) (fun P_1 => ?_)
  refine sim_p 2 (ei := [(5, .int .i64 v3)]) (d := (some 6)) wf (by kernel_rfl) ⟨rfl, trivial⟩ (by kernel_rfl) (by kernel_rfl) (fun _ => pf_p tok rfl rfl rfl rfl) (fun P_2 => ?_)
  refine sim_p 4 (ei := [(1, .pointer (some (⟨b1, 0, none⟩ : Addr)))]) (d := (some 8)) wf (by kernel_rfl) ⟨rfl, trivial⟩ (by kernel_rfl) (by kernel_rfl) (fun _ => pf_p tok rfl rfl rfl rfl) (fun P_4 => ?_)
  obtain ⟨v4, hv4, H⟩ := H
  refine sim_l 5 (ei := [(8, .pointer (some ((⟨b1, 0, none⟩ : Addr).add 1)))]) (d := (some 9)) wf (by kernel_rfl) ⟨rfl, trivial⟩ (by kernel_rfl) (by kernel_rfl) (pf_y rfl rfl rfl (y_ld tok rfl rfl rfl rfl hv4)) (fun P_5 => ?_)
  refine sim_p 7 (ei := [(1, .pointer (some (⟨b1, 0, none⟩ : Addr)))]) (d := (some 11)) wf (by kernel_rfl) ⟨rfl, trivial⟩ (by kernel_rfl) (by kernel_rfl) (fun _ => pf_p tok rfl rfl rfl rfl) (fun P_7 => ?_)
  obtain ⟨v5, hv5, H⟩ := H
  refine sim_l 8 (ei := [(11, .pointer (some ((⟨b1, 0, none⟩ : Addr).add 2)))]) (d := (some 12)) wf (by kernel_rfl) ⟨rfl, trivial⟩ (by kernel_rfl) (by kernel_rfl) (pf_y rfl rfl rfl (y_ld tok rfl rfl rfl rfl hv5)) (fun P_8 => ?_)
  refine sim_p 9 (ei := [(12, .int .u32 v5)]) (d := (some 13)) wf (by kernel_rfl) ⟨rfl, trivial⟩ (by kernel_rfl) (by kernel_rfl) (fun _ => pf_p tok rfl rfl rfl rfl) (fun P_9 => ?_)
  obtain ⟨b6, h7, eb6, eh7, H⟩ := H
  refine sim_h 3 [0, 1, 2] [0, 1, 2] (ei := [(6, .int .u8 (IntKind.u8.wrap v3))]) wf ⟨P_9 _, P_8, P_7 _, P_5, P_4 _, P_2 _, P_1, P_0 _, trivial⟩ (by kernel_rfl) ⟨rfl, trivial⟩ (by kernel_rfl) rfl rfl rfl (h_bs tok rfl rfl rfl rfl rfl rfl rfl eb6 eh7) ?_
  obtain ⟨hy8, hy9, H⟩ := H
  refine sim_re (x := ⟨8, .int .u32 v5, [(11, .pointer (some ((⟨b1, 0, none⟩ : Addr).add 2)))]⟩) (pf_y rfl rfl rfl (y_ld tok rfl rfl rfl rfl hy8)) (fun P_8 => ?_)
  refine sim_re (x := ⟨5, .string v4, [(8, .pointer (some ((⟨b1, 0, none⟩ : Addr).add 1)))]⟩) (pf_y rfl rfl rfl (y_ld tok rfl rfl rfl rfl hy9)) (fun P_5 => ?_)
  refine sim_c 6 [0, 1, 2, 3, 4, 5] [0, 1, 2, 4, 5] (ei := [(7, Slc.v (⟨some ⟨b6, 0, none⟩, 1, 1⟩ : Slc)), (9, .string v4)]) reg_text_ok (reg_text_ref _ _ _ _ H) wf ⟨P_9 _, P_8, P_7 _, P_5, P_4 _, trivial, trivial, trivial, trivial⟩ (by kernel_rfl) ⟨rfl, rfl, trivial⟩ (by kernel_rfl) rfl rfl rfl rfl rfl ?_
  rintro _ h11 ⟨r10, rfl, H⟩
  obtain ⟨hy12, H⟩ := H
  refine sim_re (x := ⟨8, .int .u32 v5, [(11, .pointer (some ((⟨b1, 0, none⟩ : Addr).add 2)))]⟩) (pf_y rfl rfl rfl (y_ld tok rfl rfl rfl rfl hy12)) (fun P_8 => ?_)
  refine sim_c 10 [0, 1, 2, 3, 4, 5, 6, 7, 8, 9] [0, 1, 2, 4, 5, 7, 8, 9] (ei := [(10, Slc.v r10), (13, .int .u64 (IntKind.u64.wrap v5))]) num_Put_ok (num_Put_ref _ _ _ _ _ H) wf ⟨P_9 _, P_8, P_7 _, trivial, trivial, trivial, trivial, trivial, trivial⟩ (by kernel_rfl) ⟨rfl, rfl, trivial⟩ (by kernel_rfl) rfl rfl rfl rfl rfl ?_
  rintro _ h14 ⟨r13, rfl, H⟩
  refine sim_p 11 (ei := [(14, Slc.v r13)]) (d := (some 3)) wf (by kernel_rfl) ⟨rfl, trivial⟩ (by kernel_rfl) (by kernel_rfl) (fun _ => pf_p tok rfl rfl rfl rfl) (fun P_11 => ?_)
  refine sim_end wf ⟨P_11 _, trivial, trivial, trivial, trivial, trivial, trivial, trivial, trivial, trivial⟩ (by kernel_rfl) ?_
  clear wf P_0 P_1 P_11 P_2 P_4 P_5 P_7 P_8 P_9
  refine x_seq ?_
  refine c_weak [(1, .pointer (some (⟨b1, 0, none⟩ : Addr))), (3, Slc.v r13)] ⟨rfl, rfl, trivial⟩ ?_
  refine c_seq ?_
  refine c_sim [(1, .pointer (some (⟨b1, 0, none⟩ : Addr))), (3, Slc.v r13)] (by kernel_rfl) (by kernel_rfl) ⟨rfl, rfl, trivial⟩ (fun wf => ?_)
  refine sim_p 0 (ei := [(3, Slc.v r13)]) (d := (some 15)) wf (by kernel_rfl) ⟨rfl, trivial⟩ (by kernel_rfl) (by kernel_rfl) (fun _ => pf_p tok rfl rfl rfl rfl) (fun P_0 => ?_)
  refine sim_p 1 (ei := [(1, .pointer (some (⟨b1, 0, none⟩ : Addr)))]) (d := (some 16)) wf (by kernel_rfl) ⟨rfl, trivial⟩ (by kernel_rfl) (by kernel_rfl) (fun _ => pf_p tok rfl rfl rfl rfl) (fun P_1 => ?_)
  obtain ⟨s15, ps15, qs15, rs15, es15, H⟩ := H
  refine sim_p 2 (ei := [(16, .pointer (some ((⟨b1, 0, none⟩ : Addr).add 3)))]) (d := (some 17)) wf (by kernel_rfl) ⟨rfl, trivial⟩ (by kernel_rfl) (by kernel_rfl) (fun _ => pf_ye rfl rfl rfl (y_sla (L := 0) (H := 12) tok rfl rfl rfl rfl rfl rfl ps15 qs15 rs15) (congrArg Slc.v es15)) (fun P_2 => ?_)
  refine sim_p 4 (ei := [(1, .pointer (some (⟨b1, 0, none⟩ : Addr)))]) (d := (some 19)) wf (by kernel_rfl) ⟨rfl, trivial⟩ (by kernel_rfl) (by kernel_rfl) (fun _ => pf_p tok rfl rfl rfl rfl) (fun P_4 => ?_)
  obtain ⟨v16, hv16, H⟩ := H
  refine sim_l 5 (ei := [(19, .pointer (some ((⟨b1, 0, none⟩ : Addr).add 15)))]) (d := (some 20)) wf (by kernel_rfl) ⟨rfl, trivial⟩ (by kernel_rfl) (by kernel_rfl) (pf_y rfl rfl rfl (y_ld tok rfl rfl rfl rfl hv16)) (fun P_5 => ?_)
  obtain ⟨l17, ll17, hl17, H⟩ := H
  refine sim_l 6 (ei := [(20, Slc.v v16)]) (d := (some 21)) wf (by kernel_rfl) ⟨rfl, trivial⟩ (by kernel_rfl) (by kernel_rfl) (pf_y rfl rfl rfl (y_b2s (s := v16) (l := l17) tok rfl rfl rfl rfl rfl ll17 hl17)) (fun P_6 => ?_)
  obtain ⟨l20, hl20, H⟩ := H
  refine sim_a 3 [0, 1, 2] [0, 1, 2] (ei := [(15, Slc.v r13), (17, Slc.v s15)]) wf ⟨P_6, P_5, P_4 _, P_2 _, P_1 _, P_0 _, trivial⟩ (by kernel_rfl) ⟨rfl, rfl, trivial⟩ (by kernel_rfl) rfl rfl rfl (a_app (s := r13) (r := s15) tok rfl rfl rfl rfl rfl hl20 H) ?_
  rintro _ h19 ⟨s18, rfl, H⟩
  obtain ⟨hy21, hy22, H⟩ := H
  refine sim_re (x := ⟨6, .string (bsOf l17), [(20, Slc.v v16)]⟩) (pf_y rfl rfl rfl (y_b2s (s := v16) (l := l17) tok rfl rfl rfl rfl rfl ll17 hy21)) (fun P_6 => ?_)
  refine sim_re (x := ⟨5, Slc.v v16, [(19, .pointer (some ((⟨b1, 0, none⟩ : Addr).add 15)))]⟩) (pf_y rfl rfl rfl (y_ld tok rfl rfl rfl rfl hy22)) (fun P_5 => ?_)
  refine sim_c 7 [0, 1, 2, 3, 4, 5, 6] [0, 1, 2, 4, 5, 6] (ei := [(18, Slc.v s18), (21, .string (bsOf l17))]) reg_text_ok (reg_text_ref _ _ _ _ H) wf ⟨P_6, P_5, P_4 _, trivial, trivial, trivial, trivial⟩ (by kernel_rfl) ⟨rfl, rfl, trivial⟩ (by kernel_rfl) rfl rfl rfl rfl rfl ?_
  rintro _ h24 ⟨r23, rfl, H⟩
  refine sim_p 8 (ei := [(22, Slc.v r23)]) (d := (some 3)) wf (by kernel_rfl) ⟨rfl, trivial⟩ (by kernel_rfl) (by kernel_rfl) (fun _ => pf_p tok rfl rfl rfl rfl) (fun P_8 => ?_)
  refine sim_end wf ⟨P_8 _, trivial, trivial, trivial, trivial, trivial, trivial, trivial⟩ (by kernel_rfl) ?_
  clear wf P_0 P_1 P_2 P_4 P_5 P_6 P_8
  refine x_seq ?_
  refine c_weak [(1, .pointer (some (⟨b1, 0, none⟩ : Addr))), (3, Slc.v r23)] ⟨rfl, rfl, trivial⟩ ?_
  refine c_seq ?_
  refine c_region ?_
  refine w_p tok rfl rfl rfl ?_
  refine w_p tok rfl rfl rfl ?_
  obtain ⟨v25, hv25, H⟩ := H
  refine w_y (y_ld tok rfl rfl rfl rfl hv25) rfl rfl ?_
  refine w_call num_Zig_ok (num_Zig_ref _ _ _ H) rfl rfl rfl rfl ?_
  rintro _ h27 ⟨r26, rfl, H⟩
  refine w_call num_Put_ok (num_Put_ref _ _ _ _ _ H) rfl rfl rfl rfl ?_
  rintro _ h29 ⟨r28, rfl, H⟩
  refine w_p tok rfl rfl rfl ?_
  refine w_end ?_
  refine x_seq ?_
  refine c_weak [(2, Slc.v r28)] ⟨rfl, trivial⟩ ?_
  refine c_ret ?_
  exact x_ret _ rfl _ rfl ⟨r28, rfl, H⟩

theorem raft_text_ok : CallOk Go.Proofs.Try.prog 194 := ⟨_, Go.Proofs.Try.func194, by kernel_rfl, by kernel_rfl⟩
theorem raft_text_ref (p0 : Slc) (p1 : Slc) (k : (Slc) → Heap → Prop) (h : Heap) (H : raft_text p0 p1 k h) : CallsH Go.Proofs.Try.prog 194 #[Slc.v p0, Slc.v p1] h (fun v h' => ∃ r : Slc, v = Slc.v r ∧ k r h') := by
  refine f_enter (N := 12) Go.Proofs.Try.func194 rfl rfl rfl (fun w0 => ?_)
  unfold raft_text at H
  refine c_weak [(0, Slc.v p0), (1, Slc.v p1)] ⟨rfl, rfl, trivial⟩ ?_
  refine c_seq ?_
  refine c_region ?_
  refine w_p tok rfl rfl rfl ?_
  refine w_end ?_
  refine x_seq ?_
  refine c_seq ?_
  refine c_region ?_
  refine w_p tok rfl rfl rfl ?_
  refine w_p tok rfl rfl rfl ?_
  refine w_p tok rfl rfl rfl ?_
  refine w_p tok rfl rfl rfl ?_
  refine w_call num_PutShort_ok (num_PutShort_ref _ _ _ _ H) rfl rfl rfl rfl ?_
  rintro _ h2 ⟨r1, rfl, H⟩
  refine w_p tok rfl rfl rfl ?_
  obtain ⟨l5, hl5, H⟩ := H
  refine w_a (a_app (s := r1) (r := p1) tok rfl rfl rfl rfl rfl hl5 H) rfl rfl ?_
  rintro _ h4 ⟨s3, rfl, H⟩
  refine w_p tok rfl rfl rfl ?_
  refine w_end ?_
  refine x_seq ?_
  refine c_weak [(4, Slc.v s3)] ⟨rfl, trivial⟩ ?_
  refine c_ret ?_
  exact x_ret _ rfl _ rfl ⟨s3, rfl, H⟩

theorem raft_Put_ok : CallOk Go.Proofs.Try.prog 161 := ⟨_, Go.Proofs.Try.func161, by kernel_rfl, by kernel_rfl⟩
theorem raft_Put_ref (p0 : S_api_Msg) (k : (Slc) → Heap → Prop) (h : Heap) (H : raft_Put p0 k h) : CallsH Go.Proofs.Try.prog 161 #[.agg (S_api_Msg.cs p0).toArray] h (fun v h' => ∃ r : Slc, v = Slc.v r ∧ k r h') := by
  refine f_enter (N := 61) Go.Proofs.Try.func161 rfl rfl rfl (fun w0 => ?_)
  unfold raft_Put at H
  refine c_weak [(0, .agg (S_api_Msg.cs p0).toArray)] ⟨rfl, trivial⟩ ?_
  refine c_seq ?_
  refine c_region ?_
  obtain ⟨b1, h2, eb1, eh2, H⟩ := H
  refine w_h (h_box rfl rfl eb1 eh2) rfl rfl ?_
  refine w_p tok rfl rfl rfl ?_
  refine w_end ?_
  refine x_seq ?_
  refine c_seq ?_
  refine c_region ?_
  refine w_p tok rfl rfl rfl ?_
  obtain ⟨v3, hv3, H⟩ := H
  refine w_y (y_ld tok rfl rfl rfl rfl hv3) rfl rfl ?_
  refine w_p tok rfl rfl rfl ?_
  obtain ⟨b4, h5, eb4, eh5, H⟩ := H
  refine w_h (h_bs tok rfl rfl rfl rfl rfl rfl rfl eb4 eh5) rfl rfl ?_
  refine w_p tok rfl rfl rfl ?_
  refine w_end ?_
  refine x_seq ?_
  refine c_seq ?_
  refine c_seq ?_
  refine c_region ?_
  refine w_p tok rfl rfl rfl ?_
  obtain ⟨v6, hv6, H⟩ := H
  refine w_y (y_ld tok rfl rfl rfl rfl hv6) rfl rfl ?_
  refine w_p tok rfl rfl rfl ?_
  obtain ⟨v7, hv7, H⟩ := H
  refine w_y (y_ld tok rfl rfl rfl rfl hv7) rfl rfl ?_
  refine w_p tok rfl rfl rfl ?_
  obtain ⟨v8, hv8, H⟩ := H
  refine w_y (y_ld tok rfl rfl rfl rfl hv8) rfl rfl ?_
  refine w_p tok rfl rfl rfl ?_
  obtain ⟨v9, hv9, H⟩ := H
  refine w_y (y_ld tok rfl rfl rfl rfl hv9) rfl rfl ?_
  obtain ⟨b10, h11, eb10, eh11, H⟩ := H
  refine w_h (h_bs tok rfl rfl rfl rfl rfl rfl rfl eb10 eh11) rfl rfl ?_
  refine w_p tok rfl rfl rfl ?_
  refine w_p tok rfl rfl rfl ?_
  refine w_end ?_
  refine x_seq ?_
  refine c_weak [(1, .pointer (some (⟨b1, 0, none⟩ : Addr))), (3, Slc.v (⟨some ⟨b4, 0, none⟩, 1, 1⟩ : Slc)), (21, Slc.v (⟨some ⟨b10, 0, none⟩, 4, 4⟩ : Slc)), (22, .int .i64 ((⟨some ⟨b10, 0, none⟩, 4, 4⟩ : Slc).len : Int)), (23, .int .i64 0)] ⟨rfl, rfl, rfl, rfl, rfl, trivial⟩ ?_
  refine c_block ?_
  obtain ⟨I1, μ1, H0, HI⟩ := H
  refine c_loop (σ := Slc × Int) (fun (s : Slc × Int) => [(3, Slc.v s.1), (23, .int .i64 s.2), (1, .pointer (some (⟨b1, 0, none⟩ : Addr))), (21, Slc.v (⟨some ⟨b10, 0, none⟩, 4, 4⟩ : Slc)), (22, .int .i64 ((⟨some ⟨b10, 0, none⟩, 4, 4⟩ : Slc).len : Int))]) I1 μ1 ((⟨some ⟨b4, 0, none⟩, 1, 1⟩ : Slc), 0) H0 ⟨rfl, rfl, rfl, rfl, rfl, trivial⟩ ?_
  rintro ⟨t3_1, t23_1⟩ h_1 H
  replace H := HI t3_1 t23_1 h_1 H
  unfold raft_Put_l1b at H
  refine c_weak [(3, Slc.v t3_1), (23, .int .i64 t23_1), (1, .pointer (some (⟨b1, 0, none⟩ : Addr))), (21, Slc.v (⟨some ⟨b10, 0, none⟩, 4, 4⟩ : Slc)), (22, .int .i64 ((⟨some ⟨b10, 0, none⟩, 4, 4⟩ : Slc).len : Int))] ⟨rfl, rfl, rfl, rfl, rfl, trivial⟩ ?_
  refine c_seq ?_
  refine c_region ?_
  refine w_p tok rfl rfl rfl ?_
  refine w_end ?_
  refine x_seq ?_
  refine c_seq ?_
  refine c_if H rfl (fun H => ?_) (fun H => ?_)
  ·
    refine c_skip ?_
    refine x_seq ?_
    refine c_seq ?_
    refine c_block ?_
    refine c_seq ?_
    refine c_region ?_
    obtain ⟨a12, ha12, la12, ua12, H⟩ := H
    refine w_y (y_ixa' tok rfl rfl ha12 rfl rfl rfl la12 ua12) rfl rfl ?_
    obtain ⟨v13, hv13, H⟩ := H
    refine w_y (y_ld tok rfl rfl rfl rfl hv13) rfl rfl ?_
    refine w_p tok rfl rfl rfl ?_
    refine w_end ?_
    refine x_seq ?_
    refine c_region ?_
    refine w_p tok rfl rfl rfl ?_
    refine w_p tok rfl rfl rfl ?_
    refine w_call num_PutShort_ok (num_PutShort_ref _ _ _ _ H) rfl rfl rfl rfl ?_
    rintro _ h15 ⟨r14, rfl, H⟩
    refine w_p tok rfl rfl rfl ?_
    refine w_end ?_
    refine x_blk ?_
    refine x_seq ?_
    refine c_weak [(3, Slc.v r14), (23, .int .i64 t23_1), (1, .pointer (some (⟨b1, 0, none⟩ : Addr))), (21, Slc.v (⟨some ⟨b10, 0, none⟩, 4, 4⟩ : Slc)), (22, .int .i64 ((⟨some ⟨b10, 0, none⟩, 4, 4⟩ : Slc).len : Int))] ⟨rfl, rfl, rfl, rfl, rfl, trivial⟩ ?_
    refine c_region ?_
    refine w_p tok rfl rfl rfl ?_
    refine w_p tok rfl rfl rfl ?_
    refine w_end ?_
    exact x_join (r14, (IntKind.i64.wrap (t23_1 + 1))) H ⟨rfl, rfl, rfl, rfl, rfl, trivial⟩
  ·
    refine c_exit ?_
    refine x_te ?_
    refine x_te ?_
    refine x_bh ?_
    refine x_seq ?_
    refine c_seq ?_
    refine c_region ?_
    refine w_p tok rfl rfl rfl ?_
    refine w_end ?_
    refine x_seq ?_
    refine c_seqJ (α := Int) (fun (s : Int) => [(6, .int .u8 s), (1, .pointer (some (⟨b1, 0, none⟩ : Addr))), (3, Slc.v t3_1)]) (fun (s : Int) h => raft_Put_j2 (⟨b1, 0, none⟩ : Addr) t3_1 s k (fun s h' => I1 s h' ∧ μ1 s h' < μ1 (t3_1, t23_1) h_1) h) ?_ ?_
    ·
      rintro t6_2 h_2 H
      replace H : raft_Put_j2 (⟨b1, 0, none⟩ : Addr) t3_1 t6_2 k (fun s h' => I1 s h' ∧ μ1 s h' < μ1 (t3_1, t23_1) h_1) h_2 := H
      unfold raft_Put_j2 at H
      refine c_weak [(6, .int .u8 t6_2), (1, .pointer (some (⟨b1, 0, none⟩ : Addr))), (3, Slc.v t3_1)] ⟨rfl, rfl, rfl, trivial⟩ ?_
      refine c_seq ?_
      refine c_sim [(1, .pointer (some (⟨b1, 0, none⟩ : Addr))), (3, Slc.v t3_1), (6, .int .u8 t6_2)] (by kernel_rfl) (by kernel_rfl) ⟨rfl, rfl, rfl, trivial⟩ (fun wf => ?_)
      refine sim_p 0 (ei := [(3, Slc.v t3_1)]) (d := (some 33)) wf (by kernel_rfl) ⟨rfl, trivial⟩ (by kernel_rfl) (by kernel_rfl) (fun _ => pf_p tok rfl rfl rfl rfl) (fun P_0 => ?_)
      refine sim_p 1 (ei := [(6, .int .u8 t6_2)]) (d := (some 34)) wf (by kernel_rfl) ⟨rfl, trivial⟩ (by kernel_rfl) (by kernel_rfl) (fun _ => pf_p tok rfl rfl rfl rfl) (fun P_1 => ?_)
      refine sim_p 4 (ei := [(1, .pointer (some (⟨b1, 0, none⟩ : Addr)))]) (d := (some 37)) wf (by kernel_rfl) ⟨rfl, trivial⟩ (by kernel_rfl) (by kernel_rfl) (fun _ => pf_p tok rfl rfl rfl rfl) (fun P_4 => ?_)
      obtain ⟨v16, hv16, H⟩ := H
      refine sim_l 5 (ei := [(37, .pointer (some ((⟨b1, 0, none⟩ : Addr).add 6)))]) (d := (some 38)) wf (by kernel_rfl) ⟨rfl, trivial⟩ (by kernel_rfl) (by kernel_rfl) (pf_y rfl rfl rfl (y_ld tok rfl rfl rfl rfl hv16)) (fun P_5 => ?_)
      refine sim_p 6 (ei := [(38, Slc.v v16)]) (d := (some 39)) wf (by kernel_rfl) ⟨rfl, trivial⟩ (by kernel_rfl) (by kernel_rfl) (fun _ => pf_p tok rfl rfl rfl rfl) (fun P_6 => ?_)
      refine sim_p 7 (ei := [(39, .int .i64 (v16.len : Int))]) (d := (some 40)) wf (by kernel_rfl) ⟨rfl, trivial⟩ (by kernel_rfl) (by kernel_rfl) (fun _ => pf_p tok rfl rfl rfl rfl) (fun P_7 => ?_)
      obtain ⟨b17, h18, eb17, eh18, H⟩ := H
      refine sim_h 2 [1] [1] (ei := [(34, .int .u8 t6_2)]) wf ⟨P_7 _, P_6 _, P_5, P_4 _, P_1 _, P_0 _, trivial⟩ (by kernel_rfl) ⟨rfl, trivial⟩ (by kernel_rfl) rfl rfl rfl (h_bs tok rfl rfl rfl rfl rfl rfl rfl eb17 eh18) ?_
      obtain ⟨hy19, H⟩ := H
      refine sim_re (x := ⟨5, Slc.v v16, [(37, .pointer (some ((⟨b1, 0, none⟩ : Addr).add 6)))]⟩) (pf_y rfl rfl rfl (y_ld tok rfl rfl rfl rfl hy19)) (fun P_5 => ?_)
      refine sim_a 3 [0, 1, 2] [0, 1] (ei := [(33, Slc.v t3_1), (35, Slc.v (⟨some ⟨b17, 0, none⟩, 1, 1⟩ : Slc))]) wf ⟨P_7 _, P_6 _, P_5, P_4 _, trivial, P_0 _, trivial⟩ (by kernel_rfl) ⟨rfl, rfl, trivial⟩ (by kernel_rfl) rfl rfl rfl (a_app (s := t3_1) (r := (⟨some ⟨b17, 0, none⟩, 1, 1⟩ : Slc)) tok rfl rfl rfl rfl rfl (slcAt_push eb17 eh18) H) ?_
      rintro _ h21 ⟨s20, rfl, H⟩
      obtain ⟨hy22, H⟩ := H
      refine sim_re (x := ⟨5, Slc.v v16, [(37, .pointer (some ((⟨b1, 0, none⟩ : Addr).add 6)))]⟩) (pf_y rfl rfl rfl (y_ld tok rfl rfl rfl rfl hy22)) (fun P_5 => ?_)
      refine sim_c 8 [0, 1, 2, 3, 4, 5, 6, 7] [0, 1, 4, 5, 6, 7] (ei := [(36, Slc.v s20), (40, .int .u64 (IntKind.u64.wrap (v16.len : Int)))]) num_PutShort_ok (num_PutShort_ref _ _ _ _ H) wf ⟨P_7 _, P_6 _, P_5, P_4 _, trivial, trivial, trivial⟩ (by kernel_rfl) ⟨rfl, rfl, trivial⟩ (by kernel_rfl) rfl rfl rfl rfl rfl ?_
      rintro _ h24 ⟨r23, rfl, H⟩
      refine sim_p 9 (ei := [(41, Slc.v r23)]) (d := (some 3)) wf (by kernel_rfl) ⟨rfl, trivial⟩ (by kernel_rfl) (by kernel_rfl) (fun _ => pf_p tok rfl rfl rfl rfl) (fun P_9 => ?_)
      refine sim_end wf ⟨P_9 _, trivial, trivial, trivial, trivial, trivial, trivial, trivial⟩ (by kernel_rfl) ?_
      clear wf P_0 P_1 P_4 P_5 P_6 P_7 P_9
      refine x_seq ?_
      refine c_weak [(1, .pointer (some (⟨b1, 0, none⟩ : Addr))), (3, Slc.v r23)] ⟨rfl, rfl, trivial⟩ ?_
      refine c_seq ?_
      refine c_seq ?_
      refine c_region ?_
      refine w_p tok rfl rfl rfl ?_
      obtain ⟨v25, hv25, H⟩ := H
      refine w_y (y_ld tok rfl rfl rfl rfl hv25) rfl rfl ?_
      refine w_p tok rfl rfl rfl ?_
      refine w_p tok rfl rfl rfl ?_
      refine w_end ?_
      refine x_seq ?_
      refine c_block ?_
      obtain ⟨I3, μ3, H0, HI⟩ := H
      refine c_loop (σ := Slc × Int) (fun (s : Slc × Int) => [(3, Slc.v s.1), (45, .int .i64 s.2), (1, .pointer (some (⟨b1, 0, none⟩ : Addr))), (43, Slc.v v25), (44, .int .i64 (v25.len : Int))]) I3 μ3 (r23, 0) H0 ⟨rfl, rfl, rfl, rfl, rfl, trivial⟩ ?_
      rintro ⟨t3_3, t45_3⟩ h_3 H
      replace H := HI t3_3 t45_3 h_3 H
      unfold raft_Put_l3b at H
      refine c_weak [(3, Slc.v t3_3), (45, .int .i64 t45_3), (1, .pointer (some (⟨b1, 0, none⟩ : Addr))), (43, Slc.v v25), (44, .int .i64 (v25.len : Int))] ⟨rfl, rfl, rfl, rfl, rfl, trivial⟩ ?_
      refine c_seq ?_
      refine c_region ?_
      refine w_p tok rfl rfl rfl ?_
      refine w_end ?_
      refine x_seq ?_
      refine c_seq ?_
      refine c_if H rfl (fun H => ?_) (fun H => ?_)
      ·
        refine c_skip ?_
        refine x_seq ?_
        refine c_seq ?_
        refine c_block ?_
        refine c_seq ?_
        refine c_region ?_
        obtain ⟨a26, ha26, la26, ua26, H⟩ := H
        refine w_y (y_ixa' tok rfl rfl ha26 rfl rfl rfl la26 ua26) rfl rfl ?_
        obtain ⟨v27, hv27, H⟩ := H
        refine w_y (y_lda tok rfl rfl rfl rfl rfl hv27) rfl rfl ?_
        obtain ⟨b28, h29, eb28, eh29, H⟩ := H
        refine w_h (h_alloc tok rfl rfl eb28 eh29) rfl rfl ?_
        obtain ⟨h30, wh30, eh30, H⟩ := H
        refine w_h (h_sts tok rfl rfl rfl rfl rfl (oneC (by kernel_rfl)) wh30 eh30) rfl rfl ?_
        refine w_end ?_
        refine x_seq ?_
        refine c_sim [(1, .pointer (some (⟨b1, 0, none⟩ : Addr))), (3, Slc.v t3_3), (8, .pointer (some (⟨b28, 0, none⟩ : Addr))), (43, Slc.v v25), (44, .int .i64 (v25.len : Int)), (45, .int .i64 t45_3)] (by kernel_rfl) (by kernel_rfl) ⟨rfl, rfl, rfl, rfl, rfl, rfl, trivial⟩ (fun wf => ?_)
        refine sim_p 0 (ei := [(3, Slc.v t3_3)]) (d := (some 49)) wf (by kernel_rfl) ⟨rfl, trivial⟩ (by kernel_rfl) (by kernel_rfl) (fun _ => pf_p tok rfl rfl rfl rfl) (fun P_0 => ?_)
        refine sim_p 1 (ei := [(8, .pointer (some (⟨b28, 0, none⟩ : Addr)))]) (d := (some 50)) wf (by kernel_rfl) ⟨rfl, trivial⟩ (by kernel_rfl) (by kernel_rfl) (fun _ => pf_p tok rfl rfl rfl rfl) (fun P_1 => ?_)
        obtain ⟨v31, hv31, H⟩ := H
        refine sim_l 2 (ei := [(50, .pointer (some (⟨b28, 0, none⟩ : Addr)))]) (d := (some 51)) wf (by kernel_rfl) ⟨rfl, trivial⟩ (by kernel_rfl) (by kernel_rfl) (pf_y rfl rfl rfl (y_ld tok rfl rfl rfl rfl hv31)) (fun P_2 => ?_)
        refine sim_p 4 (ei := [(8, .pointer (some (⟨b28, 0, none⟩ : Addr)))]) (d := (some 53)) wf (by kernel_rfl) ⟨rfl, trivial⟩ (by kernel_rfl) (by kernel_rfl) (fun _ => pf_p tok rfl rfl rfl rfl) (fun P_4 => ?_)
        obtain ⟨v32, hv32, H⟩ := H
        refine sim_l 5 (ei := [(53, .pointer (some ((⟨b28, 0, none⟩ : Addr).add 1)))]) (d := (some 54)) wf (by kernel_rfl) ⟨rfl, trivial⟩ (by kernel_rfl) (by kernel_rfl) (pf_y rfl rfl rfl (y_ld tok rfl rfl rfl rfl hv32)) (fun P_5 => ?_)
        refine sim_c 3 [0, 1, 2] [0, 1, 2] (ei := [(49, Slc.v t3_3), (51, .int .u64 v31)]) num_PutShort_ok (num_PutShort_ref _ _ _ _ H) wf ⟨P_5, P_4 _, P_2, P_1 _, P_0 _, trivial⟩ (by kernel_rfl) ⟨rfl, rfl, trivial⟩ (by kernel_rfl) rfl rfl rfl rfl rfl ?_
        rintro _ h34 ⟨r33, rfl, H⟩
        obtain ⟨hy35, H⟩ := H
        refine sim_re (x := ⟨5, Slc.v v32, [(53, .pointer (some ((⟨b28, 0, none⟩ : Addr).add 1)))]⟩) (pf_y rfl rfl rfl (y_ld tok rfl rfl rfl rfl hy35)) (fun P_5 => ?_)
        refine sim_c 6 [0, 1, 2, 3, 4, 5] [0, 1, 2, 4, 5] (ei := [(52, Slc.v r33), (54, Slc.v v32)]) raft_text_ok (raft_text_ref _ _ _ _ H) wf ⟨P_5, P_4 _, trivial, trivial, trivial, trivial⟩ (by kernel_rfl) ⟨rfl, rfl, trivial⟩ (by kernel_rfl) rfl rfl rfl rfl rfl ?_
        rintro _ h37 ⟨r36, rfl, H⟩
        refine sim_p 7 (ei := [(55, Slc.v r36)]) (d := (some 3)) wf (by kernel_rfl) ⟨rfl, trivial⟩ (by kernel_rfl) (by kernel_rfl) (fun _ => pf_p tok rfl rfl rfl rfl) (fun P_7 => ?_)
        refine sim_end wf ⟨P_7 _, trivial, trivial, trivial, trivial, trivial, trivial⟩ (by kernel_rfl) ?_
        clear wf P_0 P_1 P_2 P_4 P_5 P_7
        refine x_blk ?_
        refine x_seq ?_
        refine c_weak [(1, .pointer (some (⟨b1, 0, none⟩ : Addr))), (3, Slc.v r36), (43, Slc.v v25), (44, .int .i64 (v25.len : Int)), (45, .int .i64 t45_3)] ⟨rfl, rfl, rfl, rfl, rfl, trivial⟩ ?_
        refine c_region ?_
        refine w_p tok rfl rfl rfl ?_
        refine w_p tok rfl rfl rfl ?_
        refine w_end ?_
        exact x_join (r36, (IntKind.i64.wrap (t45_3 + 1))) H ⟨rfl, rfl, rfl, rfl, rfl, trivial⟩
      ·
        refine c_exit ?_
        refine x_te ?_
        refine x_te ?_
        refine x_bh ?_
        refine x_seq ?_
        refine c_seq ?_
        refine c_region ?_
        refine w_p tok rfl rfl rfl ?_
        refine w_p tok rfl rfl rfl ?_
        obtain ⟨v38, hv38, H⟩ := H
        refine w_y (y_ld tok rfl rfl rfl rfl hv38) rfl rfl ?_
        refine w_call raft_text_ok (raft_text_ref _ _ _ _ H) rfl rfl rfl rfl ?_
        rintro _ h40 ⟨r39, rfl, H⟩
        refine w_p tok rfl rfl rfl ?_
        refine w_end ?_
        refine x_seq ?_
        refine c_weak [(2, Slc.v r39)] ⟨rfl, trivial⟩ ?_
        refine c_ret ?_
        exact x_ret _ rfl _ rfl ⟨r39, rfl, H⟩
    ·
      refine c_seq ?_
      refine c_region ?_
      refine w_p tok rfl rfl rfl ?_
      obtain ⟨v41, hv41, H⟩ := H
      refine w_y (y_ld tok rfl rfl rfl rfl hv41) rfl rfl ?_
      refine w_end ?_
      refine x_seq ?_
      refine c_if H rfl (fun H => ?_) (fun H => ?_)
      ·
        refine c_region ?_
        refine w_p tok rfl rfl rfl ?_
        refine w_end ?_
        exact x_join 1 H ⟨rfl, rfl, rfl, trivial⟩
      ·
        refine c_skip ?_
        exact x_join 0 H ⟨rfl, rfl, rfl, trivial⟩

theorem pack_form_ok : CallOk Go.Proofs.Try.prog 90 := ⟨_, Go.Proofs.Try.func90, by kernel_rfl, by kernel_rfl⟩
theorem pack_form_ref (p0 : S_api_Note) (k : (Slc) → Heap → Prop) (h : Heap) (H : pack_form p0 k h) : CallsH Go.Proofs.Try.prog 90 #[.agg (S_api_Note.cs p0).toArray] h (fun v h' => ∃ r : Slc, v = Slc.v r ∧ k r h') := by
  refine f_enter (N := 119) Go.Proofs.Try.func90 rfl rfl rfl (fun w0 => ?_)
  unfold pack_form at H
  refine c_weak [(0, .agg (S_api_Note.cs p0).toArray)] ⟨rfl, trivial⟩ ?_
  refine c_seq ?_
  refine c_region ?_
  obtain ⟨b1, h2, eb1, eh2, H⟩ := H
  refine w_h (h_box rfl rfl eb1 eh2) rfl rfl ?_
  refine w_p tok rfl rfl rfl ?_
  refine w_end ?_
  refine x_seq ?_
  refine c_seq ?_
  refine c_sim [(1, .pointer (some (⟨b1, 0, none⟩ : Addr)))] (by kernel_rfl) (by kernel_rfl) ⟨rfl, trivial⟩ (fun wf => ?_)
  refine sim_p 0 (ei := [(1, .pointer (some (⟨b1, 0, none⟩ : Addr)))]) (d := (some 8)) wf (by kernel_rfl) ⟨rfl, trivial⟩ (by kernel_rfl) (by kernel_rfl) (fun _ => pf_p tok rfl rfl rfl rfl) (fun P_0 => ?_)
  obtain ⟨v3, hv3, H⟩ := H
  refine sim_l 1 (ei := [(8, .pointer (some (⟨b1, 0, none⟩ : Addr)))]) (d := (some 9)) wf (by kernel_rfl) ⟨rfl, trivial⟩ (by kernel_rfl) (by kernel_rfl) (pf_y rfl rfl rfl (y_ld tok rfl rfl rfl rfl hv3)) (fun P_1 => ?_)
  refine sim_p 2 (ei := [(9, .int .i64 v3)]) (d := (some 10)) wf (by kernel_rfl) ⟨rfl, trivial⟩ (by kernel_rfl) (by kernel_rfl) (fun _ => pf_p tok rfl rfl rfl rfl) (fun P_2 => ?_)
  refine sim_p 4 (ei := [(1, .pointer (some (⟨b1, 0, none⟩ : Addr)))]) (d := (some 12)) wf (by kernel_rfl) ⟨rfl, trivial⟩ (by kernel_rfl) (by kernel_rfl) (fun _ => pf_p tok rfl rfl rfl rfl) (fun P_4 => ?_)
  obtain ⟨v4, hv4, H⟩ := H
  refine sim_l 5 (ei := [(12, .pointer (some ((⟨b1, 0, none⟩ : Addr).add 1)))]) (d := (some 13)) wf (by kernel_rfl) ⟨rfl, trivial⟩ (by kernel_rfl) (by kernel_rfl) (pf_y rfl rfl rfl (y_ld tok rfl rfl rfl rfl hv4)) (fun P_5 => ?_)
  refine sim_p 7 (ei := [(1, .pointer (some (⟨b1, 0, none⟩ : Addr)))]) (d := (some 15)) wf (by kernel_rfl) ⟨rfl, trivial⟩ (by kernel_rfl) (by kernel_rfl) (fun _ => pf_p tok rfl rfl rfl rfl) (fun P_7 => ?_)
  obtain ⟨v5, hv5, H⟩ := H
  refine sim_l 8 (ei := [(15, .pointer (some ((⟨b1, 0, none⟩ : Addr).add 2)))]) (d := (some 16)) wf (by kernel_rfl) ⟨rfl, trivial⟩ (by kernel_rfl) (by kernel_rfl) (pf_y rfl rfl rfl (y_ld tok rfl rfl rfl rfl hv5)) (fun P_8 => ?_)
  obtain ⟨b6, h7, eb6, eh7, H⟩ := H
  refine sim_h 3 [0, 1, 2] [0, 1, 2] (ei := [(10, .int .u8 (IntKind.u8.wrap v3))]) wf ⟨P_8, P_7 _, P_5, P_4 _, P_2 _, P_1, P_0 _, trivial⟩ (by kernel_rfl) ⟨rfl, trivial⟩ (by kernel_rfl) rfl rfl rfl (h_bs tok rfl rfl rfl rfl rfl rfl rfl eb6 eh7) ?_
  obtain ⟨hy8, hy9, H⟩ := H
  refine sim_re (x := ⟨8, .int .u64 v5, [(15, .pointer (some ((⟨b1, 0, none⟩ : Addr).add 2)))]⟩) (pf_y rfl rfl rfl (y_ld tok rfl rfl rfl rfl hy8)) (fun P_8 => ?_)
  refine sim_re (x := ⟨5, .int .u64 v4, [(12, .pointer (some ((⟨b1, 0, none⟩ : Addr).add 1)))]⟩) (pf_y rfl rfl rfl (y_ld tok rfl rfl rfl rfl hy9)) (fun P_5 => ?_)
  refine sim_c 6 [0, 1, 2, 3, 4, 5] [0, 1, 2, 4, 5] (ei := [(11, Slc.v (⟨some ⟨b6, 0, none⟩, 1, 1⟩ : Slc)), (13, .int .u64 v4)]) num_PutShort_ok (num_PutShort_ref _ _ _ _ H) wf ⟨P_8, P_7 _, P_5, P_4 _, trivial, trivial, trivial, trivial⟩ (by kernel_rfl) ⟨rfl, rfl, trivial⟩ (by kernel_rfl) rfl rfl rfl rfl rfl ?_
  rintro _ h11 ⟨r10, rfl, H⟩
  obtain ⟨hy12, H⟩ := H
  refine sim_re (x := ⟨8, .int .u64 v5, [(15, .pointer (some ((⟨b1, 0, none⟩ : Addr).add 2)))]⟩) (pf_y rfl rfl rfl (y_ld tok rfl rfl rfl rfl hy12)) (fun P_8 => ?_)
  refine sim_c 9 [0, 1, 2, 3, 4, 5, 6, 7, 8] [0, 1, 2, 4, 5, 7, 8] (ei := [(14, Slc.v r10), (16, .int .u64 v5)]) num_PutShort_ok (num_PutShort_ref _ _ _ _ H) wf ⟨P_8, P_7 _, trivial, trivial, trivial, trivial, trivial, trivial⟩ (by kernel_rfl) ⟨rfl, rfl, trivial⟩ (by kernel_rfl) rfl rfl rfl rfl rfl ?_
  rintro _ h14 ⟨r13, rfl, H⟩
  refine sim_p 10 (ei := [(17, Slc.v r13)]) (d := (some 3)) wf (by kernel_rfl) ⟨rfl, trivial⟩ (by kernel_rfl) (by kernel_rfl) (fun _ => pf_p tok rfl rfl rfl rfl) (fun P_10 => ?_)
  refine sim_end wf ⟨P_10 _, trivial, trivial, trivial, trivial, trivial, trivial, trivial, trivial⟩ (by kernel_rfl) ?_
  clear wf P_0 P_1 P_10 P_2 P_4 P_5 P_7 P_8
  refine x_seq ?_
  refine c_weak [(1, .pointer (some (⟨b1, 0, none⟩ : Addr))), (3, Slc.v r13)] ⟨rfl, rfl, trivial⟩ ?_
  refine c_seq ?_
  refine c_sim [(1, .pointer (some (⟨b1, 0, none⟩ : Addr))), (3, Slc.v r13)] (by kernel_rfl) (by kernel_rfl) ⟨rfl, rfl, trivial⟩ (fun wf => ?_)
  refine sim_p 0 (ei := [(3, Slc.v r13)]) (d := (some 18)) wf (by kernel_rfl) ⟨rfl, trivial⟩ (by kernel_rfl) (by kernel_rfl) (fun _ => pf_p tok rfl rfl rfl rfl) (fun P_0 => ?_)
  refine sim_p 1 (ei := [(1, .pointer (some (⟨b1, 0, none⟩ : Addr)))]) (d := (some 19)) wf (by kernel_rfl) ⟨rfl, trivial⟩ (by kernel_rfl) (by kernel_rfl) (fun _ => pf_p tok rfl rfl rfl rfl) (fun P_1 => ?_)
  obtain ⟨v15, hv15, H⟩ := H
  refine sim_l 2 (ei := [(19, .pointer (some ((⟨b1, 0, none⟩ : Addr).add 3)))]) (d := (some 20)) wf (by kernel_rfl) ⟨rfl, trivial⟩ (by kernel_rfl) (by kernel_rfl) (pf_y rfl rfl rfl (y_ld tok rfl rfl rfl rfl hv15)) (fun P_2 => ?_)
  refine sim_p 3 (ei := [(20, .int .i64 v15)]) (d := (some 21)) wf (by kernel_rfl) ⟨rfl, trivial⟩ (by kernel_rfl) (by kernel_rfl) (fun _ => pf_p tok rfl rfl rfl rfl) (fun P_3 => ?_)
  refine sim_p 6 (ei := [(1, .pointer (some (⟨b1, 0, none⟩ : Addr)))]) (d := (some 24)) wf (by kernel_rfl) ⟨rfl, trivial⟩ (by kernel_rfl) (by kernel_rfl) (fun _ => pf_p tok rfl rfl rfl rfl) (fun P_6 => ?_)
  obtain ⟨v16, hv16, H⟩ := H
  refine sim_l 7 (ei := [(24, .pointer (some ((⟨b1, 0, none⟩ : Addr).add 4)))]) (d := (some 25)) wf (by kernel_rfl) ⟨rfl, trivial⟩ (by kernel_rfl) (by kernel_rfl) (pf_y rfl rfl rfl (y_ld tok rfl rfl rfl rfl hv16)) (fun P_7 => ?_)
  obtain ⟨b17, h18, eb17, eh18, H⟩ := H
  refine sim_h 4 [1, 2, 3] [1, 2, 3] (ei := [(21, .int .u8 (IntKind.u8.wrap v15))]) wf ⟨P_7, P_6 _, P_3 _, P_2, P_1 _, P_0 _, trivial⟩ (by kernel_rfl) ⟨rfl, trivial⟩ (by kernel_rfl) rfl rfl rfl (h_bs tok rfl rfl rfl rfl rfl rfl rfl eb17 eh18) ?_
  obtain ⟨hy19, H⟩ := H
  refine sim_re (x := ⟨7, .string v16, [(24, .pointer (some ((⟨b1, 0, none⟩ : Addr).add 4)))]⟩) (pf_y rfl rfl rfl (y_ld tok rfl rfl rfl rfl hy19)) (fun P_7 => ?_)
  refine sim_a 5 [0, 1, 2, 3, 4] [0, 1, 2, 3] (ei := [(18, Slc.v r13), (22, Slc.v (⟨some ⟨b17, 0, none⟩, 1, 1⟩ : Slc))]) wf ⟨P_7, P_6 _, trivial, trivial, trivial, P_0 _, trivial⟩ (by kernel_rfl) ⟨rfl, rfl, trivial⟩ (by kernel_rfl) rfl rfl rfl (a_app (s := r13) (r := (⟨some ⟨b17, 0, none⟩, 1, 1⟩ : Slc)) tok rfl rfl rfl rfl rfl (slcAt_push eb17 eh18) H) ?_
  rintro _ h21 ⟨s20, rfl, H⟩
  obtain ⟨hy22, H⟩ := H
  refine sim_re (x := ⟨7, .string v16, [(24, .pointer (some ((⟨b1, 0, none⟩ : Addr).add 4)))]⟩) (pf_y rfl rfl rfl (y_ld tok rfl rfl rfl rfl hy22)) (fun P_7 => ?_)
  refine sim_c 8 [0, 1, 2, 3, 4, 5, 6, 7] [0, 1, 2, 3, 6, 7] (ei := [(23, Slc.v s20), (25, .string v16)]) pack_text_ok (pack_text_ref _ _ _ _ H) wf ⟨P_7, P_6 _, trivial, trivial, trivial, trivial, trivial⟩ (by kernel_rfl) ⟨rfl, rfl, trivial⟩ (by kernel_rfl) rfl rfl rfl rfl rfl ?_
  rintro _ h24 ⟨r23, rfl, H⟩
  refine sim_p 9 (ei := [(26, Slc.v r23)]) (d := (some 3)) wf (by kernel_rfl) ⟨rfl, trivial⟩ (by kernel_rfl) (by kernel_rfl) (fun _ => pf_p tok rfl rfl rfl rfl) (fun P_9 => ?_)
  refine sim_end wf ⟨P_9 _, trivial, trivial, trivial, trivial, trivial, trivial, trivial⟩ (by kernel_rfl) ?_
  clear wf P_0 P_1 P_2 P_3 P_6 P_7 P_9
  refine x_seq ?_
  refine c_weak [(1, .pointer (some (⟨b1, 0, none⟩ : Addr))), (3, Slc.v r23)] ⟨rfl, rfl, trivial⟩ ?_
  refine c_seq ?_
  refine c_region ?_
  refine w_p tok rfl rfl rfl ?_
  refine w_p tok rfl rfl rfl ?_
  obtain ⟨v25, hv25, H⟩ := H
  refine w_y (y_ld tok rfl rfl rfl rfl hv25) rfl rfl ?_
  refine w_p tok rfl rfl rfl ?_
  refine w_p tok rfl rfl rfl ?_
  refine w_call num_PutShort_ok (num_PutShort_ref _ _ _ _ H) rfl rfl rfl rfl ?_
  rintro _ h27 ⟨r26, rfl, H⟩
  refine w_p tok rfl rfl rfl ?_
  refine w_end ?_
  refine x_seq ?_
  refine c_seq ?_
  refine c_seq ?_
  refine c_region ?_
  refine w_p tok rfl rfl rfl ?_
  obtain ⟨v28, hv28, H⟩ := H
  refine w_y (y_ld tok rfl rfl rfl rfl hv28) rfl rfl ?_
  refine w_p tok rfl rfl rfl ?_
  refine w_p tok rfl rfl rfl ?_
  refine w_end ?_
  refine x_seq ?_
  refine c_weak [(1, .pointer (some (⟨b1, 0, none⟩ : Addr))), (3, Slc.v r26), (34, Slc.v v28), (35, .int .i64 (v28.len : Int)), (36, .int .i64 0)] ⟨rfl, rfl, rfl, rfl, rfl, trivial⟩ ?_
  refine c_block ?_
  obtain ⟨I1, μ1, H0, HI⟩ := H
  refine c_loop (σ := Slc × Int) (fun (s : Slc × Int) => [(3, Slc.v s.1), (36, .int .i64 s.2), (1, .pointer (some (⟨b1, 0, none⟩ : Addr))), (34, Slc.v v28), (35, .int .i64 (v28.len : Int))]) I1 μ1 (r26, 0) H0 ⟨rfl, rfl, rfl, rfl, rfl, trivial⟩ ?_
  rintro ⟨t3_1, t36_1⟩ h_1 H
  replace H := HI t3_1 t36_1 h_1 H
  unfold pack_form_l1b at H
  refine c_weak [(3, Slc.v t3_1), (36, .int .i64 t36_1), (1, .pointer (some (⟨b1, 0, none⟩ : Addr))), (34, Slc.v v28), (35, .int .i64 (v28.len : Int))] ⟨rfl, rfl, rfl, rfl, rfl, trivial⟩ ?_
  refine c_seq ?_
  refine c_region ?_
  refine w_p tok rfl rfl rfl ?_
  refine w_end ?_
  refine x_seq ?_
  refine c_seq ?_
  refine c_if H rfl (fun H => ?_) (fun H => ?_)
  ·
    refine c_skip ?_
    refine x_seq ?_
    refine c_seq ?_
    refine c_block ?_
    refine c_seq ?_
    refine c_region ?_
    obtain ⟨a29, ha29, la29, ua29, H⟩ := H
    refine w_y (y_ixa' tok rfl rfl ha29 rfl rfl rfl la29 ua29) rfl rfl ?_
    obtain ⟨v30, hv30, H⟩ := H
    refine w_y (y_lda tok rfl rfl rfl rfl rfl hv30) rfl rfl ?_
    obtain ⟨b31, h32, eb31, eh32, H⟩ := H
    refine w_h (h_alloc tok rfl rfl eb31 eh32) rfl rfl ?_
    obtain ⟨h33, wh33, eh33, H⟩ := H
    refine w_h (h_sts tok rfl rfl rfl rfl rfl (oneC (by kernel_rfl)) wh33 eh33) rfl rfl ?_
    refine w_end ?_
    refine x_seq ?_
    refine c_sim [(1, .pointer (some (⟨b1, 0, none⟩ : Addr))), (3, Slc.v t3_1), (5, .pointer (some (⟨b31, 0, none⟩ : Addr))), (34, Slc.v v28), (35, .int .i64 (v28.len : Int)), (36, .int .i64 t36_1)] (by kernel_rfl) (by kernel_rfl) ⟨rfl, rfl, rfl, rfl, rfl, rfl, trivial⟩ (fun wf => ?_)
    refine sim_p 0 (ei := [(3, Slc.v t3_1)]) (d := (some 40)) wf (by kernel_rfl) ⟨rfl, trivial⟩ (by kernel_rfl) (by kernel_rfl) (fun _ => pf_p tok rfl rfl rfl rfl) (fun P_0 => ?_)
    refine sim_p 1 (ei := [(5, .pointer (some (⟨b31, 0, none⟩ : Addr)))]) (d := (some 41)) wf (by kernel_rfl) ⟨rfl, trivial⟩ (by kernel_rfl) (by kernel_rfl) (fun _ => pf_p tok rfl rfl rfl rfl) (fun P_1 => ?_)
    obtain ⟨v34, hv34, H⟩ := H
    refine sim_l 2 (ei := [(41, .pointer (some (⟨b31, 0, none⟩ : Addr)))]) (d := (some 42)) wf (by kernel_rfl) ⟨rfl, trivial⟩ (by kernel_rfl) (by kernel_rfl) (pf_y rfl rfl rfl (y_ld tok rfl rfl rfl rfl hv34)) (fun P_2 => ?_)
    refine sim_p 4 (ei := [(5, .pointer (some (⟨b31, 0, none⟩ : Addr)))]) (d := (some 44)) wf (by kernel_rfl) ⟨rfl, trivial⟩ (by kernel_rfl) (by kernel_rfl) (fun _ => pf_p tok rfl rfl rfl rfl) (fun P_4 => ?_)
    obtain ⟨v35, hv35, H⟩ := H
    refine sim_l 5 (ei := [(44, .pointer (some ((⟨b31, 0, none⟩ : Addr).add 1)))]) (d := (some 45)) wf (by kernel_rfl) ⟨rfl, trivial⟩ (by kernel_rfl) (by kernel_rfl) (pf_y rfl rfl rfl (y_ld tok rfl rfl rfl rfl hv35)) (fun P_5 => ?_)
    refine sim_p 7 (ei := [(5, .pointer (some (⟨b31, 0, none⟩ : Addr)))]) (d := (some 47)) wf (by kernel_rfl) ⟨rfl, trivial⟩ (by kernel_rfl) (by kernel_rfl) (fun _ => pf_p tok rfl rfl rfl rfl) (fun P_7 => ?_)
    obtain ⟨v36, hv36, H⟩ := H
    refine sim_l 8 (ei := [(47, .pointer (some ((⟨b31, 0, none⟩ : Addr).add 2)))]) (d := (some 48)) wf (by kernel_rfl) ⟨rfl, trivial⟩ (by kernel_rfl) (by kernel_rfl) (pf_y rfl rfl rfl (y_ld tok rfl rfl rfl rfl hv36)) (fun P_8 => ?_)
    refine sim_p 10 (ei := [(5, .pointer (some (⟨b31, 0, none⟩ : Addr)))]) (d := (some 50)) wf (by kernel_rfl) ⟨rfl, trivial⟩ (by kernel_rfl) (by kernel_rfl) (fun _ => pf_p tok rfl rfl rfl rfl) (fun P_10 => ?_)
    obtain ⟨v37, hv37, H⟩ := H
    refine sim_l 11 (ei := [(50, .pointer (some ((⟨b31, 0, none⟩ : Addr).add 3)))]) (d := (some 51)) wf (by kernel_rfl) ⟨rfl, trivial⟩ (by kernel_rfl) (by kernel_rfl) (pf_y rfl rfl rfl (y_lda tok rfl rfl rfl rfl rfl hv37)) (fun P_11 => ?_)
    refine sim_c 3 [0, 1, 2] [0, 1, 2] (ei := [(40, Slc.v t3_1), (42, .string v34)]) pack_text_ok (pack_text_ref _ _ _ _ H) wf ⟨P_11, P_10 _, P_8, P_7 _, P_5, P_4 _, P_2, P_1 _, P_0 _, trivial⟩ (by kernel_rfl) ⟨rfl, rfl, trivial⟩ (by kernel_rfl) rfl rfl rfl rfl rfl ?_
    rintro _ h39 ⟨r38, rfl, H⟩
    obtain ⟨hy40, hy41, hy42, H⟩ := H
    refine sim_re (x := ⟨11, .agg (S_api_Id.cs v37).toArray, [(50, .pointer (some ((⟨b31, 0, none⟩ : Addr).add 3)))]⟩) (pf_y rfl rfl rfl (y_lda tok rfl rfl rfl rfl rfl hy40)) (fun P_11 => ?_)
    refine sim_re (x := ⟨8, .int .i64 v36, [(47, .pointer (some ((⟨b31, 0, none⟩ : Addr).add 2)))]⟩) (pf_y rfl rfl rfl (y_ld tok rfl rfl rfl rfl hy41)) (fun P_8 => ?_)
    refine sim_re (x := ⟨5, .int .i64 v35, [(44, .pointer (some ((⟨b31, 0, none⟩ : Addr).add 1)))]⟩) (pf_y rfl rfl rfl (y_ld tok rfl rfl rfl rfl hy42)) (fun P_5 => ?_)
    refine sim_c 6 [0, 1, 2, 3, 4, 5] [0, 1, 2, 4, 5] (ei := [(43, Slc.v r38), (45, .int .i64 v35)]) pack_wide_ok (pack_wide_ref _ _ _ _ H) wf ⟨P_11, P_10 _, P_8, P_7 _, P_5, P_4 _, trivial, trivial, trivial, trivial⟩ (by kernel_rfl) ⟨rfl, rfl, trivial⟩ (by kernel_rfl) rfl rfl rfl rfl rfl ?_
    rintro _ h44 ⟨r43, rfl, H⟩
    obtain ⟨hy45, hy46, H⟩ := H
    refine sim_re (x := ⟨11, .agg (S_api_Id.cs v37).toArray, [(50, .pointer (some ((⟨b31, 0, none⟩ : Addr).add 3)))]⟩) (pf_y rfl rfl rfl (y_lda tok rfl rfl rfl rfl rfl hy45)) (fun P_11 => ?_)
    refine sim_re (x := ⟨8, .int .i64 v36, [(47, .pointer (some ((⟨b31, 0, none⟩ : Addr).add 2)))]⟩) (pf_y rfl rfl rfl (y_ld tok rfl rfl rfl rfl hy46)) (fun P_8 => ?_)
    refine sim_c 9 [0, 1, 2, 3, 4, 5, 6, 7, 8] [0, 1, 2, 4, 5, 7, 8] (ei := [(46, Slc.v r43), (48, .int .i64 v36)]) pack_wide_ok (pack_wide_ref _ _ _ _ H) wf ⟨P_11, P_10 _, P_8, P_7 _, trivial, trivial, trivial, trivial, trivial, trivial⟩ (by kernel_rfl) ⟨rfl, rfl, trivial⟩ (by kernel_rfl) rfl rfl rfl rfl rfl ?_
    rintro _ h48 ⟨r47, rfl, H⟩
    obtain ⟨hy49, H⟩ := H
    refine sim_re (x := ⟨11, .agg (S_api_Id.cs v37).toArray, [(50, .pointer (some ((⟨b31, 0, none⟩ : Addr).add 3)))]⟩) (pf_y rfl rfl rfl (y_lda tok rfl rfl rfl rfl rfl hy49)) (fun P_11 => ?_)
    refine sim_c 12 [0, 1, 2, 3, 4, 5, 6, 7, 8, 9, 10, 11] [0, 1, 2, 4, 5, 7, 8, 10, 11] (ei := [(49, Slc.v r47), (51, .agg (S_api_Id.cs v37).toArray)]) pack_id_ok (pack_id_ref _ _ _ _ H) wf ⟨P_11, P_10 _, trivial, trivial, trivial, trivial, trivial, trivial, trivial, trivial⟩ (by kernel_rfl) ⟨rfl, rfl, trivial⟩ (by kernel_rfl) rfl rfl rfl rfl rfl ?_
    rintro _ h51 ⟨r50, rfl, H⟩
    refine sim_p 13 (ei := [(52, Slc.v r50)]) (d := (some 3)) wf (by kernel_rfl) ⟨rfl, trivial⟩ (by kernel_rfl) (by kernel_rfl) (fun _ => pf_p tok rfl rfl rfl rfl) (fun P_13 => ?_)
    refine sim_end wf ⟨P_13 _, trivial, trivial, trivial, trivial, trivial, trivial, trivial, trivial, trivial, trivial⟩ (by kernel_rfl) ?_
    clear wf P_0 P_1 P_10 P_11 P_13 P_2 P_4 P_5 P_7 P_8
    refine x_blk ?_
    refine x_seq ?_
    refine c_weak [(1, .pointer (some (⟨b1, 0, none⟩ : Addr))), (3, Slc.v r50), (34, Slc.v v28), (35, .int .i64 (v28.len : Int)), (36, .int .i64 t36_1)] ⟨rfl, rfl, rfl, rfl, rfl, trivial⟩ ?_
    refine c_region ?_
    refine w_p tok rfl rfl rfl ?_
    refine w_p tok rfl rfl rfl ?_
    refine w_end ?_
    exact x_join (r50, (IntKind.i64.wrap (t36_1 + 1))) H ⟨rfl, rfl, rfl, rfl, rfl, trivial⟩
  ·
    refine c_exit ?_
    refine x_te ?_
    refine x_te ?_
    refine x_bh ?_
    refine x_seq ?_
    refine c_seq ?_
    refine c_sim [(1, .pointer (some (⟨b1, 0, none⟩ : Addr))), (3, Slc.v t3_1)] (by kernel_rfl) (by kernel_rfl) ⟨rfl, rfl, trivial⟩ (fun wf => ?_)
    refine sim_p 0 (ei := [(3, Slc.v t3_1)]) (d := (some 54)) wf (by kernel_rfl) ⟨rfl, trivial⟩ (by kernel_rfl) (by kernel_rfl) (fun _ => pf_p tok rfl rfl rfl rfl) (fun P_0 => ?_)
    refine sim_p 1 (ei := [(1, .pointer (some (⟨b1, 0, none⟩ : Addr)))]) (d := (some 55)) wf (by kernel_rfl) ⟨rfl, trivial⟩ (by kernel_rfl) (by kernel_rfl) (fun _ => pf_p tok rfl rfl rfl rfl) (fun P_1 => ?_)
    refine sim_p 2 (ei := [(55, .pointer (some ((⟨b1, 0, none⟩ : Addr).add 6)))]) (d := (some 56)) wf (by kernel_rfl) ⟨rfl, trivial⟩ (by kernel_rfl) (by kernel_rfl) (fun _ => pf_p tok rfl rfl rfl rfl) (fun P_2 => ?_)
    obtain ⟨v52, hv52, H⟩ := H
    refine sim_l 3 (ei := [(56, .pointer (some ((⟨b1, 0, none⟩ : Addr).add 6)))]) (d := (some 57)) wf (by kernel_rfl) ⟨rfl, trivial⟩ (by kernel_rfl) (by kernel_rfl) (pf_y rfl rfl rfl (y_ld tok rfl rfl rfl rfl hv52)) (fun P_3 => ?_)
    refine sim_p 5 (ei := [(1, .pointer (some (⟨b1, 0, none⟩ : Addr)))]) (d := (some 59)) wf (by kernel_rfl) ⟨rfl, trivial⟩ (by kernel_rfl) (by kernel_rfl) (fun _ => pf_p tok rfl rfl rfl rfl) (fun P_5 => ?_)
    refine sim_p 6 (ei := [(59, .pointer (some ((⟨b1, 0, none⟩ : Addr).add 6)))]) (d := (some 60)) wf (by kernel_rfl) ⟨rfl, trivial⟩ (by kernel_rfl) (by kernel_rfl) (fun _ => pf_p tok rfl rfl rfl rfl) (fun P_6 => ?_)
    obtain ⟨v53, hv53, H⟩ := H
    refine sim_l 7 (ei := [(60, .pointer (some (((⟨b1, 0, none⟩ : Addr).add 6).add 1)))]) (d := (some 61)) wf (by kernel_rfl) ⟨rfl, trivial⟩ (by kernel_rfl) (by kernel_rfl) (pf_y rfl rfl rfl (y_ld tok rfl rfl rfl rfl hv53)) (fun P_7 => ?_)
    refine sim_p 9 (ei := [(1, .pointer (some (⟨b1, 0, none⟩ : Addr)))]) (d := (some 63)) wf (by kernel_rfl) ⟨rfl, trivial⟩ (by kernel_rfl) (by kernel_rfl) (fun _ => pf_p tok rfl rfl rfl rfl) (fun P_9 => ?_)
    refine sim_p 10 (ei := [(63, .pointer (some ((⟨b1, 0, none⟩ : Addr).add 6)))]) (d := (some 64)) wf (by kernel_rfl) ⟨rfl, trivial⟩ (by kernel_rfl) (by kernel_rfl) (fun _ => pf_p tok rfl rfl rfl rfl) (fun P_10 => ?_)
    obtain ⟨v54, hv54, H⟩ := H
    refine sim_l 11 (ei := [(64, .pointer (some (((⟨b1, 0, none⟩ : Addr).add 6).add 2)))]) (d := (some 65)) wf (by kernel_rfl) ⟨rfl, trivial⟩ (by kernel_rfl) (by kernel_rfl) (pf_y rfl rfl rfl (y_ld tok rfl rfl rfl rfl hv54)) (fun P_11 => ?_)
    refine sim_p 13 (ei := [(1, .pointer (some (⟨b1, 0, none⟩ : Addr)))]) (d := (some 67)) wf (by kernel_rfl) ⟨rfl, trivial⟩ (by kernel_rfl) (by kernel_rfl) (fun _ => pf_p tok rfl rfl rfl rfl) (fun P_13 => ?_)
    refine sim_p 14 (ei := [(67, .pointer (some ((⟨b1, 0, none⟩ : Addr).add 6)))]) (d := (some 68)) wf (by kernel_rfl) ⟨rfl, trivial⟩ (by kernel_rfl) (by kernel_rfl) (fun _ => pf_p tok rfl rfl rfl rfl) (fun P_14 => ?_)
    obtain ⟨v55, hv55, H⟩ := H
    refine sim_l 15 (ei := [(68, .pointer (some (((⟨b1, 0, none⟩ : Addr).add 6).add 4)))]) (d := (some 69)) wf (by kernel_rfl) ⟨rfl, trivial⟩ (by kernel_rfl) (by kernel_rfl) (pf_y rfl rfl rfl (y_ld tok rfl rfl rfl rfl hv55)) (fun P_15 => ?_)
    refine sim_c 4 [0, 1, 2, 3] [0, 1, 2, 3] (ei := [(54, Slc.v t3_1), (57, .string v52)]) pack_text_ok (pack_text_ref _ _ _ _ H) wf ⟨P_15, P_14 _, P_13 _, P_11, P_10 _, P_9 _, P_7, P_6 _, P_5 _, P_3, P_2 _, P_1 _, P_0 _, trivial⟩ (by kernel_rfl) ⟨rfl, rfl, trivial⟩ (by kernel_rfl) rfl rfl rfl rfl rfl ?_
    rintro _ h57 ⟨r56, rfl, H⟩
    obtain ⟨hy58, hy59, hy60, H⟩ := H
    refine sim_re (x := ⟨15, .int .i64 v55, [(68, .pointer (some (((⟨b1, 0, none⟩ : Addr).add 6).add 4)))]⟩) (pf_y rfl rfl rfl (y_ld tok rfl rfl rfl rfl hy58)) (fun P_15 => ?_)
    refine sim_re (x := ⟨11, .int .i64 v54, [(64, .pointer (some (((⟨b1, 0, none⟩ : Addr).add 6).add 2)))]⟩) (pf_y rfl rfl rfl (y_ld tok rfl rfl rfl rfl hy59)) (fun P_11 => ?_)
    refine sim_re (x := ⟨7, .int .i64 v53, [(60, .pointer (some (((⟨b1, 0, none⟩ : Addr).add 6).add 1)))]⟩) (pf_y rfl rfl rfl (y_ld tok rfl rfl rfl rfl hy60)) (fun P_7 => ?_)
    refine sim_c 8 [0, 1, 2, 3, 4, 5, 6, 7] [0, 1, 2, 3, 5, 6, 7] (ei := [(58, Slc.v r56), (61, .int .i64 v53)]) pack_wide_ok (pack_wide_ref _ _ _ _ H) wf ⟨P_15, P_14 _, P_13 _, P_11, P_10 _, P_9 _, P_7, P_6 _, P_5 _, trivial, trivial, trivial, trivial, trivial⟩ (by kernel_rfl) ⟨rfl, rfl, trivial⟩ (by kernel_rfl) rfl rfl rfl rfl rfl ?_
    rintro _ h62 ⟨r61, rfl, H⟩
    obtain ⟨hy63, hy64, H⟩ := H
    refine sim_re (x := ⟨15, .int .i64 v55, [(68, .pointer (some (((⟨b1, 0, none⟩ : Addr).add 6).add 4)))]⟩) (pf_y rfl rfl rfl (y_ld tok rfl rfl rfl rfl hy63)) (fun P_15 => ?_)
    refine sim_re (x := ⟨11, .int .i64 v54, [(64, .pointer (some (((⟨b1, 0, none⟩ : Addr).add 6).add 2)))]⟩) (pf_y rfl rfl rfl (y_ld tok rfl rfl rfl rfl hy64)) (fun P_11 => ?_)
    refine sim_c 12 [0, 1, 2, 3, 4, 5, 6, 7, 8, 9, 10, 11] [0, 1, 2, 3, 5, 6, 7, 9, 10, 11] (ei := [(62, Slc.v r61), (65, .int .i64 v54)]) pack_wide_ok (pack_wide_ref _ _ _ _ H) wf ⟨P_15, P_14 _, P_13 _, P_11, P_10 _, P_9 _, trivial, trivial, trivial, trivial, trivial, trivial, trivial, trivial⟩ (by kernel_rfl) ⟨rfl, rfl, trivial⟩ (by kernel_rfl) rfl rfl rfl rfl rfl ?_
    rintro _ h66 ⟨r65, rfl, H⟩
    obtain ⟨hy67, H⟩ := H
    refine sim_re (x := ⟨15, .int .i64 v55, [(68, .pointer (some (((⟨b1, 0, none⟩ : Addr).add 6).add 4)))]⟩) (pf_y rfl rfl rfl (y_ld tok rfl rfl rfl rfl hy67)) (fun P_15 => ?_)
    refine sim_c 16 [0, 1, 2, 3, 4, 5, 6, 7, 8, 9, 10, 11, 12, 13, 14, 15] [0, 1, 2, 3, 5, 6, 7, 9, 10, 11, 13, 14, 15] (ei := [(66, Slc.v r65), (69, .int .i64 v55)]) pack_wide_ok (pack_wide_ref _ _ _ _ H) wf ⟨P_15, P_14 _, P_13 _, trivial, trivial, trivial, trivial, trivial, trivial, trivial, trivial, trivial, trivial, trivial⟩ (by kernel_rfl) ⟨rfl, rfl, trivial⟩ (by kernel_rfl) rfl rfl rfl rfl rfl ?_
    rintro _ h69 ⟨r68, rfl, H⟩
    refine sim_p 17 (ei := [(70, Slc.v r68)]) (d := (some 3)) wf (by kernel_rfl) ⟨rfl, trivial⟩ (by kernel_rfl) (by kernel_rfl) (fun _ => pf_p tok rfl rfl rfl rfl) (fun P_17 => ?_)
    refine sim_end wf ⟨P_17 _, trivial, trivial, trivial, trivial, trivial, trivial, trivial, trivial, trivial, trivial, trivial, trivial, trivial, trivial⟩ (by kernel_rfl) ?_
    clear wf P_0 P_1 P_10 P_11 P_13 P_14 P_15 P_17 P_2 P_3 P_5 P_6 P_7 P_9
    refine x_seq ?_
    refine c_weak [(1, .pointer (some (⟨b1, 0, none⟩ : Addr))), (3, Slc.v r68)] ⟨rfl, rfl, trivial⟩ ?_
    refine c_seq ?_
    refine c_sim [(1, .pointer (some (⟨b1, 0, none⟩ : Addr))), (3, Slc.v r68)] (by kernel_rfl) (by kernel_rfl) ⟨rfl, rfl, trivial⟩ (fun wf => ?_)
    refine sim_p 0 (ei := [(3, Slc.v r68)]) (d := (some 71)) wf (by kernel_rfl) ⟨rfl, trivial⟩ (by kernel_rfl) (by kernel_rfl) (fun _ => pf_p tok rfl rfl rfl rfl) (fun P_0 => ?_)
    refine sim_p 1 (ei := [(1, .pointer (some (⟨b1, 0, none⟩ : Addr)))]) (d := (some 72)) wf (by kernel_rfl) ⟨rfl, trivial⟩ (by kernel_rfl) (by kernel_rfl) (fun _ => pf_p tok rfl rfl rfl rfl) (fun P_1 => ?_)
    refine sim_p 2 (ei := [(72, .pointer (some ((⟨b1, 0, none⟩ : Addr).add 6)))]) (d := (some 73)) wf (by kernel_rfl) ⟨rfl, trivial⟩ (by kernel_rfl) (by kernel_rfl) (fun _ => pf_p tok rfl rfl rfl rfl) (fun P_2 => ?_)
    obtain ⟨v70, hv70, H⟩ := H
    refine sim_l 3 (ei := [(73, .pointer (some (((⟨b1, 0, none⟩ : Addr).add 6).add 3)))]) (d := (some 74)) wf (by kernel_rfl) ⟨rfl, trivial⟩ (by kernel_rfl) (by kernel_rfl) (pf_y rfl rfl rfl (y_ld tok rfl rfl rfl rfl hv70)) (fun P_3 => ?_)
    refine sim_p 4 (ei := [(74, .int .i64 v70)]) (d := (some 75)) wf (by kernel_rfl) ⟨rfl, trivial⟩ (by kernel_rfl) (by kernel_rfl) (fun _ => pf_p tok rfl rfl rfl rfl) (fun P_4 => ?_)
    refine sim_p 7 (ei := [(1, .pointer (some (⟨b1, 0, none⟩ : Addr)))]) (d := (some 78)) wf (by kernel_rfl) ⟨rfl, trivial⟩ (by kernel_rfl) (by kernel_rfl) (fun _ => pf_p tok rfl rfl rfl rfl) (fun P_7 => ?_)
    obtain ⟨v71, hv71, H⟩ := H
    refine sim_l 8 (ei := [(78, .pointer (some ((⟨b1, 0, none⟩ : Addr).add 11)))]) (d := (some 79)) wf (by kernel_rfl) ⟨rfl, trivial⟩ (by kernel_rfl) (by kernel_rfl) (pf_y rfl rfl rfl (y_lda tok rfl rfl rfl rfl rfl hv71)) (fun P_8 => ?_)
    obtain ⟨b72, h73, eb72, eh73, H⟩ := H
    refine sim_h 5 [1, 2, 3, 4] [1, 2, 3, 4] (ei := [(75, .int .u8 (IntKind.u8.wrap v70))]) wf ⟨P_8, P_7 _, P_4 _, P_3, P_2 _, P_1 _, P_0 _, trivial⟩ (by kernel_rfl) ⟨rfl, trivial⟩ (by kernel_rfl) rfl rfl rfl (h_bs tok rfl rfl rfl rfl rfl rfl rfl eb72 eh73) ?_
    obtain ⟨hy74, H⟩ := H
    refine sim_re (x := ⟨8, .agg (S_api_Command.cs v71).toArray, [(78, .pointer (some ((⟨b1, 0, none⟩ : Addr).add 11)))]⟩) (pf_y rfl rfl rfl (y_lda tok rfl rfl rfl rfl rfl hy74)) (fun P_8 => ?_)
    refine sim_a 6 [0, 1, 2, 3, 4, 5] [0, 1, 2, 3, 4] (ei := [(71, Slc.v r68), (76, Slc.v (⟨some ⟨b72, 0, none⟩, 1, 1⟩ : Slc))]) wf ⟨P_8, P_7 _, trivial, trivial, trivial, trivial, P_0 _, trivial⟩ (by kernel_rfl) ⟨rfl, rfl, trivial⟩ (by kernel_rfl) rfl rfl rfl (a_app (s := r68) (r := (⟨some ⟨b72, 0, none⟩, 1, 1⟩ : Slc)) tok rfl rfl rfl rfl rfl (slcAt_push eb72 eh73) H) ?_
    rintro _ h76 ⟨s75, rfl, H⟩
    obtain ⟨hy77, H⟩ := H
    refine sim_re (x := ⟨8, .agg (S_api_Command.cs v71).toArray, [(78, .pointer (some ((⟨b1, 0, none⟩ : Addr).add 11)))]⟩) (pf_y rfl rfl rfl (y_lda tok rfl rfl rfl rfl rfl hy77)) (fun P_8 => ?_)
    refine sim_c 9 [0, 1, 2, 3, 4, 5, 6, 7, 8] [0, 1, 2, 3, 4, 7, 8] (ei := [(79, .agg (S_api_Command.cs v71).toArray)]) reg_Put_ok (reg_Put_ref _ _ _ H) wf ⟨P_8, P_7 _, trivial, trivial, trivial, trivial, trivial, trivial⟩ (by kernel_rfl) ⟨rfl, trivial⟩ (by kernel_rfl) rfl rfl rfl rfl rfl ?_
    rintro _ h79 ⟨r78, rfl, H⟩
    obtain ⟨l80, ll80, hl80, H⟩ := H
    refine sim_l 10 (ei := [(80, Slc.v r78)]) (d := (some 81)) wf (by kernel_rfl) ⟨rfl, trivial⟩ (by kernel_rfl) (by kernel_rfl) (pf_y rfl rfl rfl (y_b2s (s := r78) (l := l80) tok rfl rfl rfl rfl rfl ll80 hl80)) (fun P_10 => ?_)
    refine sim_c 11 [0, 1, 2, 3, 4, 5, 6, 7, 8, 9, 10] [0, 1, 2, 3, 4, 7, 8, 10] (ei := [(77, Slc.v s75), (81, .string (bsOf l80))]) pack_text_ok (pack_text_ref _ _ _ _ H) wf ⟨P_10, trivial, trivial, trivial, trivial, trivial, trivial, trivial, trivial⟩ (by kernel_rfl) ⟨rfl, rfl, trivial⟩ (by kernel_rfl) rfl rfl rfl rfl rfl ?_
    rintro _ h82 ⟨r81, rfl, H⟩
    refine sim_p 12 (ei := [(82, Slc.v r81)]) (d := (some 3)) wf (by kernel_rfl) ⟨rfl, trivial⟩ (by kernel_rfl) (by kernel_rfl) (fun _ => pf_p tok rfl rfl rfl rfl) (fun P_12 => ?_)
    refine sim_end wf ⟨P_12 _, trivial, trivial, trivial, trivial, trivial, trivial, trivial, trivial, trivial⟩ (by kernel_rfl) ?_
    clear wf P_0 P_1 P_10 P_12 P_2 P_3 P_4 P_7 P_8
    refine x_seq ?_
    refine c_weak [(1, .pointer (some (⟨b1, 0, none⟩ : Addr))), (3, Slc.v r81)] ⟨rfl, rfl, trivial⟩ ?_
    refine c_seq ?_
    refine c_sim [(1, .pointer (some (⟨b1, 0, none⟩ : Addr))), (3, Slc.v r81)] (by kernel_rfl) (by kernel_rfl) ⟨rfl, rfl, trivial⟩ (fun wf => ?_)
    refine sim_p 0 (ei := [(3, Slc.v r81)]) (d := (some 83)) wf (by kernel_rfl) ⟨rfl, trivial⟩ (by kernel_rfl) (by kernel_rfl) (fun _ => pf_p tok rfl rfl rfl rfl) (fun P_0 => ?_)
    refine sim_p 1 (ei := [(1, .pointer (some (⟨b1, 0, none⟩ : Addr)))]) (d := (some 84)) wf (by kernel_rfl) ⟨rfl, trivial⟩ (by kernel_rfl) (by kernel_rfl) (fun _ => pf_p tok rfl rfl rfl rfl) (fun P_1 => ?_)
    obtain ⟨v83, hv83, H⟩ := H
    refine sim_l 2 (ei := [(84, .pointer (some ((⟨b1, 0, none⟩ : Addr).add 28)))]) (d := (some 85)) wf (by kernel_rfl) ⟨rfl, trivial⟩ (by kernel_rfl) (by kernel_rfl) (pf_y rfl rfl rfl (y_ld tok rfl rfl rfl rfl hv83)) (fun P_2 => ?_)
    refine sim_p 4 (ei := [(1, .pointer (some (⟨b1, 0, none⟩ : Addr)))]) (d := (some 87)) wf (by kernel_rfl) ⟨rfl, trivial⟩ (by kernel_rfl) (by kernel_rfl) (fun _ => pf_p tok rfl rfl rfl rfl) (fun P_4 => ?_)
    obtain ⟨v84, hv84, H⟩ := H
    refine sim_l 5 (ei := [(87, .pointer (some ((⟨b1, 0, none⟩ : Addr).add 29)))]) (d := (some 88)) wf (by kernel_rfl) ⟨rfl, trivial⟩ (by kernel_rfl) (by kernel_rfl) (pf_y rfl rfl rfl (y_ld tok rfl rfl rfl rfl hv84)) (fun P_5 => ?_)
    refine sim_p 6 (ei := [(88, Slc.v v84)]) (d := (some 89)) wf (by kernel_rfl) ⟨rfl, trivial⟩ (by kernel_rfl) (by kernel_rfl) (fun _ => pf_p tok rfl rfl rfl rfl) (fun P_6 => ?_)
    refine sim_p 7 (ei := [(89, .int .i64 (v84.len : Int))]) (d := (some 90)) wf (by kernel_rfl) ⟨rfl, trivial⟩ (by kernel_rfl) (by kernel_rfl) (fun _ => pf_p tok rfl rfl rfl rfl) (fun P_7 => ?_)
    refine sim_c 3 [0, 1, 2] [0, 1, 2] (ei := [(83, Slc.v r81), (85, .int .u64 v83)]) num_PutShort_ok (num_PutShort_ref _ _ _ _ H) wf ⟨P_7 _, P_6 _, P_5, P_4 _, P_2, P_1 _, P_0 _, trivial⟩ (by kernel_rfl) ⟨rfl, rfl, trivial⟩ (by kernel_rfl) rfl rfl rfl rfl rfl ?_
    rintro _ h86 ⟨r85, rfl, H⟩
    obtain ⟨hy87, H⟩ := H
    refine sim_re (x := ⟨5, Slc.v v84, [(87, .pointer (some ((⟨b1, 0, none⟩ : Addr).add 29)))]⟩) (pf_y rfl rfl rfl (y_ld tok rfl rfl rfl rfl hy87)) (fun P_5 => ?_)
    refine sim_c 8 [0, 1, 2, 3, 4, 5, 6, 7] [0, 1, 2, 4, 5, 6, 7] (ei := [(86, Slc.v r85), (90, .int .u64 (IntKind.u64.wrap (v84.len : Int)))]) num_PutShort_ok (num_PutShort_ref _ _ _ _ H) wf ⟨P_7 _, P_6 _, P_5, P_4 _, trivial, trivial, trivial, trivial⟩ (by kernel_rfl) ⟨rfl, rfl, trivial⟩ (by kernel_rfl) rfl rfl rfl rfl rfl ?_
    rintro _ h89 ⟨r88, rfl, H⟩
    refine sim_p 9 (ei := [(91, Slc.v r88)]) (d := (some 3)) wf (by kernel_rfl) ⟨rfl, trivial⟩ (by kernel_rfl) (by kernel_rfl) (fun _ => pf_p tok rfl rfl rfl rfl) (fun P_9 => ?_)
    refine sim_end wf ⟨P_9 _, trivial, trivial, trivial, trivial, trivial, trivial, trivial, trivial⟩ (by kernel_rfl) ?_
    clear wf P_0 P_1 P_2 P_4 P_5 P_6 P_7 P_9
    refine x_seq ?_
    refine c_weak [(1, .pointer (some (⟨b1, 0, none⟩ : Addr))), (3, Slc.v r88)] ⟨rfl, rfl, trivial⟩ ?_
    refine c_seq ?_
    refine c_seq ?_
    refine c_region ?_
    refine w_p tok rfl rfl rfl ?_
    obtain ⟨v90, hv90, H⟩ := H
    refine w_y (y_ld tok rfl rfl rfl rfl hv90) rfl rfl ?_
    refine w_p tok rfl rfl rfl ?_
    refine w_p tok rfl rfl rfl ?_
    refine w_end ?_
    refine x_seq ?_
    refine c_block ?_
    obtain ⟨I2, μ2, H0, HI⟩ := H
    refine c_loop (σ := Slc × Int) (fun (s : Slc × Int) => [(3, Slc.v s.1), (95, .int .i64 s.2), (1, .pointer (some (⟨b1, 0, none⟩ : Addr))), (93, Slc.v v90), (94, .int .i64 (v90.len : Int))]) I2 μ2 (r88, 0) H0 ⟨rfl, rfl, rfl, rfl, rfl, trivial⟩ ?_
    rintro ⟨t3_2, t95_2⟩ h_2 H
    replace H := HI t3_2 t95_2 h_2 H
    unfold pack_form_l2b at H
    refine c_weak [(3, Slc.v t3_2), (95, .int .i64 t95_2), (1, .pointer (some (⟨b1, 0, none⟩ : Addr))), (93, Slc.v v90), (94, .int .i64 (v90.len : Int))] ⟨rfl, rfl, rfl, rfl, rfl, trivial⟩ ?_
    refine c_seq ?_
    refine c_region ?_
    refine w_p tok rfl rfl rfl ?_
    refine w_end ?_
    refine x_seq ?_
    refine c_seq ?_
    refine c_if H rfl (fun H => ?_) (fun H => ?_)
    ·
      refine c_skip ?_
      refine x_seq ?_
      refine c_seq ?_
      refine c_block ?_
      refine c_seq ?_
      refine c_region ?_
      obtain ⟨a91, ha91, la91, ua91, H⟩ := H
      refine w_y (y_ixa' tok rfl rfl ha91 rfl rfl rfl la91 ua91) rfl rfl ?_
      obtain ⟨v92, hv92, H⟩ := H
      refine w_y (y_lda tok rfl rfl rfl rfl rfl hv92) rfl rfl ?_
      obtain ⟨b93, h94, eb93, eh94, H⟩ := H
      refine w_h (h_alloc tok rfl rfl eb93 eh94) rfl rfl ?_
      obtain ⟨h95, wh95, eh95, H⟩ := H
      refine w_h (h_sts tok rfl rfl rfl rfl rfl (oneC (by kernel_rfl)) wh95 eh95) rfl rfl ?_
      refine w_end ?_
      refine x_seq ?_
      refine c_region ?_
      refine w_p tok rfl rfl rfl ?_
      obtain ⟨v96, hv96, H⟩ := H
      refine w_y (y_lda tok rfl rfl rfl rfl rfl hv96) rfl rfl ?_
      refine w_call pack_id_ok (pack_id_ref _ _ _ _ H) rfl rfl rfl rfl ?_
      rintro _ h98 ⟨r97, rfl, H⟩
      refine w_p tok rfl rfl rfl ?_
      refine w_end ?_
      refine x_blk ?_
      refine x_seq ?_
      refine c_weak [(3, Slc.v r97), (95, .int .i64 t95_2), (1, .pointer (some (⟨b1, 0, none⟩ : Addr))), (93, Slc.v v90), (94, .int .i64 (v90.len : Int))] ⟨rfl, rfl, rfl, rfl, rfl, trivial⟩ ?_
      refine c_region ?_
      refine w_p tok rfl rfl rfl ?_
      refine w_p tok rfl rfl rfl ?_
      refine w_end ?_
      exact x_join (r97, (IntKind.i64.wrap (t95_2 + 1))) H ⟨rfl, rfl, rfl, rfl, rfl, trivial⟩
    ·
      refine c_exit ?_
      refine x_te ?_
      refine x_te ?_
      refine x_bh ?_
      refine x_seq ?_
      refine c_seq ?_
      refine c_sim [(1, .pointer (some (⟨b1, 0, none⟩ : Addr))), (3, Slc.v t3_2)] (by kernel_rfl) (by kernel_rfl) ⟨rfl, rfl, trivial⟩ (fun wf => ?_)
      refine sim_p 0 (ei := [(3, Slc.v t3_2)]) (d := (some 103)) wf (by kernel_rfl) ⟨rfl, trivial⟩ (by kernel_rfl) (by kernel_rfl) (fun _ => pf_p tok rfl rfl rfl rfl) (fun P_0 => ?_)
      refine sim_p 1 (ei := [(1, .pointer (some (⟨b1, 0, none⟩ : Addr)))]) (d := (some 104)) wf (by kernel_rfl) ⟨rfl, trivial⟩ (by kernel_rfl) (by kernel_rfl) (fun _ => pf_p tok rfl rfl rfl rfl) (fun P_1 => ?_)
      refine sim_p 2 (ei := [(104, .pointer (some ((⟨b1, 0, none⟩ : Addr).add 30)))]) (d := (some 105)) wf (by kernel_rfl) ⟨rfl, trivial⟩ (by kernel_rfl) (by kernel_rfl) (fun _ => pf_p tok rfl rfl rfl rfl) (fun P_2 => ?_)
      obtain ⟨v99, hv99, H⟩ := H
      refine sim_l 3 (ei := [(105, .pointer (some ((⟨b1, 0, none⟩ : Addr).add 30)))]) (d := (some 106)) wf (by kernel_rfl) ⟨rfl, trivial⟩ (by kernel_rfl) (by kernel_rfl) (pf_y rfl rfl rfl (y_ld tok rfl rfl rfl rfl hv99)) (fun P_3 => ?_)
      refine sim_p 6 (ei := [(1, .pointer (some (⟨b1, 0, none⟩ : Addr)))]) (d := (some 109)) wf (by kernel_rfl) ⟨rfl, trivial⟩ (by kernel_rfl) (by kernel_rfl) (fun _ => pf_p tok rfl rfl rfl rfl) (fun P_6 => ?_)
      refine sim_p 7 (ei := [(109, .pointer (some ((⟨b1, 0, none⟩ : Addr).add 30)))]) (d := (some 110)) wf (by kernel_rfl) ⟨rfl, trivial⟩ (by kernel_rfl) (by kernel_rfl) (fun _ => pf_p tok rfl rfl rfl rfl) (fun P_7 => ?_)
      obtain ⟨s100, ps100, qs100, rs100, es100, H⟩ := H
      refine sim_p 8 (ei := [(110, .pointer (some (((⟨b1, 0, none⟩ : Addr).add 30).add 1)))]) (d := (some 111)) wf (by kernel_rfl) ⟨rfl, trivial⟩ (by kernel_rfl) (by kernel_rfl) (fun _ => pf_ye rfl rfl rfl (y_sla (L := 0) (H := 32) tok rfl rfl rfl rfl rfl rfl ps100 qs100 rs100) (congrArg Slc.v es100)) (fun P_8 => ?_)
      obtain ⟨b101, h102, eb101, eh102, H⟩ := H
      refine sim_h 4 [1, 2, 3] [1, 2, 3] (ei := [(106, .int .u8 v99)]) wf ⟨P_8 _, P_7 _, P_6 _, P_3, P_2 _, P_1 _, P_0 _, trivial⟩ (by kernel_rfl) ⟨rfl, trivial⟩ (by kernel_rfl) rfl rfl rfl (h_bs tok rfl rfl rfl rfl rfl rfl rfl eb101 eh102) ?_
      refine sim_a 5 [0, 1, 2, 3, 4] [0, 1, 2, 3] (ei := [(103, Slc.v t3_2), (107, Slc.v (⟨some ⟨b101, 0, none⟩, 1, 1⟩ : Slc))]) wf ⟨P_8 _, P_7 _, P_6 _, trivial, trivial, trivial, P_0 _, trivial⟩ (by kernel_rfl) ⟨rfl, rfl, trivial⟩ (by kernel_rfl) rfl rfl rfl (a_app (s := t3_2) (r := (⟨some ⟨b101, 0, none⟩, 1, 1⟩ : Slc)) tok rfl rfl rfl rfl rfl (slcAt_push eb101 eh102) H) ?_
      rintro _ h104 ⟨s103, rfl, H⟩
      obtain ⟨l107, hl107, H⟩ := H
      refine sim_a 9 [0, 1, 2, 3, 4, 5, 6, 7, 8] [0, 1, 2, 3, 6, 7, 8] (ei := [(108, Slc.v s103), (111, Slc.v s100)]) wf ⟨P_8 _, P_7 _, P_6 _, trivial, trivial, trivial, trivial, trivial⟩ (by kernel_rfl) ⟨rfl, rfl, trivial⟩ (by kernel_rfl) rfl rfl rfl (a_app (s := s103) (r := s100) tok rfl rfl rfl rfl rfl hl107 H) ?_
      rintro _ h106 ⟨s105, rfl, H⟩
      refine sim_p 10 (ei := [(112, Slc.v s105)]) (d := (some 3)) wf (by kernel_rfl) ⟨rfl, trivial⟩ (by kernel_rfl) (by kernel_rfl) (fun _ => pf_p tok rfl rfl rfl rfl) (fun P_10 => ?_)
      refine sim_end wf ⟨P_10 _, trivial, trivial, trivial, trivial, trivial, trivial, trivial, trivial⟩ (by kernel_rfl) ?_
      clear wf P_0 P_1 P_10 P_2 P_3 P_6 P_7 P_8
      refine x_seq ?_
      refine c_weak [(1, .pointer (some (⟨b1, 0, none⟩ : Addr))), (3, Slc.v s105)] ⟨rfl, rfl, trivial⟩ ?_
      refine c_seq ?_
      refine c_region ?_
      refine w_p tok rfl rfl rfl ?_
      refine w_p tok rfl rfl rfl ?_
      obtain ⟨v108, hv108, H⟩ := H
      refine w_y (y_lda tok rfl rfl rfl rfl rfl hv108) rfl rfl ?_
      refine w_call raft_Put_ok (raft_Put_ref _ _ _ H) rfl rfl rfl rfl ?_
      rintro _ h110 ⟨r109, rfl, H⟩
      obtain ⟨l111, ll111, hl111, H⟩ := H
      refine w_y (y_b2s (s := r109) (l := l111) tok rfl rfl rfl rfl rfl ll111 hl111) rfl rfl ?_
      refine w_call pack_text_ok (pack_text_ref _ _ _ _ H) rfl rfl rfl rfl ?_
      rintro _ h113 ⟨r112, rfl, H⟩
      refine w_p tok rfl rfl rfl ?_
      refine w_end ?_
      refine x_seq ?_
      refine c_weak [(2, Slc.v r112)] ⟨rfl, trivial⟩ ?_
      refine c_ret ?_
      exact x_ret _ rfl _ rfl ⟨r112, rfl, H⟩

theorem pack_bytes_1_ok : CallOk Go.Proofs.Try.prog 156 := ⟨_, Go.Proofs.Try.func156, by kernel_rfl, by kernel_rfl⟩
theorem pack_bytes_1_ref (p0 : Int) (k : (Bool) → Heap → Prop) (h : Heap) (H : pack_bytes_1 p0 k h) : CallsH Go.Proofs.Try.prog 156 #[.int .i64 p0] h (fun v h' => ∃ r : Bool, v = .bool r ∧ k r h') := by
  refine f_enter (N := 9) Go.Proofs.Try.func156 rfl rfl rfl (fun w0 => ?_)
  unfold pack_bytes_1 at H
  refine c_weak [(0, .int .i64 p0)] ⟨rfl, trivial⟩ ?_
  refine c_seq ?_
  refine c_region ?_
  refine w_p tok rfl rfl rfl ?_
  refine w_end ?_
  refine x_seq ?_
  refine c_seq ?_
  refine c_region ?_
  refine w_p tok rfl rfl rfl ?_
  refine w_p tok rfl rfl rfl ?_
  refine w_p tok rfl rfl rfl ?_
  refine w_cutU 3 [(8, .bool ((decide (p0 < 0)) || (decide (p0 > 255))))] ?_ ?_
  ·
    refine w_p tok rfl rfl rfl ?_
    refine w_end ?_
    refine x_seq ?_
    refine c_ret ?_
    exact x_ret _ rfl _ rfl ⟨((decide (p0 < 0)) || (decide (p0 > 255))), rfl, H⟩
  ·
    refine w_gs (d := 5) rfl (fun hb => ?_) (fun hb => ?_)
    ·
      refine w_skip rfl rfl ?_
      refine w_skip rfl rfl ?_
      refine w_p tok rfl rfl rfl ?_
      refine w_jn () rfl ⟨?_, trivial⟩
      exact congrArg (fun b => some (Value.bool b)) (or_t hb)
    ·
      refine w_p tok rfl rfl rfl ?_
      refine w_p tok rfl rfl rfl ?_
      refine w_p tok rfl rfl rfl ?_
      refine w_jn () rfl ⟨?_, trivial⟩
      exact congrArg (fun b => some (Value.bool b)) (or_f hb)

theorem slices_IndexFunc_int_int__pack_bytes_1_ok : CallOk Go.Proofs.Try.prog 193 := ⟨_, Go.Proofs.Try.func193, by kernel_rfl, by kernel_rfl⟩
theorem slices_IndexFunc_int_int__pack_bytes_1_ref (p0 : Slc) (k : (Int) → Heap → Prop) (h : Heap) (H : slices_IndexFunc_int_int__pack_bytes_1 p0 k h) : CallsH Go.Proofs.Try.prog 193 #[Slc.v p0, (Value.func (.func 156) #[] #[])] h (fun v h' => ∃ r : Int, v = .int .i64 r ∧ k r h') := by
  refine f_enter (N := 19) Go.Proofs.Try.func193 rfl rfl rfl (fun w0 => ?_)
  unfold slices_IndexFunc_int_int__pack_bytes_1 at H
  refine c_weak [(0, Slc.v p0), (1, (Value.func (.func 156) #[] #[]))] ⟨rfl, rfl, trivial⟩ ?_
  refine c_seq ?_
  refine c_region ?_
  refine w_p tok rfl rfl rfl ?_
  refine w_end ?_
  refine x_seq ?_
  refine c_seq ?_
  refine c_seq ?_
  refine c_region ?_
  refine w_p tok rfl rfl rfl ?_
  refine w_p tok rfl rfl rfl ?_
  refine w_p tok rfl rfl rfl ?_
  refine w_end ?_
  refine x_seq ?_
  refine c_block ?_
  obtain ⟨I1, μ1, H0, HI⟩ := H
  refine c_loop (σ := Int) (fun (s : Int) => [(8, .int .i64 s), (0, Slc.v p0), (1, (Value.func (.func 156) #[] #[])), (7, .int .i64 (p0.len : Int))]) I1 μ1 0 H0 ⟨rfl, rfl, rfl, rfl, trivial⟩ ?_
  rintro t8_1 h_1 H
  replace H := HI t8_1 h_1 H
  unfold slices_IndexFunc_int_int__pack_bytes_1_l1b at H
  refine c_weak [(8, .int .i64 t8_1), (0, Slc.v p0), (1, (Value.func (.func 156) #[] #[])), (7, .int .i64 (p0.len : Int))] ⟨rfl, rfl, rfl, rfl, trivial⟩ ?_
  refine c_seq ?_
  refine c_region ?_
  refine w_p tok rfl rfl rfl ?_
  refine w_end ?_
  refine x_seq ?_
  refine c_seq ?_
  refine c_if H rfl (fun H => ?_) (fun H => ?_)
  ·
    refine c_skip ?_
    refine x_seq ?_
    refine c_seq ?_
    refine c_block ?_
    refine c_seq ?_
    refine c_region ?_
    refine w_p tok rfl rfl rfl ?_
    refine w_p tok rfl rfl rfl ?_
    refine w_end ?_
    refine x_seq ?_
    refine c_seq ?_
    refine c_region ?_
    refine w_p tok rfl rfl rfl ?_
    refine w_p tok rfl rfl rfl ?_
    refine w_p tok rfl rfl rfl ?_
    obtain ⟨a1, ha1, la1, ua1, H⟩ := H
    refine w_y (y_ixa' tok rfl rfl ha1 rfl rfl rfl la1 ua1) rfl rfl ?_
    obtain ⟨v2, hv2, H⟩ := H
    refine w_y (y_ld tok rfl rfl rfl rfl hv2) rfl rfl ?_
    refine w_callv pack_bytes_1_ok (pack_bytes_1_ref _ _ _ H) rfl rfl rfl rfl rfl ?_
    rintro _ h4 ⟨r3, rfl, H⟩
    refine w_end ?_
    refine x_seq ?_
    refine c_weak [(8, .int .i64 t8_1), (0, Slc.v p0), (1, (Value.func (.func 156) #[] #[])), (7, .int .i64 (p0.len : Int)), (5, .int .i64 t8_1), (16, .bool r3)] ⟨rfl, rfl, rfl, rfl, rfl, rfl, trivial⟩ ?_
    refine c_if H rfl (fun H => ?_) (fun H => ?_)
    ·
      refine c_seq ?_
      refine c_region ?_
      refine w_p tok rfl rfl rfl ?_
      refine w_p tok rfl rfl rfl ?_
      refine w_end ?_
      refine x_seq ?_
      refine c_weak [(4, .int .i64 t8_1)] ⟨rfl, trivial⟩ ?_
      refine c_ret ?_
      refine x_br ?_
      refine x_tr ?_
      refine x_tr ?_
      refine x_br ?_
      refine x_tr ?_
      exact x_ret _ rfl _ rfl ⟨t8_1, rfl, H⟩
    ·
      refine c_skip ?_
      refine x_blk ?_
      refine x_seq ?_
      refine c_region ?_
      refine w_p tok rfl rfl rfl ?_
      refine w_p tok rfl rfl rfl ?_
      refine w_end ?_
      exact x_join (IntKind.i64.wrap (t8_1 + 1)) H ⟨rfl, rfl, rfl, rfl, trivial⟩
  ·
    refine c_exit ?_
    refine x_te ?_
    refine x_te ?_
    refine x_bh ?_
    refine x_seq ?_
    refine c_seq ?_
    refine c_region ?_
    obtain ⟨x5, ex5, H⟩ := H
    refine w_pe tok rfl (congrArg (fun z => (.int .i64 z : Value)) ex5) rfl rfl ?_
    refine w_end ?_
    refine x_seq ?_
    refine c_ret ?_
    exact x_ret _ rfl _ rfl ⟨x5, rfl, H⟩

theorem slices_ContainsFunc_int_int__pack_bytes_1_ok : CallOk Go.Proofs.Try.prog 155 := ⟨_, Go.Proofs.Try.func155, by kernel_rfl, by kernel_rfl⟩
theorem slices_ContainsFunc_int_int__pack_bytes_1_ref (p0 : Slc) (k : (Bool) → Heap → Prop) (h : Heap) (H : slices_ContainsFunc_int_int__pack_bytes_1 p0 k h) : CallsH Go.Proofs.Try.prog 155 #[Slc.v p0, (Value.func (.func 156) #[] #[])] h (fun v h' => ∃ r : Bool, v = .bool r ∧ k r h') := by
  refine f_enter (N := 9) Go.Proofs.Try.func155 rfl rfl rfl (fun w0 => ?_)
  unfold slices_ContainsFunc_int_int__pack_bytes_1 at H
  refine c_weak [(0, Slc.v p0), (1, (Value.func (.func 156) #[] #[]))] ⟨rfl, rfl, trivial⟩ ?_
  refine c_seq ?_
  refine c_region ?_
  refine w_p tok rfl rfl rfl ?_
  refine w_end ?_
  refine x_seq ?_
  refine c_seq ?_
  refine c_region ?_
  refine w_p tok rfl rfl rfl ?_
  refine w_p tok rfl rfl rfl ?_
  refine w_call slices_IndexFunc_int_int__pack_bytes_1_ok (slices_IndexFunc_int_int__pack_bytes_1_ref _ _ _ H) rfl rfl rfl rfl ?_
  rintro _ h2 ⟨r1, rfl, H⟩
  refine w_p tok rfl rfl rfl ?_
  refine w_p tok rfl rfl rfl ?_
  refine w_end ?_
  refine x_seq ?_
  refine c_ret ?_
  exact x_ret _ rfl _ rfl ⟨(decide (r1 ≥ 0)), rfl, H⟩

theorem pack_bytes_ok : CallOk Go.Proofs.Try.prog 86 := ⟨_, Go.Proofs.Try.func86, by kernel_rfl, by kernel_rfl⟩
theorem pack_bytes_ref (p0 : Slc) (k : (Bool) → Heap → Prop) (h : Heap) (H : pack_bytes p0 k h) : CallsH Go.Proofs.Try.prog 86 #[Slc.v p0] h (fun v h' => ∃ r : Bool, v = .bool r ∧ k r h') := by
  refine f_enter (N := 6) Go.Proofs.Try.func86 rfl rfl rfl (fun w0 => ?_)
  unfold pack_bytes at H
  refine c_weak [(0, Slc.v p0)] ⟨rfl, trivial⟩ ?_
  refine c_seq ?_
  refine c_region ?_
  refine w_p tok rfl rfl rfl ?_
  refine w_end ?_
  refine x_seq ?_
  refine c_seq ?_
  refine c_region ?_
  refine w_p tok rfl rfl rfl ?_
  refine w_call slices_ContainsFunc_int_int__pack_bytes_1_ok (slices_ContainsFunc_int_int__pack_bytes_1_ref _ _ _ H) rfl rfl rfl rfl ?_
  rintro _ h2 ⟨r1, rfl, H⟩
  refine w_p tok rfl rfl rfl ?_
  refine w_p tok rfl rfl rfl ?_
  refine w_end ?_
  refine x_seq ?_
  refine c_ret ?_
  exact x_ret _ rfl _ rfl ⟨(!r1), rfl, H⟩

theorem pack_Check_ok : CallOk Go.Proofs.Try.prog 22 := ⟨_, Go.Proofs.Try.func22, by kernel_rfl, by kernel_rfl⟩
theorem pack_Check_ref (p0 : S_api_Note) (k : (Int) → Heap → Prop) (h : Heap) (H : pack_Check p0 k h) : CallsH Go.Proofs.Try.prog 22 #[.agg (S_api_Note.cs p0).toArray] h (fun v h' => ∃ r : Int, v = .int .i64 r ∧ k r h') := by
  refine f_enter (N := 48) Go.Proofs.Try.func22 rfl rfl rfl (fun w0 => ?_)
  unfold pack_Check at H
  refine c_weak [(0, .agg (S_api_Note.cs p0).toArray)] ⟨rfl, trivial⟩ ?_
  refine c_seq ?_
  refine c_region ?_
  obtain ⟨b1, h2, eb1, eh2, H⟩ := H
  refine w_h (h_box rfl rfl eb1 eh2) rfl rfl ?_
  refine w_p tok rfl rfl rfl ?_
  refine w_end ?_
  refine x_seq ?_
  refine c_seq ?_
  refine c_block ?_
  refine c_seq ?_
  refine c_region ?_
  refine w_p tok rfl rfl rfl ?_
  obtain ⟨v3, hv3, H⟩ := H
  refine w_y (y_ld tok rfl rfl rfl rfl hv3) rfl rfl ?_
  refine w_p tok rfl rfl rfl ?_
  refine w_p tok rfl rfl rfl ?_
  refine w_p tok rfl rfl rfl ?_
  refine w_cut 5 (α := Bool) (fun (s : Bool) => [(13, .bool s), (1, .pointer (some (⟨b1, 0, none⟩ : Addr)))]) (fun (s : Bool) h => pack_Check_g1 (⟨b1, 0, none⟩ : Addr) s k h) ?_ ?_
  ·
    rintro t13_1 h_1 H
    replace H : pack_Check_g1 (⟨b1, 0, none⟩ : Addr) t13_1 k h_1 := H
    unfold pack_Check_g1 at H
    refine w_weak [(13, .bool t13_1), (1, .pointer (some (⟨b1, 0, none⟩ : Addr)))] ⟨rfl, rfl, trivial⟩ ?_
    refine w_p tok rfl rfl rfl ?_
    refine w_end ?_
    refine x_seq ?_
    refine c_if H rfl (fun H => ?_) (fun H => ?_)
    ·
      refine c_seq ?_
      refine c_region ?_
      refine w_p tok rfl rfl rfl ?_
      refine w_end ?_
      refine x_seq ?_
      refine c_ret ?_
      refine x_br ?_
      refine x_tr ?_
      exact x_ret _ rfl _ rfl ⟨3, rfl, H⟩
    ·
      refine c_seq ?_
      refine c_region ?_
      refine w_p tok rfl rfl rfl ?_
      obtain ⟨v4, hv4, H⟩ := H
      refine w_y (y_ld tok rfl rfl rfl rfl hv4) rfl rfl ?_
      refine w_p tok rfl rfl rfl ?_
      refine w_p tok rfl rfl rfl ?_
      refine w_cut 4 (α := Bool) (fun (s : Bool) => [(22, .bool s), (1, .pointer (some (⟨b1, 0, none⟩ : Addr)))]) (fun (s : Bool) h => pack_Check_g2 (⟨b1, 0, none⟩ : Addr) s k h) ?_ ?_
      ·
        rintro t22_2 h_2 H
        replace H : pack_Check_g2 (⟨b1, 0, none⟩ : Addr) t22_2 k h_2 := H
        unfold pack_Check_g2 at H
        refine w_weak [(22, .bool t22_2), (1, .pointer (some (⟨b1, 0, none⟩ : Addr)))] ⟨rfl, rfl, trivial⟩ ?_
        refine w_p tok rfl rfl rfl ?_
        refine w_cut 15 (α := Bool) (fun (s : Bool) => [(38, .bool s), (1, .pointer (some (⟨b1, 0, none⟩ : Addr)))]) (fun (s : Bool) h => pack_Check_g3 (⟨b1, 0, none⟩ : Addr) s k h) ?_ ?_
        ·
          rintro t38_3 h_3 H
          replace H : pack_Check_g3 (⟨b1, 0, none⟩ : Addr) t38_3 k h_3 := H
          unfold pack_Check_g3 at H
          refine w_weak [(38, .bool t38_3), (1, .pointer (some (⟨b1, 0, none⟩ : Addr)))] ⟨rfl, rfl, trivial⟩ ?_
          refine w_p tok rfl rfl rfl ?_
          refine w_end ?_
          refine x_seq ?_
          refine c_if H rfl (fun H => ?_) (fun H => ?_)
          ·
            refine c_seq ?_
            refine c_region ?_
            refine w_p tok rfl rfl rfl ?_
            refine w_end ?_
            refine x_seq ?_
            refine c_ret ?_
            refine x_br ?_
            refine x_tr ?_
            exact x_ret _ rfl _ rfl ⟨1, rfl, H⟩
          ·
            refine c_seq ?_
            refine c_region ?_
            refine w_p tok rfl rfl rfl ?_
            obtain ⟨v5, hv5, H⟩ := H
            refine w_y (y_ld tok rfl rfl rfl rfl hv5) rfl rfl ?_
            refine w_call slices_ContainsFunc_api_Piece_api_Piece__pack_Check_1_ok (slices_ContainsFunc_api_Piece_api_Piece__pack_Check_1_ref _ _ _ H) rfl rfl rfl rfl ?_
            rintro _ h7 ⟨r6, rfl, H⟩
            refine w_p tok rfl rfl rfl ?_
            refine w_end ?_
            refine x_seq ?_
            refine c_if H rfl (fun H => ?_) (fun H => ?_)
            ·
              refine c_seq ?_
              refine c_region ?_
              refine w_p tok rfl rfl rfl ?_
              refine w_end ?_
              refine x_seq ?_
              refine c_weak [(2, .int .i64 1)] ⟨rfl, trivial⟩ ?_
              refine c_ret ?_
              refine x_br ?_
              refine x_tr ?_
              exact x_ret _ rfl _ rfl ⟨1, rfl, H⟩
            ·
              refine c_seq ?_
              refine c_region ?_
              obtain ⟨v8, hv8, H⟩ := H
              refine w_y (y_lda tok rfl rfl rfl rfl rfl hv8) rfl rfl ?_
              refine w_call pack_form_ok (pack_form_ref _ _ _ H) rfl rfl rfl rfl ?_
              rintro _ h10 ⟨r9, rfl, H⟩
              refine w_p tok rfl rfl rfl ?_
              refine w_p tok rfl rfl rfl ?_
              refine w_p tok rfl rfl rfl ?_
              refine w_end ?_
              refine x_seq ?_
              refine c_weak [(43, .bool (decide ((r9.len : Int) > 4096)))] ⟨rfl, trivial⟩ ?_
              refine c_if H rfl (fun H => ?_) (fun H => ?_)
              ·
                refine c_seq ?_
                refine c_region ?_
                refine w_p tok rfl rfl rfl ?_
                refine w_end ?_
                refine x_seq ?_
                refine c_ret ?_
                refine x_br ?_
                refine x_tr ?_
                exact x_ret _ rfl _ rfl ⟨3, rfl, H⟩
              ·
                refine c_skip ?_
                refine x_blk ?_
                refine x_seq ?_
                refine c_seq ?_
                refine c_region ?_
                refine w_p tok rfl rfl rfl ?_
                refine w_end ?_
                refine x_seq ?_
                refine c_ret ?_
                exact x_ret _ rfl _ rfl ⟨0, rfl, H⟩
        ·
          refine w_gif (d := 23) H rfl (fun H => ?_) (fun H => ?_)
          ·
            refine w_skip rfl rfl ?_
            refine w_skip rfl rfl ?_
            refine w_skip rfl rfl ?_
            refine w_skip rfl rfl ?_
            refine w_skip rfl rfl ?_
            refine w_skip rfl rfl ?_
            refine w_skip rfl rfl ?_
            refine w_skip rfl rfl ?_
            refine w_skip rfl rfl ?_
            refine w_skip rfl rfl ?_
            refine w_skip rfl rfl ?_
            refine w_skip rfl rfl ?_
            refine w_skip rfl rfl ?_
            refine w_skip rfl rfl ?_
            refine w_p tok rfl rfl rfl ?_
            exact w_jn true H ⟨rfl, rfl, trivial⟩
          ·
            refine w_p tok rfl rfl rfl ?_
            obtain ⟨v11, hv11, H⟩ := H
            refine w_y (y_ld tok rfl rfl rfl rfl hv11) rfl rfl ?_
            refine w_p tok rfl rfl rfl ?_
            refine w_p tok rfl rfl rfl ?_
            obtain ⟨v12, hv12, H⟩ := H
            refine w_y (y_ld tok rfl rfl rfl rfl hv12) rfl rfl ?_
            refine w_p tok rfl rfl rfl ?_
            refine w_p tok rfl rfl rfl ?_
            obtain ⟨v13, hv13, H⟩ := H
            refine w_y (y_ld tok rfl rfl rfl rfl hv13) rfl rfl ?_
            refine w_p tok rfl rfl rfl ?_
            refine w_p tok rfl rfl rfl ?_
            obtain ⟨v14, hv14, H⟩ := H
            refine w_y (y_ld tok rfl rfl rfl rfl hv14) rfl rfl ?_
            obtain ⟨b15, h16, eb15, eh16, H⟩ := H
            refine w_h (h_bs tok rfl rfl rfl rfl rfl rfl rfl eb15 eh16) rfl rfl ?_
            refine w_call pack_bytes_ok (pack_bytes_ref _ _ _ H) rfl rfl rfl rfl ?_
            rintro _ h18 ⟨r17, rfl, H⟩
            refine w_p tok rfl rfl rfl ?_
            refine w_p tok rfl rfl rfl ?_
            exact w_jn (!r17) H ⟨rfl, rfl, trivial⟩
      ·
        refine w_gif (d := 18) H rfl (fun H => ?_) (fun H => ?_)
        ·
          refine w_skip rfl rfl ?_
          refine w_skip rfl rfl ?_
          refine w_skip rfl rfl ?_
          refine w_p tok rfl rfl rfl ?_
          exact w_jn true H ⟨rfl, rfl, trivial⟩
        ·
          refine w_p tok rfl rfl rfl ?_
          obtain ⟨v19, hv19, H⟩ := H
          refine w_y (y_ld tok rfl rfl rfl rfl hv19) rfl rfl ?_
          refine w_p tok rfl rfl rfl ?_
          refine w_p tok rfl rfl rfl ?_
          exact w_jn (decide (v19 > 13)) H ⟨rfl, rfl, trivial⟩
  ·
    refine w_gif (d := 8) H rfl (fun H => ?_) (fun H => ?_)
    ·
      refine w_skip rfl rfl ?_
      refine w_skip rfl rfl ?_
      refine w_skip rfl rfl ?_
      refine w_skip rfl rfl ?_
      refine w_p tok rfl rfl rfl ?_
      exact w_jn true H ⟨rfl, rfl, trivial⟩
    ·
      refine w_p tok rfl rfl rfl ?_
      obtain ⟨v20, hv20, H⟩ := H
      refine w_y (y_ld tok rfl rfl rfl rfl hv20) rfl rfl ?_
      refine w_p tok rfl rfl rfl ?_
      refine w_p tok rfl rfl rfl ?_
      refine w_p tok rfl rfl rfl ?_
      exact w_jn (decide ((v20.len : Int) > 64)) H ⟨rfl, rfl, trivial⟩

theorem pack_Put_ok : CallOk Go.Proofs.Try.prog 23 := ⟨_, Go.Proofs.Try.func23, by kernel_rfl, by kernel_rfl⟩
theorem pack_Put_ref (p0 : S_api_Note) (k : (Slc) → Heap → Prop) (h : Heap) (H : pack_Put p0 k h) : CallsH Go.Proofs.Try.prog 23 #[.agg (S_api_Note.cs p0).toArray] h (fun v h' => ∃ r : Slc, v = Slc.v r ∧ k r h') := by
  refine f_enter (N := 8) Go.Proofs.Try.func23 rfl rfl rfl (fun w0 => ?_)
  unfold pack_Put at H
  refine c_weak [(0, .agg (S_api_Note.cs p0).toArray)] ⟨rfl, trivial⟩ ?_
  refine c_seq ?_
  refine c_region ?_
  obtain ⟨b1, h2, eb1, eh2, H⟩ := H
  refine w_h (h_box rfl rfl eb1 eh2) rfl rfl ?_
  refine w_p tok rfl rfl rfl ?_
  refine w_end ?_
  refine x_seq ?_
  refine c_seq ?_
  refine c_seq ?_
  refine c_region ?_
  obtain ⟨v3, hv3, H⟩ := H
  refine w_y (y_lda tok rfl rfl rfl rfl rfl hv3) rfl rfl ?_
  refine w_call pack_Check_ok (pack_Check_ref _ _ _ H) rfl rfl rfl rfl ?_
  rintro _ h5 ⟨r4, rfl, H⟩
  refine w_p tok rfl rfl rfl ?_
  refine w_end ?_
  refine x_seq ?_
  refine c_if H rfl (fun H => ?_) (fun H => ?_)
  ·
    refine c_seq ?_
    refine c_region ?_
    refine w_p tok rfl rfl rfl ?_
    refine w_end ?_
    refine x_seq ?_
    refine c_ret ?_
    refine x_tr ?_
    exact x_ret _ rfl _ rfl ⟨(⟨none, 0, 0⟩ : Slc), rfl, H⟩
  ·
    refine c_skip ?_
    refine x_seq ?_
    refine c_seq ?_
    refine c_region ?_
    obtain ⟨v6, hv6, H⟩ := H
    refine w_y (y_lda tok rfl rfl rfl rfl rfl hv6) rfl rfl ?_
    refine w_call pack_form_ok (pack_form_ref _ _ _ H) rfl rfl rfl rfl ?_
    rintro _ h8 ⟨r7, rfl, H⟩
    refine w_p tok rfl rfl rfl ?_
    refine w_end ?_
    refine x_seq ?_
    refine c_weak [(2, Slc.v r7)] ⟨rfl, trivial⟩ ?_
    refine c_ret ?_
    exact x_ret _ rfl _ rfl ⟨r7, rfl, H⟩

theorem law27_awake_ok : CallOk Go.Proofs.Try.prog 21 := ⟨_, Go.Proofs.Try.func21, by kernel_rfl, by kernel_rfl⟩
theorem law27_awake_ref (k : (Bool) → Heap → Prop) (h : Heap) (H : law27_awake k h) : CallsH Go.Proofs.Try.prog 21 #[] h (fun v h' => ∃ r : Bool, v = .bool r ∧ k r h') := by
  refine f_enter (N := 5) Go.Proofs.Try.func21 rfl rfl rfl (fun w0 => ?_)
  unfold law27_awake at H
  refine c_seq ?_
  refine c_region ?_
  refine w_p tok rfl rfl rfl ?_
  refine w_end ?_
  refine x_seq ?_
  refine c_seq ?_
  refine c_region ?_
  refine w_y (y_build tok rfl rfl rfl rfl rfl) rfl rfl ?_
  refine w_call pack_Put_ok (pack_Put_ref _ _ _ H) rfl rfl rfl rfl ?_
  rintro _ h2 ⟨r1, rfl, H⟩
  refine w_p tok rfl rfl rfl ?_
  refine w_p tok rfl rfl rfl ?_
  refine w_p tok rfl rfl rfl ?_
  refine w_end ?_
  refine x_seq ?_
  refine c_ret ?_
  exact x_ret _ rfl _ rfl ⟨((r1.len : Int) == 104), rfl, H⟩

theorem law27_PackEven_ok : CallOk Go.Proofs.Try.prog 3 := ⟨_, Go.Proofs.Try.func3, by kernel_rfl, by kernel_rfl⟩
theorem law27_PackEven_ref (p0 : S_api_Note) (p1 : Slc) (k : (Bool) → Heap → Prop) (h : Heap) (H : law27_PackEven p0 p1 k h) : CallsH Go.Proofs.Try.prog 3 #[.agg (S_api_Note.cs p0).toArray, Slc.v p1] h (fun v h' => ∃ r : Bool, v = .bool r ∧ k r h') := by
  refine f_enter (N := 55) Go.Proofs.Try.func3 rfl rfl rfl (fun w0 => ?_)
  unfold law27_PackEven at H
  refine c_weak [(0, .agg (S_api_Note.cs p0).toArray), (1, Slc.v p1)] ⟨rfl, rfl, trivial⟩ ?_
  refine c_seq ?_
  refine c_region ?_
  obtain ⟨b1, h2, eb1, eh2, H⟩ := H
  refine w_h (h_box rfl rfl eb1 eh2) rfl rfl ?_
  refine w_p tok rfl rfl rfl ?_
  refine w_end ?_
  refine x_seq ?_
  refine c_seq ?_
  refine c_seq ?_
  refine c_region ?_
  obtain ⟨v3, hv3, H⟩ := H
  refine w_y (y_lda tok rfl rfl rfl rfl rfl hv3) rfl rfl ?_
  refine w_call ref27_Great_ok (ref27_Great_ref _ _ _ H) rfl rfl rfl rfl ?_
  rintro _ h5 ⟨r4, rfl, H⟩
  refine w_end ?_
  refine x_seq ?_
  refine c_if H rfl (fun H => ?_) (fun H => ?_)
  ·
    refine c_seq ?_
    refine c_region ?_
    refine w_call law27_awake_ok (law27_awake_ref  _ _ H) rfl rfl rfl rfl ?_
    rintro _ h7 ⟨r6, rfl, H⟩
    refine w_p tok rfl rfl rfl ?_
    refine w_end ?_
    refine x_seq ?_
    refine c_ret ?_
    refine x_tr ?_
    exact x_ret _ rfl _ rfl ⟨r6, rfl, H⟩
  ·
    refine c_skip ?_
    refine x_seq ?_
    refine c_seq ?_
    refine c_region ?_
    obtain ⟨v8, hv8, H⟩ := H
    refine w_y (y_lda tok rfl rfl rfl rfl rfl hv8) rfl rfl ?_
    obtain ⟨b9, h10, eb9, eh10, H⟩ := H
    refine w_h (h_alloc tok rfl rfl eb9 eh10) rfl rfl ?_
    obtain ⟨h11, wh11, eh11, H⟩ := H
    refine w_h (h_sts tok rfl rfl rfl rfl rfl (oneC (by kernel_rfl)) wh11 eh11) rfl rfl ?_
    refine w_end ?_
    refine x_seq ?_
    refine c_seq ?_
    refine c_region ?_
    obtain ⟨b12, h13, eb12, eh13, H⟩ := H
    refine w_h (h_bs tok rfl rfl rfl rfl rfl rfl rfl eb12 eh13) rfl rfl ?_
    refine w_p tok rfl rfl rfl ?_
    obtain ⟨v14, hv14, H⟩ := H
    refine w_y (y_ld tok rfl rfl rfl rfl hv14) rfl rfl ?_
    obtain ⟨l17, hl17, H⟩ := H
    refine w_a (a_app (s := (⟨some ⟨b12, 0, none⟩, 0, 0⟩ : Slc)) (r := v14) tok rfl rfl rfl rfl rfl hl17 H) rfl rfl ?_
    rintro _ h16 ⟨s15, rfl, H⟩
    refine w_p tok rfl rfl rfl ?_
    obtain ⟨h18, wh18, eh18, H⟩ := H
    refine w_h (h_st tok rfl rfl rfl rfl rfl rfl wh18 eh18) rfl rfl ?_
    refine w_end ?_
    refine x_seq ?_
    refine c_weak [(1, Slc.v p1), (2, .pointer (some (⟨b1, 0, none⟩ : Addr))), (5, .pointer (some (⟨b9, 0, none⟩ : Addr)))] ⟨rfl, rfl, rfl, trivial⟩ ?_
    refine c_seq ?_
    refine c_seq ?_
    refine c_region ?_
    refine w_p tok rfl rfl rfl ?_
    refine w_end ?_
    refine x_seq ?_
    refine c_block ?_
    obtain ⟨I1, μ1, H0, HI⟩ := H
    refine c_loop (σ := Int) (fun (s : Int) => [(6, .int .i64 s), (1, Slc.v p1), (2, .pointer (some (⟨b1, 0, none⟩ : Addr))), (5, .pointer (some (⟨b9, 0, none⟩ : Addr)))]) I1 μ1 0 H0 ⟨rfl, rfl, rfl, rfl, trivial⟩ ?_
    rintro t6_1 h_1 H
    replace H := HI t6_1 h_1 H
    unfold law27_PackEven_l1b at H
    refine c_weak [(6, .int .i64 t6_1), (1, Slc.v p1), (2, .pointer (some (⟨b1, 0, none⟩ : Addr))), (5, .pointer (some (⟨b9, 0, none⟩ : Addr)))] ⟨rfl, rfl, rfl, rfl, trivial⟩ ?_
    refine c_seq ?_
    refine c_seq ?_
    refine c_region ?_
    refine w_p tok rfl rfl rfl ?_
    refine w_p tok rfl rfl rfl ?_
    obtain ⟨v19, hv19, H⟩ := H
    refine w_y (y_ld tok rfl rfl rfl rfl hv19) rfl rfl ?_
    refine w_p tok rfl rfl rfl ?_
    refine w_p tok rfl rfl rfl ?_
    refine w_p tok rfl rfl rfl ?_
    refine w_cutU 5 [(26, .bool ((decide (t6_1 < (v19.len : Int))) && (decide (t6_1 < (p1.len : Int))))), (1, Slc.v p1), (2, .pointer (some (⟨b1, 0, none⟩ : Addr))), (5, .pointer (some (⟨b9, 0, none⟩ : Addr))), (6, .int .i64 t6_1)] ?_ ?_
    ·
      refine w_end ?_
      refine x_seq ?_
      refine c_if H rfl (fun H => ?_) (fun H => ?_)
      ·
        refine c_skip ?_
        refine x_seq ?_
        refine c_seq ?_
        refine c_block ?_
        refine c_sim [(1, Slc.v p1), (2, .pointer (some (⟨b1, 0, none⟩ : Addr))), (5, .pointer (some (⟨b9, 0, none⟩ : Addr))), (6, .int .i64 t6_1)] (by kernel_rfl) (by kernel_rfl) ⟨rfl, rfl, rfl, rfl, trivial⟩ (fun wf => ?_)
        refine sim_p 0 (ei := [(5, .pointer (some (⟨b9, 0, none⟩ : Addr)))]) (d := (some 29)) wf (by kernel_rfl) ⟨rfl, trivial⟩ (by kernel_rfl) (by kernel_rfl) (fun _ => pf_p tok rfl rfl rfl rfl) (fun P_0 => ?_)
        obtain ⟨v20, hv20, H⟩ := H
        refine sim_l 1 (ei := [(29, .pointer (some ((⟨b9, 0, none⟩ : Addr).add 5)))]) (d := (some 30)) wf (by kernel_rfl) ⟨rfl, trivial⟩ (by kernel_rfl) (by kernel_rfl) (pf_y rfl rfl rfl (y_ld tok rfl rfl rfl rfl hv20)) (fun P_1 => ?_)
        refine sim_p 2 (ei := [(6, .int .i64 t6_1)]) (d := (some 31)) wf (by kernel_rfl) ⟨rfl, trivial⟩ (by kernel_rfl) (by kernel_rfl) (fun _ => pf_p tok rfl rfl rfl rfl) (fun P_2 => ?_)
        refine sim_p 3 (ei := [(1, Slc.v p1)]) (d := (some 32)) wf (by kernel_rfl) ⟨rfl, trivial⟩ (by kernel_rfl) (by kernel_rfl) (fun _ => pf_p tok rfl rfl rfl rfl) (fun P_3 => ?_)
        refine sim_p 4 (ei := [(6, .int .i64 t6_1)]) (d := (some 33)) wf (by kernel_rfl) ⟨rfl, trivial⟩ (by kernel_rfl) (by kernel_rfl) (fun _ => pf_p tok rfl rfl rfl rfl) (fun P_4 => ?_)
        obtain ⟨a21, ha21, la21, ua21, H⟩ := H
        refine sim_p 5 (ei := [(32, Slc.v p1), (33, .int .i64 t6_1)]) (d := (some 34)) wf (by kernel_rfl) ⟨rfl, rfl, trivial⟩ (by kernel_rfl) (by kernel_rfl) (fun _ => pf_y rfl rfl rfl (y_ixa' tok rfl rfl ha21 rfl rfl rfl la21 ua21)) (fun P_5 => ?_)
        obtain ⟨v22, hv22, H⟩ := H
        refine sim_l 6 (ei := [(34, .pointer (some (a21.add (t6_1.toNat * 1))))]) (d := (some 35)) wf (by kernel_rfl) ⟨rfl, trivial⟩ (by kernel_rfl) (by kernel_rfl) (pf_y rfl rfl rfl (y_ld tok rfl rfl rfl rfl hv22)) (fun P_6 => ?_)
        obtain ⟨a23, ha23, la23, ua23, H⟩ := H
        refine sim_p 7 (ei := [(30, Slc.v v20), (31, .int .i64 t6_1)]) (d := (some 36)) wf (by kernel_rfl) ⟨rfl, rfl, trivial⟩ (by kernel_rfl) (by kernel_rfl) (fun _ => pf_y rfl rfl rfl (y_ixa' tok rfl rfl ha23 rfl rfl rfl la23 ua23)) (fun P_7 => ?_)
        refine sim_p 8 (ei := [(36, .pointer (some (a23.add (t6_1.toNat * 5))))]) (d := (some 37)) wf (by kernel_rfl) ⟨rfl, trivial⟩ (by kernel_rfl) (by kernel_rfl) (fun _ => pf_p tok rfl rfl rfl rfl) (fun P_8 => ?_)
        obtain ⟨h24, wh24, eh24, H⟩ := H
        refine sim_h 9 [0, 1, 2, 3, 4, 5, 6, 7, 8] [0, 1, 2, 3, 4, 5, 6, 7, 8] (ei := [(35, .int .i64 v22), (37, .pointer (some ((a23.add (t6_1.toNat * 5)).add 2)))]) wf ⟨P_8 _, P_7 _, P_6, P_5 _, P_4 _, P_3 _, P_2 _, P_1, P_0 _, trivial⟩ (by kernel_rfl) ⟨rfl, rfl, trivial⟩ (by kernel_rfl) rfl rfl rfl (h_st tok rfl rfl rfl rfl rfl rfl wh24 eh24) ?_
        refine sim_end wf ⟨trivial, trivial, trivial, trivial, trivial, trivial, trivial, trivial, trivial, trivial⟩ (by kernel_rfl) ?_
        clear wf P_0 P_1 P_2 P_3 P_4 P_5 P_6 P_7 P_8
        refine x_blk ?_
        refine x_seq ?_
        refine c_weak [(1, Slc.v p1), (2, .pointer (some (⟨b1, 0, none⟩ : Addr))), (5, .pointer (some (⟨b9, 0, none⟩ : Addr))), (6, .int .i64 t6_1)] ⟨rfl, rfl, rfl, rfl, trivial⟩ ?_
        refine c_region ?_
        refine w_p tok rfl rfl rfl ?_
        refine w_p tok rfl rfl rfl ?_
        obtain ⟨x25, ex25, H⟩ := H
        refine w_pe tok rfl (congrArg (fun z => (.int .i64 z : Value)) ex25) rfl rfl ?_
        refine w_end ?_
        exact x_join x25 H ⟨rfl, rfl, rfl, rfl, trivial⟩
      ·
        refine c_exit ?_
        refine x_te ?_
        refine x_te ?_
        refine x_bh ?_
        refine x_seq ?_
        refine c_seqJ (α := Bool) (fun (s : Bool) => [(4, .bool s)]) (fun (s : Bool) h => law27_PackEven_j2 s k (fun s h' => I1 s h' ∧ μ1 s h' < μ1 t6_1 h_1) h) ?_ ?_
        ·
          rintro t4_2 h_2 H
          replace H : law27_PackEven_j2 t4_2 k (fun s h' => I1 s h' ∧ μ1 s h' < μ1 t6_1 h_1) h_2 := H
          unfold law27_PackEven_j2 at H
          refine c_weak [(4, .bool t4_2)] ⟨rfl, trivial⟩ ?_
          refine c_ret ?_
          exact x_ret _ rfl _ rfl ⟨t4_2, rfl, H⟩
        ·
          refine c_sim [(2, .pointer (some (⟨b1, 0, none⟩ : Addr))), (5, .pointer (some (⟨b9, 0, none⟩ : Addr)))] (by kernel_rfl) (by kernel_rfl) ⟨rfl, rfl, trivial⟩ (fun wf => ?_)
          obtain ⟨v26, hv26, H⟩ := H
          refine sim_l 0 (ei := [(2, .pointer (some (⟨b1, 0, none⟩ : Addr)))]) (d := (some 38)) wf (by kernel_rfl) ⟨rfl, trivial⟩ (by kernel_rfl) (by kernel_rfl) (pf_y rfl rfl rfl (y_lda tok rfl rfl rfl rfl rfl hv26)) (fun P_0 => ?_)
          obtain ⟨v27, hv27, H⟩ := H
          refine sim_l 2 (ei := [(5, .pointer (some (⟨b9, 0, none⟩ : Addr)))]) (d := (some 40)) wf (by kernel_rfl) ⟨rfl, trivial⟩ (by kernel_rfl) (by kernel_rfl) (pf_y rfl rfl rfl (y_lda tok rfl rfl rfl rfl rfl hv27)) (fun P_2 => ?_)
          refine sim_c 1 [0] [0] (ei := [(38, .agg (S_api_Note.cs v26).toArray)]) pack_Check_ok (pack_Check_ref _ _ _ H) wf ⟨P_2, P_0, trivial⟩ (by kernel_rfl) ⟨rfl, trivial⟩ (by kernel_rfl) rfl rfl rfl rfl rfl ?_
          rintro _ h29 ⟨r28, rfl, H⟩
          obtain ⟨hy30, H⟩ := H
          refine sim_re (x := ⟨2, .agg (S_api_Note.cs v27).toArray, [(5, .pointer (some (⟨b9, 0, none⟩ : Addr)))]⟩) (pf_y rfl rfl rfl (y_lda tok rfl rfl rfl rfl rfl hy30)) (fun P_2 => ?_)
          refine sim_c 3 [0, 1, 2] [0, 2] (ei := [(40, .agg (S_api_Note.cs v27).toArray)]) pack_Check_ok (pack_Check_ref _ _ _ H) wf ⟨P_2, trivial, trivial⟩ (by kernel_rfl) ⟨rfl, trivial⟩ (by kernel_rfl) rfl rfl rfl rfl rfl ?_
          rintro _ h32 ⟨r31, rfl, H⟩
          refine sim_p 4 (ei := [(39, .int .i64 r28), (41, .int .i64 r31)]) (d := (some 42)) wf (by kernel_rfl) ⟨rfl, rfl, trivial⟩ (by kernel_rfl) (by kernel_rfl) (fun _ => pf_p tok rfl rfl rfl rfl) (fun P_4 => ?_)
          refine sim_p 5 (ei := [(42, .bool (r28 == r31))]) (d := (some 43)) wf (by kernel_rfl) ⟨rfl, trivial⟩ (by kernel_rfl) (by kernel_rfl) (fun _ => pf_p tok rfl rfl rfl rfl) (fun P_5 => ?_)
          refine sim_gif 43 H rfl (fun hb H => ?_) (fun hb H => ?_)
          ·
            obtain ⟨v33, hv33, H⟩ := H
            refine sim_l 6 (ei := [(2, .pointer (some (⟨b1, 0, none⟩ : Addr))), (43, .bool true)]) (d := (some 44)) wf (by kernel_rfl) ⟨rfl, rfl, trivial⟩ (by kernel_rfl) (by kernel_rfl) (pf_y rfl rfl rfl (y_lda tok rfl rfl rfl rfl rfl hv33)) (fun P_6 => ?_)
            obtain ⟨v34, hv34, H⟩ := H
            refine sim_l 9 (ei := [(5, .pointer (some (⟨b9, 0, none⟩ : Addr))), (43, .bool true)]) (d := (some 47)) wf (by kernel_rfl) ⟨rfl, rfl, trivial⟩ (by kernel_rfl) (by kernel_rfl) (pf_y rfl rfl rfl (y_lda tok rfl rfl rfl rfl rfl hv34)) (fun P_9 => ?_)
            refine sim_c 7 [0, 1, 2, 3, 4, 5, 6] [0, 2, 4, 5, 6] (ei := [(43, .bool true), (44, .agg (S_api_Note.cs v33).toArray)]) pack_Put_ok (pack_Put_ref _ _ _ H) wf ⟨P_9, P_6, P_5 _, P_4 _, trivial, trivial, trivial⟩ (by kernel_rfl) ⟨rfl, rfl, trivial⟩ (by kernel_rfl) rfl rfl rfl rfl rfl ?_
            rintro _ h36 ⟨r35, rfl, H⟩
            obtain ⟨hy37, H⟩ := H
            refine sim_re (x := ⟨9, .agg (S_api_Note.cs v34).toArray, [(5, .pointer (some (⟨b9, 0, none⟩ : Addr))), (43, .bool true)]⟩) (pf_y rfl rfl rfl (y_lda tok rfl rfl rfl rfl rfl hy37)) (fun P_9 => ?_)
            refine sim_p 8 (ei := [(43, .bool true), (45, Slc.v r35)]) (d := (some 46)) wf (by kernel_rfl) ⟨rfl, rfl, trivial⟩ (by kernel_rfl) (by kernel_rfl) (fun _ => pf_p tok rfl rfl rfl rfl) (fun P_8 => ?_)
            refine sim_c 10 [0, 1, 2, 3, 4, 5, 6, 7, 9] [0, 2, 4, 5, 6, 9] (ei := [(43, .bool true), (47, .agg (S_api_Note.cs v34).toArray)]) pack_Put_ok (pack_Put_ref _ _ _ H) wf ⟨P_8 _, P_9, trivial, trivial, trivial, trivial, trivial, trivial⟩ (by kernel_rfl) ⟨rfl, rfl, trivial⟩ (by kernel_rfl) rfl rfl rfl rfl rfl ?_
            rintro _ h39 ⟨r38, rfl, H⟩
            refine sim_p 11 (ei := [(43, .bool true), (48, Slc.v r38)]) (d := (some 49)) wf (by kernel_rfl) ⟨rfl, rfl, trivial⟩ (by kernel_rfl) (by kernel_rfl) (fun _ => pf_p tok rfl rfl rfl rfl) (fun P_11 => ?_)
            refine sim_p 12 (ei := [(43, .bool true), (46, .int .i64 (r35.len : Int)), (49, .int .i64 (r38.len : Int))]) (d := (some 50)) wf (by kernel_rfl) ⟨rfl, rfl, rfl, trivial⟩ (by kernel_rfl) (by kernel_rfl) (fun _ => pf_p tok rfl rfl rfl rfl) (fun P_12 => ?_)
            refine sim_p 13 (ei := [(43, .bool true), (50, .bool ((r35.len : Int) == (r38.len : Int)))]) (d := (some 51)) wf (by kernel_rfl) ⟨rfl, rfl, trivial⟩ (by kernel_rfl) (by kernel_rfl) (fun _ => pf_p tok rfl rfl rfl rfl) (fun P_13 => ?_)
            refine sim_p 14 (ei := [(51, .bool ((r35.len : Int) == (r38.len : Int)))]) (d := (some 52)) wf (by kernel_rfl) ⟨rfl, trivial⟩ (by kernel_rfl) (by kernel_rfl) (fun _ => pf_p tok rfl rfl rfl rfl) (fun P_14 => ?_)
            refine sim_gif 52 H rfl (fun hb H => ?_) (fun hb H => ?_)
            ·
              refine sim_c 15 [0, 1, 2, 3, 4, 5, 6, 7, 8, 9, 10, 11, 12, 13, 14] [0, 2, 4, 5, 6, 8, 9, 11, 12, 13, 14] (ei := [(52, .bool true)]) law27_awake_ok (law27_awake_ref  _ _ H) wf ⟨P_14 _, P_13 _, P_12 _, P_11 _, P_8 _, trivial, trivial, trivial, trivial, trivial, trivial, trivial⟩ (by kernel_rfl) ⟨rfl, trivial⟩ (by kernel_rfl) rfl rfl rfl rfl rfl ?_
              rintro _ h41 ⟨r40, rfl, H⟩
              refine sim_p 16 (ei := [(52, .bool true), (53, .bool r40)]) (d := (some 54)) wf (by kernel_rfl) ⟨rfl, rfl, trivial⟩ (by kernel_rfl) (by kernel_rfl) (fun _ => pf_p tok rfl rfl rfl rfl) (fun P_16 => ?_)
              refine sim_p 17 (ei := [(54, .bool r40)]) (d := (some 4)) wf (by kernel_rfl) ⟨rfl, trivial⟩ (by kernel_rfl) (by kernel_rfl) (fun _ => pf_p tok rfl rfl rfl rfl) (fun P_17 => ?_)
              refine sim_end wf ⟨P_17 _, P_16 _, trivial, trivial, trivial, trivial, trivial, trivial, trivial, trivial, trivial, trivial, trivial, trivial⟩ (by kernel_rfl) ?_
              clear wf P_0 P_11 P_12 P_13 P_14 P_16 P_17 P_2 P_4 P_5 P_6 P_8 P_9
              exact x_join r40 H ⟨rfl, trivial⟩
            ·
              refine sim_p 15 (v := undef) (ei := [(52, .bool false)]) (d := (some 53)) wf (by kernel_rfl) ⟨rfl, trivial⟩ (by kernel_rfl) (by kernel_rfl) (fun _ => pf_s rfl rfl rfl) (fun P_15 => ?_)
              refine sim_p 16 (ei := [(52, .bool false)]) (d := (some 54)) wf (by kernel_rfl) ⟨rfl, trivial⟩ (by kernel_rfl) (by kernel_rfl) (fun _ => pf_p tok rfl rfl rfl rfl) (fun P_16 => ?_)
              refine sim_p 17 (ei := [(54, .bool false)]) (d := (some 4)) wf (by kernel_rfl) ⟨rfl, trivial⟩ (by kernel_rfl) (by kernel_rfl) (fun _ => pf_p tok rfl rfl rfl rfl) (fun P_17 => ?_)
              refine sim_end wf ⟨P_17 _, P_16 _, P_15 _, P_14 _, P_13 _, P_12 _, P_11 _, P_8 _, trivial, trivial, trivial, trivial, trivial, trivial, trivial⟩ (by kernel_rfl) ?_
              clear wf P_0 P_11 P_12 P_13 P_14 P_15 P_16 P_17 P_2 P_4 P_5 P_6 P_8 P_9
              exact x_join false H ⟨rfl, trivial⟩
          ·
            refine sim_p 6 (v := undef) (ei := [(2, .pointer (some (⟨b1, 0, none⟩ : Addr))), (43, .bool false)]) (d := (some 44)) wf (by kernel_rfl) ⟨rfl, rfl, trivial⟩ (by kernel_rfl) (by kernel_rfl) (fun _ => pf_s rfl rfl rfl) (fun P_6 => ?_)
            refine sim_p 7 (v := undef) (ei := [(43, .bool false)]) (d := (some 45)) wf (by kernel_rfl) ⟨rfl, trivial⟩ (by kernel_rfl) (by kernel_rfl) (fun _ => pf_s rfl rfl rfl) (fun P_7 => ?_)
            refine sim_p 8 (v := undef) (ei := [(43, .bool false)]) (d := (some 46)) wf (by kernel_rfl) ⟨rfl, trivial⟩ (by kernel_rfl) (by kernel_rfl) (fun _ => pf_s rfl rfl rfl) (fun P_8 => ?_)
            refine sim_p 9 (v := undef) (ei := [(5, .pointer (some (⟨b9, 0, none⟩ : Addr))), (43, .bool false)]) (d := (some 47)) wf (by kernel_rfl) ⟨rfl, rfl, trivial⟩ (by kernel_rfl) (by kernel_rfl) (fun _ => pf_s rfl rfl rfl) (fun P_9 => ?_)
            refine sim_p 10 (v := undef) (ei := [(43, .bool false)]) (d := (some 48)) wf (by kernel_rfl) ⟨rfl, trivial⟩ (by kernel_rfl) (by kernel_rfl) (fun _ => pf_s rfl rfl rfl) (fun P_10 => ?_)
            refine sim_p 11 (v := undef) (ei := [(43, .bool false)]) (d := (some 49)) wf (by kernel_rfl) ⟨rfl, trivial⟩ (by kernel_rfl) (by kernel_rfl) (fun _ => pf_s rfl rfl rfl) (fun P_11 => ?_)
            refine sim_p 12 (v := undef) (ei := [(43, .bool false)]) (d := (some 50)) wf (by kernel_rfl) ⟨rfl, trivial⟩ (by kernel_rfl) (by kernel_rfl) (fun _ => pf_s rfl rfl rfl) (fun P_12 => ?_)
            refine sim_p 13 (ei := [(43, .bool false)]) (d := (some 51)) wf (by kernel_rfl) ⟨rfl, trivial⟩ (by kernel_rfl) (by kernel_rfl) (fun _ => pf_p tok rfl rfl rfl rfl) (fun P_13 => ?_)
            refine sim_p 14 (ei := [(51, .bool false)]) (d := (some 52)) wf (by kernel_rfl) ⟨rfl, trivial⟩ (by kernel_rfl) (by kernel_rfl) (fun _ => pf_p tok rfl rfl rfl rfl) (fun P_14 => ?_)
            refine sim_gif 52 H rfl (fun hb H => ?_) (fun hb H => ?_)
            ·
              refine sim_c 15 [0, 1, 2, 3, 4, 5, 6, 7, 8, 9, 10, 11, 12, 13, 14] [0, 2, 4, 5, 6, 7, 8, 9, 10, 11, 12, 13, 14] (ei := [(52, .bool true)]) law27_awake_ok (law27_awake_ref  _ _ H) wf ⟨P_14 _, P_13 _, P_12 _, P_11 _, P_10 _, P_9 _, P_8 _, P_7 _, P_6 _, P_5 _, P_4 _, trivial, trivial, trivial⟩ (by kernel_rfl) ⟨rfl, trivial⟩ (by kernel_rfl) rfl rfl rfl rfl rfl ?_
              rintro _ h43 ⟨r42, rfl, H⟩
              refine sim_p 16 (ei := [(52, .bool true), (53, .bool r42)]) (d := (some 54)) wf (by kernel_rfl) ⟨rfl, rfl, trivial⟩ (by kernel_rfl) (by kernel_rfl) (fun _ => pf_p tok rfl rfl rfl rfl) (fun P_16 => ?_)
              refine sim_p 17 (ei := [(54, .bool r42)]) (d := (some 4)) wf (by kernel_rfl) ⟨rfl, trivial⟩ (by kernel_rfl) (by kernel_rfl) (fun _ => pf_p tok rfl rfl rfl rfl) (fun P_17 => ?_)
              refine sim_end wf ⟨P_17 _, P_16 _, trivial, trivial, trivial, trivial, trivial, trivial, trivial, trivial, trivial, trivial, trivial, trivial, trivial, trivial⟩ (by kernel_rfl) ?_
              clear wf P_0 P_10 P_11 P_12 P_13 P_14 P_16 P_17 P_2 P_4 P_5 P_6 P_7 P_8 P_9
              exact x_join r42 H ⟨rfl, trivial⟩
            ·
              refine sim_p 15 (v := undef) (ei := [(52, .bool false)]) (d := (some 53)) wf (by kernel_rfl) ⟨rfl, trivial⟩ (by kernel_rfl) (by kernel_rfl) (fun _ => pf_s rfl rfl rfl) (fun P_15 => ?_)
              refine sim_p 16 (ei := [(52, .bool false)]) (d := (some 54)) wf (by kernel_rfl) ⟨rfl, trivial⟩ (by kernel_rfl) (by kernel_rfl) (fun _ => pf_p tok rfl rfl rfl rfl) (fun P_16 => ?_)
              refine sim_p 17 (ei := [(54, .bool false)]) (d := (some 4)) wf (by kernel_rfl) ⟨rfl, trivial⟩ (by kernel_rfl) (by kernel_rfl) (fun _ => pf_p tok rfl rfl rfl rfl) (fun P_17 => ?_)
              refine sim_end wf ⟨P_17 _, P_16 _, P_15 _, P_14 _, P_13 _, P_12 _, P_11 _, P_10 _, P_9 _, P_8 _, P_7 _, P_6 _, P_5 _, P_4 _, trivial, trivial, trivial⟩ (by kernel_rfl) ?_
              clear wf P_0 P_10 P_11 P_12 P_13 P_14 P_15 P_16 P_17 P_2 P_4 P_5 P_6 P_7 P_8 P_9
              exact x_join false H ⟨rfl, trivial⟩
    ·
      refine w_gs (d := 21) rfl (fun hb => ?_) (fun hb => ?_)
      ·
        refine w_p tok rfl rfl rfl ?_
        refine w_p tok rfl rfl rfl ?_
        refine w_p tok rfl rfl rfl ?_
        refine w_p tok rfl rfl rfl ?_
        refine w_p tok rfl rfl rfl ?_
        refine w_jn () rfl ⟨?_, rfl, rfl, rfl, rfl, trivial⟩
        exact congrArg (fun b => some (Value.bool b)) (and_t hb)
      ·
        refine w_skip rfl rfl ?_
        refine w_skip rfl rfl ?_
        refine w_skip rfl rfl ?_
        refine w_skip rfl rfl ?_
        refine w_p tok rfl rfl rfl ?_
        refine w_jn () rfl ⟨?_, rfl, rfl, rfl, rfl, trivial⟩
        exact congrArg (fun b => some (Value.bool b)) (and_f hb)
end Go.Q.Yb

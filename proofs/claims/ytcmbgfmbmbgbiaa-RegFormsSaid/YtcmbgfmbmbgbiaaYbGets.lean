/- A part of the proof of statements of this seat: lemmas, no statement of their own. -/
import Derived.Test.YtcmbgfmbmbgbiaaYbTab
import Derived.Test.YtcmbgfmbmbgbiaaYbPack
set_option linter.unusedVariables false
set_option maxRecDepth 100000
set_option maxHeartbeats 1000000
namespace Go.Q.Yb
/-- quaestor quaestorref01.Lent -/
def ref01_Lent_j2 (t0_2 : Slc) (t3_2 : Slc) (t4_2 : Int) (k : (Slc) → Heap → Prop) (nx1 : (Int) → Heap → Prop) (h_2 : Heap) : Prop :=
  ∃ x3 : Int, x3 = (IntKind.i64.wrap (t4_2 + 1)) ∧ (nx1 x3 h_2)
def ref01_Lent_l1b (t0_1 : Slc) (t3_1 : Slc) (t4_1 : Int) (k : (Slc) → Heap → Prop) (nx1 : (Int) → Heap → Prop) (h_1 : Heap) : Prop :=
  if (decide (t4_1 < (t3_1.len : Int))) then (if (decide (t4_1 < (t0_1.len : Int))) then (∃ a4 : Addr, t0_1.a = some a4 ∧ (0 : Int) ≤ t4_1 ∧ t4_1 < (t0_1.len : Int) ∧ (∃ v5 : Int, cellH h_1 (a4.add (t4_1.toNat * 1)) = some (.int .u8 v5) ∧ (∃ a6 : Addr, t3_1.a = some a6 ∧ (0 : Int) ≤ t4_1 ∧ t4_1 < (t3_1.len : Int) ∧ (∃ h7 : Heap, WrH h_1 (a6.add (t4_1.toNat * 1)) ∧ h7 = setH h_1 (a6.add (t4_1.toNat * 1)) (.int .u8 v5) ∧ (ref01_Lent_j2 t0_1 t3_1 t4_1 k nx1 h7))))) else (∃ a8 : Addr, t3_1.a = some a8 ∧ (0 : Int) ≤ t4_1 ∧ t4_1 < (t3_1.len : Int) ∧ (∃ h9 : Heap, WrH h_1 (a8.add (t4_1.toNat * 1)) ∧ h9 = setH h_1 (a8.add (t4_1.toNat * 1)) (.int .u8 165) ∧ (ref01_Lent_j2 t0_1 t3_1 t4_1 k nx1 h9)))) else (∃ s10 : Slc, (0 : Int) ≤ 0 ∧ (0 : Int) ≤ (t0_1.len : Int) ∧ ((t0_1.len : Int) : Int) ≤ (t3_1.cap : Int) ∧ (t3_1.cap : Int) ≤ (t3_1.cap : Int) ∧ s10 = subS t3_1 1 (0 : Int).toNat (t0_1.len : Int).toNat (t3_1.cap : Int).toNat ∧ (k s10 h_1))
def ref01_Lent_l1 (t0_1 : Slc) (t3_1 : Slc) (i4 : Int) (k : (Slc) → Heap → Prop) (h : Heap) : Prop :=
  ∃ (I : Int → Heap → Prop) (μ : Int → Heap → Nat), I i4 h ∧ ∀ (t4_1 : Int) (h : Heap), I t4_1 h → ref01_Lent_l1b t0_1 t3_1 t4_1 k (fun s h' => I s h' ∧ μ s h' < μ t4_1 h) h
def ref01_Lent (p0 : Slc) (k : (Slc) → Heap → Prop) (h : Heap) : Prop :=
  ∃ (b1 : Nat) (h2 : Heap), (0 : Int) ≤ (IntKind.i64.wrap ((p0.len : Int) + 8)) ∧ ((IntKind.i64.wrap ((p0.len : Int) + 8)) : Int) ≤ (IntKind.i64.wrap ((p0.len : Int) + 8)) ∧ ((IntKind.i64.wrap ((p0.len : Int) + 8)) : Int) * 1 ≤ 281474976710656 ∧ ((IntKind.i64.wrap ((p0.len : Int) + 8)) : Int) ≤ 9223372036854775807 ∧ b1 = h.size ∧ h2 = h.push (.cells (zrow [.int .u8 0] (IntKind.i64.wrap ((p0.len : Int) + 8)).toNat).toArray 5) ∧ (ref01_Lent_l1 p0 (⟨some ⟨b1, 0, none⟩, (IntKind.i64.wrap ((p0.len : Int) + 8)).toNat, (IntKind.i64.wrap ((p0.len : Int) + 8)).toNat⟩ : Slc) 0 k h2)

/-- (*quaestor pack.reader).bytes -/
def pack_reader_bytes_g1 (t0_1 : Option Addr) (t1_1 : Int) (t19_1 : Bool) (k : (Slc) → Heap → Prop) (h_1 : Heap) : Prop :=
  if t19_1 then (∃ a3 : Addr, t0_1 = some a3 ∧ (∃ h4 : Heap, WrH h_1 (a3.add 1) ∧ h4 = setH h_1 (a3.add 1) (.bool true) ∧ (k (⟨none, 0, 0⟩ : Slc) h4))) else (∃ a5 : Addr, t0_1 = some a5 ∧ (∃ v6 : Slc, cellH h_1 a5 = some (Slc.v v6) ∧ (∃ s7 : Slc, (0 : Int) ≤ 0 ∧ (0 : Int) ≤ t1_1 ∧ (t1_1 : Int) ≤ (v6.cap : Int) ∧ (v6.cap : Int) ≤ (v6.cap : Int) ∧ s7 = subS v6 1 (0 : Int).toNat t1_1.toNat (v6.cap : Int).toNat ∧ (∃ v8 : Slc, cellH h_1 a5 = some (Slc.v v8) ∧ (∃ s9 : Slc, (0 : Int) ≤ t1_1 ∧ (t1_1 : Int) ≤ (v8.len : Int) ∧ ((v8.len : Int) : Int) ≤ (v8.cap : Int) ∧ (v8.cap : Int) ≤ (v8.cap : Int) ∧ s9 = subS v8 1 t1_1.toNat (v8.len : Int).toNat (v8.cap : Int).toNat ∧ (∃ h10 : Heap, WrH h_1 a5 ∧ h10 = setH h_1 a5 (Slc.v s9) ∧ (k s7 h10)))))))
def pack_reader_bytes (p0 : Option Addr) (p1 : Int) (k : (Slc) → Heap → Prop) (h : Heap) : Prop :=
  ∃ a1 : Addr, p0 = some a1 ∧ (∃ v2 : Bool, cellH h (a1.add 1) = some (.bool v2) ∧ (if v2 then (pack_reader_bytes_g1 p0 p1 true k h) else (∃ v11 : Slc, cellH h a1 = some (Slc.v v11) ∧ (pack_reader_bytes_g1 p0 p1 (decide (p1 > (IntKind.u64.wrap (v11.len : Int)))) k h))))

/-- quaestor num.Get -/
def num_Get_l1b (t0_1 : Slc) (t6_1 : Int) (t7_1 : Int) (k : (Int × Int) → Heap → Prop) (nx1 : (Int × Int) → Heap → Prop) (h_1 : Heap) : Prop :=
  if (decide (t7_1 ≥ 0)) then (∃ a2 : Addr, t0_1.a = some a2 ∧ (0 : Int) ≤ t7_1 ∧ t7_1 < (t0_1.len : Int) ∧ (∃ v3 : Int, cellH h_1 (a2.add (t7_1.toNat * 1)) = some (.int .u8 v3) ∧ (∃ x4 : Int, x4 = (bwOr .u64 (shl .u64 t6_1 (8 : Int).toNat) (IntKind.u64.wrap v3)) ∧ (∃ x5 : Int, x5 = (IntKind.i64.wrap (t7_1 - 1)) ∧ (nx1 (x4, x5) h_1))))) else (k (t6_1, 0) h_1)
def num_Get_l1 (t0_1 : Slc) (i6 : Int) (i7 : Int) (k : (Int × Int) → Heap → Prop) (h : Heap) : Prop :=
  ∃ (I : (Int × Int) → Heap → Prop) (μ : (Int × Int) → Heap → Nat), I (i6, i7) h ∧ ∀ (t6_1 : Int) (t7_1 : Int) (h : Heap), I (t6_1, t7_1) h → num_Get_l1b t0_1 t6_1 t7_1 k (fun s h' => I s h' ∧ μ s h' < μ (t6_1, t7_1) h) h
def num_Get (p0 : Slc) (p1 : Int) (k : (Int × Int) → Heap → Prop) (h : Heap) : Prop :=
  if ((decide (p1 < 1)) || (decide (p1 > 8))) then (k (0, 1) h) else (if (decide ((p0.len : Int) < p1)) then (k (0, 2) h) else (∃ x1 : Int, x1 = (IntKind.i64.wrap (p1 - 1)) ∧ (num_Get_l1 p0 0 x1 k h)))

/-- (*quaestor pack.reader).number -/
def pack_reader_number (p0 : Option Addr) (p1 : Int) (k : (Int) → Heap → Prop) (h : Heap) : Prop :=
  pack_reader_bytes p0 (IntKind.u64.wrap p1) (fun (r1 : Slc) h2 => num_Get r1 p1 (fun (r3 : Int × Int) h4 => k r3.1 h4) h2) h

/-- quaestor num.GetShort -/
def num_GetShort_l1b (t7_1 : Slc) (t8_1 : Int) (t2_1 : Int) (t9_1 : Int) (k : (Int × Int × Int) → Heap → Prop) (nx1 : (Int × Int) → Heap → Prop) (h_1 : Heap) : Prop :=
  if (decide (t9_1 < t8_1)) then (∃ a1 : Addr, t7_1.a = some a1 ∧ (0 : Int) ≤ t9_1 ∧ t9_1 < (t7_1.len : Int) ∧ (∃ v2 : Int, cellH h_1 (a1.add (t9_1.toNat * 1)) = some (.int .u8 v2) ∧ (if ((t9_1 == 9) && (decide (v2 > 1))) then (k (0, 0, 4) h_1) else ((0 : Int) ≤ (IntKind.u64.wrap (7 * (IntKind.u64.wrap t9_1))) ∧ (∃ x4 : Int, x4 = (bwOr .u64 t2_1 (shl .u64 (IntKind.u64.wrap (bwAnd .u8 v2 127)) (IntKind.u64.wrap (7 * (IntKind.u64.wrap t9_1))).toNat)) ∧ (if (decide (v2 ≥ 128)) then (nx1 (x4, (IntKind.i64.wrap (t9_1 + 1))) h_1) else (if ((v2 == 0) && (decide (t9_1 > 0))) then (k (0, 0, 4) h_1) else (∃ x5 : Int, x5 = (IntKind.i64.wrap (t9_1 + 1)) ∧ (k (x4, x5, 0) h_1))))))))) else (k (0, 0, 2) h_1)
def num_GetShort_l1 (t7_1 : Slc) (t8_1 : Int) (i2 : Int) (i9 : Int) (k : (Int × Int × Int) → Heap → Prop) (h : Heap) : Prop :=
  ∃ (I : (Int × Int) → Heap → Prop) (μ : (Int × Int) → Heap → Nat), I (i2, i9) h ∧ ∀ (t2_1 : Int) (t9_1 : Int) (h : Heap), I (t2_1, t9_1) h → num_GetShort_l1b t7_1 t8_1 t2_1 t9_1 k (fun s h' => I s h' ∧ μ s h' < μ (t2_1, t9_1) h) h
def num_GetShort (p0 : Slc) (k : (Int × Int × Int) → Heap → Prop) (h : Heap) : Prop :=
  num_GetShort_l1 p0 (p0.len : Int) 0 0 k h

/-- (*quaestor pack.reader).short -/
def pack_reader_short (p0 : Option Addr) (k : (Int) → Heap → Prop) (h : Heap) : Prop :=
  ∃ a1 : Addr, p0 = some a1 ∧ (∃ v2 : Slc, cellH h a1 = some (Slc.v v2) ∧ (num_GetShort v2 (fun (r3 : Int × Int × Int) h4 => ∃ v5 : Bool, cellH h4 (a1.add 1) = some (.bool v5) ∧ (∃ h6 : Heap, WrH h4 (a1.add 1) ∧ h6 = setH h4 (a1.add 1) (.bool (v5 || (r3.2.2 != 0))) ∧ (∃ v7 : Slc, cellH h6 a1 = some (Slc.v v7) ∧ (∃ s8 : Slc, (0 : Int) ≤ r3.2.1 ∧ (r3.2.1 : Int) ≤ (v7.len : Int) ∧ ((v7.len : Int) : Int) ≤ (v7.cap : Int) ∧ (v7.cap : Int) ≤ (v7.cap : Int) ∧ s8 = subS v7 1 r3.2.1.toNat (v7.len : Int).toNat (v7.cap : Int).toNat ∧ (∃ h9 : Heap, WrH h6 a1 ∧ h9 = setH h6 a1 (Slc.v s8) ∧ (k r3.1 h9)))))) h))

/-- (*quaestor pack.reader).text -/
def pack_reader_text (p0 : Option Addr) (k : (ByteArray) → Heap → Prop) (h : Heap) : Prop :=
  pack_reader_short p0 (fun (r1 : Int) h2 => pack_reader_bytes p0 r1 (fun (r3 : Slc) h4 => ∃ l5 : List Int, l5.length = r3.len ∧ SlcAt h4 r3 (b8 l5) ∧ (k (bsOf l5) h4)) h2) h

/-- (*quaestor pack.reader).id -/
def pack_reader_id (p0 : Option Addr) (k : (S_api_Id) → Heap → Prop) (h : Heap) : Prop :=
  ∃ (b1 : Nat) (h2 : Heap), b1 = h.size ∧ h2 = h.push (.cells (S_api_Id.cs (⟨0, 0⟩ : S_api_Id)).toArray 48) ∧ (pack_reader_number p0 8 (fun (r3 : Int) h4 => pack_reader_number p0 2 (fun (r5 : Int) h6 => ∃ h7 : Heap, WrsAt h6 (⟨b1, 0, none⟩ : Addr) 2 ∧ h7 = setsH h6 (⟨b1, 0, none⟩ : Addr) 0 (S_api_Id.cs (⟨r3, (IntKind.u16.wrap r5)⟩ : S_api_Id)) ∧ (∃ v8 : S_api_Id, CellsAt h7 (⟨b1, 0, none⟩ : Addr) (S_api_Id.cs v8) ∧ k v8 h7)) h4) h2)

/-- (*quaestor pack.reader).pieces -/
def pack_reader_pieces_g2 (t0_2 : Option Addr) (t3_2 : Slc) (t4_2 : Int) (t16_2 : Bool) (k : (Slc) → Heap → Prop) (nx1 : (Slc × Int) → Heap → Prop) (h_2 : Heap) : Prop :=
  if (t16_2 && (decide ((t3_2.len : Int) ≤ 32))) then (pack_reader_text t0_2 (fun (r3 : ByteArray) h4 => pack_reader_number t0_2 8 (fun (r5 : Int) h6 => pack_reader_number t0_2 8 (fun (r7 : Int) h8 => ∃ (b9 : Nat) (h10 : Heap), b9 = h8.size ∧ h10 = h8.push (.cells (S_api_Piece.cs (⟨ByteArray.empty, 0, 0, (⟨0, 0⟩ : S_api_Id)⟩ : S_api_Piece)).toArray 50) ∧ (∃ h11 : Heap, WrsAt h10 (⟨b9, 0, none⟩ : Addr) 5 ∧ h11 = setsH h10 (⟨b9, 0, none⟩ : Addr) 0 (S_api_Piece.cs (⟨r3, (IntKind.i64.wrap r5), (IntKind.i64.wrap r7), (⟨0, 0⟩ : S_api_Id)⟩ : S_api_Piece)) ∧ (pack_reader_id t0_2 (fun (r12 : S_api_Id) h13 => ∃ h14 : Heap, WrsAt h13 ((⟨b9, 0, none⟩ : Addr).add 3) 2 ∧ h14 = setsH h13 ((⟨b9, 0, none⟩ : Addr).add 3) 0 (S_api_Id.cs r12) ∧ (∃ v15 : S_api_Piece, CellsAt h14 (⟨b9, 0, none⟩ : Addr) (S_api_Piece.cs v15) ∧ (∃ (b16 : Nat) (h17 : Heap), b16 = h14.size ∧ h17 = h14.push (.cells ((S_api_Piece.cs v15)).toArray 50) ∧ (App 50 5 48 [.string ByteArray.empty, .int .i64 0, .int .i64 0, .int .u64 0, .int .u16 0] h17 t3_2 1 ((S_api_Piece.cs v15)) (fun s18 h19 => ∃ x20 : Int, x20 = (IntKind.u64.wrap (t4_2 - 1)) ∧ (nx1 (s18, x20) h19)))))) h11))) h6) h4) h_2) else (k t3_2 h_2)
def pack_reader_pieces_l1b (t0_1 : Option Addr) (t3_1 : Slc) (t4_1 : Int) (k : (Slc) → Heap → Prop) (nx1 : (Slc × Int) → Heap → Prop) (h_1 : Heap) : Prop :=
  if (decide (t4_1 > 0)) then (∃ a21 : Addr, t0_1 = some a21 ∧ (∃ v22 : Bool, cellH h_1 (a21.add 1) = some (.bool v22) ∧ (pack_reader_pieces_g2 t0_1 t3_1 t4_1 (!v22) k nx1 h_1))) else (pack_reader_pieces_g2 t0_1 t3_1 t4_1 false k nx1 h_1)
def pack_reader_pieces_l1 (t0_1 : Option Addr) (i3 : Slc) (i4 : Int) (k : (Slc) → Heap → Prop) (h : Heap) : Prop :=
  ∃ (I : (Slc × Int) → Heap → Prop) (μ : (Slc × Int) → Heap → Nat), I (i3, i4) h ∧ ∀ (t3_1 : Slc) (t4_1 : Int) (h : Heap), I (t3_1, t4_1) h → pack_reader_pieces_l1b t0_1 t3_1 t4_1 k (fun s h' => I s h' ∧ μ s h' < μ (t3_1, t4_1) h) h
def pack_reader_pieces (p0 : Option Addr) (k : (Slc) → Heap → Prop) (h : Heap) : Prop :=
  pack_reader_short p0 (fun (r1 : Int) h2 => pack_reader_pieces_l1 p0 (⟨none, 0, 0⟩ : Slc) r1 k h2) h

/-- (*quaestor pack.reader).query -/
def pack_reader_query (p0 : Option Addr) (k : (S_api_Query) → Heap → Prop) (h : Heap) : Prop :=
  ∃ (b1 : Nat) (h2 : Heap), b1 = h.size ∧ h2 = h.push (.cells (S_api_Query.cs (⟨ByteArray.empty, 0, 0, 0, 0⟩ : S_api_Query)).toArray 26) ∧ (pack_reader_text p0 (fun (r3 : ByteArray) h4 => pack_reader_number p0 8 (fun (r5 : Int) h6 => pack_reader_number p0 8 (fun (r7 : Int) h8 => ∃ (b9 : Nat) (h10 : Heap), b9 = h8.size ∧ h10 = h8.push (.cells (S_api_Query.cs (⟨ByteArray.empty, 0, 0, 0, 0⟩ : S_api_Query)).toArray 26) ∧ (∃ h11 : Heap, WrsAt h10 (⟨b9, 0, none⟩ : Addr) 5 ∧ h11 = setsH h10 (⟨b9, 0, none⟩ : Addr) 0 (S_api_Query.cs (⟨r3, (IntKind.i64.wrap r5), (IntKind.i64.wrap r7), 0, 0⟩ : S_api_Query)) ∧ (pack_reader_number p0 8 (fun (r12 : Int) h13 => ∃ h14 : Heap, WrH h13 ((⟨b9, 0, none⟩ : Addr).add 4) ∧ h14 = setH h13 ((⟨b9, 0, none⟩ : Addr).add 4) (.int .i64 (IntKind.i64.wrap r12)) ∧ (pack_reader_number p0 1 (fun (r15 : Int) h16 => ∃ h17 : Heap, WrH h16 ((⟨b9, 0, none⟩ : Addr).add 3) ∧ h17 = setH h16 ((⟨b9, 0, none⟩ : Addr).add 3) (.int .i64 (IntKind.i64.wrap r15)) ∧ (∃ v18 : S_api_Query, CellsAt h17 (⟨b9, 0, none⟩ : Addr) (S_api_Query.cs v18) ∧ (∃ h19 : Heap, WrsAt h17 (⟨b1, 0, none⟩ : Addr) 5 ∧ h19 = setsH h17 (⟨b1, 0, none⟩ : Addr) 0 (S_api_Query.cs v18) ∧ (∃ v20 : S_api_Query, CellsAt h19 (⟨b1, 0, none⟩ : Addr) (S_api_Query.cs v20) ∧ k v20 h19)))) h14)) h11))) h6) h4) h2)

/-- (*quaestor reg.reader).bytes -/
def reg_reader_bytes_g1 (t0_1 : Option Addr) (t1_1 : Int) (t19_1 : Bool) (k : (Slc) → Heap → Prop) (h_1 : Heap) : Prop :=
  if t19_1 then (∃ a3 : Addr, t0_1 = some a3 ∧ (∃ h4 : Heap, WrH h_1 (a3.add 1) ∧ h4 = setH h_1 (a3.add 1) (.bool true) ∧ (k (⟨none, 0, 0⟩ : Slc) h4))) else (∃ a5 : Addr, t0_1 = some a5 ∧ (∃ v6 : Slc, cellH h_1 a5 = some (Slc.v v6) ∧ (∃ s7 : Slc, (0 : Int) ≤ 0 ∧ (0 : Int) ≤ t1_1 ∧ (t1_1 : Int) ≤ (v6.cap : Int) ∧ (v6.cap : Int) ≤ (v6.cap : Int) ∧ s7 = subS v6 1 (0 : Int).toNat t1_1.toNat (v6.cap : Int).toNat ∧ (∃ v8 : Slc, cellH h_1 a5 = some (Slc.v v8) ∧ (∃ s9 : Slc, (0 : Int) ≤ t1_1 ∧ (t1_1 : Int) ≤ (v8.len : Int) ∧ ((v8.len : Int) : Int) ≤ (v8.cap : Int) ∧ (v8.cap : Int) ≤ (v8.cap : Int) ∧ s9 = subS v8 1 t1_1.toNat (v8.len : Int).toNat (v8.cap : Int).toNat ∧ (∃ h10 : Heap, WrH h_1 a5 ∧ h10 = setH h_1 a5 (Slc.v s9) ∧ (k s7 h10)))))))
def reg_reader_bytes (p0 : Option Addr) (p1 : Int) (k : (Slc) → Heap → Prop) (h : Heap) : Prop :=
  ∃ a1 : Addr, p0 = some a1 ∧ (∃ v2 : Bool, cellH h (a1.add 1) = some (.bool v2) ∧ (if v2 then (reg_reader_bytes_g1 p0 p1 true k h) else (∃ v11 : Slc, cellH h a1 = some (Slc.v v11) ∧ (reg_reader_bytes_g1 p0 p1 (decide (p1 > (IntKind.u64.wrap (v11.len : Int)))) k h))))

/-- (*quaestor reg.reader).number -/
def reg_reader_number (p0 : Option Addr) (p1 : Int) (k : (Int) → Heap → Prop) (h : Heap) : Prop :=
  reg_reader_bytes p0 (IntKind.u64.wrap p1) (fun (r1 : Slc) h2 => num_Get r1 p1 (fun (r3 : Int × Int) h4 => k r3.1 h4) h2) h

/-- (*quaestor reg.reader).short -/
def reg_reader_short (p0 : Option Addr) (k : (Int) → Heap → Prop) (h : Heap) : Prop :=
  ∃ a1 : Addr, p0 = some a1 ∧ (∃ v2 : Slc, cellH h a1 = some (Slc.v v2) ∧ (num_GetShort v2 (fun (r3 : Int × Int × Int) h4 => ∃ v5 : Bool, cellH h4 (a1.add 1) = some (.bool v5) ∧ (∃ h6 : Heap, WrH h4 (a1.add 1) ∧ h6 = setH h4 (a1.add 1) (.bool (v5 || (r3.2.2 != 0))) ∧ (∃ v7 : Slc, cellH h6 a1 = some (Slc.v v7) ∧ (∃ s8 : Slc, (0 : Int) ≤ r3.2.1 ∧ (r3.2.1 : Int) ≤ (v7.len : Int) ∧ ((v7.len : Int) : Int) ≤ (v7.cap : Int) ∧ (v7.cap : Int) ≤ (v7.cap : Int) ∧ s8 = subS v7 1 r3.2.1.toNat (v7.len : Int).toNat (v7.cap : Int).toNat ∧ (∃ h9 : Heap, WrH h6 a1 ∧ h9 = setH h6 a1 (Slc.v s8) ∧ (k r3.1 h9)))))) h))

/-- (*quaestor reg.reader).text -/
def reg_reader_text (p0 : Option Addr) (k : (ByteArray) → Heap → Prop) (h : Heap) : Prop :=
  reg_reader_short p0 (fun (r1 : Int) h2 => reg_reader_bytes p0 r1 (fun (r3 : Slc) h4 => ∃ l5 : List Int, l5.length = r3.len ∧ SlcAt h4 r3 (b8 l5) ∧ (k (bsOf l5) h4)) h2) h

/-- (*quaestor reg.reader).nonce -/
def reg_reader_nonce (p0 : Option Addr) (k : (List Int) → Heap → Prop) (h : Heap) : Prop :=
  ∃ (b1 : Nat) (h2 : Heap), b1 = h.size ∧ h2 = h.push (.cells (arr 12 .u8 ([] : List Int)).toArray 29) ∧ (∃ (b3 : Nat) (h4 : Heap), b3 = h2.size ∧ h4 = h2.push (.cells (arr 12 .u8 ([] : List Int)).toArray 29) ∧ (∃ s5 : Slc, (0 : Int) ≤ 0 ∧ 0 ≤ (12 : Int) ∧ 12 ≤ (12 : Int) ∧ s5 = subS ⟨some (⟨b3, 0, none⟩ : Addr), 12, 12⟩ 1 (0 : Int).toNat (12 : Int).toNat 12 ∧ (reg_reader_bytes p0 12 (fun (r6 : Slc) h7 => ∃ l8 : List Value, Cpy 1 h7 s5 r6 l8 (fun h9 => ∃ v10 : List Int, CellsAt h9 (⟨b3, 0, none⟩ : Addr) (arr 12 .u8 v10) ∧ (∃ h11 : Heap, WrsAt h9 (⟨b1, 0, none⟩ : Addr) 12 ∧ h11 = setsH h9 (⟨b1, 0, none⟩ : Addr) 0 (arr 12 .u8 v10) ∧ (∃ v12 : List Int, CellsAt h11 (⟨b1, 0, none⟩ : Addr) (arr 12 .u8 v12) ∧ k v12 h11)))) h4)))

/-- quaestor num.Zag -/
def num_Zag (p0 : Int) (k : (Int) → Heap → Prop) (h : Heap) : Prop :=
  ∃ x1 : Int, x1 = (bwXor .i64 (IntKind.i64.wrap (shr .u64 p0 (1 : Int).toNat)) (IntKind.i64.wrap (0 - (IntKind.i64.wrap (bwAnd .u64 p0 1))))) ∧ (k x1 h)

/-- quaestor reg.Get -/
def reg_Get_g1 (t2_1 : Addr) (t5_1 : Addr) (t39_1 : Bool) (k : (S_api_Command × Int) → Heap → Prop) (h_1 : Heap) : Prop :=
  if t39_1 then (∃ h27 : Heap, WrsAt h_1 t2_1 17 ∧ h27 = setsH h_1 t2_1 0 (S_api_Command.cs (⟨0, ByteArray.empty, 0, ([] : List Int), (⟨none, 0, 0⟩ : Slc), 0⟩ : S_api_Command)) ∧ (∃ v28 : S_api_Command, CellsAt h27 t2_1 (S_api_Command.cs v28) ∧ k (v28, 4) h27)) else (∃ v29 : S_api_Command, CellsAt h_1 t5_1 (S_api_Command.cs v29) ∧ (∃ h30 : Heap, WrsAt h_1 t2_1 17 ∧ h30 = setsH h_1 t2_1 0 (S_api_Command.cs v29) ∧ (∃ v31 : S_api_Command, CellsAt h30 t2_1 (S_api_Command.cs v31) ∧ k (v31, 0) h30)))
def reg_Get (p0 : Slc) (k : (S_api_Command × Int) → Heap → Prop) (h : Heap) : Prop :=
  ∃ (b1 : Nat) (h2 : Heap), b1 = h.size ∧ h2 = h.push (.cells (S_api_Command.cs (⟨0, ByteArray.empty, 0, ([] : List Int), (⟨none, 0, 0⟩ : Slc), 0⟩ : S_api_Command)).toArray 32) ∧ (∃ (b3 : Nat) (h4 : Heap), b3 = h2.size ∧ h4 = h2.push (.cells (S_reg_reader.cs (⟨p0, false⟩ : S_reg_reader)).toArray 155) ∧ (reg_reader_number (some (⟨b3, 0, none⟩ : Addr)) 1 (fun (r5 : Int) h6 => reg_reader_text (some (⟨b3, 0, none⟩ : Addr)) (fun (r7 : ByteArray) h8 => reg_reader_number (some (⟨b3, 0, none⟩ : Addr)) 4 (fun (r9 : Int) h10 => reg_reader_nonce (some (⟨b3, 0, none⟩ : Addr)) (fun (r11 : List Int) h12 => ∃ (b13 : Nat) (h14 : Heap), b13 = h12.size ∧ h14 = h12.push (.cells (S_api_Command.cs (⟨0, ByteArray.empty, 0, ([] : List Int), (⟨none, 0, 0⟩ : Slc), 0⟩ : S_api_Command)).toArray 32) ∧ (∃ h15 : Heap, WrsAt h14 (⟨b13, 0, none⟩ : Addr) 17 ∧ h15 = setsH h14 (⟨b13, 0, none⟩ : Addr) 0 (S_api_Command.cs (⟨(IntKind.i64.wrap r5), r7, (IntKind.u32.wrap r9), r11, (⟨none, 0, 0⟩ : Slc), 0⟩ : S_api_Command)) ∧ (reg_reader_text (some (⟨b3, 0, none⟩ : Addr)) (fun (r16 : ByteArray) h17 => r16.size ≤ maxLen ∧ S2B 5 h17 r16 (fun s18 h19 => ∃ h20 : Heap, WrH h19 ((⟨b13, 0, none⟩ : Addr).add 15) ∧ h20 = setH h19 ((⟨b13, 0, none⟩ : Addr).add 15) (Slc.v s18) ∧ (reg_reader_number (some (⟨b3, 0, none⟩ : Addr)) 8 (fun (r21 : Int) h22 => num_Zag r21 (fun (r23 : Int) h24 => ∃ h25 : Heap, WrH h24 ((⟨b13, 0, none⟩ : Addr).add 16) ∧ h25 = setH h24 ((⟨b13, 0, none⟩ : Addr).add 16) (.int .i64 r23) ∧ (∃ v26 : Bool, cellH h25 ((⟨b3, 0, none⟩ : Addr).add 1) = some (.bool v26) ∧ (if v26 then (reg_Get_g1 (⟨b1, 0, none⟩ : Addr) (⟨b13, 0, none⟩ : Addr) true k h25) else (∃ v32 : Slc, cellH h25 (⟨b3, 0, none⟩ : Addr) = some (Slc.v v32) ∧ (reg_Get_g1 (⟨b1, 0, none⟩ : Addr) (⟨b13, 0, none⟩ : Addr) (decide ((v32.len : Int) > 0)) k h25))))) h22) h20))) h15))) h10) h8) h6) h4))

/-- (*quaestor pack.reader).ids -/
def pack_reader_ids_g2 (t0_2 : Option Addr) (t3_2 : Slc) (t4_2 : Int) (t15_2 : Bool) (k : (Slc) → Heap → Prop) (nx1 : (Slc × Int) → Heap → Prop) (h_2 : Heap) : Prop :=
  if (t15_2 && (decide ((t3_2.len : Int) ≤ 64))) then (pack_reader_id t0_2 (fun (r3 : S_api_Id) h4 => ∃ (b5 : Nat) (h6 : Heap), b5 = h4.size ∧ h6 = h4.push (.cells ((S_api_Id.cs r3)).toArray 48) ∧ (App 48 2 16 [.int .u64 0, .int .u16 0] h6 t3_2 1 ((S_api_Id.cs r3)) (fun s7 h8 => ∃ x9 : Int, x9 = (IntKind.u64.wrap (t4_2 - 1)) ∧ (nx1 (s7, x9) h8)))) h_2) else (k t3_2 h_2)
def pack_reader_ids_l1b (t0_1 : Option Addr) (t3_1 : Slc) (t4_1 : Int) (k : (Slc) → Heap → Prop) (nx1 : (Slc × Int) → Heap → Prop) (h_1 : Heap) : Prop :=
  if (decide (t4_1 > 0)) then (∃ a10 : Addr, t0_1 = some a10 ∧ (∃ v11 : Bool, cellH h_1 (a10.add 1) = some (.bool v11) ∧ (pack_reader_ids_g2 t0_1 t3_1 t4_1 (!v11) k nx1 h_1))) else (pack_reader_ids_g2 t0_1 t3_1 t4_1 false k nx1 h_1)
def pack_reader_ids_l1 (t0_1 : Option Addr) (i3 : Slc) (i4 : Int) (k : (Slc) → Heap → Prop) (h : Heap) : Prop :=
  ∃ (I : (Slc × Int) → Heap → Prop) (μ : (Slc × Int) → Heap → Nat), I (i3, i4) h ∧ ∀ (t3_1 : Slc) (t4_1 : Int) (h : Heap), I (t3_1, t4_1) h → pack_reader_ids_l1b t0_1 t3_1 t4_1 k (fun s h' => I s h' ∧ μ s h' < μ (t3_1, t4_1) h) h
def pack_reader_ids (p0 : Option Addr) (k : (Slc) → Heap → Prop) (h : Heap) : Prop :=
  pack_reader_short p0 (fun (r1 : Int) h2 => pack_reader_ids_l1 p0 (⟨none, 0, 0⟩ : Slc) r1 k h2) h

/-- (*quaestor raft.reader).bytes -/
def raft_reader_bytes_g1 (t0_1 : Option Addr) (t1_1 : Int) (t19_1 : Bool) (k : (Slc) → Heap → Prop) (h_1 : Heap) : Prop :=
  if t19_1 then (∃ a3 : Addr, t0_1 = some a3 ∧ (∃ h4 : Heap, WrH h_1 (a3.add 1) ∧ h4 = setH h_1 (a3.add 1) (.bool true) ∧ (k (⟨none, 0, 0⟩ : Slc) h4))) else (∃ a5 : Addr, t0_1 = some a5 ∧ (∃ v6 : Slc, cellH h_1 a5 = some (Slc.v v6) ∧ (∃ s7 : Slc, (0 : Int) ≤ 0 ∧ (0 : Int) ≤ t1_1 ∧ (t1_1 : Int) ≤ (v6.cap : Int) ∧ (v6.cap : Int) ≤ (v6.cap : Int) ∧ s7 = subS v6 1 (0 : Int).toNat t1_1.toNat (v6.cap : Int).toNat ∧ (slices_Clone_byte_byte s7 (fun (r8 : Slc) h9 => ∃ v10 : Slc, cellH h9 a5 = some (Slc.v v10) ∧ (∃ s11 : Slc, (0 : Int) ≤ t1_1 ∧ (t1_1 : Int) ≤ (v10.len : Int) ∧ ((v10.len : Int) : Int) ≤ (v10.cap : Int) ∧ (v10.cap : Int) ≤ (v10.cap : Int) ∧ s11 = subS v10 1 t1_1.toNat (v10.len : Int).toNat (v10.cap : Int).toNat ∧ (∃ h12 : Heap, WrH h9 a5 ∧ h12 = setH h9 a5 (Slc.v s11) ∧ (k r8 h12)))) h_1))))
def raft_reader_bytes (p0 : Option Addr) (p1 : Int) (k : (Slc) → Heap → Prop) (h : Heap) : Prop :=
  ∃ a1 : Addr, p0 = some a1 ∧ (∃ v2 : Bool, cellH h (a1.add 1) = some (.bool v2) ∧ (if v2 then (raft_reader_bytes_g1 p0 p1 true k h) else (∃ v13 : Slc, cellH h a1 = some (Slc.v v13) ∧ (raft_reader_bytes_g1 p0 p1 (decide (p1 > (IntKind.u64.wrap (v13.len : Int)))) k h))))

/-- (*quaestor raft.reader).byte -/
def raft_reader_byte (p0 : Option Addr) (k : (Int) → Heap → Prop) (h : Heap) : Prop :=
  raft_reader_bytes p0 1 (fun (r1 : Slc) h2 => if ((r1.len : Int) == 0) then (k 0 h2) else (∃ a3 : Addr, r1.a = some a3 ∧ (0 : Int) ≤ 0 ∧ 0 < (r1.len : Int) ∧ (∃ v4 : Int, cellH h2 (a3.add ((0 : Int).toNat * 1)) = some (.int .u8 v4) ∧ (k v4 h2)))) h

/-- (*quaestor raft.reader).short -/
def raft_reader_short (p0 : Option Addr) (k : (Int) → Heap → Prop) (h : Heap) : Prop :=
  ∃ a1 : Addr, p0 = some a1 ∧ (∃ v2 : Slc, cellH h a1 = some (Slc.v v2) ∧ (num_GetShort v2 (fun (r3 : Int × Int × Int) h4 => ∃ v5 : Bool, cellH h4 (a1.add 1) = some (.bool v5) ∧ (∃ h6 : Heap, WrH h4 (a1.add 1) ∧ h6 = setH h4 (a1.add 1) (.bool (v5 || (r3.2.2 != 0))) ∧ (∃ v7 : Slc, cellH h6 a1 = some (Slc.v v7) ∧ (∃ s8 : Slc, (0 : Int) ≤ r3.2.1 ∧ (r3.2.1 : Int) ≤ (v7.len : Int) ∧ ((v7.len : Int) : Int) ≤ (v7.cap : Int) ∧ (v7.cap : Int) ≤ (v7.cap : Int) ∧ s8 = subS v7 1 r3.2.1.toNat (v7.len : Int).toNat (v7.cap : Int).toNat ∧ (∃ h9 : Heap, WrH h6 a1 ∧ h9 = setH h6 a1 (Slc.v s8) ∧ (k r3.1 h9)))))) h))

/-- quaestor raft.Get -/
def raft_Get_g2 (t2_2 : Addr) (t5_2 : Addr) (t80_2 : Bool) (k : (S_api_Msg × Int) → Heap → Prop) (h_2 : Heap) : Prop :=
  if t80_2 then (∃ h29 : Heap, WrsAt h_2 t2_2 8 ∧ h29 = setsH h_2 t2_2 0 (S_api_Msg.cs (⟨0, 0, 0, 0, 0, false, (⟨none, 0, 0⟩ : Slc), (⟨none, 0, 0⟩ : Slc)⟩ : S_api_Msg)) ∧ (∃ v30 : S_api_Msg, CellsAt h29 t2_2 (S_api_Msg.cs v30) ∧ k (v30, 4) h29)) else (∃ v31 : S_api_Msg, CellsAt h_2 t5_2 (S_api_Msg.cs v31) ∧ (∃ h32 : Heap, WrsAt h_2 t2_2 8 ∧ h32 = setsH h_2 t2_2 0 (S_api_Msg.cs v31) ∧ (∃ v33 : S_api_Msg, CellsAt h32 t2_2 (S_api_Msg.cs v33) ∧ k (v33, 0) h32)))
def raft_Get_j1 (t2_1 : Addr) (t4_1 : Addr) (t5_1 : Addr) (k : (S_api_Msg × Int) → Heap → Prop) (h_1 : Heap) : Prop :=
  raft_reader_short (some t4_1) (fun (r23 : Int) h24 => raft_reader_bytes (some t4_1) r23 (fun (r25 : Slc) h26 => ∃ h27 : Heap, WrH h26 (t5_1.add 7) ∧ h27 = setH h26 (t5_1.add 7) (Slc.v r25) ∧ (∃ v28 : Bool, cellH h27 (t4_1.add 1) = some (.bool v28) ∧ (if v28 then (raft_Get_g2 t2_1 t5_1 true k h27) else (∃ v34 : Slc, cellH h27 t4_1 = some (Slc.v v34) ∧ (raft_Get_g2 t2_1 t5_1 (decide ((v34.len : Int) > 0)) k h27))))) h24) h_1
def raft_Get_l3b (t2_3 : Addr) (t4_3 : Addr) (t5_3 : Addr) (t7_3 : Int) (k : (S_api_Msg × Int) → Heap → Prop) (nx3 : (Int) → Heap → Prop) (h_3 : Heap) : Prop :=
  if (decide (t7_3 > 0)) then (raft_reader_short (some t4_3) (fun (r37 : Int) h38 => ∃ (b39 : Nat) (h40 : Heap), b39 = h38.size ∧ h40 = h38.push (.cells (S_api_Entry.cs (⟨0, (⟨none, 0, 0⟩ : Slc)⟩ : S_api_Entry)).toArray 254) ∧ (∃ h41 : Heap, WrsAt h40 (⟨b39, 0, none⟩ : Addr) 2 ∧ h41 = setsH h40 (⟨b39, 0, none⟩ : Addr) 0 (S_api_Entry.cs (⟨r37, (⟨none, 0, 0⟩ : Slc)⟩ : S_api_Entry)) ∧ (raft_reader_short (some t4_3) (fun (r42 : Int) h43 => raft_reader_bytes (some t4_3) r42 (fun (r44 : Slc) h45 => ∃ h46 : Heap, WrH h45 ((⟨b39, 0, none⟩ : Addr).add 1) ∧ h46 = setH h45 ((⟨b39, 0, none⟩ : Addr).add 1) (Slc.v r44) ∧ (∃ v47 : Bool, cellH h46 (t4_3.add 1) = some (.bool v47) ∧ (if v47 then (raft_Get_j1 t2_3 t4_3 t5_3 k h46) else (∃ v48 : Slc, cellH h46 (t5_3.add 6) = some (Slc.v v48) ∧ (∃ v49 : S_api_Entry, CellsAt h46 (⟨b39, 0, none⟩ : Addr) (S_api_Entry.cs v49) ∧ (∃ (b50 : Nat) (h51 : Heap), b50 = h46.size ∧ h51 = h46.push (.cells ((S_api_Entry.cs v49)).toArray 254) ∧ (App 254 2 32 [.int .u64 0, .slice none 0 0] h51 v48 1 ((S_api_Entry.cs v49)) (fun s52 h53 => ∃ h54 : Heap, WrH h53 (t5_3.add 6) ∧ h54 = setH h53 (t5_3.add 6) (Slc.v s52) ∧ (∃ x55 : Int, x55 = (IntKind.u64.wrap (t7_3 - 1)) ∧ (nx3 x55 h54)))))))))) h43) h41))) h_3) else (raft_Get_j1 t2_3 t4_3 t5_3 k h_3)
def raft_Get_l3 (t2_3 : Addr) (t4_3 : Addr) (t5_3 : Addr) (i7 : Int) (k : (S_api_Msg × Int) → Heap → Prop) (h : Heap) : Prop :=
  ∃ (I : Int → Heap → Prop) (μ : Int → Heap → Nat), I i7 h ∧ ∀ (t7_3 : Int) (h : Heap), I t7_3 h → raft_Get_l3b t2_3 t4_3 t5_3 t7_3 k (fun s h' => I s h' ∧ μ s h' < μ t7_3 h) h
def raft_Get (p0 : Slc) (k : (S_api_Msg × Int) → Heap → Prop) (h : Heap) : Prop :=
  ∃ (b1 : Nat) (h2 : Heap), b1 = h.size ∧ h2 = h.push (.cells (S_api_Msg.cs (⟨0, 0, 0, 0, 0, false, (⟨none, 0, 0⟩ : Slc), (⟨none, 0, 0⟩ : Slc)⟩ : S_api_Msg)).toArray 40) ∧ (∃ (b3 : Nat) (h4 : Heap), b3 = h2.size ∧ h4 = h2.push (.cells (S_raft_reader.cs (⟨p0, false⟩ : S_raft_reader)).toArray 251) ∧ (raft_reader_byte (some (⟨b3, 0, none⟩ : Addr)) (fun (r5 : Int) h6 => raft_reader_short (some (⟨b3, 0, none⟩ : Addr)) (fun (r7 : Int) h8 => raft_reader_short (some (⟨b3, 0, none⟩ : Addr)) (fun (r9 : Int) h10 => raft_reader_short (some (⟨b3, 0, none⟩ : Addr)) (fun (r11 : Int) h12 => raft_reader_short (some (⟨b3, 0, none⟩ : Addr)) (fun (r13 : Int) h14 => ∃ (b15 : Nat) (h16 : Heap), b15 = h14.size ∧ h16 = h14.push (.cells (S_api_Msg.cs (⟨0, 0, 0, 0, 0, false, (⟨none, 0, 0⟩ : Slc), (⟨none, 0, 0⟩ : Slc)⟩ : S_api_Msg)).toArray 40) ∧ (∃ h17 : Heap, WrsAt h16 (⟨b15, 0, none⟩ : Addr) 8 ∧ h17 = setsH h16 (⟨b15, 0, none⟩ : Addr) 0 (S_api_Msg.cs (⟨(IntKind.i64.wrap r5), r7, r9, r11, r13, false, (⟨none, 0, 0⟩ : Slc), (⟨none, 0, 0⟩ : Slc)⟩ : S_api_Msg)) ∧ (raft_reader_byte (some (⟨b3, 0, none⟩ : Addr)) (fun (r18 : Int) h19 => ∃ h20 : Heap, WrH h19 ((⟨b15, 0, none⟩ : Addr).add 5) ∧ h20 = setH h19 ((⟨b15, 0, none⟩ : Addr).add 5) (.bool (r18 == 1)) ∧ (∃ v21 : Bool, cellH h20 ((⟨b3, 0, none⟩ : Addr).add 1) = some (.bool v21) ∧ (∃ h22 : Heap, WrH h20 ((⟨b3, 0, none⟩ : Addr).add 1) ∧ h22 = setH h20 ((⟨b3, 0, none⟩ : Addr).add 1) (.bool (v21 || (decide (r18 > 1)))) ∧ (raft_reader_short (some (⟨b3, 0, none⟩ : Addr)) (fun (r35 : Int) h36 => raft_Get_l3 (⟨b1, 0, none⟩ : Addr) (⟨b3, 0, none⟩ : Addr) (⟨b15, 0, none⟩ : Addr) r35 k h36) h22)))) h17))) h12) h10) h8) h6) h4))

/-- quaestor pack.Get -/
def pack_Get_g4 (t2_4 : Addr) (t5_4 : Addr) (t104_4 : Bool) (k : (S_api_Note × Int) → Heap → Prop) (h_4 : Heap) : Prop :=
  if t104_4 then (∃ h57 : Heap, WrsAt h_4 t2_4 71 ∧ h57 = setsH h_4 t2_4 0 (S_api_Note.cs (⟨0, 0, 0, 0, ByteArray.empty, (⟨none, 0, 0⟩ : Slc), (⟨ByteArray.empty, 0, 0, 0, 0⟩ : S_api_Query), (⟨0, ByteArray.empty, 0, ([] : List Int), (⟨none, 0, 0⟩ : Slc), 0⟩ : S_api_Command), 0, (⟨none, 0, 0⟩ : Slc), (⟨0, ([] : List Int)⟩ : S_api_Share), (⟨0, 0, 0, 0, 0, false, (⟨none, 0, 0⟩ : Slc), (⟨none, 0, 0⟩ : Slc)⟩ : S_api_Msg)⟩ : S_api_Note)) ∧ (∃ v58 : S_api_Note, CellsAt h57 t2_4 (S_api_Note.cs v58) ∧ k (v58, 4) h57)) else (∃ v59 : S_api_Note, CellsAt h_4 t5_4 (S_api_Note.cs v59) ∧ (∃ h60 : Heap, WrsAt h_4 t2_4 71 ∧ h60 = setsH h_4 t2_4 0 (S_api_Note.cs v59) ∧ (∃ v61 : S_api_Note, CellsAt h60 t2_4 (S_api_Note.cs v61) ∧ k (v61, 0) h60)))
def pack_Get_g3 (t2_3 : Addr) (t5_3 : Addr) (t99_3 : Bool) (k : (S_api_Note × Int) → Heap → Prop) (h_3 : Heap) : Prop :=
  if t99_3 then (pack_Get_g4 t2_3 t5_3 true k h_3) else (∃ v62 : S_api_Note, CellsAt h_3 t5_3 (S_api_Note.cs v62) ∧ (pack_Check v62 (fun (r63 : Int) h64 => pack_Get_g4 t2_3 t5_3 (r63 != 0) k h64) h_3))
def pack_Get_j2 (t2_2 : Addr) (t4_2 : Addr) (t5_2 : Addr) (k : (S_api_Note × Int) → Heap → Prop) (h_2 : Heap) : Prop :=
  ∃ v56 : Bool, cellH h_2 (t4_2.add 1) = some (.bool v56) ∧ (if v56 then (pack_Get_g3 t2_2 t5_2 true k h_2) else (∃ v65 : Slc, cellH h_2 t4_2 = some (Slc.v v65) ∧ (pack_Get_g3 t2_2 t5_2 (decide ((v65.len : Int) > 0)) k h_2)))
def pack_Get_j1 (t2_1 : Addr) (t4_1 : Addr) (t5_1 : Addr) (k : (S_api_Note × Int) → Heap → Prop) (h_1 : Heap) : Prop :=
  pack_reader_short (some t4_1) (fun (r33 : Int) h34 => ∃ h35 : Heap, WrH h34 (t5_1.add 28) ∧ h35 = setH h34 (t5_1.add 28) (.int .u64 r33) ∧ (pack_reader_ids (some t4_1) (fun (r36 : Slc) h37 => ∃ h38 : Heap, WrH h37 (t5_1.add 29) ∧ h38 = setH h37 (t5_1.add 29) (Slc.v r36) ∧ (pack_reader_number (some t4_1) 1 (fun (r39 : Int) h40 => ∃ h41 : Heap, WrH h40 (t5_1.add 30) ∧ h41 = setH h40 (t5_1.add 30) (.int .u8 (IntKind.u8.wrap r39)) ∧ (∃ s42 : Slc, (0 : Int) ≤ 0 ∧ 0 ≤ (32 : Int) ∧ 32 ≤ (32 : Int) ∧ s42 = subS ⟨some ((t5_1.add 30).add 1), 32, 32⟩ 1 (0 : Int).toNat (32 : Int).toNat 32 ∧ (pack_reader_bytes (some t4_1) 32 (fun (r43 : Slc) h44 => ∃ l45 : List Value, Cpy 1 h44 s42 r43 l45 (fun h46 => pack_reader_text (some t4_1) (fun (r47 : ByteArray) h48 => r47.size ≤ maxLen ∧ S2B 5 h48 r47 (fun s49 h50 => raft_Get s49 (fun (r51 : S_api_Msg × Int) h52 => ∃ (b53 : Nat) (h54 : Heap), b53 = h52.size ∧ h54 = h52.push (.cells (S_api_Msg.cs (⟨0, 0, 0, 0, 0, false, (⟨none, 0, 0⟩ : Slc), (⟨none, 0, 0⟩ : Slc)⟩ : S_api_Msg)).toArray 40) ∧ (∃ h55 : Heap, WrsAt h54 (⟨b53, 0, none⟩ : Addr) 8 ∧ h55 = setsH h54 (⟨b53, 0, none⟩ : Addr) 0 (S_api_Msg.cs r51.1) ∧ (∃ v66 : S_api_Msg, CellsAt h55 (⟨b53, 0, none⟩ : Addr) (S_api_Msg.cs v66) ∧ (∃ v67 : Bool, cellH h55 (t4_1.add 1) = some (.bool v67) ∧ (if v67 then (∃ h68 : Heap, WrsAt h55 (t5_1.add 63) 8 ∧ h68 = setsH h55 (t5_1.add 63) 0 (S_api_Msg.cs v66) ∧ (∃ h69 : Heap, WrH h68 (t4_1.add 1) ∧ h69 = setH h68 (t4_1.add 1) (.bool true) ∧ (pack_Get_j2 t2_1 t4_1 t5_1 k h69))) else (∃ h70 : Heap, WrsAt h55 (t5_1.add 63) 8 ∧ h70 = setsH h55 (t5_1.add 63) 0 (S_api_Msg.cs v66) ∧ (∃ h71 : Heap, WrH h70 (t4_1.add 1) ∧ h71 = setH h70 (t4_1.add 1) (.bool (r51.2 != 0)) ∧ (pack_Get_j2 t2_1 t4_1 t5_1 k h71)))))))) h50)) h46)) h41))) h38)) h35)) h_1
def pack_Get (p0 : Slc) (k : (S_api_Note × Int) → Heap → Prop) (h : Heap) : Prop :=
  ∃ (b1 : Nat) (h2 : Heap), b1 = h.size ∧ h2 = h.push (.cells (S_api_Note.cs (⟨0, 0, 0, 0, ByteArray.empty, (⟨none, 0, 0⟩ : Slc), (⟨ByteArray.empty, 0, 0, 0, 0⟩ : S_api_Query), (⟨0, ByteArray.empty, 0, ([] : List Int), (⟨none, 0, 0⟩ : Slc), 0⟩ : S_api_Command), 0, (⟨none, 0, 0⟩ : Slc), (⟨0, ([] : List Int)⟩ : S_api_Share), (⟨0, 0, 0, 0, 0, false, (⟨none, 0, 0⟩ : Slc), (⟨none, 0, 0⟩ : Slc)⟩ : S_api_Msg)⟩ : S_api_Note)).toArray 42) ∧ (∃ (b3 : Nat) (h4 : Heap), b3 = h2.size ∧ h4 = h2.push (.cells (S_pack_reader.cs (⟨p0, false⟩ : S_pack_reader)).toArray 173) ∧ (pack_reader_number (some (⟨b3, 0, none⟩ : Addr)) 1 (fun (r5 : Int) h6 => pack_reader_short (some (⟨b3, 0, none⟩ : Addr)) (fun (r7 : Int) h8 => pack_reader_short (some (⟨b3, 0, none⟩ : Addr)) (fun (r9 : Int) h10 => pack_reader_number (some (⟨b3, 0, none⟩ : Addr)) 1 (fun (r11 : Int) h12 => pack_reader_text (some (⟨b3, 0, none⟩ : Addr)) (fun (r13 : ByteArray) h14 => ∃ (b15 : Nat) (h16 : Heap), b15 = h14.size ∧ h16 = h14.push (.cells (S_api_Note.cs (⟨0, 0, 0, 0, ByteArray.empty, (⟨none, 0, 0⟩ : Slc), (⟨ByteArray.empty, 0, 0, 0, 0⟩ : S_api_Query), (⟨0, ByteArray.empty, 0, ([] : List Int), (⟨none, 0, 0⟩ : Slc), 0⟩ : S_api_Command), 0, (⟨none, 0, 0⟩ : Slc), (⟨0, ([] : List Int)⟩ : S_api_Share), (⟨0, 0, 0, 0, 0, false, (⟨none, 0, 0⟩ : Slc), (⟨none, 0, 0⟩ : Slc)⟩ : S_api_Msg)⟩ : S_api_Note)).toArray 42) ∧ (∃ h17 : Heap, WrsAt h16 (⟨b15, 0, none⟩ : Addr) 71 ∧ h17 = setsH h16 (⟨b15, 0, none⟩ : Addr) 0 (S_api_Note.cs (⟨(IntKind.i64.wrap r5), r7, r9, (IntKind.i64.wrap r11), r13, (⟨none, 0, 0⟩ : Slc), (⟨ByteArray.empty, 0, 0, 0, 0⟩ : S_api_Query), (⟨0, ByteArray.empty, 0, ([] : List Int), (⟨none, 0, 0⟩ : Slc), 0⟩ : S_api_Command), 0, (⟨none, 0, 0⟩ : Slc), (⟨0, ([] : List Int)⟩ : S_api_Share), (⟨0, 0, 0, 0, 0, false, (⟨none, 0, 0⟩ : Slc), (⟨none, 0, 0⟩ : Slc)⟩ : S_api_Msg)⟩ : S_api_Note)) ∧ (pack_reader_pieces (some (⟨b3, 0, none⟩ : Addr)) (fun (r18 : Slc) h19 => ∃ h20 : Heap, WrH h19 ((⟨b15, 0, none⟩ : Addr).add 5) ∧ h20 = setH h19 ((⟨b15, 0, none⟩ : Addr).add 5) (Slc.v r18) ∧ (pack_reader_query (some (⟨b3, 0, none⟩ : Addr)) (fun (r21 : S_api_Query) h22 => ∃ h23 : Heap, WrsAt h22 ((⟨b15, 0, none⟩ : Addr).add 6) 5 ∧ h23 = setsH h22 ((⟨b15, 0, none⟩ : Addr).add 6) 0 (S_api_Query.cs r21) ∧ (pack_reader_text (some (⟨b3, 0, none⟩ : Addr)) (fun (r24 : ByteArray) h25 => r24.size ≤ maxLen ∧ S2B 5 h25 r24 (fun s26 h27 => reg_Get s26 (fun (r28 : S_api_Command × Int) h29 => ∃ (b30 : Nat) (h31 : Heap), b30 = h29.size ∧ h31 = h29.push (.cells (S_api_Command.cs (⟨0, ByteArray.empty, 0, ([] : List Int), (⟨none, 0, 0⟩ : Slc), 0⟩ : S_api_Command)).toArray 32) ∧ (∃ h32 : Heap, WrsAt h31 (⟨b30, 0, none⟩ : Addr) 17 ∧ h32 = setsH h31 (⟨b30, 0, none⟩ : Addr) 0 (S_api_Command.cs r28.1) ∧ (∃ v72 : S_api_Command, CellsAt h32 (⟨b30, 0, none⟩ : Addr) (S_api_Command.cs v72) ∧ (∃ v73 : Bool, cellH h32 ((⟨b3, 0, none⟩ : Addr).add 1) = some (.bool v73) ∧ (if v73 then (∃ h74 : Heap, WrsAt h32 ((⟨b15, 0, none⟩ : Addr).add 11) 17 ∧ h74 = setsH h32 ((⟨b15, 0, none⟩ : Addr).add 11) 0 (S_api_Command.cs v72) ∧ (∃ h75 : Heap, WrH h74 ((⟨b3, 0, none⟩ : Addr).add 1) ∧ h75 = setH h74 ((⟨b3, 0, none⟩ : Addr).add 1) (.bool true) ∧ (pack_Get_j1 (⟨b1, 0, none⟩ : Addr) (⟨b3, 0, none⟩ : Addr) (⟨b15, 0, none⟩ : Addr) k h75))) else (∃ h76 : Heap, WrsAt h32 ((⟨b15, 0, none⟩ : Addr).add 11) 17 ∧ h76 = setsH h32 ((⟨b15, 0, none⟩ : Addr).add 11) 0 (S_api_Command.cs v72) ∧ (∃ h77 : Heap, WrH h76 ((⟨b3, 0, none⟩ : Addr).add 1) ∧ h77 = setH h76 ((⟨b3, 0, none⟩ : Addr).add 1) (.bool (r28.2 != 0)) ∧ (pack_Get_j1 (⟨b1, 0, none⟩ : Addr) (⟨b3, 0, none⟩ : Addr) (⟨b15, 0, none⟩ : Addr) k h77)))))))) h27)) h23)) h20)) h17))) h12) h10) h8) h6) h4))

/-- quaestor quaestorref01.Same -/
def ref01_Same_l1b (t0_1 : Slc) (t1_1 : Slc) (t5_1 : Int) (k : (Bool) → Heap → Prop) (nx1 : (Int) → Heap → Prop) (h_1 : Heap) : Prop :=
  if (decide (t5_1 < (t0_1.len : Int))) then (∃ a1 : Addr, t0_1.a = some a1 ∧ (0 : Int) ≤ t5_1 ∧ t5_1 < (t0_1.len : Int) ∧ (∃ v2 : Int, cellH h_1 (a1.add (t5_1.toNat * 1)) = some (.int .u8 v2) ∧ (∃ a3 : Addr, t1_1.a = some a3 ∧ (0 : Int) ≤ t5_1 ∧ t5_1 < (t1_1.len : Int) ∧ (∃ v4 : Int, cellH h_1 (a3.add (t5_1.toNat * 1)) = some (.int .u8 v4) ∧ (if (v2 != v4) then (k false h_1) else (∃ x5 : Int, x5 = (IntKind.i64.wrap (t5_1 + 1)) ∧ (nx1 x5 h_1))))))) else (k true h_1)
def ref01_Same_l1 (t0_1 : Slc) (t1_1 : Slc) (i5 : Int) (k : (Bool) → Heap → Prop) (h : Heap) : Prop :=
  ∃ (I : Int → Heap → Prop) (μ : Int → Heap → Nat), I i5 h ∧ ∀ (t5_1 : Int) (h : Heap), I t5_1 h → ref01_Same_l1b t0_1 t1_1 t5_1 k (fun s h' => I s h' ∧ μ s h' < μ t5_1 h) h
def ref01_Same (p0 : Slc) (p1 : Slc) (k : (Bool) → Heap → Prop) (h : Heap) : Prop :=
  if ((p0.len : Int) != (p1.len : Int)) then (k false h) else (ref01_Same_l1 p0 p1 0 k h)

/-- quaestor quaestorref01.Kept -/
def ref01_Kept_l1b (t5_1 : Slc) (t6_1 : Int) (k : (Bool) → Heap → Prop) (nx1 : (Int) → Heap → Prop) (h_1 : Heap) : Prop :=
  if (decide (t6_1 < (t5_1.len : Int))) then (∃ a5 : Addr, t5_1.a = some a5 ∧ (0 : Int) ≤ t6_1 ∧ t6_1 < (t5_1.len : Int) ∧ (∃ v6 : Int, cellH h_1 (a5.add (t6_1.toNat * 1)) = some (.int .u8 v6) ∧ (if (v6 != 165) then (k false h_1) else (∃ x7 : Int, x7 = (IntKind.i64.wrap (t6_1 + 1)) ∧ (nx1 x7 h_1))))) else (k true h_1)
def ref01_Kept_l1 (t5_1 : Slc) (i6 : Int) (k : (Bool) → Heap → Prop) (h : Heap) : Prop :=
  ∃ (I : Int → Heap → Prop) (μ : Int → Heap → Nat), I i6 h ∧ ∀ (t6_1 : Int) (h : Heap), I t6_1 h → ref01_Kept_l1b t5_1 t6_1 k (fun s h' => I s h' ∧ μ s h' < μ t6_1 h) h
def ref01_Kept (p0 : Slc) (p1 : Slc) (k : (Bool) → Heap → Prop) (h : Heap) : Prop :=
  ref01_Same p0 p1 (fun (r1 : Bool) h2 => if (!r1) then (k false h2) else (∃ s3 : Slc, (0 : Int) ≤ 0 ∧ (0 : Int) ≤ (IntKind.i64.wrap ((p0.len : Int) + 8)) ∧ ((IntKind.i64.wrap ((p0.len : Int) + 8)) : Int) ≤ (p0.cap : Int) ∧ (p0.cap : Int) ≤ (p0.cap : Int) ∧ s3 = subS p0 1 (0 : Int).toNat (IntKind.i64.wrap ((p0.len : Int) + 8)).toNat (p0.cap : Int).toNat ∧ (∃ x4 : Int, x4 = (p0.len : Int) ∧ (ref01_Kept_l1 s3 x4 k h2)))) h

/-- quaestor quaestorref01.Short -/
def ref01_Short_l1b (t0_1 : Int) (t3_1 : Slc) (k : (Slc) → Heap → Prop) (nx1 : (Int × Slc) → Heap → Prop) (h_1 : Heap) : Prop :=
  if (decide (t0_1 ≥ 128)) then (∃ (b1 : Nat) (h2 : Heap), b1 = h_1.size ∧ h2 = h_1.push (.cells ([.int .u8 (IntKind.u8.wrap ((IntKind.u8.wrap (Int.tmod t0_1 128)) + 128))]).toArray 5) ∧ (App 5 1 1 [.int .u8 0] h2 t3_1 1 ([.int .u8 (IntKind.u8.wrap ((IntKind.u8.wrap (Int.tmod t0_1 128)) + 128))]) (fun s3 h4 => ∃ x5 : Int, x5 = (IntKind.u64.wrap (Int.tdiv t0_1 128)) ∧ (nx1 (x5, s3) h4)))) else (∃ (b6 : Nat) (h7 : Heap), b6 = h_1.size ∧ h7 = h_1.push (.cells ([.int .u8 (IntKind.u8.wrap t0_1)]).toArray 5) ∧ (App 5 1 1 [.int .u8 0] h7 t3_1 1 ([.int .u8 (IntKind.u8.wrap t0_1)]) (fun s8 h9 => k s8 h9)))
def ref01_Short_l1 (i0 : Int) (i3 : Slc) (k : (Slc) → Heap → Prop) (h : Heap) : Prop :=
  ∃ (I : (Int × Slc) → Heap → Prop) (μ : (Int × Slc) → Heap → Nat), I (i0, i3) h ∧ ∀ (t0_1 : Int) (t3_1 : Slc) (h : Heap), I (t0_1, t3_1) h → ref01_Short_l1b t0_1 t3_1 k (fun s h' => I s h' ∧ μ s h' < μ (t0_1, t3_1) h) h
def ref01_Short (p0 : Int) (k : (Slc) → Heap → Prop) (h : Heap) : Prop :=
  ref01_Short_l1 p0 (⟨none, 0, 0⟩ : Slc) k h

/-- quaestor quaestorref27.text -/
def ref27_text (p0 : ByteArray) (k : (Slc) → Heap → Prop) (h : Heap) : Prop :=
  ref01_Short (IntKind.u64.wrap (p0.size : Int)) (fun (r1 : Slc) h2 => App 5 1 1 [.int .u8 0] h2 r1 p0.size (b8 (sB p0)) (fun s3 h4 => k s3 h4)) h

/-- quaestor quaestorref01.Form -/
def ref01_Form_l1b (t1_1 : Int) (t0_1 : Int) (t5_1 : Slc) (t6_1 : Int) (k : (Slc) → Heap → Prop) (nx1 : (Int × Slc × Int) → Heap → Prop) (h_1 : Heap) : Prop :=
  if (decide (t6_1 < t1_1)) then (∃ (b1 : Nat) (h2 : Heap), b1 = h_1.size ∧ h2 = h_1.push (.cells ([.int .u8 (IntKind.u8.wrap (Int.tmod t0_1 256))]).toArray 5) ∧ (App 5 1 1 [.int .u8 0] h2 t5_1 1 ([.int .u8 (IntKind.u8.wrap (Int.tmod t0_1 256))]) (fun s3 h4 => ∃ x5 : Int, x5 = (IntKind.u64.wrap (Int.tdiv t0_1 256)) ∧ (∃ x6 : Int, x6 = (IntKind.i64.wrap (t6_1 + 1)) ∧ (nx1 (x5, s3, x6) h4))))) else (k t5_1 h_1)
def ref01_Form_l1 (t1_1 : Int) (i0 : Int) (i5 : Slc) (i6 : Int) (k : (Slc) → Heap → Prop) (h : Heap) : Prop :=
  ∃ (I : (Int × Slc × Int) → Heap → Prop) (μ : (Int × Slc × Int) → Heap → Nat), I (i0, i5, i6) h ∧ ∀ (t0_1 : Int) (t5_1 : Slc) (t6_1 : Int) (h : Heap), I (t0_1, t5_1, t6_1) h → ref01_Form_l1b t1_1 t0_1 t5_1 t6_1 k (fun s h' => I s h' ∧ μ s h' < μ (t0_1, t5_1, t6_1) h) h
def ref01_Form (p0 : Int) (p1 : Int) (k : (Slc) → Heap → Prop) (h : Heap) : Prop :=
  ref01_Form_l1 p1 p0 (⟨none, 0, 0⟩ : Slc) 0 k h

/-- quaestor quaestorref27.id -/
def ref27_id (p0 : S_api_Id) (k : (Slc) → Heap → Prop) (h : Heap) : Prop :=
  ∃ (b1 : Nat) (h2 : Heap), b1 = h.size ∧ h2 = h.push (.cells (S_api_Id.cs p0).toArray 48) ∧ (∃ v3 : Int, cellH h2 (⟨b1, 0, none⟩ : Addr) = some (.int .u64 v3) ∧ (∃ v4 : Int, cellH h2 ((⟨b1, 0, none⟩ : Addr).add 1) = some (.int .u16 v4) ∧ (ref01_Form v3 8 (fun (r5 : Slc) h6 => cellH h6 ((⟨b1, 0, none⟩ : Addr).add 1) = some (.int .u16 v4) ∧ (ref01_Form (IntKind.u64.wrap v4) 2 (fun (r8 : Slc) h9 => ∃ l12 : List Value, SlcAt h9 r8 l12 ∧ App 5 1 1 [.int .u8 0] h9 r5 r8.len l12 (fun s10 h11 => k s10 h11)) h6)) h2)))

/-- quaestor quaestorref01.Zig -/
def ref01_Zig (p0 : Int) (k : (Int) → Heap → Prop) (h : Heap) : Prop :=
  if (decide (p0 ≥ 0)) then (∃ x1 : Int, x1 = (IntKind.u64.wrap ((IntKind.u64.wrap p0) * 2)) ∧ (k x1 h)) else (∃ x2 : Int, x2 = (IntKind.u64.wrap ((IntKind.u64.wrap ((IntKind.u64.wrap (0 - (IntKind.u64.wrap p0))) * 2)) - 1)) ∧ (k x2 h))

/-- quaestor quaestorref25.Put -/
def ref25_Put (p0 : S_api_Command) (k : (Slc) → Heap → Prop) (h : Heap) : Prop :=
  ∃ (b1 : Nat) (h2 : Heap), b1 = h.size ∧ h2 = h.push (.cells (S_api_Command.cs p0).toArray 32) ∧ (∃ v3 : Int, cellH h2 (⟨b1, 0, none⟩ : Addr) = some (.int .i64 v3) ∧ (∃ (b4 : Nat) (h5 : Heap), b4 = h2.size ∧ h5 = h2.push (.cells ([.int .u8 (IntKind.u8.wrap v3)]).toArray 5) ∧ (∃ v6 : ByteArray, cellH h5 ((⟨b1, 0, none⟩ : Addr).add 1) = some (.string v6) ∧ (ref01_Short (IntKind.u64.wrap (v6.size : Int)) (fun (r7 : Slc) h8 => ∃ l11 : List Value, SlcAt h8 r7 l11 ∧ App 5 1 1 [.int .u8 0] h8 (⟨some ⟨b4, 0, none⟩, 1, 1⟩ : Slc) r7.len l11 (fun s9 h10 => ∃ v12 : ByteArray, cellH h10 ((⟨b1, 0, none⟩ : Addr).add 1) = some (.string v12) ∧ (App 5 1 1 [.int .u8 0] h10 s9 v12.size (b8 (sB v12)) (fun s13 h14 => ∃ v15 : Int, cellH h14 ((⟨b1, 0, none⟩ : Addr).add 2) = some (.int .u32 v15) ∧ (ref01_Form (IntKind.u64.wrap v15) 4 (fun (r16 : Slc) h17 => ∃ l20 : List Value, SlcAt h17 r16 l20 ∧ App 5 1 1 [.int .u8 0] h17 s13 r16.len l20 (fun s18 h19 => ∃ s21 : Slc, (0 : Int) ≤ 0 ∧ 0 ≤ (12 : Int) ∧ 12 ≤ (12 : Int) ∧ s21 = subS ⟨some ((⟨b1, 0, none⟩ : Addr).add 3), 12, 12⟩ 1 (0 : Int).toNat (12 : Int).toNat 12 ∧ (∃ l24 : List Value, SlcAt h19 s21 l24 ∧ App 5 1 1 [.int .u8 0] h19 s18 s21.len l24 (fun s22 h23 => ∃ v25 : Slc, cellH h23 ((⟨b1, 0, none⟩ : Addr).add 15) = some (Slc.v v25) ∧ (ref01_Short (IntKind.u64.wrap (v25.len : Int)) (fun (r26 : Slc) h27 => ∃ l30 : List Value, SlcAt h27 r26 l30 ∧ App 5 1 1 [.int .u8 0] h27 s22 r26.len l30 (fun s28 h29 => ∃ v31 : Slc, cellH h29 ((⟨b1, 0, none⟩ : Addr).add 15) = some (Slc.v v31) ∧ (∃ l34 : List Value, SlcAt h29 v31 l34 ∧ App 5 1 1 [.int .u8 0] h29 s28 v31.len l34 (fun s32 h33 => ∃ v35 : Int, cellH h33 ((⟨b1, 0, none⟩ : Addr).add 16) = some (.int .i64 v35) ∧ (ref01_Zig v35 (fun (r36 : Int) h37 => ref01_Form r36 8 (fun (r38 : Slc) h39 => ∃ l42 : List Value, SlcAt h39 r38 l42 ∧ App 5 1 1 [.int .u8 0] h39 s32 r38.len l42 (fun s40 h41 => k s40 h41)) h37) h33))))) h23))))) h14))))) h5))))

/-- quaestor quaestorref26.Form -/
def ref26_Form_l2b (t1_2 : Addr) (t3_2 : Slc) (t4_2 : Int) (k : (Slc) → Heap → Prop) (nx2 : (Slc × Int) → Heap → Prop) (h_2 : Heap) : Prop :=
  ∃ v36 : Slc, cellH h_2 (t1_2.add 6) = some (Slc.v v36) ∧ (if (decide (t4_2 < (v36.len : Int))) then (∃ v37 : Slc, cellH h_2 (t1_2.add 6) = some (Slc.v v37) ∧ (∃ a38 : Addr, v37.a = some a38 ∧ (0 : Int) ≤ t4_2 ∧ t4_2 < (v37.len : Int) ∧ (∃ v39 : Int, cellH h_2 (a38.add (t4_2.toNat * 2)) = some (.int .u64 v39) ∧ (ref01_Short v39 (fun (r40 : Slc) h41 => ∃ l44 : List Value, SlcAt h41 r40 l44 ∧ App 5 1 1 [.int .u8 0] h41 t3_2 r40.len l44 (fun s42 h43 => ∃ v45 : Slc, cellH h43 (t1_2.add 6) = some (Slc.v v45) ∧ (∃ a46 : Addr, v45.a = some a46 ∧ (0 : Int) ≤ t4_2 ∧ t4_2 < (v45.len : Int) ∧ (∃ v47 : Slc, cellH h43 ((a46.add (t4_2.toNat * 2)).add 1) = some (Slc.v v47) ∧ (ref01_Short (IntKind.u64.wrap (v47.len : Int)) (fun (r48 : Slc) h49 => ∃ l52 : List Value, SlcAt h49 r48 l52 ∧ App 5 1 1 [.int .u8 0] h49 s42 r48.len l52 (fun s50 h51 => ∃ v53 : Slc, cellH h51 (t1_2.add 6) = some (Slc.v v53) ∧ (∃ a54 : Addr, v53.a = some a54 ∧ (0 : Int) ≤ t4_2 ∧ t4_2 < (v53.len : Int) ∧ (∃ v55 : Slc, cellH h51 ((a54.add (t4_2.toNat * 2)).add 1) = some (Slc.v v55) ∧ (∃ l58 : List Value, SlcAt h51 v55 l58 ∧ App 5 1 1 [.int .u8 0] h51 s50 v55.len l58 (fun s56 h57 => ∃ x59 : Int, x59 = (IntKind.i64.wrap (t4_2 + 1)) ∧ (nx2 (s56, x59) h57))))))) h43))))) h_2)))) else (∃ v60 : Slc, cellH h_2 (t1_2.add 7) = some (Slc.v v60) ∧ (ref01_Short (IntKind.u64.wrap (v60.len : Int)) (fun (r61 : Slc) h62 => ∃ l65 : List Value, SlcAt h62 r61 l65 ∧ App 5 1 1 [.int .u8 0] h62 t3_2 r61.len l65 (fun s63 h64 => ∃ v66 : Slc, cellH h64 (t1_2.add 7) = some (Slc.v v66) ∧ (∃ l69 : List Value, SlcAt h64 v66 l69 ∧ App 5 1 1 [.int .u8 0] h64 s63 v66.len l69 (fun s67 h68 => k s67 h68)))) h_2)))
def ref26_Form_l2 (t1_2 : Addr) (i3 : Slc) (i4 : Int) (k : (Slc) → Heap → Prop) (h : Heap) : Prop :=
  ∃ (I : (Slc × Int) → Heap → Prop) (μ : (Slc × Int) → Heap → Nat), I (i3, i4) h ∧ ∀ (t3_2 : Slc) (t4_2 : Int) (h : Heap), I (t3_2, t4_2) h → ref26_Form_l2b t1_2 t3_2 t4_2 k (fun s h' => I s h' ∧ μ s h' < μ (t3_2, t4_2) h) h
def ref26_Form_j1 (t1_1 : Addr) (t3_1 : Slc) (k : (Slc) → Heap → Prop) (h_1 : Heap) : Prop :=
  ∃ v30 : Slc, cellH h_1 (t1_1.add 6) = some (Slc.v v30) ∧ (ref01_Short (IntKind.u64.wrap (v30.len : Int)) (fun (r31 : Slc) h32 => ∃ l35 : List Value, SlcAt h32 r31 l35 ∧ App 5 1 1 [.int .u8 0] h32 t3_1 r31.len l35 (fun s33 h34 => ref26_Form_l2 t1_1 s33 0 k h34)) h_1)
def ref26_Form (p0 : S_api_Msg) (k : (Slc) → Heap → Prop) (h : Heap) : Prop :=
  ∃ (b1 : Nat) (h2 : Heap), b1 = h.size ∧ h2 = h.push (.cells (S_api_Msg.cs p0).toArray 40) ∧ (∃ v3 : Int, cellH h2 (⟨b1, 0, none⟩ : Addr) = some (.int .i64 v3) ∧ (∃ (b4 : Nat) (h5 : Heap), b4 = h2.size ∧ h5 = h2.push (.cells ([.int .u8 (IntKind.u8.wrap v3)]).toArray 5) ∧ (∃ v6 : Int, cellH h5 ((⟨b1, 0, none⟩ : Addr).add 1) = some (.int .u64 v6) ∧ (ref01_Short v6 (fun (r7 : Slc) h8 => ∃ l11 : List Value, SlcAt h8 r7 l11 ∧ App 5 1 1 [.int .u8 0] h8 (⟨some ⟨b4, 0, none⟩, 1, 1⟩ : Slc) r7.len l11 (fun s9 h10 => ∃ v12 : Int, cellH h10 ((⟨b1, 0, none⟩ : Addr).add 2) = some (.int .u64 v12) ∧ (ref01_Short v12 (fun (r13 : Slc) h14 => ∃ l17 : List Value, SlcAt h14 r13 l17 ∧ App 5 1 1 [.int .u8 0] h14 s9 r13.len l17 (fun s15 h16 => ∃ v18 : Int, cellH h16 ((⟨b1, 0, none⟩ : Addr).add 3) = some (.int .u64 v18) ∧ (ref01_Short v18 (fun (r19 : Slc) h20 => ∃ l23 : List Value, SlcAt h20 r19 l23 ∧ App 5 1 1 [.int .u8 0] h20 s15 r19.len l23 (fun s21 h22 => ∃ v24 : Int, cellH h22 ((⟨b1, 0, none⟩ : Addr).add 4) = some (.int .u64 v24) ∧ (ref01_Short v24 (fun (r25 : Slc) h26 => ∃ l29 : List Value, SlcAt h26 r25 l29 ∧ App 5 1 1 [.int .u8 0] h26 s21 r25.len l29 (fun s27 h28 => ∃ v70 : Bool, cellH h28 ((⟨b1, 0, none⟩ : Addr).add 5) = some (.bool v70) ∧ (if v70 then (∃ (b71 : Nat) (h72 : Heap), b71 = h28.size ∧ h72 = h28.push (.cells ([.int .u8 1]).toArray 5) ∧ (App 5 1 1 [.int .u8 0] h72 s27 1 ([.int .u8 1]) (fun s73 h74 => ref26_Form_j1 (⟨b1, 0, none⟩ : Addr) s73 k h74))) else (∃ (b75 : Nat) (h76 : Heap), b75 = h28.size ∧ h76 = h28.push (.cells ([.int .u8 0]).toArray 5) ∧ (App 5 1 1 [.int .u8 0] h76 s27 1 ([.int .u8 0]) (fun s77 h78 => ref26_Form_j1 (⟨b1, 0, none⟩ : Addr) s77 k h78)))))) h22))) h16))) h10))) h5))))

/-- quaestor quaestorref27.Form -/
def ref27_Form_l2b (t1_2 : Addr) (t3_2 : Slc) (t6_2 : Int) (k : (Slc) → Heap → Prop) (nx1 : (Slc × Int) → Heap → Prop) (nx2 : (Slc × Int) → Heap → Prop) (h_2 : Heap) : Prop :=
  ∃ v117 : Slc, cellH h_2 (t1_2.add 29) = some (Slc.v v117) ∧ (if (decide (t6_2 < (v117.len : Int))) then (∃ v118 : Slc, cellH h_2 (t1_2.add 29) = some (Slc.v v118) ∧ (∃ a119 : Addr, v118.a = some a119 ∧ (0 : Int) ≤ t6_2 ∧ t6_2 < (v118.len : Int) ∧ (∃ v120 : S_api_Id, CellsAt h_2 (a119.add (t6_2.toNat * 2)) (S_api_Id.cs v120) ∧ (ref27_id v120 (fun (r121 : Slc) h122 => ∃ l125 : List Value, SlcAt h122 r121 l125 ∧ App 5 1 1 [.int .u8 0] h122 t3_2 r121.len l125 (fun s123 h124 => ∃ x126 : Int, x126 = (IntKind.i64.wrap (t6_2 + 1)) ∧ (nx2 (s123, x126) h124))) h_2)))) else (∃ v127 : Int, cellH h_2 (t1_2.add 30) = some (.int .u8 v127) ∧ (∃ (b128 : Nat) (h129 : Heap), b128 = h_2.size ∧ h129 = h_2.push (.cells ([.int .u8 v127]).toArray 5) ∧ (App 5 1 1 [.int .u8 0] h129 t3_2 1 ([.int .u8 v127]) (fun s130 h131 => ∃ s132 : Slc, (0 : Int) ≤ 0 ∧ 0 ≤ (32 : Int) ∧ 32 ≤ (32 : Int) ∧ s132 = subS ⟨some ((t1_2.add 30).add 1), 32, 32⟩ 1 (0 : Int).toNat (32 : Int).toNat 32 ∧ (∃ l135 : List Value, SlcAt h131 s132 l135 ∧ App 5 1 1 [.int .u8 0] h131 s130 s132.len l135 (fun s133 h134 => ∃ v136 : S_api_Msg, CellsAt h134 (t1_2.add 63) (S_api_Msg.cs v136) ∧ (ref26_Form v136 (fun (r137 : Slc) h138 => ∃ l139 : List Int, l139.length = r137.len ∧ SlcAt h138 r137 (b8 l139) ∧ (ref27_text (bsOf l139) (fun (r140 : Slc) h141 => ∃ l144 : List Value, SlcAt h141 r140 l144 ∧ App 5 1 1 [.int .u8 0] h141 s133 r140.len l144 (fun s142 h143 => k s142 h143)) h138)) h134))))))))
def ref27_Form_l2 (t1_2 : Addr) (i3 : Slc) (i6 : Int) (k : (Slc) → Heap → Prop) (nx1 : (Slc × Int) → Heap → Prop) (h : Heap) : Prop :=
  ∃ (I : (Slc × Int) → Heap → Prop) (μ : (Slc × Int) → Heap → Nat), I (i3, i6) h ∧ ∀ (t3_2 : Slc) (t6_2 : Int) (h : Heap), I (t3_2, t6_2) h → ref27_Form_l2b t1_2 t3_2 t6_2 k nx1 (fun s h' => I s h' ∧ μ s h' < μ (t3_2, t6_2) h) h
def ref27_Form_l1b (t1_1 : Addr) (t3_1 : Slc) (t4_1 : Int) (k : (Slc) → Heap → Prop) (nx1 : (Slc × Int) → Heap → Prop) (h_1 : Heap) : Prop :=
  ∃ v35 : Slc, cellH h_1 (t1_1.add 5) = some (Slc.v v35) ∧ (if (decide (t4_1 < (v35.len : Int))) then (∃ v36 : Slc, cellH h_1 (t1_1.add 5) = some (Slc.v v36) ∧ (∃ a37 : Addr, v36.a = some a37 ∧ (0 : Int) ≤ t4_1 ∧ t4_1 < (v36.len : Int) ∧ (∃ v38 : S_api_Piece, CellsAt h_1 (a37.add (t4_1.toNat * 5)) (S_api_Piece.cs v38) ∧ (∃ (b39 : Nat) (h40 : Heap), b39 = h_1.size ∧ h40 = h_1.push (.cells (S_api_Piece.cs (⟨ByteArray.empty, 0, 0, (⟨0, 0⟩ : S_api_Id)⟩ : S_api_Piece)).toArray 50) ∧ (∃ h41 : Heap, WrsAt h40 (⟨b39, 0, none⟩ : Addr) 5 ∧ h41 = setsH h40 (⟨b39, 0, none⟩ : Addr) 0 (S_api_Piece.cs v38) ∧ (∃ v42 : ByteArray, cellH h41 (⟨b39, 0, none⟩ : Addr) = some (.string v42) ∧ (ref27_text v42 (fun (r43 : Slc) h44 => ∃ l47 : List Value, SlcAt h44 r43 l47 ∧ App 5 1 1 [.int .u8 0] h44 t3_1 r43.len l47 (fun s45 h46 => ∃ v48 : Int, cellH h46 ((⟨b39, 0, none⟩ : Addr).add 1) = some (.int .i64 v48) ∧ (ref01_Form (IntKind.u64.wrap v48) 8 (fun (r49 : Slc) h50 => ∃ l53 : List Value, SlcAt h50 r49 l53 ∧ App 5 1 1 [.int .u8 0] h50 s45 r49.len l53 (fun s51 h52 => ∃ v54 : Int, cellH h52 ((⟨b39, 0, none⟩ : Addr).add 2) = some (.int .i64 v54) ∧ (ref01_Form (IntKind.u64.wrap v54) 8 (fun (r55 : Slc) h56 => ∃ l59 : List Value, SlcAt h56 r55 l59 ∧ App 5 1 1 [.int .u8 0] h56 s51 r55.len l59 (fun s57 h58 => ∃ v60 : S_api_Id, CellsAt h58 ((⟨b39, 0, none⟩ : Addr).add 3) (S_api_Id.cs v60) ∧ (ref27_id v60 (fun (r61 : Slc) h62 => ∃ l65 : List Value, SlcAt h62 r61 l65 ∧ App 5 1 1 [.int .u8 0] h62 s57 r61.len l65 (fun s63 h64 => ∃ x66 : Int, x66 = (IntKind.i64.wrap (t4_1 + 1)) ∧ (nx1 (s63, x66) h64))) h58))) h52))) h46))) h41))))))) else (∃ v67 : ByteArray, cellH h_1 (t1_1.add 6) = some (.string v67) ∧ (ref27_text v67 (fun (r68 : Slc) h69 => ∃ l72 : List Value, SlcAt h69 r68 l72 ∧ App 5 1 1 [.int .u8 0] h69 t3_1 r68.len l72 (fun s70 h71 => ∃ v73 : Int, cellH h71 ((t1_1.add 6).add 1) = some (.int .i64 v73) ∧ (ref01_Form (IntKind.u64.wrap v73) 8 (fun (r74 : Slc) h75 => ∃ l78 : List Value, SlcAt h75 r74 l78 ∧ App 5 1 1 [.int .u8 0] h75 s70 r74.len l78 (fun s76 h77 => ∃ v79 : Int, cellH h77 ((t1_1.add 6).add 2) = some (.int .i64 v79) ∧ (ref01_Form (IntKind.u64.wrap v79) 8 (fun (r80 : Slc) h81 => ∃ l84 : List Value, SlcAt h81 r80 l84 ∧ App 5 1 1 [.int .u8 0] h81 s76 r80.len l84 (fun s82 h83 => ∃ v85 : Int, cellH h83 ((t1_1.add 6).add 4) = some (.int .i64 v85) ∧ (ref01_Form (IntKind.u64.wrap v85) 8 (fun (r86 : Slc) h87 => ∃ l90 : List Value, SlcAt h87 r86 l90 ∧ App 5 1 1 [.int .u8 0] h87 s82 r86.len l90 (fun s88 h89 => ∃ v91 : Int, cellH h89 ((t1_1.add 6).add 3) = some (.int .i64 v91) ∧ (∃ (b92 : Nat) (h93 : Heap), b92 = h89.size ∧ h93 = h89.push (.cells ([.int .u8 (IntKind.u8.wrap v91)]).toArray 5) ∧ (App 5 1 1 [.int .u8 0] h93 s88 1 ([.int .u8 (IntKind.u8.wrap v91)]) (fun s94 h95 => ∃ v96 : S_api_Command, CellsAt h95 (t1_1.add 11) (S_api_Command.cs v96) ∧ (ref25_Put v96 (fun (r97 : Slc) h98 => ∃ l99 : List Int, l99.length = r97.len ∧ SlcAt h98 r97 (b8 l99) ∧ (ref27_text (bsOf l99) (fun (r100 : Slc) h101 => ∃ l104 : List Value, SlcAt h101 r100 l104 ∧ App 5 1 1 [.int .u8 0] h101 s94 r100.len l104 (fun s102 h103 => ∃ v105 : Int, cellH h103 (t1_1.add 28) = some (.int .u64 v105) ∧ (ref01_Short v105 (fun (r106 : Slc) h107 => ∃ l110 : List Value, SlcAt h107 r106 l110 ∧ App 5 1 1 [.int .u8 0] h107 s102 r106.len l110 (fun s108 h109 => ∃ v111 : Slc, cellH h109 (t1_1.add 29) = some (Slc.v v111) ∧ (ref01_Short (IntKind.u64.wrap (v111.len : Int)) (fun (r112 : Slc) h113 => ∃ l116 : List Value, SlcAt h113 r112 l116 ∧ App 5 1 1 [.int .u8 0] h113 s108 r112.len l116 (fun s114 h115 => ref27_Form_l2 t1_1 s114 0 k nx1 h115)) h109))) h103))) h98)) h95)))))) h83))) h77))) h71))) h_1)))
def ref27_Form_l1 (t1_1 : Addr) (i3 : Slc) (i4 : Int) (k : (Slc) → Heap → Prop) (h : Heap) : Prop :=
  ∃ (I : (Slc × Int) → Heap → Prop) (μ : (Slc × Int) → Heap → Nat), I (i3, i4) h ∧ ∀ (t3_1 : Slc) (t4_1 : Int) (h : Heap), I (t3_1, t4_1) h → ref27_Form_l1b t1_1 t3_1 t4_1 k (fun s h' => I s h' ∧ μ s h' < μ (t3_1, t4_1) h) h
def ref27_Form (p0 : S_api_Note) (k : (Slc) → Heap → Prop) (h : Heap) : Prop :=
  ∃ (b1 : Nat) (h2 : Heap), b1 = h.size ∧ h2 = h.push (.cells (S_api_Note.cs p0).toArray 42) ∧ (∃ v3 : Int, cellH h2 (⟨b1, 0, none⟩ : Addr) = some (.int .i64 v3) ∧ (∃ (b4 : Nat) (h5 : Heap), b4 = h2.size ∧ h5 = h2.push (.cells ([.int .u8 (IntKind.u8.wrap v3)]).toArray 5) ∧ (∃ v6 : Int, cellH h5 ((⟨b1, 0, none⟩ : Addr).add 1) = some (.int .u64 v6) ∧ (ref01_Short v6 (fun (r7 : Slc) h8 => ∃ l11 : List Value, SlcAt h8 r7 l11 ∧ App 5 1 1 [.int .u8 0] h8 (⟨some ⟨b4, 0, none⟩, 1, 1⟩ : Slc) r7.len l11 (fun s9 h10 => ∃ v12 : Int, cellH h10 ((⟨b1, 0, none⟩ : Addr).add 2) = some (.int .u64 v12) ∧ (ref01_Short v12 (fun (r13 : Slc) h14 => ∃ l17 : List Value, SlcAt h14 r13 l17 ∧ App 5 1 1 [.int .u8 0] h14 s9 r13.len l17 (fun s15 h16 => ∃ v18 : Int, cellH h16 ((⟨b1, 0, none⟩ : Addr).add 3) = some (.int .i64 v18) ∧ (∃ (b19 : Nat) (h20 : Heap), b19 = h16.size ∧ h20 = h16.push (.cells ([.int .u8 (IntKind.u8.wrap v18)]).toArray 5) ∧ (App 5 1 1 [.int .u8 0] h20 s15 1 ([.int .u8 (IntKind.u8.wrap v18)]) (fun s21 h22 => ∃ v23 : ByteArray, cellH h22 ((⟨b1, 0, none⟩ : Addr).add 4) = some (.string v23) ∧ (ref27_text v23 (fun (r24 : Slc) h25 => ∃ l28 : List Value, SlcAt h25 r24 l28 ∧ App 5 1 1 [.int .u8 0] h25 s21 r24.len l28 (fun s26 h27 => ∃ v29 : Slc, cellH h27 ((⟨b1, 0, none⟩ : Addr).add 5) = some (Slc.v v29) ∧ (ref01_Short (IntKind.u64.wrap (v29.len : Int)) (fun (r30 : Slc) h31 => ∃ l34 : List Value, SlcAt h31 r30 l34 ∧ App 5 1 1 [.int .u8 0] h31 s26 r30.len l34 (fun s32 h33 => ref27_Form_l1 (⟨b1, 0, none⟩ : Addr) s32 0 k h33)) h27))) h22)))))) h10))) h5))))

/-- quaestor quaestorref13.Check -/
def ref13_Check_g1 (t12_1 : Bool) (k : (Bool) → Heap → Prop) (h_1 : Heap) : Prop :=
  k t12_1 h_1
def ref13_Check (p0 : S_api_Piece) (k : (Bool) → Heap → Prop) (h : Heap) : Prop :=
  ∃ (b1 : Nat) (h2 : Heap), b1 = h.size ∧ h2 = h.push (.cells (S_api_Piece.cs p0).toArray 50) ∧ (∃ v3 : ByteArray, cellH h2 (⟨b1, 0, none⟩ : Addr) = some (.string v3) ∧ (if (decide ((v3.size : Int) ≥ 1)) then (∃ v4 : ByteArray, cellH h2 (⟨b1, 0, none⟩ : Addr) = some (.string v4) ∧ (ref13_Check_g1 (decide ((v4.size : Int) ≤ 200)) k h2)) else (ref13_Check_g1 false k h2)))

/-- quaestor quaestorref27.byteOk -/
def ref27_byteOk (p0 : Int) (k : (Bool) → Heap → Prop) (h : Heap) : Prop :=
  k ((decide (p0 ≥ 0)) && (decide (p0 ≤ 255))) h

/-- quaestor quaestorref27.Check -/
def ref27_Check_l7b (t1_7 : Addr) (t3_7 : Int) (k : (Int) → Heap → Prop) (nx7 : (Int) → Heap → Prop) (h_7 : Heap) : Prop :=
  ∃ v5 : Slc, cellH h_7 (t1_7.add 5) = some (Slc.v v5) ∧ (if (decide (t3_7 < (v5.len : Int))) then (∃ v6 : Slc, cellH h_7 (t1_7.add 5) = some (Slc.v v6) ∧ (∃ a7 : Addr, v6.a = some a7 ∧ (0 : Int) ≤ t3_7 ∧ t3_7 < (v6.len : Int) ∧ (∃ v8 : S_api_Piece, CellsAt h_7 (a7.add (t3_7.toNat * 5)) (S_api_Piece.cs v8) ∧ (ref13_Check v8 (fun (r9 : Bool) h10 => if (!r9) then (k 1 h10) else (∃ x11 : Int, x11 = (IntKind.i64.wrap (t3_7 + 1)) ∧ (nx7 x11 h10))) h_7)))) else (∃ v12 : S_api_Note, CellsAt h_7 t1_7 (S_api_Note.cs v12) ∧ (ref27_Form v12 (fun (r13 : Slc) h14 => if (decide ((r13.len : Int) > 4096)) then (k 3 h14) else (k 0 h14)) h_7)))
def ref27_Check_l7 (t1_7 : Addr) (i3 : Int) (k : (Int) → Heap → Prop) (h : Heap) : Prop :=
  ∃ (I : Int → Heap → Prop) (μ : Int → Heap → Nat), I i3 h ∧ ∀ (t3_7 : Int) (h : Heap), I t3_7 h → ref27_Check_l7b t1_7 t3_7 k (fun s h' => I s h' ∧ μ s h' < μ t3_7 h) h
def ref27_Check_g6 (t1_6 : Addr) (t48_6 : Bool) (k : (Int) → Heap → Prop) (h_6 : Heap) : Prop :=
  if t48_6 then (k 1 h_6) else (ref27_Check_l7 t1_6 0 k h_6)
def ref27_Check_g5 (t1_5 : Addr) (t41_5 : Bool) (k : (Int) → Heap → Prop) (h_5 : Heap) : Prop :=
  if t41_5 then (ref27_Check_g6 t1_5 true k h_5) else (∃ v15 : Int, cellH h_5 (t1_5.add 63) = some (.int .i64 v15) ∧ (ref27_byteOk v15 (fun (r16 : Bool) h17 => ref27_Check_g6 t1_5 (!r16) k h17) h_5))
def ref27_Check_g4 (t1_4 : Addr) (t34_4 : Bool) (k : (Int) → Heap → Prop) (h_4 : Heap) : Prop :=
  if t34_4 then (ref27_Check_g5 t1_4 true k h_4) else (∃ v18 : Int, cellH h_4 (t1_4.add 11) = some (.int .i64 v18) ∧ (ref27_byteOk v18 (fun (r19 : Bool) h20 => ref27_Check_g5 t1_4 (!r19) k h20) h_4))
def ref27_Check_g3 (t1_3 : Addr) (t27_3 : Bool) (k : (Int) → Heap → Prop) (h_3 : Heap) : Prop :=
  if t27_3 then (ref27_Check_g4 t1_3 true k h_3) else (∃ v21 : Int, cellH h_3 ((t1_3.add 6).add 3) = some (.int .i64 v21) ∧ (ref27_byteOk v21 (fun (r22 : Bool) h23 => ref27_Check_g4 t1_3 (!r22) k h23) h_3))
def ref27_Check_g2 (t1_2 : Addr) (t21_2 : Bool) (k : (Int) → Heap → Prop) (h_2 : Heap) : Prop :=
  if t21_2 then (ref27_Check_g3 t1_2 true k h_2) else (∃ v24 : Int, cellH h_2 (t1_2.add 3) = some (.int .i64 v24) ∧ (ref27_byteOk v24 (fun (r25 : Bool) h26 => ref27_Check_g3 t1_2 (!r25) k h26) h_2))
def ref27_Check_g1 (t1_1 : Addr) (t13_1 : Bool) (k : (Int) → Heap → Prop) (h_1 : Heap) : Prop :=
  if t13_1 then (k 3 h_1) else (∃ v4 : Int, cellH h_1 t1_1 = some (.int .i64 v4) ∧ (if (decide (v4 < 1)) then (ref27_Check_g2 t1_1 true k h_1) else (∃ v27 : Int, cellH h_1 t1_1 = some (.int .i64 v27) ∧ (ref27_Check_g2 t1_1 (decide (v27 > 13)) k h_1))))
def ref27_Check (p0 : S_api_Note) (k : (Int) → Heap → Prop) (h : Heap) : Prop :=
  ∃ (b1 : Nat) (h2 : Heap), b1 = h.size ∧ h2 = h.push (.cells (S_api_Note.cs p0).toArray 42) ∧ (∃ v3 : Slc, cellH h2 ((⟨b1, 0, none⟩ : Addr).add 5) = some (Slc.v v3) ∧ (if (decide ((v3.len : Int) > 32)) then (ref27_Check_g1 (⟨b1, 0, none⟩ : Addr) true k h2) else (∃ v28 : Slc, cellH h2 ((⟨b1, 0, none⟩ : Addr).add 29) = some (Slc.v v28) ∧ (ref27_Check_g1 (⟨b1, 0, none⟩ : Addr) (decide ((v28.len : Int) > 64)) k h2))))

/-- quaestor quaestorlaw27.PackGets -/
def law27_PackGets_g2 (t34_2 : Bool) (k : (Bool) → Heap → Prop) (h_2 : Heap) : Prop :=
  k t34_2 h_2
def law27_PackGets_g1 (t31_1 : Bool) (k : (Bool) → Heap → Prop) (h_1 : Heap) : Prop :=
  if t31_1 then (law27_awake  (fun (r12 : Bool) h13 => law27_PackGets_g2 r12 k h13) h_1) else (law27_PackGets_g2 false k h_1)
def law27_PackGets_g4 (t46_4 : Bool) (k : (Bool) → Heap → Prop) (h_4 : Heap) : Prop :=
  k t46_4 h_4
def law27_PackGets_g3 (t43_3 : Bool) (k : (Bool) → Heap → Prop) (h_3 : Heap) : Prop :=
  if t43_3 then (law27_awake  (fun (r24 : Bool) h25 => law27_PackGets_g4 r24 k h25) h_3) else (law27_PackGets_g4 false k h_3)
def law27_PackGets (p0 : Slc) (k : (Bool) → Heap → Prop) (h : Heap) : Prop :=
  if (decide ((p0.len : Int) > 2000)) then (law27_awake  (fun (r1 : Bool) h2 => k r1 h2) h) else (ref01_Lent p0 (fun (r3 : Slc) h4 => pack_Get r3 (fun (r5 : S_api_Note × Int) h6 => ∃ (b7 : Nat) (h8 : Heap), b7 = h6.size ∧ h8 = h6.push (.cells (S_api_Note.cs (⟨0, 0, 0, 0, ByteArray.empty, (⟨none, 0, 0⟩ : Slc), (⟨ByteArray.empty, 0, 0, 0, 0⟩ : S_api_Query), (⟨0, ByteArray.empty, 0, ([] : List Int), (⟨none, 0, 0⟩ : Slc), 0⟩ : S_api_Command), 0, (⟨none, 0, 0⟩ : Slc), (⟨0, ([] : List Int)⟩ : S_api_Share), (⟨0, 0, 0, 0, 0, false, (⟨none, 0, 0⟩ : Slc), (⟨none, 0, 0⟩ : Slc)⟩ : S_api_Msg)⟩ : S_api_Note)).toArray 42) ∧ (∃ h9 : Heap, WrsAt h8 (⟨b7, 0, none⟩ : Addr) 71 ∧ h9 = setsH h8 (⟨b7, 0, none⟩ : Addr) 0 (S_api_Note.cs r5.1) ∧ (ref01_Kept r3 p0 (fun (r10 : Bool) h11 => if (!r10) then (k false h11) else (if (r5.2 != 0) then (if (r5.2 == 4) then (∃ v14 : S_api_Note, CellsAt h11 (⟨b7, 0, none⟩ : Addr) (S_api_Note.cs v14) ∧ (ref27_Form v14 (fun (r15 : Slc) h16 => ref27_Form (⟨0, 0, 0, 0, ByteArray.empty, (⟨none, 0, 0⟩ : Slc), (⟨ByteArray.empty, 0, 0, 0, 0⟩ : S_api_Query), (⟨0, ByteArray.empty, 0, ([] : List Int), (⟨none, 0, 0⟩ : Slc), 0⟩ : S_api_Command), 0, (⟨none, 0, 0⟩ : Slc), (⟨0, ([] : List Int)⟩ : S_api_Share), (⟨0, 0, 0, 0, 0, false, (⟨none, 0, 0⟩ : Slc), (⟨none, 0, 0⟩ : Slc)⟩ : S_api_Msg)⟩ : S_api_Note) (fun (r17 : Slc) h18 => ref01_Same r15 r17 (fun (r19 : Bool) h20 => law27_PackGets_g1 r19 k h20) h18) h16) h11)) else (law27_PackGets_g1 false k h11)) else (∃ v21 : S_api_Note, CellsAt h11 (⟨b7, 0, none⟩ : Addr) (S_api_Note.cs v21) ∧ (ref27_Check v21 (fun (r22 : Int) h23 => if (r22 == 0) then (∃ v26 : S_api_Note, CellsAt h23 (⟨b7, 0, none⟩ : Addr) (S_api_Note.cs v26) ∧ (ref27_Form v26 (fun (r27 : Slc) h28 => ref01_Same r27 p0 (fun (r29 : Bool) h30 => law27_PackGets_g3 r29 k h30) h28) h23)) else (law27_PackGets_g3 false k h23)) h11)))) h9))) h4) h)

/-- quaestor quaestorref01.Pick -/
def ref01_Pick_j1 (t5_1 : Int) (k : (Int) → Heap → Prop) (h_1 : Heap) : Prop :=
  k t5_1 h_1
def ref01_Pick (p0 : Int) (p1 : Int) (k : (Int) → Heap → Prop) (h : Heap) : Prop :=
  if (decide (p1 < 1)) then (k 0 h) else (p1 ≠ 0 ∧ (∃ x2 : Int, x2 = (Int.tmod p0 p1) ∧ (if (decide (x2 < 0)) then (∃ x3 : Int, x3 = (IntKind.i64.wrap (x2 + p1)) ∧ (ref01_Pick_j1 x3 k h)) else (ref01_Pick_j1 x2 k h))))

/-- quaestor quaestorlaw27.PackTorn -/
def law27_PackTorn_g2 (t47_2 : Bool) (k : (Bool) → Heap → Prop) (h_2 : Heap) : Prop :=
  k t47_2 h_2
def law27_PackTorn_g1 (t1_1 : Int) (t2_1 : Addr) (t16_1 : Bool) (k : (Bool) → Heap → Prop) (h_1 : Heap) : Prop :=
  if t16_1 then (law27_awake  (fun (r6 : Bool) h7 => k r6 h7) h_1) else (∃ v8 : S_api_Note, CellsAt h_1 t2_1 (S_api_Note.cs v8) ∧ (pack_Put v8 (fun (r9 : Slc) h10 => ref01_Pick t1_1 (r9.len : Int) (fun (r11 : Int) h12 => ∃ s13 : Slc, (0 : Int) ≤ 0 ∧ (0 : Int) ≤ r11 ∧ (r11 : Int) ≤ (r9.cap : Int) ∧ (r9.cap : Int) ≤ (r9.cap : Int) ∧ s13 = subS r9 1 (0 : Int).toNat r11.toNat (r9.cap : Int).toNat ∧ (pack_Get s13 (fun (r14 : S_api_Note × Int) h15 => ∃ (b16 : Nat) (h17 : Heap), b16 = h15.size ∧ h17 = h15.push (.cells (S_api_Note.cs (⟨0, 0, 0, 0, ByteArray.empty, (⟨none, 0, 0⟩ : Slc), (⟨ByteArray.empty, 0, 0, 0, 0⟩ : S_api_Query), (⟨0, ByteArray.empty, 0, ([] : List Int), (⟨none, 0, 0⟩ : Slc), 0⟩ : S_api_Command), 0, (⟨none, 0, 0⟩ : Slc), (⟨0, ([] : List Int)⟩ : S_api_Share), (⟨0, 0, 0, 0, 0, false, (⟨none, 0, 0⟩ : Slc), (⟨none, 0, 0⟩ : Slc)⟩ : S_api_Msg)⟩ : S_api_Note)).toArray 42) ∧ (∃ h18 : Heap, WrsAt h17 (⟨b16, 0, none⟩ : Addr) 71 ∧ h18 = setsH h17 (⟨b16, 0, none⟩ : Addr) 0 (S_api_Note.cs r14.1) ∧ (∃ (b19 : Nat) (h20 : Heap), b19 = h18.size ∧ h20 = h18.push (.cells ([]).toArray 5) ∧ (∃ l23 : List Value, SlcAt h20 r9 l23 ∧ App 5 1 1 [.int .u8 0] h20 (⟨some ⟨b19, 0, none⟩, 0, 0⟩ : Slc) r9.len l23 (fun s21 h22 => ∃ (b24 : Nat) (h25 : Heap), b24 = h22.size ∧ h25 = h22.push (.cells ([.int .u8 0]).toArray 5) ∧ (App 5 1 1 [.int .u8 0] h25 s21 1 ([.int .u8 0]) (fun s26 h27 => pack_Get s26 (fun (r28 : S_api_Note × Int) h29 => ∃ (b30 : Nat) (h31 : Heap), b30 = h29.size ∧ h31 = h29.push (.cells (S_api_Note.cs (⟨0, 0, 0, 0, ByteArray.empty, (⟨none, 0, 0⟩ : Slc), (⟨ByteArray.empty, 0, 0, 0, 0⟩ : S_api_Query), (⟨0, ByteArray.empty, 0, ([] : List Int), (⟨none, 0, 0⟩ : Slc), 0⟩ : S_api_Command), 0, (⟨none, 0, 0⟩ : Slc), (⟨0, ([] : List Int)⟩ : S_api_Share), (⟨0, 0, 0, 0, 0, false, (⟨none, 0, 0⟩ : Slc), (⟨none, 0, 0⟩ : Slc)⟩ : S_api_Msg)⟩ : S_api_Note)).toArray 42) ∧ (∃ h32 : Heap, WrsAt h31 (⟨b30, 0, none⟩ : Addr) 71 ∧ h32 = setsH h31 (⟨b30, 0, none⟩ : Addr) 0 (S_api_Note.cs r28.1) ∧ (if ((r14.2 == 4) && (r28.2 == 4)) then (law27_awake  (fun (r33 : Bool) h34 => law27_PackTorn_g2 r33 k h34) h32) else (law27_PackTorn_g2 false k h32)))) h27))))))) h12)) h10) h_1))
def law27_PackTorn (p0 : S_api_Note) (p1 : Int) (k : (Bool) → Heap → Prop) (h : Heap) : Prop :=
  ∃ (b1 : Nat) (h2 : Heap), b1 = h.size ∧ h2 = h.push (.cells (S_api_Note.cs p0).toArray 42) ∧ (∃ v3 : S_api_Note, CellsAt h2 (⟨b1, 0, none⟩ : Addr) (S_api_Note.cs v3) ∧ (ref27_Great v3 (fun (r4 : Bool) h5 => if r4 then (law27_PackTorn_g1 p1 (⟨b1, 0, none⟩ : Addr) true k h5) else (∃ v35 : S_api_Note, CellsAt h5 (⟨b1, 0, none⟩ : Addr) (S_api_Note.cs v35) ∧ (ref27_Check v35 (fun (r36 : Int) h37 => law27_PackTorn_g1 p1 (⟨b1, 0, none⟩ : Addr) (r36 != 0) k h37) h5))) h2))

theorem ref01_Lent_ok : CallOk Go.Proofs.Try.prog 34 := ⟨_, Go.Proofs.Try.func34, by kernel_rfl, by kernel_rfl⟩
theorem ref01_Lent_ref (p0 : Slc) (k : (Slc) → Heap → Prop) (h : Heap) (H : ref01_Lent p0 k h) : CallsH Go.Proofs.Try.prog 34 #[Slc.v p0] h (fun v h' => ∃ r : Slc, v = Slc.v r ∧ k r h') := by
  refine f_enter (N := 33) Go.Proofs.Try.func34 rfl rfl rfl (fun w0 => ?_)
  unfold ref01_Lent at H
  refine c_weak [(0, Slc.v p0)] ⟨rfl, trivial⟩ ?_
  refine c_seq ?_
  refine c_region ?_
  refine w_p tok rfl rfl rfl ?_
  refine w_end ?_
  refine x_seq ?_
  refine c_seq ?_
  refine c_region ?_
  refine w_p tok rfl rfl rfl ?_
  refine w_p tok rfl rfl rfl ?_
  refine w_p tok rfl rfl rfl ?_
  obtain ⟨b1, h2, ph2, qh2, rh2, th2, eb1, eh2, H⟩ := H
  refine w_h (h_mk tok rfl rfl rfl rfl rfl rfl ph2 qh2 rh2 th2 eb1 eh2) rfl rfl ?_
  refine w_p tok rfl rfl rfl ?_
  refine w_end ?_
  refine x_seq ?_
  refine c_seq ?_
  refine c_seq ?_
  refine c_region ?_
  refine w_p tok rfl rfl rfl ?_
  refine w_end ?_
  refine x_seq ?_
  refine c_block ?_
  obtain ⟨I1, μ1, H0, HI⟩ := H
  refine c_loop (σ := Int) (fun (s : Int) => [(4, .int .i64 s), (0, Slc.v p0), (3, Slc.v (⟨some ⟨b1, 0, none⟩, (IntKind.i64.wrap ((p0.len : Int) + 8)).toNat, (IntKind.i64.wrap ((p0.len : Int) + 8)).toNat⟩ : Slc))]) I1 μ1 0 H0 ⟨rfl, rfl, rfl, trivial⟩ ?_
  rintro t4_1 h_1 H
  replace H := HI t4_1 h_1 H
  unfold ref01_Lent_l1b at H
  refine c_weak [(4, .int .i64 t4_1), (0, Slc.v p0), (3, Slc.v (⟨some ⟨b1, 0, none⟩, (IntKind.i64.wrap ((p0.len : Int) + 8)).toNat, (IntKind.i64.wrap ((p0.len : Int) + 8)).toNat⟩ : Slc))] ⟨rfl, rfl, rfl, trivial⟩ ?_
  refine c_seq ?_
  refine c_seq ?_
  refine c_region ?_
  refine w_p tok rfl rfl rfl ?_
  refine w_p tok rfl rfl rfl ?_
  refine w_p tok rfl rfl rfl ?_
  refine w_p tok rfl rfl rfl ?_
  refine w_end ?_
  refine x_seq ?_
  refine c_if H rfl (fun H => ?_) (fun H => ?_)
  ·
    refine c_skip ?_
    refine x_seq ?_
    refine c_seqJ (α := Unit) (fun (s : Unit) => [(0, Slc.v p0), (3, Slc.v (⟨some ⟨b1, 0, none⟩, (IntKind.i64.wrap ((p0.len : Int) + 8)).toNat, (IntKind.i64.wrap ((p0.len : Int) + 8)).toNat⟩ : Slc)), (4, .int .i64 t4_1)]) (fun (s : Unit) h => ref01_Lent_j2 p0 (⟨some ⟨b1, 0, none⟩, (IntKind.i64.wrap ((p0.len : Int) + 8)).toNat, (IntKind.i64.wrap ((p0.len : Int) + 8)).toNat⟩ : Slc) t4_1 k (fun s h' => I1 s h' ∧ μ1 s h' < μ1 t4_1 h_1) h) ?_ ?_
    ·
      rintro _ h_2 H
      replace H : ref01_Lent_j2 p0 (⟨some ⟨b1, 0, none⟩, (IntKind.i64.wrap ((p0.len : Int) + 8)).toNat, (IntKind.i64.wrap ((p0.len : Int) + 8)).toNat⟩ : Slc) t4_1 k (fun s h' => I1 s h' ∧ μ1 s h' < μ1 t4_1 h_1) h_2 := H
      unfold ref01_Lent_j2 at H
      refine c_weak [(0, Slc.v p0), (3, Slc.v (⟨some ⟨b1, 0, none⟩, (IntKind.i64.wrap ((p0.len : Int) + 8)).toNat, (IntKind.i64.wrap ((p0.len : Int) + 8)).toNat⟩ : Slc)), (4, .int .i64 t4_1)] ⟨rfl, rfl, rfl, trivial⟩ ?_
      refine c_region ?_
      refine w_p tok rfl rfl rfl ?_
      refine w_p tok rfl rfl rfl ?_
      obtain ⟨x3, ex3, H⟩ := H
      refine w_pe tok rfl (congrArg (fun z => (.int .i64 z : Value)) ex3) rfl rfl ?_
      refine w_end ?_
      exact x_join x3 H ⟨rfl, rfl, rfl, trivial⟩
    ·
      refine c_block ?_
      refine c_seq ?_
      refine c_region ?_
      refine w_p tok rfl rfl rfl ?_
      refine w_p tok rfl rfl rfl ?_
      refine w_p tok rfl rfl rfl ?_
      refine w_p tok rfl rfl rfl ?_
      refine w_end ?_
      refine x_seq ?_
      refine c_weak [(4, .int .i64 t4_1), (0, Slc.v p0), (3, Slc.v (⟨some ⟨b1, 0, none⟩, (IntKind.i64.wrap ((p0.len : Int) + 8)).toNat, (IntKind.i64.wrap ((p0.len : Int) + 8)).toNat⟩ : Slc)), (18, .bool (decide (t4_1 < (p0.len : Int))))] ⟨rfl, rfl, rfl, rfl, trivial⟩ ?_
      refine c_if H rfl (fun H => ?_) (fun H => ?_)
      ·
        refine c_region ?_
        refine w_p tok rfl rfl rfl ?_
        refine w_p tok rfl rfl rfl ?_
        refine w_p tok rfl rfl rfl ?_
        refine w_p tok rfl rfl rfl ?_
        obtain ⟨a4, ha4, la4, ua4, H⟩ := H
        refine w_y (y_ixa' tok rfl rfl ha4 rfl rfl rfl la4 ua4) rfl rfl ?_
        obtain ⟨v5, hv5, H⟩ := H
        refine w_y (y_ld tok rfl rfl rfl rfl hv5) rfl rfl ?_
        obtain ⟨a6, ha6, la6, ua6, H⟩ := H
        refine w_y (y_ixa' tok rfl rfl ha6 rfl rfl rfl la6 ua6) rfl rfl ?_
        obtain ⟨h7, wh7, eh7, H⟩ := H
        refine w_h (h_st tok rfl rfl rfl rfl rfl rfl wh7 eh7) rfl rfl ?_
        refine w_end ?_
        refine x_blk ?_
        exact x_join () H ⟨rfl, rfl, rfl, trivial⟩
      ·
        refine c_region ?_
        refine w_p tok rfl rfl rfl ?_
        refine w_p tok rfl rfl rfl ?_
        obtain ⟨a8, ha8, la8, ua8, H⟩ := H
        refine w_y (y_ixa' tok rfl rfl ha8 rfl rfl rfl la8 ua8) rfl rfl ?_
        obtain ⟨h9, wh9, eh9, H⟩ := H
        refine w_h (h_st tok rfl rfl rfl rfl rfl rfl wh9 eh9) rfl rfl ?_
        refine w_end ?_
        refine x_blk ?_
        exact x_join () H ⟨rfl, rfl, rfl, trivial⟩
  ·
    refine c_exit ?_
    refine x_te ?_
    refine x_te ?_
    refine x_bh ?_
    refine x_seq ?_
    refine c_seq ?_
    refine c_region ?_
    refine w_p tok rfl rfl rfl ?_
    refine w_p tok rfl rfl rfl ?_
    refine w_p tok rfl rfl rfl ?_
    obtain ⟨s10, ps10, qs10, rs10, ts10, es10, H⟩ := H
    refine w_ye (y_sl (s := (⟨some ⟨b1, 0, none⟩, (IntKind.i64.wrap ((p0.len : Int) + 8)).toNat, (IntKind.i64.wrap ((p0.len : Int) + 8)).toNat⟩ : Slc)) (L := 0) (H := (p0.len : Int)) (M := ((⟨some ⟨b1, 0, none⟩, (IntKind.i64.wrap ((p0.len : Int) + 8)).toNat, (IntKind.i64.wrap ((p0.len : Int) + 8)).toNat⟩ : Slc).cap : Int)) tok rfl rfl rfl rfl rfl rfl rfl (by simp) ps10 qs10 rs10 ts10) (congrArg Slc.v es10) rfl rfl ?_
    refine w_p tok rfl rfl rfl ?_
    refine w_end ?_
    refine x_seq ?_
    refine c_weak [(2, Slc.v s10)] ⟨rfl, trivial⟩ ?_
    refine c_ret ?_
    exact x_ret _ rfl _ rfl ⟨s10, rfl, H⟩

theorem pack_reader_bytes_ok : CallOk Go.Proofs.Try.prog 111 := ⟨_, Go.Proofs.Try.func111, by kernel_rfl, by kernel_rfl⟩
theorem pack_reader_bytes_ref (p0 : Option Addr) (p1 : Int) (k : (Slc) → Heap → Prop) (h : Heap) (H : pack_reader_bytes p0 p1 k h) : CallsH Go.Proofs.Try.prog 111 #[.pointer p0, .int .u64 p1] h (fun v h' => ∃ r : Slc, v = Slc.v r ∧ k r h') := by
  refine f_enter (N := 39) Go.Proofs.Try.func111 rfl rfl rfl (fun w0 => ?_)
  unfold pack_reader_bytes at H
  refine c_weak [(0, .pointer p0), (1, .int .u64 p1)] ⟨rfl, rfl, trivial⟩ ?_
  refine c_seq ?_
  refine c_region ?_
  refine w_p tok rfl rfl rfl ?_
  refine w_end ?_
  refine x_seq ?_
  refine c_seq ?_
  refine c_seq ?_
  refine c_region ?_
  refine w_p tok rfl rfl rfl ?_
  obtain ⟨a1, ha1, H⟩ := H
  refine w_y (y_nil' rfl rfl ha1) rfl rfl ?_
  refine w_p tok rfl rfl rfl ?_
  obtain ⟨v2, hv2, H⟩ := H
  refine w_y (y_ld tok rfl rfl rfl rfl hv2) rfl rfl ?_
  refine w_p tok rfl rfl rfl ?_
  refine w_cut 9 (α := Bool) (fun (s : Bool) => [(19, .bool s), (0, .pointer p0), (1, .int .u64 p1)]) (fun (s : Bool) h => pack_reader_bytes_g1 p0 p1 s k h) ?_ ?_
  ·
    rintro t19_1 h_1 H
    replace H : pack_reader_bytes_g1 p0 p1 t19_1 k h_1 := H
    unfold pack_reader_bytes_g1 at H
    refine w_weak [(19, .bool t19_1), (0, .pointer p0), (1, .int .u64 p1)] ⟨rfl, rfl, rfl, trivial⟩ ?_
    refine w_end ?_
    refine x_seq ?_
    refine c_if H rfl (fun H => ?_) (fun H => ?_)
    ·
      refine c_seq ?_
      refine c_region ?_
      refine w_p tok rfl rfl rfl ?_
      obtain ⟨a3, ha3, H⟩ := H
      refine w_y (y_nil' rfl rfl ha3) rfl rfl ?_
      refine w_p tok rfl rfl rfl ?_
      obtain ⟨h4, wh4, eh4, H⟩ := H
      refine w_h (h_st tok rfl rfl rfl rfl rfl rfl wh4 eh4) rfl rfl ?_
      refine w_end ?_
      refine x_seq ?_
      refine c_seq ?_
      refine c_region ?_
      refine w_p tok rfl rfl rfl ?_
      refine w_end ?_
      refine x_seq ?_
      refine c_ret ?_
      refine x_tr ?_
      exact x_ret _ rfl _ rfl ⟨(⟨none, 0, 0⟩ : Slc), rfl, H⟩
    ·
      refine c_skip ?_
      refine x_seq ?_
      refine c_seq ?_
      refine c_region ?_
      refine w_p tok rfl rfl rfl ?_
      obtain ⟨a5, ha5, H⟩ := H
      refine w_y (y_nil' rfl rfl ha5) rfl rfl ?_
      refine w_p tok rfl rfl rfl ?_
      obtain ⟨v6, hv6, H⟩ := H
      refine w_y (y_ld tok rfl rfl rfl rfl hv6) rfl rfl ?_
      refine w_p tok rfl rfl rfl ?_
      obtain ⟨s7, ps7, qs7, rs7, ts7, es7, H⟩ := H
      refine w_ye (y_sl (s := v6) (L := 0) (H := p1) (M := (v6.cap : Int)) tok rfl rfl rfl rfl rfl rfl rfl (by simp) ps7 qs7 rs7 ts7) (congrArg Slc.v es7) rfl rfl ?_
      refine w_p tok rfl rfl rfl ?_
      refine w_end ?_
      refine x_seq ?_
      refine c_weak [(0, .pointer p0), (1, .int .u64 p1), (5, Slc.v s7)] ⟨rfl, rfl, rfl, trivial⟩ ?_
      refine c_seq ?_
      refine c_region ?_
      refine w_p tok rfl rfl rfl ?_
      refine w_p tok rfl rfl rfl ?_
      refine w_y (y_nil' rfl rfl ha5) rfl rfl ?_
      refine w_p tok rfl rfl rfl ?_
      obtain ⟨v8, hv8, H⟩ := H
      refine w_y (y_ld tok rfl rfl rfl rfl hv8) rfl rfl ?_
      refine w_p tok rfl rfl rfl ?_
      obtain ⟨s9, ps9, qs9, rs9, ts9, es9, H⟩ := H
      refine w_ye (y_sl (s := v8) (L := p1) (H := (v8.len : Int)) (M := (v8.cap : Int)) tok rfl rfl rfl rfl rfl rfl rfl (by simp) ps9 qs9 rs9 ts9) (congrArg Slc.v es9) rfl rfl ?_
      refine w_y (y_nil' rfl rfl ha5) rfl rfl ?_
      refine w_p tok rfl rfl rfl ?_
      obtain ⟨h10, wh10, eh10, H⟩ := H
      refine w_h (h_st tok rfl rfl rfl rfl rfl rfl wh10 eh10) rfl rfl ?_
      refine w_end ?_
      refine x_seq ?_
      refine c_weak [(5, Slc.v s7)] ⟨rfl, trivial⟩ ?_
      refine c_seq ?_
      refine c_region ?_
      refine w_p tok rfl rfl rfl ?_
      refine w_p tok rfl rfl rfl ?_
      refine w_end ?_
      refine x_seq ?_
      refine c_ret ?_
      exact x_ret _ rfl _ rfl ⟨s7, rfl, H⟩
  ·
    refine w_gif (d := 10) H rfl (fun H => ?_) (fun H => ?_)
    ·
      refine w_skip rfl rfl ?_
      refine w_skip rfl rfl ?_
      refine w_skip rfl rfl ?_
      refine w_skip rfl rfl ?_
      refine w_skip rfl rfl ?_
      refine w_skip rfl rfl ?_
      refine w_skip rfl rfl ?_
      refine w_skip rfl rfl ?_
      refine w_p tok rfl rfl rfl ?_
      exact w_jn true H ⟨rfl, rfl, rfl, trivial⟩
    ·
      refine w_p tok rfl rfl rfl ?_
      refine w_p tok rfl rfl rfl ?_
      refine w_y (y_nil' rfl rfl ha1) rfl rfl ?_
      refine w_p tok rfl rfl rfl ?_
      obtain ⟨v11, hv11, H⟩ := H
      refine w_y (y_ld tok rfl rfl rfl rfl hv11) rfl rfl ?_
      refine w_p tok rfl rfl rfl ?_
      refine w_p tok rfl rfl rfl ?_
      refine w_p tok rfl rfl rfl ?_
      refine w_p tok rfl rfl rfl ?_
      exact w_jn (decide (p1 > (IntKind.u64.wrap (v11.len : Int)))) H ⟨rfl, rfl, rfl, trivial⟩

theorem num_Get_ok : CallOk Go.Proofs.Try.prog 162 := ⟨_, Go.Proofs.Try.func162, by kernel_rfl, by kernel_rfl⟩
theorem num_Get_ref (p0 : Slc) (p1 : Int) (k : (Int × Int) → Heap → Prop) (h : Heap) (H : num_Get p0 p1 k h) : CallsH Go.Proofs.Try.prog 162 #[Slc.v p0, .int .i64 p1] h (fun v h' => ∃ r : Int × Int, v = .tuple #[.int .u64 r.1, .int .i64 r.2] ∧ k r h') := by
  refine f_enter (N := 35) Go.Proofs.Try.func162 rfl rfl rfl (fun w0 => ?_)
  unfold num_Get at H
  refine c_weak [(0, Slc.v p0), (1, .int .i64 p1)] ⟨rfl, rfl, trivial⟩ ?_
  refine c_seq ?_
  refine c_region ?_
  refine w_p tok rfl rfl rfl ?_
  refine w_p tok rfl rfl rfl ?_
  refine w_end ?_
  refine x_seq ?_
  refine c_seq ?_
  refine c_block ?_
  refine c_seq ?_
  refine c_region ?_
  refine w_p tok rfl rfl rfl ?_
  refine w_p tok rfl rfl rfl ?_
  refine w_p tok rfl rfl rfl ?_
  refine w_cutU 3 [(14, .bool ((decide (p1 < 1)) || (decide (p1 > 8)))), (0, Slc.v p0), (1, .int .i64 p1)] ?_ ?_
  ·
    refine w_p tok rfl rfl rfl ?_
    refine w_end ?_
    refine x_seq ?_
    refine c_if H rfl (fun H => ?_) (fun H => ?_)
    ·
      refine c_seq ?_
      refine c_region ?_
      refine w_p tok rfl rfl rfl ?_
      refine w_p tok rfl rfl rfl ?_
      refine w_end ?_
      refine x_seq ?_
      refine c_ret ?_
      refine x_br ?_
      refine x_tr ?_
      exact x_ret _ rfl _ rfl ⟨(0, 1), rfl, H⟩
    ·
      refine c_seq ?_
      refine c_region ?_
      refine w_p tok rfl rfl rfl ?_
      refine w_p tok rfl rfl rfl ?_
      refine w_p tok rfl rfl rfl ?_
      refine w_p tok rfl rfl rfl ?_
      refine w_p tok rfl rfl rfl ?_
      refine w_end ?_
      refine x_seq ?_
      refine c_if H rfl (fun H => ?_) (fun H => ?_)
      ·
        refine c_seq ?_
        refine c_region ?_
        refine w_p tok rfl rfl rfl ?_
        refine w_p tok rfl rfl rfl ?_
        refine w_end ?_
        refine x_seq ?_
        refine c_weak [(4, .int .u64 0), (5, .int .i64 2)] ⟨rfl, rfl, trivial⟩ ?_
        refine c_ret ?_
        refine x_br ?_
        refine x_tr ?_
        exact x_ret _ rfl _ rfl ⟨(0, 2), rfl, H⟩
      ·
        refine c_skip ?_
        refine x_blk ?_
        refine x_seq ?_
        refine c_weak [(0, Slc.v p0), (1, .int .i64 p1)] ⟨rfl, rfl, trivial⟩ ?_
        refine c_seq ?_
        refine c_region ?_
        refine w_p tok rfl rfl rfl ?_
        refine w_end ?_
        refine x_seq ?_
        refine c_seq ?_
        refine c_seq ?_
        refine c_region ?_
        refine w_p tok rfl rfl rfl ?_
        refine w_p tok rfl rfl rfl ?_
        obtain ⟨x1, ex1, H⟩ := H
        refine w_pe tok rfl (congrArg (fun z => (.int .i64 z : Value)) ex1) rfl rfl ?_
        refine w_end ?_
        refine x_seq ?_
        refine c_block ?_
        obtain ⟨I1, μ1, H0, HI⟩ := H
        refine c_loop (σ := Int × Int) (fun (s : Int × Int) => [(6, .int .u64 s.1), (7, .int .i64 s.2), (0, Slc.v p0)]) I1 μ1 (0, x1) H0 ⟨rfl, rfl, rfl, trivial⟩ ?_
        rintro ⟨t6_1, t7_1⟩ h_1 H
        replace H := HI t6_1 t7_1 h_1 H
        unfold num_Get_l1b at H
        refine c_weak [(6, .int .u64 t6_1), (7, .int .i64 t7_1), (0, Slc.v p0)] ⟨rfl, rfl, rfl, trivial⟩ ?_
        refine c_seq ?_
        refine c_seq ?_
        refine c_region ?_
        refine w_p tok rfl rfl rfl ?_
        refine w_p tok rfl rfl rfl ?_
        refine w_end ?_
        refine x_seq ?_
        refine c_if H rfl (fun H => ?_) (fun H => ?_)
        ·
          refine c_skip ?_
          refine x_seq ?_
          refine c_seq ?_
          refine c_block ?_
          refine c_region ?_
          refine w_p tok rfl rfl rfl ?_
          refine w_p tok rfl rfl rfl ?_
          refine w_p tok rfl rfl rfl ?_
          refine w_p tok rfl rfl rfl ?_
          obtain ⟨a2, ha2, la2, ua2, H⟩ := H
          refine w_y (y_ixa' tok rfl rfl ha2 rfl rfl rfl la2 ua2) rfl rfl ?_
          obtain ⟨v3, hv3, H⟩ := H
          refine w_y (y_ld tok rfl rfl rfl rfl hv3) rfl rfl ?_
          refine w_p tok rfl rfl rfl ?_
          refine w_p tok rfl rfl rfl ?_
          obtain ⟨x4, ex4, H⟩ := H
          refine w_pe tok rfl (congrArg (fun z => (.int .u64 z : Value)) ex4) rfl rfl ?_
          refine w_end ?_
          refine x_blk ?_
          refine x_seq ?_
          refine c_weak [(6, .int .u64 x4), (7, .int .i64 t7_1), (0, Slc.v p0)] ⟨rfl, rfl, rfl, trivial⟩ ?_
          refine c_region ?_
          refine w_p tok rfl rfl rfl ?_
          refine w_p tok rfl rfl rfl ?_
          obtain ⟨x5, ex5, H⟩ := H
          refine w_pe tok rfl (congrArg (fun z => (.int .i64 z : Value)) ex5) rfl rfl ?_
          refine w_end ?_
          exact x_join (x4, x5) H ⟨rfl, rfl, rfl, trivial⟩
        ·
          refine c_exit ?_
          refine x_te ?_
          refine x_te ?_
          refine x_bh ?_
          refine x_seq ?_
          refine c_seq ?_
          refine c_region ?_
          refine w_p tok rfl rfl rfl ?_
          refine w_p tok rfl rfl rfl ?_
          refine w_p tok rfl rfl rfl ?_
          refine w_end ?_
          refine x_seq ?_
          refine c_ret ?_
          exact x_ret _ rfl _ rfl ⟨(t6_1, 0), rfl, H⟩
  ·
    refine w_gs (d := 11) rfl (fun hb => ?_) (fun hb => ?_)
    ·
      refine w_skip rfl rfl ?_
      refine w_skip rfl rfl ?_
      refine w_p tok rfl rfl rfl ?_
      refine w_jn () rfl ⟨?_, rfl, rfl, trivial⟩
      exact congrArg (fun b => some (Value.bool b)) (or_t hb)
    ·
      refine w_p tok rfl rfl rfl ?_
      refine w_p tok rfl rfl rfl ?_
      refine w_p tok rfl rfl rfl ?_
      refine w_jn () rfl ⟨?_, rfl, rfl, trivial⟩
      exact congrArg (fun b => some (Value.bool b)) (or_f hb)

theorem pack_reader_number_ok : CallOk Go.Proofs.Try.prog 105 := ⟨_, Go.Proofs.Try.func105, by kernel_rfl, by kernel_rfl⟩
theorem pack_reader_number_ref (p0 : Option Addr) (p1 : Int) (k : (Int) → Heap → Prop) (h : Heap) (H : pack_reader_number p0 p1 k h) : CallsH Go.Proofs.Try.prog 105 #[.pointer p0, .int .i64 p1] h (fun v h' => ∃ r : Int, v = .int .u64 r ∧ k r h') := by
  refine f_enter (N := 17) Go.Proofs.Try.func105 rfl rfl rfl (fun w0 => ?_)
  unfold pack_reader_number at H
  refine c_weak [(0, .pointer p0), (1, .int .i64 p1)] ⟨rfl, rfl, trivial⟩ ?_
  refine c_seq ?_
  refine c_region ?_
  refine w_p tok rfl rfl rfl ?_
  refine w_end ?_
  refine x_seq ?_
  refine c_seq ?_
  refine c_region ?_
  refine w_p tok rfl rfl rfl ?_
  refine w_p tok rfl rfl rfl ?_
  refine w_p tok rfl rfl rfl ?_
  refine w_call pack_reader_bytes_ok (pack_reader_bytes_ref _ _ _ _ H) rfl rfl rfl rfl ?_
  rintro _ h2 ⟨r1, rfl, H⟩
  refine w_p tok rfl rfl rfl ?_
  refine w_call num_Get_ok (num_Get_ref _ _ _ _ H) rfl rfl rfl rfl ?_
  rintro _ h4 ⟨r3, rfl, H⟩
  refine w_p tok rfl rfl rfl ?_
  refine w_p tok rfl rfl rfl ?_
  refine w_p tok rfl rfl rfl ?_
  refine w_p tok rfl rfl rfl ?_
  refine w_p tok rfl rfl rfl ?_
  refine w_end ?_
  refine x_seq ?_
  refine c_weak [(5, .int .u64 r3.1)] ⟨rfl, trivial⟩ ?_
  refine c_seq ?_
  refine c_region ?_
  refine w_p tok rfl rfl rfl ?_
  refine w_p tok rfl rfl rfl ?_
  refine w_end ?_
  refine x_seq ?_
  refine c_ret ?_
  exact x_ret _ rfl _ rfl ⟨r3.1, rfl, H⟩

theorem num_GetShort_ok : CallOk Go.Proofs.Try.prog 172 := ⟨_, Go.Proofs.Try.func172, by kernel_rfl, by kernel_rfl⟩
theorem num_GetShort_ref (p0 : Slc) (k : (Int × Int × Int) → Heap → Prop) (h : Heap) (H : num_GetShort p0 k h) : CallsH Go.Proofs.Try.prog 172 #[Slc.v p0] h (fun v h' => ∃ r : Int × Int × Int, v = .tuple #[.int .u64 r.1, .int .i64 r.2.1, .int .i64 r.2.2] ∧ k r h') := by
  refine f_enter (N := 41) Go.Proofs.Try.func172 rfl rfl rfl (fun w0 => ?_)
  unfold num_GetShort at H
  refine c_weak [(0, Slc.v p0)] ⟨rfl, trivial⟩ ?_
  refine c_seq ?_
  refine c_region ?_
  refine w_p tok rfl rfl rfl ?_
  refine w_p tok rfl rfl rfl ?_
  refine w_p tok rfl rfl rfl ?_
  refine w_end ?_
  refine x_seq ?_
  refine c_seq ?_
  refine c_seq ?_
  refine c_region ?_
  refine w_p tok rfl rfl rfl ?_
  refine w_p tok rfl rfl rfl ?_
  refine w_p tok rfl rfl rfl ?_
  refine w_end ?_
  refine x_seq ?_
  refine c_block ?_
  obtain ⟨I1, μ1, H0, HI⟩ := H
  refine c_loop (σ := Int × Int) (fun (s : Int × Int) => [(2, .int .u64 s.1), (9, .int .i64 s.2), (7, Slc.v p0), (8, .int .i64 (p0.len : Int))]) I1 μ1 (0, 0) H0 ⟨rfl, rfl, rfl, rfl, trivial⟩ ?_
  rintro ⟨t2_1, t9_1⟩ h_1 H
  replace H := HI t2_1 t9_1 h_1 H
  unfold num_GetShort_l1b at H
  refine c_weak [(2, .int .u64 t2_1), (9, .int .i64 t9_1), (7, Slc.v p0), (8, .int .i64 (p0.len : Int))] ⟨rfl, rfl, rfl, rfl, trivial⟩ ?_
  refine c_seq ?_
  refine c_region ?_
  refine w_p tok rfl rfl rfl ?_
  refine w_end ?_
  refine x_seq ?_
  refine c_seq ?_
  refine c_if H rfl (fun H => ?_) (fun H => ?_)
  ·
    refine c_skip ?_
    refine x_seq ?_
    refine c_seq ?_
    refine c_block ?_
    refine c_seq ?_
    refine c_region ?_
    refine w_p tok rfl rfl rfl ?_
    obtain ⟨a1, ha1, la1, ua1, H⟩ := H
    refine w_y (y_ixa' tok rfl rfl ha1 rfl rfl rfl la1 ua1) rfl rfl ?_
    obtain ⟨v2, hv2, H⟩ := H
    refine w_y (y_ld tok rfl rfl rfl rfl hv2) rfl rfl ?_
    refine w_p tok rfl rfl rfl ?_
    refine w_p tok rfl rfl rfl ?_
    refine w_end ?_
    refine x_seq ?_
    refine c_seq ?_
    refine c_seq ?_
    refine c_region ?_
    refine w_p tok rfl rfl rfl ?_
    refine w_p tok rfl rfl rfl ?_
    refine w_p tok rfl rfl rfl ?_
    refine w_cutU 3 [(19, .bool ((t9_1 == 9) && (decide (v2 > 1)))), (2, .int .u64 t2_1), (5, .int .i64 t9_1), (6, .int .u8 v2), (7, Slc.v p0), (8, .int .i64 (p0.len : Int)), (9, .int .i64 t9_1)] ?_ ?_
    ·
      refine w_end ?_
      refine x_seq ?_
      refine c_if H rfl (fun H => ?_) (fun H => ?_)
      ·
        refine c_seq ?_
        refine c_region ?_
        refine w_p tok rfl rfl rfl ?_
        refine w_p tok rfl rfl rfl ?_
        refine w_p tok rfl rfl rfl ?_
        refine w_end ?_
        refine x_seq ?_
        refine c_ret ?_
        refine x_tr ?_
        refine x_br ?_
        refine x_tr ?_
        refine x_tr ?_
        refine x_br ?_
        refine x_tr ?_
        exact x_ret _ rfl _ rfl ⟨(0, 0, 4), rfl, H⟩
      ·
        refine c_skip ?_
        refine x_seq ?_
        refine c_seq ?_
        refine c_region ?_
        refine w_p tok rfl rfl rfl ?_
        refine w_p tok rfl rfl rfl ?_
        refine w_p tok rfl rfl rfl ?_
        refine w_p tok rfl rfl rfl ?_
        refine w_p tok rfl rfl rfl ?_
        refine w_p tok rfl rfl rfl ?_
        refine w_p tok rfl rfl rfl ?_
        obtain ⟨z3, H⟩ := H
        refine w_y (y_shl rfl rfl rfl z3) rfl rfl ?_
        refine w_p tok rfl rfl rfl ?_
        obtain ⟨x4, ex4, H⟩ := H
        refine w_pe tok rfl (congrArg (fun z => (.int .u64 z : Value)) ex4) rfl rfl ?_
        refine w_end ?_
        refine x_seq ?_
        refine c_weak [(2, .int .u64 x4), (5, .int .i64 t9_1), (6, .int .u8 v2), (7, Slc.v p0), (8, .int .i64 (p0.len : Int)), (9, .int .i64 t9_1)] ⟨rfl, rfl, rfl, rfl, rfl, rfl, trivial⟩ ?_
        refine c_seq ?_
        refine c_seq ?_
        refine c_region ?_
        refine w_p tok rfl rfl rfl ?_
        refine w_p tok rfl rfl rfl ?_
        refine w_end ?_
        refine x_seq ?_
        refine c_if H rfl (fun H => ?_) (fun H => ?_)
        ·
          refine c_exit ?_
          refine x_te ?_
          refine x_bh ?_
          refine x_seq ?_
          refine c_region ?_
          refine w_p tok rfl rfl rfl ?_
          refine w_p tok rfl rfl rfl ?_
          refine w_end ?_
          exact x_join (x4, (IntKind.i64.wrap (t9_1 + 1))) H ⟨rfl, rfl, rfl, rfl, trivial⟩
        ·
          refine c_skip ?_
          refine x_seq ?_
          refine c_seq ?_
          refine c_seq ?_
          refine c_region ?_
          refine w_p tok rfl rfl rfl ?_
          refine w_p tok rfl rfl rfl ?_
          refine w_p tok rfl rfl rfl ?_
          refine w_cutU 3 [(36, .bool ((v2 == 0) && (decide (t9_1 > 0)))), (2, .int .u64 x4), (5, .int .i64 t9_1)] ?_ ?_
          ·
            refine w_end ?_
            refine x_seq ?_
            refine c_if H rfl (fun H => ?_) (fun H => ?_)
            ·
              refine c_seq ?_
              refine c_region ?_
              refine w_p tok rfl rfl rfl ?_
              refine w_p tok rfl rfl rfl ?_
              refine w_p tok rfl rfl rfl ?_
              refine w_end ?_
              refine x_seq ?_
              refine c_ret ?_
              refine x_tr ?_
              refine x_br ?_
              refine x_tr ?_
              refine x_tr ?_
              refine x_br ?_
              refine x_tr ?_
              exact x_ret _ rfl _ rfl ⟨(0, 0, 4), rfl, H⟩
            ·
              refine c_skip ?_
              refine x_seq ?_
              refine c_seq ?_
              refine c_region ?_
              refine w_p tok rfl rfl rfl ?_
              refine w_p tok rfl rfl rfl ?_
              refine w_p tok rfl rfl rfl ?_
              refine w_p tok rfl rfl rfl ?_
              obtain ⟨x5, ex5, H⟩ := H
              refine w_pe tok rfl (congrArg (fun z => (.int .i64 z : Value)) ex5) rfl rfl ?_
              refine w_p tok rfl rfl rfl ?_
              refine w_end ?_
              refine x_seq ?_
              refine c_ret ?_
              refine x_br ?_
              refine x_tr ?_
              refine x_tr ?_
              refine x_br ?_
              refine x_tr ?_
              exact x_ret _ rfl _ rfl ⟨(x4, x5, 0), rfl, H⟩
          ·
            refine w_gs (d := 33) rfl (fun hb => ?_) (fun hb => ?_)
            ·
              refine w_p tok rfl rfl rfl ?_
              refine w_p tok rfl rfl rfl ?_
              refine w_p tok rfl rfl rfl ?_
              refine w_jn () rfl ⟨?_, rfl, rfl, trivial⟩
              exact congrArg (fun b => some (Value.bool b)) (and_t hb)
            ·
              refine w_skip rfl rfl ?_
              refine w_skip rfl rfl ?_
              refine w_p tok rfl rfl rfl ?_
              refine w_jn () rfl ⟨?_, rfl, rfl, trivial⟩
              exact congrArg (fun b => some (Value.bool b)) (and_f hb)
    ·
      refine w_gs (d := 16) rfl (fun hb => ?_) (fun hb => ?_)
      ·
        refine w_p tok rfl rfl rfl ?_
        refine w_p tok rfl rfl rfl ?_
        refine w_p tok rfl rfl rfl ?_
        refine w_jn () rfl ⟨?_, rfl, rfl, rfl, rfl, rfl, rfl, trivial⟩
        exact congrArg (fun b => some (Value.bool b)) (and_t hb)
      ·
        refine w_skip rfl rfl ?_
        refine w_skip rfl rfl ?_
        refine w_p tok rfl rfl rfl ?_
        refine w_jn () rfl ⟨?_, rfl, rfl, rfl, rfl, rfl, rfl, trivial⟩
        exact congrArg (fun b => some (Value.bool b)) (and_f hb)
  ·
    refine c_exit ?_
    refine x_te ?_
    refine x_te ?_
    refine x_bh ?_
    refine x_seq ?_
    refine c_seq ?_
    refine c_region ?_
    refine w_p tok rfl rfl rfl ?_
    refine w_p tok rfl rfl rfl ?_
    refine w_p tok rfl rfl rfl ?_
    refine w_end ?_
    refine x_seq ?_
    refine c_ret ?_
    exact x_ret _ rfl _ rfl ⟨(0, 0, 2), rfl, H⟩

theorem pack_reader_short_ok : CallOk Go.Proofs.Try.prog 106 := ⟨_, Go.Proofs.Try.func106, by kernel_rfl, by kernel_rfl⟩
theorem pack_reader_short_ref (p0 : Option Addr) (k : (Int) → Heap → Prop) (h : Heap) (H : pack_reader_short p0 k h) : CallsH Go.Proofs.Try.prog 106 #[.pointer p0] h (fun v h' => ∃ r : Int, v = .int .u64 r ∧ k r h') := by
  refine f_enter (N := 36) Go.Proofs.Try.func106 rfl rfl rfl (fun w0 => ?_)
  unfold pack_reader_short at H
  refine c_weak [(0, .pointer p0)] ⟨rfl, trivial⟩ ?_
  refine c_seq ?_
  refine c_region ?_
  refine w_p tok rfl rfl rfl ?_
  refine w_end ?_
  refine x_seq ?_
  refine c_seq ?_
  refine c_region ?_
  refine w_p tok rfl rfl rfl ?_
  obtain ⟨a1, ha1, H⟩ := H
  refine w_y (y_nil' rfl rfl ha1) rfl rfl ?_
  refine w_p tok rfl rfl rfl ?_
  obtain ⟨v2, hv2, H⟩ := H
  refine w_y (y_ld tok rfl rfl rfl rfl hv2) rfl rfl ?_
  refine w_call num_GetShort_ok (num_GetShort_ref _ _ _ H) rfl rfl rfl rfl ?_
  rintro _ h4 ⟨r3, rfl, H⟩
  refine w_p tok rfl rfl rfl ?_
  refine w_p tok rfl rfl rfl ?_
  refine w_p tok rfl rfl rfl ?_
  refine w_p tok rfl rfl rfl ?_
  refine w_p tok rfl rfl rfl ?_
  refine w_p tok rfl rfl rfl ?_
  refine w_p tok rfl rfl rfl ?_
  refine w_end ?_
  refine x_seq ?_
  refine c_weak [(0, .pointer p0), (3, .int .u64 r3.1), (4, .int .i64 r3.2.1), (5, .int .i64 r3.2.2)] ⟨rfl, rfl, rfl, rfl, trivial⟩ ?_
  refine c_seq ?_
  refine c_region ?_
  refine w_p tok rfl rfl rfl ?_
  refine w_p tok rfl rfl rfl ?_
  refine w_y (y_nil' rfl rfl ha1) rfl rfl ?_
  refine w_p tok rfl rfl rfl ?_
  obtain ⟨v5, hv5, H⟩ := H
  refine w_y (y_ld tok rfl rfl rfl rfl hv5) rfl rfl ?_
  refine w_p tok rfl rfl rfl ?_
  refine w_cutU 3 [(23, .bool (v5 || (r3.2.2 != 0))), (0, .pointer p0), (3, .int .u64 r3.1), (4, .int .i64 r3.2.1), (15, .pointer p0)] ?_ ?_
  ·
    refine w_y (y_nil' rfl rfl ha1) rfl rfl ?_
    refine w_p tok rfl rfl rfl ?_
    obtain ⟨h6, wh6, eh6, H⟩ := H
    refine w_h (h_st tok rfl rfl rfl rfl rfl rfl wh6 eh6) rfl rfl ?_
    refine w_end ?_
    refine x_seq ?_
    refine c_seq ?_
    refine c_region ?_
    refine w_p tok rfl rfl rfl ?_
    refine w_p tok rfl rfl rfl ?_
    refine w_y (y_nil' rfl rfl ha1) rfl rfl ?_
    refine w_p tok rfl rfl rfl ?_
    obtain ⟨v7, hv7, H⟩ := H
    refine w_y (y_ld tok rfl rfl rfl rfl hv7) rfl rfl ?_
    refine w_p tok rfl rfl rfl ?_
    obtain ⟨s8, ps8, qs8, rs8, ts8, es8, H⟩ := H
    refine w_ye (y_sl (s := v7) (L := r3.2.1) (H := (v7.len : Int)) (M := (v7.cap : Int)) tok rfl rfl rfl rfl rfl rfl rfl (by simp) ps8 qs8 rs8 ts8) (congrArg Slc.v es8) rfl rfl ?_
    refine w_y (y_nil' rfl rfl ha1) rfl rfl ?_
    refine w_p tok rfl rfl rfl ?_
    obtain ⟨h9, wh9, eh9, H⟩ := H
    refine w_h (h_st tok rfl rfl rfl rfl rfl rfl wh9 eh9) rfl rfl ?_
    refine w_end ?_
    refine x_seq ?_
    refine c_weak [(3, .int .u64 r3.1)] ⟨rfl, trivial⟩ ?_
    refine c_seq ?_
    refine c_region ?_
    refine w_p tok rfl rfl rfl ?_
    refine w_p tok rfl rfl rfl ?_
    refine w_end ?_
    refine x_seq ?_
    refine c_ret ?_
    exact x_ret _ rfl _ rfl ⟨r3.1, rfl, H⟩
  ·
    refine w_gs (d := 20) rfl (fun hb => ?_) (fun hb => ?_)
    ·
      refine w_skip rfl rfl ?_
      refine w_skip rfl rfl ?_
      refine w_p tok rfl rfl rfl ?_
      refine w_jn () rfl ⟨?_, rfl, rfl, rfl, rfl, trivial⟩
      exact congrArg (fun b => some (Value.bool b)) (or_t hb)
    ·
      refine w_p tok rfl rfl rfl ?_
      refine w_p tok rfl rfl rfl ?_
      refine w_p tok rfl rfl rfl ?_
      refine w_jn () rfl ⟨?_, rfl, rfl, rfl, rfl, trivial⟩
      exact congrArg (fun b => some (Value.bool b)) (or_f hb)

theorem pack_reader_text_ok : CallOk Go.Proofs.Try.prog 107 := ⟨_, Go.Proofs.Try.func107, by kernel_rfl, by kernel_rfl⟩
theorem pack_reader_text_ref (p0 : Option Addr) (k : (ByteArray) → Heap → Prop) (h : Heap) (H : pack_reader_text p0 k h) : CallsH Go.Proofs.Try.prog 107 #[.pointer p0] h (fun v h' => ∃ r : ByteArray, v = .string r ∧ k r h') := by
  refine f_enter (N := 8) Go.Proofs.Try.func107 rfl rfl rfl (fun w0 => ?_)
  unfold pack_reader_text at H
  refine c_weak [(0, .pointer p0)] ⟨rfl, trivial⟩ ?_
  refine c_seq ?_
  refine c_region ?_
  refine w_p tok rfl rfl rfl ?_
  refine w_end ?_
  refine x_seq ?_
  refine c_seq ?_
  refine c_region ?_
  refine w_p tok rfl rfl rfl ?_
  refine w_p tok rfl rfl rfl ?_
  refine w_call pack_reader_short_ok (pack_reader_short_ref _ _ _ H) rfl rfl rfl rfl ?_
  rintro _ h2 ⟨r1, rfl, H⟩
  refine w_call pack_reader_bytes_ok (pack_reader_bytes_ref _ _ _ _ H) rfl rfl rfl rfl ?_
  rintro _ h4 ⟨r3, rfl, H⟩
  obtain ⟨l5, ll5, hl5, H⟩ := H
  refine w_y (y_b2s (s := r3) (l := l5) tok rfl rfl rfl rfl rfl ll5 hl5) rfl rfl ?_
  refine w_p tok rfl rfl rfl ?_
  refine w_end ?_
  refine x_seq ?_
  refine c_ret ?_
  exact x_ret _ rfl _ rfl ⟨(bsOf l5), rfl, H⟩

theorem pack_reader_id_ok : CallOk Go.Proofs.Try.prog 173 := ⟨_, Go.Proofs.Try.func173, by kernel_rfl, by kernel_rfl⟩
theorem pack_reader_id_ref (p0 : Option Addr) (k : (S_api_Id) → Heap → Prop) (h : Heap) (H : pack_reader_id p0 k h) : CallsH Go.Proofs.Try.prog 173 #[.pointer p0] h (fun v h' => ∃ r : S_api_Id, v = .agg (S_api_Id.cs r).toArray ∧ k r h') := by
  refine f_enter (N := 9) Go.Proofs.Try.func173 rfl rfl rfl (fun w0 => ?_)
  unfold pack_reader_id at H
  refine c_weak [(0, .pointer p0)] ⟨rfl, trivial⟩ ?_
  refine c_seq ?_
  refine c_region ?_
  obtain ⟨b1, h2, eb1, eh2, H⟩ := H
  refine w_h (h_alloc tok rfl rfl eb1 eh2) rfl rfl ?_
  refine w_end ?_
  refine x_seq ?_
  refine c_seq ?_
  refine c_region ?_
  refine w_p tok rfl rfl rfl ?_
  refine w_call pack_reader_number_ok (pack_reader_number_ref _ _ _ _ H) rfl rfl rfl rfl ?_
  rintro _ h4 ⟨r3, rfl, H⟩
  refine w_p tok rfl rfl rfl ?_
  refine w_call pack_reader_number_ok (pack_reader_number_ref _ _ _ _ H) rfl rfl rfl rfl ?_
  rintro _ h6 ⟨r5, rfl, H⟩
  refine w_p tok rfl rfl rfl ?_
  refine w_y (y_build tok rfl rfl rfl rfl rfl) rfl rfl ?_
  obtain ⟨h7, wh7, eh7, H⟩ := H
  refine w_h (h_sts tok rfl rfl rfl rfl rfl (oneC (by kernel_rfl)) wh7 eh7) rfl rfl ?_
  refine w_end ?_
  refine x_seq ?_
  refine c_weak [(2, .pointer (some (⟨b1, 0, none⟩ : Addr)))] ⟨rfl, trivial⟩ ?_
  refine c_ret ?_
  obtain ⟨v8, hv8, H⟩ := H
  exact x_retc tok _ rfl [.agg (S_api_Id.cs v8).toArray] ⟨⟨_, _, rfl, rfl, .inr ⟨rfl, _, rfl, rfl, hv8⟩⟩, trivial⟩ ⟨v8, rfl, H⟩

theorem pack_reader_pieces_ok : CallOk Go.Proofs.Try.prog 108 := ⟨_, Go.Proofs.Try.func108, by kernel_rfl, by kernel_rfl⟩
theorem pack_reader_pieces_ref (p0 : Option Addr) (k : (Slc) → Heap → Prop) (h : Heap) (H : pack_reader_pieces p0 k h) : CallsH Go.Proofs.Try.prog 108 #[.pointer p0] h (fun v h' => ∃ r : Slc, v = Slc.v r ∧ k r h') := by
  refine f_enter (N := 41) Go.Proofs.Try.func108 rfl rfl rfl (fun w0 => ?_)
  unfold pack_reader_pieces at H
  refine c_weak [(0, .pointer p0)] ⟨rfl, trivial⟩ ?_
  refine c_seq ?_
  refine c_region ?_
  refine w_p tok rfl rfl rfl ?_
  refine w_end ?_
  refine x_seq ?_
  refine c_seq ?_
  refine c_region ?_
  refine w_p tok rfl rfl rfl ?_
  refine w_end ?_
  refine x_seq ?_
  refine c_seq ?_
  refine c_seq ?_
  refine c_region ?_
  refine w_p tok rfl rfl rfl ?_
  refine w_call pack_reader_short_ok (pack_reader_short_ref _ _ _ H) rfl rfl rfl rfl ?_
  rintro _ h2 ⟨r1, rfl, H⟩
  refine w_p tok rfl rfl rfl ?_
  refine w_end ?_
  refine x_seq ?_
  refine c_block ?_
  obtain ⟨I1, μ1, H0, HI⟩ := H
  refine c_loop (σ := Slc × Int) (fun (s : Slc × Int) => [(3, Slc.v s.1), (4, .int .u64 s.2), (0, .pointer p0)]) I1 μ1 ((⟨none, 0, 0⟩ : Slc), r1) H0 ⟨rfl, rfl, rfl, trivial⟩ ?_
  rintro ⟨t3_1, t4_1⟩ h_1 H
  replace H := HI t3_1 t4_1 h_1 H
  unfold pack_reader_pieces_l1b at H
  refine c_weak [(3, Slc.v t3_1), (4, .int .u64 t4_1), (0, .pointer p0)] ⟨rfl, rfl, rfl, trivial⟩ ?_
  refine c_seq ?_
  refine c_seq ?_
  refine c_region ?_
  refine w_p tok rfl rfl rfl ?_
  refine w_p tok rfl rfl rfl ?_
  refine w_p tok rfl rfl rfl ?_
  refine w_cut 6 (α := Bool) (fun (s : Bool) => [(16, .bool s), (0, .pointer p0), (3, Slc.v t3_1), (4, .int .u64 t4_1)]) (fun (s : Bool) h => pack_reader_pieces_g2 p0 t3_1 t4_1 s k (fun s h' => I1 s h' ∧ μ1 s h' < μ1 (t3_1, t4_1) h_1) h) ?_ ?_
  ·
    rintro t16_2 h_2 H
    replace H : pack_reader_pieces_g2 p0 t3_1 t4_1 t16_2 k (fun s h' => I1 s h' ∧ μ1 s h' < μ1 (t3_1, t4_1) h_1) h_2 := H
    unfold pack_reader_pieces_g2 at H
    refine w_weak [(16, .bool t16_2), (0, .pointer p0), (3, Slc.v t3_1), (4, .int .u64 t4_1)] ⟨rfl, rfl, rfl, rfl, trivial⟩ ?_
    refine w_p tok rfl rfl rfl ?_
    refine w_cutU 4 [(21, .bool (t16_2 && (decide ((t3_1.len : Int) ≤ 32)))), (0, .pointer p0), (3, Slc.v t3_1), (4, .int .u64 t4_1)] ?_ ?_
    ·
      refine w_end ?_
      refine x_seq ?_
      refine c_if H rfl (fun H => ?_) (fun H => ?_)
      ·
        refine c_skip ?_
        refine x_seq ?_
        refine c_seq ?_
        refine c_block ?_
        refine c_seq ?_
        refine c_region ?_
        refine w_p tok rfl rfl rfl ?_
        refine w_call pack_reader_text_ok (pack_reader_text_ref _ _ _ H) rfl rfl rfl rfl ?_
        rintro _ h4 ⟨r3, rfl, H⟩
        refine w_p tok rfl rfl rfl ?_
        refine w_call pack_reader_number_ok (pack_reader_number_ref _ _ _ _ H) rfl rfl rfl rfl ?_
        rintro _ h6 ⟨r5, rfl, H⟩
        refine w_p tok rfl rfl rfl ?_
        refine w_p tok rfl rfl rfl ?_
        refine w_call pack_reader_number_ok (pack_reader_number_ref _ _ _ _ H) rfl rfl rfl rfl ?_
        rintro _ h8 ⟨r7, rfl, H⟩
        refine w_p tok rfl rfl rfl ?_
        refine w_y (y_build tok rfl rfl rfl rfl rfl) rfl rfl ?_
        obtain ⟨b9, h10, eb9, eh10, H⟩ := H
        refine w_h (h_alloc tok rfl rfl eb9 eh10) rfl rfl ?_
        obtain ⟨h11, wh11, eh11, H⟩ := H
        refine w_h (h_sts tok rfl rfl rfl rfl rfl (oneC (by kernel_rfl)) wh11 eh11) rfl rfl ?_
        refine w_end ?_
        refine x_seq ?_
        refine c_weak [(0, .pointer p0), (3, Slc.v t3_1), (4, .int .u64 t4_1), (5, .pointer (some (⟨b9, 0, none⟩ : Addr)))] ⟨rfl, rfl, rfl, rfl, trivial⟩ ?_
        refine c_seq ?_
        refine c_region ?_
        refine w_p tok rfl rfl rfl ?_
        refine w_call pack_reader_id_ok (pack_reader_id_ref _ _ _ H) rfl rfl rfl rfl ?_
        rintro _ h13 ⟨r12, rfl, H⟩
        refine w_p tok rfl rfl rfl ?_
        obtain ⟨h14, wh14, eh14, H⟩ := H
        refine w_h (h_sts tok rfl rfl rfl rfl rfl (oneC (by kernel_rfl)) wh14 eh14) rfl rfl ?_
        refine w_end ?_
        refine x_seq ?_
        refine c_region ?_
        refine w_p tok rfl rfl rfl ?_
        obtain ⟨v15, hv15, H⟩ := H
        refine w_y (y_lda tok rfl rfl rfl rfl rfl hv15) rfl rfl ?_
        obtain ⟨b16, h17, eb16, eh17, H⟩ := H
        refine w_h (h_bs tok rfl rfl rfl rfl rfl rfl rfl eb16 eh17) rfl rfl ?_
        refine w_a (a_app (s := t3_1) (r := (⟨some ⟨b16, 0, none⟩, 1, 1⟩ : Slc)) tok rfl rfl rfl rfl rfl (slcAt_push eb16 eh17) H) rfl rfl ?_
        rintro _ h19 ⟨s18, rfl, H⟩
        refine w_p tok rfl rfl rfl ?_
        refine w_end ?_
        refine x_blk ?_
        refine x_seq ?_
        refine c_weak [(0, .pointer p0), (3, Slc.v s18), (4, .int .u64 t4_1)] ⟨rfl, rfl, rfl, trivial⟩ ?_
        refine c_region ?_
        refine w_p tok rfl rfl rfl ?_
        refine w_p tok rfl rfl rfl ?_
        obtain ⟨x20, ex20, H⟩ := H
        refine w_pe tok rfl (congrArg (fun z => (.int .u64 z : Value)) ex20) rfl rfl ?_
        refine w_end ?_
        exact x_join (s18, x20) H ⟨rfl, rfl, rfl, trivial⟩
      ·
        refine c_exit ?_
        refine x_te ?_
        refine x_te ?_
        refine x_bh ?_
        refine x_seq ?_
        refine c_seq ?_
        refine c_region ?_
        refine w_p tok rfl rfl rfl ?_
        refine w_p tok rfl rfl rfl ?_
        refine w_end ?_
        refine x_seq ?_
        refine c_ret ?_
        exact x_ret _ rfl _ rfl ⟨t3_1, rfl, H⟩
    ·
      refine w_gs (d := 17) rfl (fun hb => ?_) (fun hb => ?_)
      ·
        refine w_p tok rfl rfl rfl ?_
        refine w_p tok rfl rfl rfl ?_
        refine w_p tok rfl rfl rfl ?_
        refine w_p tok rfl rfl rfl ?_
        refine w_jn () rfl ⟨?_, rfl, rfl, rfl, trivial⟩
        exact congrArg (fun b => some (Value.bool b)) (and_t hb)
      ·
        refine w_skip rfl rfl ?_
        refine w_skip rfl rfl ?_
        refine w_skip rfl rfl ?_
        refine w_p tok rfl rfl rfl ?_
        refine w_jn () rfl ⟨?_, rfl, rfl, rfl, trivial⟩
        exact congrArg (fun b => some (Value.bool b)) (and_f hb)
  ·
    refine w_gif (d := 10) H rfl (fun H => ?_) (fun H => ?_)
    ·
      refine w_p tok rfl rfl rfl ?_
      obtain ⟨a21, ha21, H⟩ := H
      refine w_y (y_nil' rfl rfl ha21) rfl rfl ?_
      refine w_p tok rfl rfl rfl ?_
      obtain ⟨v22, hv22, H⟩ := H
      refine w_y (y_ld tok rfl rfl rfl rfl hv22) rfl rfl ?_
      refine w_p tok rfl rfl rfl ?_
      refine w_p tok rfl rfl rfl ?_
      exact w_jn (!v22) H ⟨rfl, rfl, rfl, rfl, trivial⟩
    ·
      refine w_skip rfl rfl ?_
      refine w_skip rfl rfl ?_
      refine w_skip rfl rfl ?_
      refine w_skip rfl rfl ?_
      refine w_skip rfl rfl ?_
      refine w_p tok rfl rfl rfl ?_
      exact w_jn false H ⟨rfl, rfl, rfl, rfl, trivial⟩

theorem pack_reader_query_ok : CallOk Go.Proofs.Try.prog 109 := ⟨_, Go.Proofs.Try.func109, by kernel_rfl, by kernel_rfl⟩
theorem pack_reader_query_ref (p0 : Option Addr) (k : (S_api_Query) → Heap → Prop) (h : Heap) (H : pack_reader_query p0 k h) : CallsH Go.Proofs.Try.prog 109 #[.pointer p0] h (fun v h' => ∃ r : S_api_Query, v = .agg (S_api_Query.cs r).toArray ∧ k r h') := by
  refine f_enter (N := 22) Go.Proofs.Try.func109 rfl rfl rfl (fun w0 => ?_)
  unfold pack_reader_query at H
  refine c_weak [(0, .pointer p0)] ⟨rfl, trivial⟩ ?_
  refine c_seq ?_
  refine c_region ?_
  obtain ⟨b1, h2, eb1, eh2, H⟩ := H
  refine w_h (h_alloc tok rfl rfl eb1 eh2) rfl rfl ?_
  refine w_end ?_
  refine x_seq ?_
  refine c_seq ?_
  refine c_region ?_
  refine w_p tok rfl rfl rfl ?_
  refine w_call pack_reader_text_ok (pack_reader_text_ref _ _ _ H) rfl rfl rfl rfl ?_
  rintro _ h4 ⟨r3, rfl, H⟩
  refine w_p tok rfl rfl rfl ?_
  refine w_call pack_reader_number_ok (pack_reader_number_ref _ _ _ _ H) rfl rfl rfl rfl ?_
  rintro _ h6 ⟨r5, rfl, H⟩
  refine w_p tok rfl rfl rfl ?_
  refine w_p tok rfl rfl rfl ?_
  refine w_call pack_reader_number_ok (pack_reader_number_ref _ _ _ _ H) rfl rfl rfl rfl ?_
  rintro _ h8 ⟨r7, rfl, H⟩
  refine w_p tok rfl rfl rfl ?_
  refine w_y (y_build tok rfl rfl rfl rfl rfl) rfl rfl ?_
  obtain ⟨b9, h10, eb9, eh10, H⟩ := H
  refine w_h (h_alloc tok rfl rfl eb9 eh10) rfl rfl ?_
  obtain ⟨h11, wh11, eh11, H⟩ := H
  refine w_h (h_sts tok rfl rfl rfl rfl rfl (oneC (by kernel_rfl)) wh11 eh11) rfl rfl ?_
  refine w_end ?_
  refine x_seq ?_
  refine c_weak [(0, .pointer p0), (2, .pointer (some (⟨b1, 0, none⟩ : Addr))), (3, .pointer (some (⟨b9, 0, none⟩ : Addr)))] ⟨rfl, rfl, rfl, trivial⟩ ?_
  refine c_seq ?_
  refine c_region ?_
  refine w_p tok rfl rfl rfl ?_
  refine w_call pack_reader_number_ok (pack_reader_number_ref _ _ _ _ H) rfl rfl rfl rfl ?_
  rintro _ h13 ⟨r12, rfl, H⟩
  refine w_p tok rfl rfl rfl ?_
  refine w_p tok rfl rfl rfl ?_
  obtain ⟨h14, wh14, eh14, H⟩ := H
  refine w_h (h_st tok rfl rfl rfl rfl rfl rfl wh14 eh14) rfl rfl ?_
  refine w_end ?_
  refine x_seq ?_
  refine c_seq ?_
  refine c_region ?_
  refine w_p tok rfl rfl rfl ?_
  refine w_call pack_reader_number_ok (pack_reader_number_ref _ _ _ _ H) rfl rfl rfl rfl ?_
  rintro _ h16 ⟨r15, rfl, H⟩
  refine w_p tok rfl rfl rfl ?_
  refine w_p tok rfl rfl rfl ?_
  obtain ⟨h17, wh17, eh17, H⟩ := H
  refine w_h (h_st tok rfl rfl rfl rfl rfl rfl wh17 eh17) rfl rfl ?_
  refine w_end ?_
  refine x_seq ?_
  refine c_weak [(2, .pointer (some (⟨b1, 0, none⟩ : Addr))), (3, .pointer (some (⟨b9, 0, none⟩ : Addr)))] ⟨rfl, rfl, trivial⟩ ?_
  refine c_seq ?_
  refine c_region ?_
  obtain ⟨v18, hv18, H⟩ := H
  refine w_y (y_lda tok rfl rfl rfl rfl rfl hv18) rfl rfl ?_
  obtain ⟨h19, wh19, eh19, H⟩ := H
  refine w_h (h_sts tok rfl rfl rfl rfl rfl (oneC (by kernel_rfl)) wh19 eh19) rfl rfl ?_
  refine w_end ?_
  refine x_seq ?_
  refine c_ret ?_
  obtain ⟨v20, hv20, H⟩ := H
  exact x_retc tok _ rfl [.agg (S_api_Query.cs v20).toArray] ⟨⟨_, _, rfl, rfl, .inr ⟨rfl, _, rfl, rfl, hv20⟩⟩, trivial⟩ ⟨v20, rfl, H⟩

theorem reg_reader_bytes_ok : CallOk Go.Proofs.Try.prog 163 := ⟨_, Go.Proofs.Try.func163, by kernel_rfl, by kernel_rfl⟩
theorem reg_reader_bytes_ref (p0 : Option Addr) (p1 : Int) (k : (Slc) → Heap → Prop) (h : Heap) (H : reg_reader_bytes p0 p1 k h) : CallsH Go.Proofs.Try.prog 163 #[.pointer p0, .int .u64 p1] h (fun v h' => ∃ r : Slc, v = Slc.v r ∧ k r h') := by
  refine f_enter (N := 39) Go.Proofs.Try.func163 rfl rfl rfl (fun w0 => ?_)
  unfold reg_reader_bytes at H
  refine c_weak [(0, .pointer p0), (1, .int .u64 p1)] ⟨rfl, rfl, trivial⟩ ?_
  refine c_seq ?_
  refine c_region ?_
  refine w_p tok rfl rfl rfl ?_
  refine w_end ?_
  refine x_seq ?_
  refine c_seq ?_
  refine c_seq ?_
  refine c_region ?_
  refine w_p tok rfl rfl rfl ?_
  obtain ⟨a1, ha1, H⟩ := H
  refine w_y (y_nil' rfl rfl ha1) rfl rfl ?_
  refine w_p tok rfl rfl rfl ?_
  obtain ⟨v2, hv2, H⟩ := H
  refine w_y (y_ld tok rfl rfl rfl rfl hv2) rfl rfl ?_
  refine w_p tok rfl rfl rfl ?_
  refine w_cut 9 (α := Bool) (fun (s : Bool) => [(19, .bool s), (0, .pointer p0), (1, .int .u64 p1)]) (fun (s : Bool) h => reg_reader_bytes_g1 p0 p1 s k h) ?_ ?_
  ·
    rintro t19_1 h_1 H
    replace H : reg_reader_bytes_g1 p0 p1 t19_1 k h_1 := H
    unfold reg_reader_bytes_g1 at H
    refine w_weak [(19, .bool t19_1), (0, .pointer p0), (1, .int .u64 p1)] ⟨rfl, rfl, rfl, trivial⟩ ?_
    refine w_end ?_
    refine x_seq ?_
    refine c_if H rfl (fun H => ?_) (fun H => ?_)
    ·
      refine c_seq ?_
      refine c_region ?_
      refine w_p tok rfl rfl rfl ?_
      obtain ⟨a3, ha3, H⟩ := H
      refine w_y (y_nil' rfl rfl ha3) rfl rfl ?_
      refine w_p tok rfl rfl rfl ?_
      obtain ⟨h4, wh4, eh4, H⟩ := H
      refine w_h (h_st tok rfl rfl rfl rfl rfl rfl wh4 eh4) rfl rfl ?_
      refine w_end ?_
      refine x_seq ?_
      refine c_seq ?_
      refine c_region ?_
      refine w_p tok rfl rfl rfl ?_
      refine w_end ?_
      refine x_seq ?_
      refine c_ret ?_
      refine x_tr ?_
      exact x_ret _ rfl _ rfl ⟨(⟨none, 0, 0⟩ : Slc), rfl, H⟩
    ·
      refine c_skip ?_
      refine x_seq ?_
      refine c_seq ?_
      refine c_region ?_
      refine w_p tok rfl rfl rfl ?_
      obtain ⟨a5, ha5, H⟩ := H
      refine w_y (y_nil' rfl rfl ha5) rfl rfl ?_
      refine w_p tok rfl rfl rfl ?_
      obtain ⟨v6, hv6, H⟩ := H
      refine w_y (y_ld tok rfl rfl rfl rfl hv6) rfl rfl ?_
      refine w_p tok rfl rfl rfl ?_
      obtain ⟨s7, ps7, qs7, rs7, ts7, es7, H⟩ := H
      refine w_ye (y_sl (s := v6) (L := 0) (H := p1) (M := (v6.cap : Int)) tok rfl rfl rfl rfl rfl rfl rfl (by simp) ps7 qs7 rs7 ts7) (congrArg Slc.v es7) rfl rfl ?_
      refine w_p tok rfl rfl rfl ?_
      refine w_end ?_
      refine x_seq ?_
      refine c_weak [(0, .pointer p0), (1, .int .u64 p1), (5, Slc.v s7)] ⟨rfl, rfl, rfl, trivial⟩ ?_
      refine c_seq ?_
      refine c_region ?_
      refine w_p tok rfl rfl rfl ?_
      refine w_p tok rfl rfl rfl ?_
      refine w_y (y_nil' rfl rfl ha5) rfl rfl ?_
      refine w_p tok rfl rfl rfl ?_
      obtain ⟨v8, hv8, H⟩ := H
      refine w_y (y_ld tok rfl rfl rfl rfl hv8) rfl rfl ?_
      refine w_p tok rfl rfl rfl ?_
      obtain ⟨s9, ps9, qs9, rs9, ts9, es9, H⟩ := H
      refine w_ye (y_sl (s := v8) (L := p1) (H := (v8.len : Int)) (M := (v8.cap : Int)) tok rfl rfl rfl rfl rfl rfl rfl (by simp) ps9 qs9 rs9 ts9) (congrArg Slc.v es9) rfl rfl ?_
      refine w_y (y_nil' rfl rfl ha5) rfl rfl ?_
      refine w_p tok rfl rfl rfl ?_
      obtain ⟨h10, wh10, eh10, H⟩ := H
      refine w_h (h_st tok rfl rfl rfl rfl rfl rfl wh10 eh10) rfl rfl ?_
      refine w_end ?_
      refine x_seq ?_
      refine c_weak [(5, Slc.v s7)] ⟨rfl, trivial⟩ ?_
      refine c_seq ?_
      refine c_region ?_
      refine w_p tok rfl rfl rfl ?_
      refine w_p tok rfl rfl rfl ?_
      refine w_end ?_
      refine x_seq ?_
      refine c_ret ?_
      exact x_ret _ rfl _ rfl ⟨s7, rfl, H⟩
  ·
    refine w_gif (d := 10) H rfl (fun H => ?_) (fun H => ?_)
    ·
      refine w_skip rfl rfl ?_
      refine w_skip rfl rfl ?_
      refine w_skip rfl rfl ?_
      refine w_skip rfl rfl ?_
      refine w_skip rfl rfl ?_
      refine w_skip rfl rfl ?_
      refine w_skip rfl rfl ?_
      refine w_skip rfl rfl ?_
      refine w_p tok rfl rfl rfl ?_
      exact w_jn true H ⟨rfl, rfl, rfl, trivial⟩
    ·
      refine w_p tok rfl rfl rfl ?_
      refine w_p tok rfl rfl rfl ?_
      refine w_y (y_nil' rfl rfl ha1) rfl rfl ?_
      refine w_p tok rfl rfl rfl ?_
      obtain ⟨v11, hv11, H⟩ := H
      refine w_y (y_ld tok rfl rfl rfl rfl hv11) rfl rfl ?_
      refine w_p tok rfl rfl rfl ?_
      refine w_p tok rfl rfl rfl ?_
      refine w_p tok rfl rfl rfl ?_
      refine w_p tok rfl rfl rfl ?_
      exact w_jn (decide (p1 > (IntKind.u64.wrap (v11.len : Int)))) H ⟨rfl, rfl, rfl, trivial⟩

theorem reg_reader_number_ok : CallOk Go.Proofs.Try.prog 94 := ⟨_, Go.Proofs.Try.func94, by kernel_rfl, by kernel_rfl⟩
theorem reg_reader_number_ref (p0 : Option Addr) (p1 : Int) (k : (Int) → Heap → Prop) (h : Heap) (H : reg_reader_number p0 p1 k h) : CallsH Go.Proofs.Try.prog 94 #[.pointer p0, .int .i64 p1] h (fun v h' => ∃ r : Int, v = .int .u64 r ∧ k r h') := by
  refine f_enter (N := 17) Go.Proofs.Try.func94 rfl rfl rfl (fun w0 => ?_)
  unfold reg_reader_number at H
  refine c_weak [(0, .pointer p0), (1, .int .i64 p1)] ⟨rfl, rfl, trivial⟩ ?_
  refine c_seq ?_
  refine c_region ?_
  refine w_p tok rfl rfl rfl ?_
  refine w_end ?_
  refine x_seq ?_
  refine c_seq ?_
  refine c_region ?_
  refine w_p tok rfl rfl rfl ?_
  refine w_p tok rfl rfl rfl ?_
  refine w_p tok rfl rfl rfl ?_
  refine w_call reg_reader_bytes_ok (reg_reader_bytes_ref _ _ _ _ H) rfl rfl rfl rfl ?_
  rintro _ h2 ⟨r1, rfl, H⟩
  refine w_p tok rfl rfl rfl ?_
  refine w_call num_Get_ok (num_Get_ref _ _ _ _ H) rfl rfl rfl rfl ?_
  rintro _ h4 ⟨r3, rfl, H⟩
  refine w_p tok rfl rfl rfl ?_
  refine w_p tok rfl rfl rfl ?_
  refine w_p tok rfl rfl rfl ?_
  refine w_p tok rfl rfl rfl ?_
  refine w_p tok rfl rfl rfl ?_
  refine w_end ?_
  refine x_seq ?_
  refine c_weak [(5, .int .u64 r3.1)] ⟨rfl, trivial⟩ ?_
  refine c_seq ?_
  refine c_region ?_
  refine w_p tok rfl rfl rfl ?_
  refine w_p tok rfl rfl rfl ?_
  refine w_end ?_
  refine x_seq ?_
  refine c_ret ?_
  exact x_ret _ rfl _ rfl ⟨r3.1, rfl, H⟩

theorem reg_reader_short_ok : CallOk Go.Proofs.Try.prog 152 := ⟨_, Go.Proofs.Try.func152, by kernel_rfl, by kernel_rfl⟩
theorem reg_reader_short_ref (p0 : Option Addr) (k : (Int) → Heap → Prop) (h : Heap) (H : reg_reader_short p0 k h) : CallsH Go.Proofs.Try.prog 152 #[.pointer p0] h (fun v h' => ∃ r : Int, v = .int .u64 r ∧ k r h') := by
  refine f_enter (N := 36) Go.Proofs.Try.func152 rfl rfl rfl (fun w0 => ?_)
  unfold reg_reader_short at H
  refine c_weak [(0, .pointer p0)] ⟨rfl, trivial⟩ ?_
  refine c_seq ?_
  refine c_region ?_
  refine w_p tok rfl rfl rfl ?_
  refine w_end ?_
  refine x_seq ?_
  refine c_seq ?_
  refine c_region ?_
  refine w_p tok rfl rfl rfl ?_
  obtain ⟨a1, ha1, H⟩ := H
  refine w_y (y_nil' rfl rfl ha1) rfl rfl ?_
  refine w_p tok rfl rfl rfl ?_
  obtain ⟨v2, hv2, H⟩ := H
  refine w_y (y_ld tok rfl rfl rfl rfl hv2) rfl rfl ?_
  refine w_call num_GetShort_ok (num_GetShort_ref _ _ _ H) rfl rfl rfl rfl ?_
  rintro _ h4 ⟨r3, rfl, H⟩
  refine w_p tok rfl rfl rfl ?_
  refine w_p tok rfl rfl rfl ?_
  refine w_p tok rfl rfl rfl ?_
  refine w_p tok rfl rfl rfl ?_
  refine w_p tok rfl rfl rfl ?_
  refine w_p tok rfl rfl rfl ?_
  refine w_p tok rfl rfl rfl ?_
  refine w_end ?_
  refine x_seq ?_
  refine c_weak [(0, .pointer p0), (3, .int .u64 r3.1), (4, .int .i64 r3.2.1), (5, .int .i64 r3.2.2)] ⟨rfl, rfl, rfl, rfl, trivial⟩ ?_
  refine c_seq ?_
  refine c_region ?_
  refine w_p tok rfl rfl rfl ?_
  refine w_p tok rfl rfl rfl ?_
  refine w_y (y_nil' rfl rfl ha1) rfl rfl ?_
  refine w_p tok rfl rfl rfl ?_
  obtain ⟨v5, hv5, H⟩ := H
  refine w_y (y_ld tok rfl rfl rfl rfl hv5) rfl rfl ?_
  refine w_p tok rfl rfl rfl ?_
  refine w_cutU 3 [(23, .bool (v5 || (r3.2.2 != 0))), (0, .pointer p0), (3, .int .u64 r3.1), (4, .int .i64 r3.2.1), (15, .pointer p0)] ?_ ?_
  ·
    refine w_y (y_nil' rfl rfl ha1) rfl rfl ?_
    refine w_p tok rfl rfl rfl ?_
    obtain ⟨h6, wh6, eh6, H⟩ := H
    refine w_h (h_st tok rfl rfl rfl rfl rfl rfl wh6 eh6) rfl rfl ?_
    refine w_end ?_
    refine x_seq ?_
    refine c_seq ?_
    refine c_region ?_
    refine w_p tok rfl rfl rfl ?_
    refine w_p tok rfl rfl rfl ?_
    refine w_y (y_nil' rfl rfl ha1) rfl rfl ?_
    refine w_p tok rfl rfl rfl ?_
    obtain ⟨v7, hv7, H⟩ := H
    refine w_y (y_ld tok rfl rfl rfl rfl hv7) rfl rfl ?_
    refine w_p tok rfl rfl rfl ?_
    obtain ⟨s8, ps8, qs8, rs8, ts8, es8, H⟩ := H
    refine w_ye (y_sl (s := v7) (L := r3.2.1) (H := (v7.len : Int)) (M := (v7.cap : Int)) tok rfl rfl rfl rfl rfl rfl rfl (by simp) ps8 qs8 rs8 ts8) (congrArg Slc.v es8) rfl rfl ?_
    refine w_y (y_nil' rfl rfl ha1) rfl rfl ?_
    refine w_p tok rfl rfl rfl ?_
    obtain ⟨h9, wh9, eh9, H⟩ := H
    refine w_h (h_st tok rfl rfl rfl rfl rfl rfl wh9 eh9) rfl rfl ?_
    refine w_end ?_
    refine x_seq ?_
    refine c_weak [(3, .int .u64 r3.1)] ⟨rfl, trivial⟩ ?_
    refine c_seq ?_
    refine c_region ?_
    refine w_p tok rfl rfl rfl ?_
    refine w_p tok rfl rfl rfl ?_
    refine w_end ?_
    refine x_seq ?_
    refine c_ret ?_
    exact x_ret _ rfl _ rfl ⟨r3.1, rfl, H⟩
  ·
    refine w_gs (d := 20) rfl (fun hb => ?_) (fun hb => ?_)
    ·
      refine w_skip rfl rfl ?_
      refine w_skip rfl rfl ?_
      refine w_p tok rfl rfl rfl ?_
      refine w_jn () rfl ⟨?_, rfl, rfl, rfl, rfl, trivial⟩
      exact congrArg (fun b => some (Value.bool b)) (or_t hb)
    ·
      refine w_p tok rfl rfl rfl ?_
      refine w_p tok rfl rfl rfl ?_
      refine w_p tok rfl rfl rfl ?_
      refine w_jn () rfl ⟨?_, rfl, rfl, rfl, rfl, trivial⟩
      exact congrArg (fun b => some (Value.bool b)) (or_f hb)

theorem reg_reader_text_ok : CallOk Go.Proofs.Try.prog 95 := ⟨_, Go.Proofs.Try.func95, by kernel_rfl, by kernel_rfl⟩
theorem reg_reader_text_ref (p0 : Option Addr) (k : (ByteArray) → Heap → Prop) (h : Heap) (H : reg_reader_text p0 k h) : CallsH Go.Proofs.Try.prog 95 #[.pointer p0] h (fun v h' => ∃ r : ByteArray, v = .string r ∧ k r h') := by
  refine f_enter (N := 8) Go.Proofs.Try.func95 rfl rfl rfl (fun w0 => ?_)
  unfold reg_reader_text at H
  refine c_weak [(0, .pointer p0)] ⟨rfl, trivial⟩ ?_
  refine c_seq ?_
  refine c_region ?_
  refine w_p tok rfl rfl rfl ?_
  refine w_end ?_
  refine x_seq ?_
  refine c_seq ?_
  refine c_region ?_
  refine w_p tok rfl rfl rfl ?_
  refine w_p tok rfl rfl rfl ?_
  refine w_call reg_reader_short_ok (reg_reader_short_ref _ _ _ H) rfl rfl rfl rfl ?_
  rintro _ h2 ⟨r1, rfl, H⟩
  refine w_call reg_reader_bytes_ok (reg_reader_bytes_ref _ _ _ _ H) rfl rfl rfl rfl ?_
  rintro _ h4 ⟨r3, rfl, H⟩
  obtain ⟨l5, ll5, hl5, H⟩ := H
  refine w_y (y_b2s (s := r3) (l := l5) tok rfl rfl rfl rfl rfl ll5 hl5) rfl rfl ?_
  refine w_p tok rfl rfl rfl ?_
  refine w_end ?_
  refine x_seq ?_
  refine c_ret ?_
  exact x_ret _ rfl _ rfl ⟨(bsOf l5), rfl, H⟩

theorem reg_reader_nonce_ok : CallOk Go.Proofs.Try.prog 96 := ⟨_, Go.Proofs.Try.func96, by kernel_rfl, by kernel_rfl⟩
theorem reg_reader_nonce_ref (p0 : Option Addr) (k : (List Int) → Heap → Prop) (h : Heap) (H : reg_reader_nonce p0 k h) : CallsH Go.Proofs.Try.prog 96 #[.pointer p0] h (fun v h' => ∃ r : List Int, v = .agg (arr 12 .u8 r).toArray ∧ k r h') := by
  refine f_enter (N := 9) Go.Proofs.Try.func96 rfl rfl rfl (fun w0 => ?_)
  unfold reg_reader_nonce at H
  refine c_weak [(0, .pointer p0)] ⟨rfl, trivial⟩ ?_
  refine c_seq ?_
  refine c_region ?_
  obtain ⟨b1, h2, eb1, eh2, H⟩ := H
  refine w_h (h_alloc tok rfl rfl eb1 eh2) rfl rfl ?_
  refine w_end ?_
  refine x_seq ?_
  refine c_seq ?_
  refine c_region ?_
  obtain ⟨b3, h4, eb3, eh4, H⟩ := H
  refine w_h (h_alloc tok rfl rfl eb3 eh4) rfl rfl ?_
  refine w_end ?_
  refine x_seq ?_
  refine c_seq ?_
  refine c_sim [(0, .pointer p0), (2, .pointer (some (⟨b1, 0, none⟩ : Addr))), (3, .pointer (some (⟨b3, 0, none⟩ : Addr)))] (by kernel_rfl) (by kernel_rfl) ⟨rfl, rfl, rfl, trivial⟩ (fun wf => ?_)
  obtain ⟨s5, ps5, qs5, rs5, es5, H⟩ := H
  refine sim_p 0 (ei := [(3, .pointer (some (⟨b3, 0, none⟩ : Addr)))]) (d := (some 4)) wf (by kernel_rfl) ⟨rfl, trivial⟩ (by kernel_rfl) (by kernel_rfl) (fun _ => pf_ye rfl rfl rfl (y_sla (L := 0) (H := 12) tok rfl rfl rfl rfl rfl rfl ps5 qs5 rs5) (congrArg Slc.v es5)) (fun P_0 => ?_)
  refine sim_p 1 (ei := [(0, .pointer p0)]) (d := (some 5)) wf (by kernel_rfl) ⟨rfl, trivial⟩ (by kernel_rfl) (by kernel_rfl) (fun _ => pf_p tok rfl rfl rfl rfl) (fun P_1 => ?_)
  refine sim_c 2 [1] [1] (ei := [(5, .pointer p0)]) reg_reader_bytes_ok (reg_reader_bytes_ref _ _ _ _ H) wf ⟨P_1 _, P_0 _, trivial⟩ (by kernel_rfl) ⟨rfl, trivial⟩ (by kernel_rfl) rfl rfl rfl rfl rfl ?_
  rintro _ h7 ⟨r6, rfl, H⟩
  obtain ⟨l8, H⟩ := H
  refine sim_a 3 [0, 1, 2] [0, 1] (ei := [(4, Slc.v s5), (6, Slc.v r6)]) wf ⟨trivial, P_0 _, trivial⟩ (by kernel_rfl) ⟨rfl, rfl, trivial⟩ (by kernel_rfl) rfl rfl rfl (a_cpy (d := s5) (s := r6) tok rfl rfl rfl rfl rfl H) ?_
  rintro _ h9 ⟨rfl, H⟩
  refine sim_end wf ⟨trivial, trivial, trivial⟩ (by kernel_rfl) ?_
  clear wf P_0 P_1
  refine x_seq ?_
  refine c_seq ?_
  refine c_region ?_
  obtain ⟨v10, hv10, H⟩ := H
  refine w_y (y_lda tok rfl rfl rfl rfl rfl hv10) rfl rfl ?_
  obtain ⟨h11, wh11, eh11, H⟩ := H
  refine w_h (h_sts tok rfl rfl rfl rfl rfl (oneC (by kernel_rfl)) wh11 eh11) rfl rfl ?_
  refine w_end ?_
  refine x_seq ?_
  refine c_weak [(2, .pointer (some (⟨b1, 0, none⟩ : Addr)))] ⟨rfl, trivial⟩ ?_
  refine c_ret ?_
  obtain ⟨v12, hv12, H⟩ := H
  exact x_retc tok _ rfl [.agg (arr 12 .u8 v12).toArray] ⟨⟨_, _, rfl, rfl, .inr ⟨rfl, _, rfl, rfl, hv12⟩⟩, trivial⟩ ⟨v12, rfl, H⟩

theorem num_Zag_ok : CallOk Go.Proofs.Try.prog 97 := ⟨_, Go.Proofs.Try.func97, by kernel_rfl, by kernel_rfl⟩
theorem num_Zag_ref (p0 : Int) (k : (Int) → Heap → Prop) (h : Heap) (H : num_Zag p0 k h) : CallsH Go.Proofs.Try.prog 97 #[.int .u64 p0] h (fun v h' => ∃ r : Int, v = .int .i64 r ∧ k r h') := by
  refine f_enter (N := 11) Go.Proofs.Try.func97 rfl rfl rfl (fun w0 => ?_)
  unfold num_Zag at H
  refine c_weak [(0, .int .u64 p0)] ⟨rfl, trivial⟩ ?_
  refine c_seq ?_
  refine c_region ?_
  refine w_p tok rfl rfl rfl ?_
  refine w_end ?_
  refine x_seq ?_
  refine c_seq ?_
  refine c_region ?_
  refine w_p tok rfl rfl rfl ?_
  refine w_p tok rfl rfl rfl ?_
  refine w_p tok rfl rfl rfl ?_
  refine w_p tok rfl rfl rfl ?_
  refine w_p tok rfl rfl rfl ?_
  refine w_p tok rfl rfl rfl ?_
  refine w_p tok rfl rfl rfl ?_
  refine w_p tok rfl rfl rfl ?_
  obtain ⟨x1, ex1, H⟩ := H
  refine w_pe tok rfl (congrArg (fun z => (.int .i64 z : Value)) ex1) rfl rfl ?_
  refine w_end ?_
  refine x_seq ?_
  refine c_weak [(2, .int .i64 x1)] ⟨rfl, trivial⟩ ?_
  refine c_ret ?_
  exact x_ret _ rfl _ rfl ⟨x1, rfl, H⟩

theorem reg_Get_ok : CallOk Go.Proofs.Try.prog 27 := ⟨_, Go.Proofs.Try.func27, by kernel_rfl, by kernel_rfl⟩
theorem reg_Get_ref (p0 : Slc) (k : (S_api_Command × Int) → Heap → Prop) (h : Heap) (H : reg_Get p0 k h) : CallsH Go.Proofs.Try.prog 27 #[Slc.v p0] h (fun v h' => ∃ r : S_api_Command × Int, v = .tuple #[.agg (S_api_Command.cs r.1).toArray, .int .i64 r.2] ∧ k r h') := by
  refine f_enter (N := 42) Go.Proofs.Try.func27 rfl rfl rfl (fun w0 => ?_)
  unfold reg_Get at H
  refine c_weak [(0, Slc.v p0)] ⟨rfl, trivial⟩ ?_
  refine c_seq ?_
  refine c_region ?_
  obtain ⟨b1, h2, eb1, eh2, H⟩ := H
  refine w_h (h_alloc tok rfl rfl eb1 eh2) rfl rfl ?_
  refine w_p tok rfl rfl rfl ?_
  refine w_end ?_
  refine x_seq ?_
  refine c_seq ?_
  refine c_region ?_
  refine w_p tok rfl rfl rfl ?_
  refine w_y (y_build tok rfl rfl rfl rfl rfl) rfl rfl ?_
  obtain ⟨b3, h4, eb3, eh4, H⟩ := H
  refine w_h (h_box rfl rfl eb3 eh4) rfl rfl ?_
  refine w_p tok rfl rfl rfl ?_
  refine w_end ?_
  refine x_seq ?_
  refine c_seq ?_
  refine c_region ?_
  refine w_p tok rfl rfl rfl ?_
  refine w_call reg_reader_number_ok (reg_reader_number_ref _ _ _ _ H) rfl rfl rfl rfl ?_
  rintro _ h6 ⟨r5, rfl, H⟩
  refine w_p tok rfl rfl rfl ?_
  refine w_p tok rfl rfl rfl ?_
  refine w_call reg_reader_text_ok (reg_reader_text_ref _ _ _ H) rfl rfl rfl rfl ?_
  rintro _ h8 ⟨r7, rfl, H⟩
  refine w_p tok rfl rfl rfl ?_
  refine w_call reg_reader_number_ok (reg_reader_number_ref _ _ _ _ H) rfl rfl rfl rfl ?_
  rintro _ h10 ⟨r9, rfl, H⟩
  refine w_p tok rfl rfl rfl ?_
  refine w_p tok rfl rfl rfl ?_
  refine w_call reg_reader_nonce_ok (reg_reader_nonce_ref _ _ _ H) rfl rfl rfl rfl ?_
  rintro _ h12 ⟨r11, rfl, H⟩
  refine w_y (y_build tok rfl rfl rfl rfl rfl) rfl rfl ?_
  obtain ⟨b13, h14, eb13, eh14, H⟩ := H
  refine w_h (h_alloc tok rfl rfl eb13 eh14) rfl rfl ?_
  obtain ⟨h15, wh15, eh15, H⟩ := H
  refine w_h (h_sts tok rfl rfl rfl rfl rfl (oneC (by kernel_rfl)) wh15 eh15) rfl rfl ?_
  refine w_end ?_
  refine x_seq ?_
  refine c_weak [(2, .pointer (some (⟨b1, 0, none⟩ : Addr))), (4, .pointer (some (⟨b3, 0, none⟩ : Addr))), (5, .pointer (some (⟨b13, 0, none⟩ : Addr)))] ⟨rfl, rfl, rfl, trivial⟩ ?_
  refine c_seq ?_
  refine c_region ?_
  refine w_p tok rfl rfl rfl ?_
  refine w_call reg_reader_text_ok (reg_reader_text_ref _ _ _ H) rfl rfl rfl rfl ?_
  rintro _ h17 ⟨r16, rfl, H⟩
  obtain ⟨ms18, H⟩ := H
  refine w_a (a_s2b (s := r16) tok rfl rfl rfl rfl rfl ms18 H) rfl rfl ?_
  rintro _ h19 ⟨s18, rfl, H⟩
  refine w_p tok rfl rfl rfl ?_
  obtain ⟨h20, wh20, eh20, H⟩ := H
  refine w_h (h_st tok rfl rfl rfl rfl rfl rfl wh20 eh20) rfl rfl ?_
  refine w_end ?_
  refine x_seq ?_
  refine c_seq ?_
  refine c_region ?_
  refine w_p tok rfl rfl rfl ?_
  refine w_call reg_reader_number_ok (reg_reader_number_ref _ _ _ _ H) rfl rfl rfl rfl ?_
  rintro _ h22 ⟨r21, rfl, H⟩
  refine w_call num_Zag_ok (num_Zag_ref _ _ _ H) rfl rfl rfl rfl ?_
  rintro _ h24 ⟨r23, rfl, H⟩
  refine w_p tok rfl rfl rfl ?_
  obtain ⟨h25, wh25, eh25, H⟩ := H
  refine w_h (h_st tok rfl rfl rfl rfl rfl rfl wh25 eh25) rfl rfl ?_
  refine w_end ?_
  refine x_seq ?_
  refine c_weak [(2, .pointer (some (⟨b1, 0, none⟩ : Addr))), (4, .pointer (some (⟨b3, 0, none⟩ : Addr))), (5, .pointer (some (⟨b13, 0, none⟩ : Addr)))] ⟨rfl, rfl, rfl, trivial⟩ ?_
  refine c_seq ?_
  refine c_seq ?_
  refine c_region ?_
  refine w_p tok rfl rfl rfl ?_
  refine w_y (y_nil rfl rfl) rfl rfl ?_
  refine w_p tok rfl rfl rfl ?_
  obtain ⟨v26, hv26, H⟩ := H
  refine w_y (y_ld tok rfl rfl rfl rfl hv26) rfl rfl ?_
  refine w_p tok rfl rfl rfl ?_
  refine w_cut 7 (α := Bool) (fun (s : Bool) => [(39, .bool s), (2, .pointer (some (⟨b1, 0, none⟩ : Addr))), (5, .pointer (some (⟨b13, 0, none⟩ : Addr)))]) (fun (s : Bool) h => reg_Get_g1 (⟨b1, 0, none⟩ : Addr) (⟨b13, 0, none⟩ : Addr) s k h) ?_ ?_
  ·
    rintro t39_1 h_1 H
    replace H : reg_Get_g1 (⟨b1, 0, none⟩ : Addr) (⟨b13, 0, none⟩ : Addr) t39_1 k h_1 := H
    unfold reg_Get_g1 at H
    refine w_weak [(39, .bool t39_1), (2, .pointer (some (⟨b1, 0, none⟩ : Addr))), (5, .pointer (some (⟨b13, 0, none⟩ : Addr)))] ⟨rfl, rfl, rfl, trivial⟩ ?_
    refine w_end ?_
    refine x_seq ?_
    refine c_if H rfl (fun H => ?_) (fun H => ?_)
    ·
      refine c_seq ?_
      refine c_region ?_
      refine w_y (y_build tok rfl rfl rfl rfl rfl) rfl rfl ?_
      obtain ⟨h27, wh27, eh27, H⟩ := H
      refine w_h (h_sts tok rfl rfl rfl rfl rfl (oneC (by kernel_rfl)) wh27 eh27) rfl rfl ?_
      refine w_p tok rfl rfl rfl ?_
      refine w_end ?_
      refine x_seq ?_
      refine c_ret ?_
      refine x_tr ?_
      obtain ⟨v28, hv28, H⟩ := H
      exact x_retc tok _ rfl [.agg (S_api_Command.cs v28).toArray, .int .i64 4] ⟨⟨_, _, rfl, rfl, .inr ⟨rfl, _, rfl, rfl, hv28⟩⟩, rfl, trivial⟩ ⟨(v28, 4), rfl, H⟩
    ·
      refine c_skip ?_
      refine x_seq ?_
      refine c_seq ?_
      refine c_region ?_
      obtain ⟨v29, hv29, H⟩ := H
      refine w_y (y_lda tok rfl rfl rfl rfl rfl hv29) rfl rfl ?_
      obtain ⟨h30, wh30, eh30, H⟩ := H
      refine w_h (h_sts tok rfl rfl rfl rfl rfl (oneC (by kernel_rfl)) wh30 eh30) rfl rfl ?_
      refine w_p tok rfl rfl rfl ?_
      refine w_end ?_
      refine x_seq ?_
      refine c_ret ?_
      obtain ⟨v31, hv31, H⟩ := H
      exact x_retc tok _ rfl [.agg (S_api_Command.cs v31).toArray, .int .i64 0] ⟨⟨_, _, rfl, rfl, .inr ⟨rfl, _, rfl, rfl, hv31⟩⟩, rfl, trivial⟩ ⟨(v31, 0), rfl, H⟩
  ·
    refine w_gif (d := 32) H rfl (fun H => ?_) (fun H => ?_)
    ·
      refine w_skip rfl rfl ?_
      refine w_skip rfl rfl ?_
      refine w_skip rfl rfl ?_
      refine w_skip rfl rfl ?_
      refine w_skip rfl rfl ?_
      refine w_skip rfl rfl ?_
      refine w_p tok rfl rfl rfl ?_
      exact w_jn true H ⟨rfl, rfl, rfl, trivial⟩
    ·
      refine w_p tok rfl rfl rfl ?_
      refine w_y (y_nil rfl rfl) rfl rfl ?_
      refine w_p tok rfl rfl rfl ?_
      obtain ⟨v32, hv32, H⟩ := H
      refine w_y (y_ld tok rfl rfl rfl rfl hv32) rfl rfl ?_
      refine w_p tok rfl rfl rfl ?_
      refine w_p tok rfl rfl rfl ?_
      refine w_p tok rfl rfl rfl ?_
      exact w_jn (decide ((v32.len : Int) > 0)) H ⟨rfl, rfl, rfl, trivial⟩

theorem pack_reader_ids_ok : CallOk Go.Proofs.Try.prog 110 := ⟨_, Go.Proofs.Try.func110, by kernel_rfl, by kernel_rfl⟩
theorem pack_reader_ids_ref (p0 : Option Addr) (k : (Slc) → Heap → Prop) (h : Heap) (H : pack_reader_ids p0 k h) : CallsH Go.Proofs.Try.prog 110 #[.pointer p0] h (fun v h' => ∃ r : Slc, v = Slc.v r ∧ k r h') := by
  refine f_enter (N := 29) Go.Proofs.Try.func110 rfl rfl rfl (fun w0 => ?_)
  unfold pack_reader_ids at H
  refine c_weak [(0, .pointer p0)] ⟨rfl, trivial⟩ ?_
  refine c_seq ?_
  refine c_region ?_
  refine w_p tok rfl rfl rfl ?_
  refine w_end ?_
  refine x_seq ?_
  refine c_seq ?_
  refine c_region ?_
  refine w_p tok rfl rfl rfl ?_
  refine w_end ?_
  refine x_seq ?_
  refine c_seq ?_
  refine c_seq ?_
  refine c_region ?_
  refine w_p tok rfl rfl rfl ?_
  refine w_call pack_reader_short_ok (pack_reader_short_ref _ _ _ H) rfl rfl rfl rfl ?_
  rintro _ h2 ⟨r1, rfl, H⟩
  refine w_p tok rfl rfl rfl ?_
  refine w_end ?_
  refine x_seq ?_
  refine c_block ?_
  obtain ⟨I1, μ1, H0, HI⟩ := H
  refine c_loop (σ := Slc × Int) (fun (s : Slc × Int) => [(3, Slc.v s.1), (4, .int .u64 s.2), (0, .pointer p0)]) I1 μ1 ((⟨none, 0, 0⟩ : Slc), r1) H0 ⟨rfl, rfl, rfl, trivial⟩ ?_
  rintro ⟨t3_1, t4_1⟩ h_1 H
  replace H := HI t3_1 t4_1 h_1 H
  unfold pack_reader_ids_l1b at H
  refine c_weak [(3, Slc.v t3_1), (4, .int .u64 t4_1), (0, .pointer p0)] ⟨rfl, rfl, rfl, trivial⟩ ?_
  refine c_seq ?_
  refine c_seq ?_
  refine c_region ?_
  refine w_p tok rfl rfl rfl ?_
  refine w_p tok rfl rfl rfl ?_
  refine w_p tok rfl rfl rfl ?_
  refine w_cut 6 (α := Bool) (fun (s : Bool) => [(15, .bool s), (0, .pointer p0), (3, Slc.v t3_1), (4, .int .u64 t4_1)]) (fun (s : Bool) h => pack_reader_ids_g2 p0 t3_1 t4_1 s k (fun s h' => I1 s h' ∧ μ1 s h' < μ1 (t3_1, t4_1) h_1) h) ?_ ?_
  ·
    rintro t15_2 h_2 H
    replace H : pack_reader_ids_g2 p0 t3_1 t4_1 t15_2 k (fun s h' => I1 s h' ∧ μ1 s h' < μ1 (t3_1, t4_1) h_1) h_2 := H
    unfold pack_reader_ids_g2 at H
    refine w_weak [(15, .bool t15_2), (0, .pointer p0), (3, Slc.v t3_1), (4, .int .u64 t4_1)] ⟨rfl, rfl, rfl, rfl, trivial⟩ ?_
    refine w_p tok rfl rfl rfl ?_
    refine w_cutU 4 [(20, .bool (t15_2 && (decide ((t3_1.len : Int) ≤ 64)))), (0, .pointer p0), (3, Slc.v t3_1), (4, .int .u64 t4_1)] ?_ ?_
    ·
      refine w_end ?_
      refine x_seq ?_
      refine c_if H rfl (fun H => ?_) (fun H => ?_)
      ·
        refine c_skip ?_
        refine x_seq ?_
        refine c_seq ?_
        refine c_block ?_
        refine c_region ?_
        refine w_p tok rfl rfl rfl ?_
        refine w_p tok rfl rfl rfl ?_
        refine w_call pack_reader_id_ok (pack_reader_id_ref _ _ _ H) rfl rfl rfl rfl ?_
        rintro _ h4 ⟨r3, rfl, H⟩
        obtain ⟨b5, h6, eb5, eh6, H⟩ := H
        refine w_h (h_bs tok rfl rfl rfl rfl rfl rfl rfl eb5 eh6) rfl rfl ?_
        refine w_a (a_app (s := t3_1) (r := (⟨some ⟨b5, 0, none⟩, 1, 1⟩ : Slc)) tok rfl rfl rfl rfl rfl (slcAt_push eb5 eh6) H) rfl rfl ?_
        rintro _ h8 ⟨s7, rfl, H⟩
        refine w_p tok rfl rfl rfl ?_
        refine w_end ?_
        refine x_blk ?_
        refine x_seq ?_
        refine c_region ?_
        refine w_p tok rfl rfl rfl ?_
        refine w_p tok rfl rfl rfl ?_
        obtain ⟨x9, ex9, H⟩ := H
        refine w_pe tok rfl (congrArg (fun z => (.int .u64 z : Value)) ex9) rfl rfl ?_
        refine w_end ?_
        exact x_join (s7, x9) H ⟨rfl, rfl, rfl, trivial⟩
      ·
        refine c_exit ?_
        refine x_te ?_
        refine x_te ?_
        refine x_bh ?_
        refine x_seq ?_
        refine c_seq ?_
        refine c_region ?_
        refine w_p tok rfl rfl rfl ?_
        refine w_p tok rfl rfl rfl ?_
        refine w_end ?_
        refine x_seq ?_
        refine c_ret ?_
        exact x_ret _ rfl _ rfl ⟨t3_1, rfl, H⟩
    ·
      refine w_gs (d := 16) rfl (fun hb => ?_) (fun hb => ?_)
      ·
        refine w_p tok rfl rfl rfl ?_
        refine w_p tok rfl rfl rfl ?_
        refine w_p tok rfl rfl rfl ?_
        refine w_p tok rfl rfl rfl ?_
        refine w_jn () rfl ⟨?_, rfl, rfl, rfl, trivial⟩
        exact congrArg (fun b => some (Value.bool b)) (and_t hb)
      ·
        refine w_skip rfl rfl ?_
        refine w_skip rfl rfl ?_
        refine w_skip rfl rfl ?_
        refine w_p tok rfl rfl rfl ?_
        refine w_jn () rfl ⟨?_, rfl, rfl, rfl, trivial⟩
        exact congrArg (fun b => some (Value.bool b)) (and_f hb)
  ·
    refine w_gif (d := 9) H rfl (fun H => ?_) (fun H => ?_)
    ·
      refine w_p tok rfl rfl rfl ?_
      obtain ⟨a10, ha10, H⟩ := H
      refine w_y (y_nil' rfl rfl ha10) rfl rfl ?_
      refine w_p tok rfl rfl rfl ?_
      obtain ⟨v11, hv11, H⟩ := H
      refine w_y (y_ld tok rfl rfl rfl rfl hv11) rfl rfl ?_
      refine w_p tok rfl rfl rfl ?_
      refine w_p tok rfl rfl rfl ?_
      exact w_jn (!v11) H ⟨rfl, rfl, rfl, rfl, trivial⟩
    ·
      refine w_skip rfl rfl ?_
      refine w_skip rfl rfl ?_
      refine w_skip rfl rfl ?_
      refine w_skip rfl rfl ?_
      refine w_skip rfl rfl ?_
      refine w_p tok rfl rfl rfl ?_
      exact w_jn false H ⟨rfl, rfl, rfl, rfl, trivial⟩

theorem raft_reader_bytes_ok : CallOk Go.Proofs.Try.prog 176 := ⟨_, Go.Proofs.Try.func176, by kernel_rfl, by kernel_rfl⟩
theorem raft_reader_bytes_ref (p0 : Option Addr) (p1 : Int) (k : (Slc) → Heap → Prop) (h : Heap) (H : raft_reader_bytes p0 p1 k h) : CallsH Go.Proofs.Try.prog 176 #[.pointer p0, .int .u64 p1] h (fun v h' => ∃ r : Slc, v = Slc.v r ∧ k r h') := by
  refine f_enter (N := 40) Go.Proofs.Try.func176 rfl rfl rfl (fun w0 => ?_)
  unfold raft_reader_bytes at H
  refine c_weak [(0, .pointer p0), (1, .int .u64 p1)] ⟨rfl, rfl, trivial⟩ ?_
  refine c_seq ?_
  refine c_region ?_
  refine w_p tok rfl rfl rfl ?_
  refine w_end ?_
  refine x_seq ?_
  refine c_seq ?_
  refine c_seq ?_
  refine c_region ?_
  refine w_p tok rfl rfl rfl ?_
  obtain ⟨a1, ha1, H⟩ := H
  refine w_y (y_nil' rfl rfl ha1) rfl rfl ?_
  refine w_p tok rfl rfl rfl ?_
  obtain ⟨v2, hv2, H⟩ := H
  refine w_y (y_ld tok rfl rfl rfl rfl hv2) rfl rfl ?_
  refine w_p tok rfl rfl rfl ?_
  refine w_cut 9 (α := Bool) (fun (s : Bool) => [(19, .bool s), (0, .pointer p0), (1, .int .u64 p1)]) (fun (s : Bool) h => raft_reader_bytes_g1 p0 p1 s k h) ?_ ?_
  ·
    rintro t19_1 h_1 H
    replace H : raft_reader_bytes_g1 p0 p1 t19_1 k h_1 := H
    unfold raft_reader_bytes_g1 at H
    refine w_weak [(19, .bool t19_1), (0, .pointer p0), (1, .int .u64 p1)] ⟨rfl, rfl, rfl, trivial⟩ ?_
    refine w_end ?_
    refine x_seq ?_
    refine c_if H rfl (fun H => ?_) (fun H => ?_)
    ·
      refine c_seq ?_
      refine c_region ?_
      refine w_p tok rfl rfl rfl ?_
      obtain ⟨a3, ha3, H⟩ := H
      refine w_y (y_nil' rfl rfl ha3) rfl rfl ?_
      refine w_p tok rfl rfl rfl ?_
      obtain ⟨h4, wh4, eh4, H⟩ := H
      refine w_h (h_st tok rfl rfl rfl rfl rfl rfl wh4 eh4) rfl rfl ?_
      refine w_end ?_
      refine x_seq ?_
      refine c_seq ?_
      refine c_region ?_
      refine w_p tok rfl rfl rfl ?_
      refine w_end ?_
      refine x_seq ?_
      refine c_ret ?_
      refine x_tr ?_
      exact x_ret _ rfl _ rfl ⟨(⟨none, 0, 0⟩ : Slc), rfl, H⟩
    ·
      refine c_skip ?_
      refine x_seq ?_
      refine c_seq ?_
      refine c_region ?_
      refine w_p tok rfl rfl rfl ?_
      obtain ⟨a5, ha5, H⟩ := H
      refine w_y (y_nil' rfl rfl ha5) rfl rfl ?_
      refine w_p tok rfl rfl rfl ?_
      obtain ⟨v6, hv6, H⟩ := H
      refine w_y (y_ld tok rfl rfl rfl rfl hv6) rfl rfl ?_
      refine w_p tok rfl rfl rfl ?_
      obtain ⟨s7, ps7, qs7, rs7, ts7, es7, H⟩ := H
      refine w_ye (y_sl (s := v6) (L := 0) (H := p1) (M := (v6.cap : Int)) tok rfl rfl rfl rfl rfl rfl rfl (by simp) ps7 qs7 rs7 ts7) (congrArg Slc.v es7) rfl rfl ?_
      refine w_call slices_Clone_byte_byte_ok (slices_Clone_byte_byte_ref _ _ _ H) rfl rfl rfl rfl ?_
      rintro _ h9 ⟨r8, rfl, H⟩
      refine w_p tok rfl rfl rfl ?_
      refine w_end ?_
      refine x_seq ?_
      refine c_weak [(0, .pointer p0), (1, .int .u64 p1), (5, Slc.v r8)] ⟨rfl, rfl, rfl, trivial⟩ ?_
      refine c_seq ?_
      refine c_region ?_
      refine w_p tok rfl rfl rfl ?_
      refine w_p tok rfl rfl rfl ?_
      refine w_y (y_nil' rfl rfl ha5) rfl rfl ?_
      refine w_p tok rfl rfl rfl ?_
      obtain ⟨v10, hv10, H⟩ := H
      refine w_y (y_ld tok rfl rfl rfl rfl hv10) rfl rfl ?_
      refine w_p tok rfl rfl rfl ?_
      obtain ⟨s11, ps11, qs11, rs11, ts11, es11, H⟩ := H
      refine w_ye (y_sl (s := v10) (L := p1) (H := (v10.len : Int)) (M := (v10.cap : Int)) tok rfl rfl rfl rfl rfl rfl rfl (by simp) ps11 qs11 rs11 ts11) (congrArg Slc.v es11) rfl rfl ?_
      refine w_y (y_nil' rfl rfl ha5) rfl rfl ?_
      refine w_p tok rfl rfl rfl ?_
      obtain ⟨h12, wh12, eh12, H⟩ := H
      refine w_h (h_st tok rfl rfl rfl rfl rfl rfl wh12 eh12) rfl rfl ?_
      refine w_end ?_
      refine x_seq ?_
      refine c_weak [(5, Slc.v r8)] ⟨rfl, trivial⟩ ?_
      refine c_seq ?_
      refine c_region ?_
      refine w_p tok rfl rfl rfl ?_
      refine w_p tok rfl rfl rfl ?_
      refine w_end ?_
      refine x_seq ?_
      refine c_ret ?_
      exact x_ret _ rfl _ rfl ⟨r8, rfl, H⟩
  ·
    refine w_gif (d := 10) H rfl (fun H => ?_) (fun H => ?_)
    ·
      refine w_skip rfl rfl ?_
      refine w_skip rfl rfl ?_
      refine w_skip rfl rfl ?_
      refine w_skip rfl rfl ?_
      refine w_skip rfl rfl ?_
      refine w_skip rfl rfl ?_
      refine w_skip rfl rfl ?_
      refine w_skip rfl rfl ?_
      refine w_p tok rfl rfl rfl ?_
      exact w_jn true H ⟨rfl, rfl, rfl, trivial⟩
    ·
      refine w_p tok rfl rfl rfl ?_
      refine w_p tok rfl rfl rfl ?_
      refine w_y (y_nil' rfl rfl ha1) rfl rfl ?_
      refine w_p tok rfl rfl rfl ?_
      obtain ⟨v13, hv13, H⟩ := H
      refine w_y (y_ld tok rfl rfl rfl rfl hv13) rfl rfl ?_
      refine w_p tok rfl rfl rfl ?_
      refine w_p tok rfl rfl rfl ?_
      refine w_p tok rfl rfl rfl ?_
      refine w_p tok rfl rfl rfl ?_
      exact w_jn (decide (p1 > (IntKind.u64.wrap (v13.len : Int)))) H ⟨rfl, rfl, rfl, trivial⟩

theorem raft_reader_byte_ok : CallOk Go.Proofs.Try.prog 174 := ⟨_, Go.Proofs.Try.func174, by kernel_rfl, by kernel_rfl⟩
theorem raft_reader_byte_ref (p0 : Option Addr) (k : (Int) → Heap → Prop) (h : Heap) (H : raft_reader_byte p0 k h) : CallsH Go.Proofs.Try.prog 174 #[.pointer p0] h (fun v h' => ∃ r : Int, v = .int .u8 r ∧ k r h') := by
  refine f_enter (N := 12) Go.Proofs.Try.func174 rfl rfl rfl (fun w0 => ?_)
  unfold raft_reader_byte at H
  refine c_weak [(0, .pointer p0)] ⟨rfl, trivial⟩ ?_
  refine c_seq ?_
  refine c_region ?_
  refine w_p tok rfl rfl rfl ?_
  refine w_end ?_
  refine x_seq ?_
  refine c_seq ?_
  refine c_region ?_
  refine w_p tok rfl rfl rfl ?_
  refine w_call raft_reader_bytes_ok (raft_reader_bytes_ref _ _ _ _ H) rfl rfl rfl rfl ?_
  rintro _ h2 ⟨r1, rfl, H⟩
  refine w_p tok rfl rfl rfl ?_
  refine w_end ?_
  refine x_seq ?_
  refine c_seq ?_
  refine c_seq ?_
  refine c_region ?_
  refine w_p tok rfl rfl rfl ?_
  refine w_p tok rfl rfl rfl ?_
  refine w_p tok rfl rfl rfl ?_
  refine w_end ?_
  refine x_seq ?_
  refine c_if H rfl (fun H => ?_) (fun H => ?_)
  ·
    refine c_seq ?_
    refine c_region ?_
    refine w_p tok rfl rfl rfl ?_
    refine w_end ?_
    refine x_seq ?_
    refine c_weak [(2, .int .u8 0)] ⟨rfl, trivial⟩ ?_
    refine c_ret ?_
    refine x_tr ?_
    exact x_ret _ rfl _ rfl ⟨0, rfl, H⟩
  ·
    refine c_skip ?_
    refine x_seq ?_
    refine c_weak [(3, Slc.v r1)] ⟨rfl, trivial⟩ ?_
    refine c_seq ?_
    refine c_region ?_
    refine w_p tok rfl rfl rfl ?_
    obtain ⟨a3, ha3, la3, ua3, H⟩ := H
    refine w_y (y_ixa' tok rfl rfl ha3 rfl rfl rfl la3 ua3) rfl rfl ?_
    obtain ⟨v4, hv4, H⟩ := H
    refine w_y (y_ld tok rfl rfl rfl rfl hv4) rfl rfl ?_
    refine w_p tok rfl rfl rfl ?_
    refine w_end ?_
    refine x_seq ?_
    refine c_ret ?_
    exact x_ret _ rfl _ rfl ⟨v4, rfl, H⟩

theorem raft_reader_short_ok : CallOk Go.Proofs.Try.prog 175 := ⟨_, Go.Proofs.Try.func175, by kernel_rfl, by kernel_rfl⟩
theorem raft_reader_short_ref (p0 : Option Addr) (k : (Int) → Heap → Prop) (h : Heap) (H : raft_reader_short p0 k h) : CallsH Go.Proofs.Try.prog 175 #[.pointer p0] h (fun v h' => ∃ r : Int, v = .int .u64 r ∧ k r h') := by
  refine f_enter (N := 36) Go.Proofs.Try.func175 rfl rfl rfl (fun w0 => ?_)
  unfold raft_reader_short at H
  refine c_weak [(0, .pointer p0)] ⟨rfl, trivial⟩ ?_
  refine c_seq ?_
  refine c_region ?_
  refine w_p tok rfl rfl rfl ?_
  refine w_end ?_
  refine x_seq ?_
  refine c_seq ?_
  refine c_region ?_
  refine w_p tok rfl rfl rfl ?_
  obtain ⟨a1, ha1, H⟩ := H
  refine w_y (y_nil' rfl rfl ha1) rfl rfl ?_
  refine w_p tok rfl rfl rfl ?_
  obtain ⟨v2, hv2, H⟩ := H
  refine w_y (y_ld tok rfl rfl rfl rfl hv2) rfl rfl ?_
  refine w_call num_GetShort_ok (num_GetShort_ref _ _ _ H) rfl rfl rfl rfl ?_
  rintro _ h4 ⟨r3, rfl, H⟩
  refine w_p tok rfl rfl rfl ?_
  refine w_p tok rfl rfl rfl ?_
  refine w_p tok rfl rfl rfl ?_
  refine w_p tok rfl rfl rfl ?_
  refine w_p tok rfl rfl rfl ?_
  refine w_p tok rfl rfl rfl ?_
  refine w_p tok rfl rfl rfl ?_
  refine w_end ?_
  refine x_seq ?_
  refine c_weak [(0, .pointer p0), (3, .int .u64 r3.1), (4, .int .i64 r3.2.1), (5, .int .i64 r3.2.2)] ⟨rfl, rfl, rfl, rfl, trivial⟩ ?_
  refine c_seq ?_
  refine c_region ?_
  refine w_p tok rfl rfl rfl ?_
  refine w_p tok rfl rfl rfl ?_
  refine w_y (y_nil' rfl rfl ha1) rfl rfl ?_
  refine w_p tok rfl rfl rfl ?_
  obtain ⟨v5, hv5, H⟩ := H
  refine w_y (y_ld tok rfl rfl rfl rfl hv5) rfl rfl ?_
  refine w_p tok rfl rfl rfl ?_
  refine w_cutU 3 [(23, .bool (v5 || (r3.2.2 != 0))), (0, .pointer p0), (3, .int .u64 r3.1), (4, .int .i64 r3.2.1), (15, .pointer p0)] ?_ ?_
  ·
    refine w_y (y_nil' rfl rfl ha1) rfl rfl ?_
    refine w_p tok rfl rfl rfl ?_
    obtain ⟨h6, wh6, eh6, H⟩ := H
    refine w_h (h_st tok rfl rfl rfl rfl rfl rfl wh6 eh6) rfl rfl ?_
    refine w_end ?_
    refine x_seq ?_
    refine c_seq ?_
    refine c_region ?_
    refine w_p tok rfl rfl rfl ?_
    refine w_p tok rfl rfl rfl ?_
    refine w_y (y_nil' rfl rfl ha1) rfl rfl ?_
    refine w_p tok rfl rfl rfl ?_
    obtain ⟨v7, hv7, H⟩ := H
    refine w_y (y_ld tok rfl rfl rfl rfl hv7) rfl rfl ?_
    refine w_p tok rfl rfl rfl ?_
    obtain ⟨s8, ps8, qs8, rs8, ts8, es8, H⟩ := H
    refine w_ye (y_sl (s := v7) (L := r3.2.1) (H := (v7.len : Int)) (M := (v7.cap : Int)) tok rfl rfl rfl rfl rfl rfl rfl (by simp) ps8 qs8 rs8 ts8) (congrArg Slc.v es8) rfl rfl ?_
    refine w_y (y_nil' rfl rfl ha1) rfl rfl ?_
    refine w_p tok rfl rfl rfl ?_
    obtain ⟨h9, wh9, eh9, H⟩ := H
    refine w_h (h_st tok rfl rfl rfl rfl rfl rfl wh9 eh9) rfl rfl ?_
    refine w_end ?_
    refine x_seq ?_
    refine c_weak [(3, .int .u64 r3.1)] ⟨rfl, trivial⟩ ?_
    refine c_seq ?_
    refine c_region ?_
    refine w_p tok rfl rfl rfl ?_
    refine w_p tok rfl rfl rfl ?_
    refine w_end ?_
    refine x_seq ?_
    refine c_ret ?_
    exact x_ret _ rfl _ rfl ⟨r3.1, rfl, H⟩
  ·
    refine w_gs (d := 20) rfl (fun hb => ?_) (fun hb => ?_)
    ·
      refine w_skip rfl rfl ?_
      refine w_skip rfl rfl ?_
      refine w_p tok rfl rfl rfl ?_
      refine w_jn () rfl ⟨?_, rfl, rfl, rfl, rfl, trivial⟩
      exact congrArg (fun b => some (Value.bool b)) (or_t hb)
    ·
      refine w_p tok rfl rfl rfl ?_
      refine w_p tok rfl rfl rfl ?_
      refine w_p tok rfl rfl rfl ?_
      refine w_jn () rfl ⟨?_, rfl, rfl, rfl, rfl, trivial⟩
      exact congrArg (fun b => some (Value.bool b)) (or_f hb)

theorem raft_Get_ok : CallOk Go.Proofs.Try.prog 112 := ⟨_, Go.Proofs.Try.func112, by kernel_rfl, by kernel_rfl⟩
theorem raft_Get_ref (p0 : Slc) (k : (S_api_Msg × Int) → Heap → Prop) (h : Heap) (H : raft_Get p0 k h) : CallsH Go.Proofs.Try.prog 112 #[Slc.v p0] h (fun v h' => ∃ r : S_api_Msg × Int, v = .tuple #[.agg (S_api_Msg.cs r.1).toArray, .int .i64 r.2] ∧ k r h') := by
  refine f_enter (N := 83) Go.Proofs.Try.func112 rfl rfl rfl (fun w0 => ?_)
  unfold raft_Get at H
  refine c_weak [(0, Slc.v p0)] ⟨rfl, trivial⟩ ?_
  refine c_seq ?_
  refine c_region ?_
  obtain ⟨b1, h2, eb1, eh2, H⟩ := H
  refine w_h (h_alloc tok rfl rfl eb1 eh2) rfl rfl ?_
  refine w_p tok rfl rfl rfl ?_
  refine w_end ?_
  refine x_seq ?_
  refine c_scope ?_
  refine c_seq ?_
  refine c_region ?_
  refine w_p tok rfl rfl rfl ?_
  refine w_y (y_build tok rfl rfl rfl rfl rfl) rfl rfl ?_
  obtain ⟨b3, h4, eb3, eh4, H⟩ := H
  refine w_h (h_box rfl rfl eb3 eh4) rfl rfl ?_
  refine w_p tok rfl rfl rfl ?_
  refine w_end ?_
  refine x_seq ?_
  refine c_seq ?_
  refine c_region ?_
  refine w_p tok rfl rfl rfl ?_
  refine w_call raft_reader_byte_ok (raft_reader_byte_ref _ _ _ H) rfl rfl rfl rfl ?_
  rintro _ h6 ⟨r5, rfl, H⟩
  refine w_p tok rfl rfl rfl ?_
  refine w_p tok rfl rfl rfl ?_
  refine w_call raft_reader_short_ok (raft_reader_short_ref _ _ _ H) rfl rfl rfl rfl ?_
  rintro _ h8 ⟨r7, rfl, H⟩
  refine w_p tok rfl rfl rfl ?_
  refine w_call raft_reader_short_ok (raft_reader_short_ref _ _ _ H) rfl rfl rfl rfl ?_
  rintro _ h10 ⟨r9, rfl, H⟩
  refine w_p tok rfl rfl rfl ?_
  refine w_call raft_reader_short_ok (raft_reader_short_ref _ _ _ H) rfl rfl rfl rfl ?_
  rintro _ h12 ⟨r11, rfl, H⟩
  refine w_p tok rfl rfl rfl ?_
  refine w_call raft_reader_short_ok (raft_reader_short_ref _ _ _ H) rfl rfl rfl rfl ?_
  rintro _ h14 ⟨r13, rfl, H⟩
  refine w_y (y_build tok rfl rfl rfl rfl rfl) rfl rfl ?_
  obtain ⟨b15, h16, eb15, eh16, H⟩ := H
  refine w_h (h_alloc tok rfl rfl eb15 eh16) rfl rfl ?_
  obtain ⟨h17, wh17, eh17, H⟩ := H
  refine w_h (h_sts tok rfl rfl rfl rfl rfl (oneC (by kernel_rfl)) wh17 eh17) rfl rfl ?_
  refine w_end ?_
  refine x_seq ?_
  refine c_weak [(2, .pointer (some (⟨b1, 0, none⟩ : Addr))), (4, .pointer (some (⟨b3, 0, none⟩ : Addr))), (5, .pointer (some (⟨b15, 0, none⟩ : Addr)))] ⟨rfl, rfl, rfl, trivial⟩ ?_
  refine c_seq ?_
  refine c_region ?_
  refine w_p tok rfl rfl rfl ?_
  refine w_call raft_reader_byte_ok (raft_reader_byte_ref _ _ _ H) rfl rfl rfl rfl ?_
  rintro _ h19 ⟨r18, rfl, H⟩
  refine w_p tok rfl rfl rfl ?_
  refine w_end ?_
  refine x_seq ?_
  refine c_seq ?_
  refine c_region ?_
  refine w_p tok rfl rfl rfl ?_
  refine w_p tok rfl rfl rfl ?_
  refine w_p tok rfl rfl rfl ?_
  obtain ⟨h20, wh20, eh20, H⟩ := H
  refine w_h (h_st tok rfl rfl rfl rfl rfl rfl wh20 eh20) rfl rfl ?_
  refine w_end ?_
  refine x_seq ?_
  refine c_seq ?_
  refine c_region ?_
  refine w_p tok rfl rfl rfl ?_
  refine w_p tok rfl rfl rfl ?_
  refine w_y (y_nil rfl rfl) rfl rfl ?_
  refine w_p tok rfl rfl rfl ?_
  obtain ⟨v21, hv21, H⟩ := H
  refine w_y (y_ld tok rfl rfl rfl rfl hv21) rfl rfl ?_
  refine w_p tok rfl rfl rfl ?_
  refine w_cutU 3 [(37, .bool (v21 || (decide (r18 > 1)))), (2, .pointer (some (⟨b1, 0, none⟩ : Addr))), (4, .pointer (some (⟨b3, 0, none⟩ : Addr))), (5, .pointer (some (⟨b15, 0, none⟩ : Addr))), (29, .pointer (some (⟨b3, 0, none⟩ : Addr)))] ?_ ?_
  ·
    refine w_y (y_nil rfl rfl) rfl rfl ?_
    refine w_p tok rfl rfl rfl ?_
    obtain ⟨h22, wh22, eh22, H⟩ := H
    refine w_h (h_st tok rfl rfl rfl rfl rfl rfl wh22 eh22) rfl rfl ?_
    refine w_end ?_
    refine x_seq ?_
    refine c_seq ?_
    refine c_label ?_
    refine x_seq ?_
    refine c_seqJ (α := Unit) (fun (s : Unit) => [(2, .pointer (some (⟨b1, 0, none⟩ : Addr))), (4, .pointer (some (⟨b3, 0, none⟩ : Addr))), (5, .pointer (some (⟨b15, 0, none⟩ : Addr)))]) (fun (s : Unit) h => raft_Get_j1 (⟨b1, 0, none⟩ : Addr) (⟨b3, 0, none⟩ : Addr) (⟨b15, 0, none⟩ : Addr) k h) ?_ ?_
    ·
      rintro _ h_1 H
      replace H : raft_Get_j1 (⟨b1, 0, none⟩ : Addr) (⟨b3, 0, none⟩ : Addr) (⟨b15, 0, none⟩ : Addr) k h_1 := H
      unfold raft_Get_j1 at H
      refine c_weak [(2, .pointer (some (⟨b1, 0, none⟩ : Addr))), (4, .pointer (some (⟨b3, 0, none⟩ : Addr))), (5, .pointer (some (⟨b15, 0, none⟩ : Addr)))] ⟨rfl, rfl, rfl, trivial⟩ ?_
      refine c_seq ?_
      refine c_region ?_
      refine w_p tok rfl rfl rfl ?_
      refine w_p tok rfl rfl rfl ?_
      refine w_call raft_reader_short_ok (raft_reader_short_ref _ _ _ H) rfl rfl rfl rfl ?_
      rintro _ h24 ⟨r23, rfl, H⟩
      refine w_call raft_reader_bytes_ok (raft_reader_bytes_ref _ _ _ _ H) rfl rfl rfl rfl ?_
      rintro _ h26 ⟨r25, rfl, H⟩
      refine w_p tok rfl rfl rfl ?_
      obtain ⟨h27, wh27, eh27, H⟩ := H
      refine w_h (h_st tok rfl rfl rfl rfl rfl rfl wh27 eh27) rfl rfl ?_
      refine w_end ?_
      refine x_seq ?_
      refine c_seq ?_
      refine c_seq ?_
      refine c_region ?_
      refine w_p tok rfl rfl rfl ?_
      refine w_y (y_nil rfl rfl) rfl rfl ?_
      refine w_p tok rfl rfl rfl ?_
      obtain ⟨v28, hv28, H⟩ := H
      refine w_y (y_ld tok rfl rfl rfl rfl hv28) rfl rfl ?_
      refine w_p tok rfl rfl rfl ?_
      refine w_cut 7 (α := Bool) (fun (s : Bool) => [(80, .bool s), (2, .pointer (some (⟨b1, 0, none⟩ : Addr))), (5, .pointer (some (⟨b15, 0, none⟩ : Addr)))]) (fun (s : Bool) h => raft_Get_g2 (⟨b1, 0, none⟩ : Addr) (⟨b15, 0, none⟩ : Addr) s k h) ?_ ?_
      ·
        rintro t80_2 h_2 H
        replace H : raft_Get_g2 (⟨b1, 0, none⟩ : Addr) (⟨b15, 0, none⟩ : Addr) t80_2 k h_2 := H
        unfold raft_Get_g2 at H
        refine w_weak [(80, .bool t80_2), (2, .pointer (some (⟨b1, 0, none⟩ : Addr))), (5, .pointer (some (⟨b15, 0, none⟩ : Addr)))] ⟨rfl, rfl, rfl, trivial⟩ ?_
        refine w_end ?_
        refine x_seq ?_
        refine c_if H rfl (fun H => ?_) (fun H => ?_)
        ·
          refine c_seq ?_
          refine c_region ?_
          refine w_y (y_build tok rfl rfl rfl rfl rfl) rfl rfl ?_
          obtain ⟨h29, wh29, eh29, H⟩ := H
          refine w_h (h_sts tok rfl rfl rfl rfl rfl (oneC (by kernel_rfl)) wh29 eh29) rfl rfl ?_
          refine w_p tok rfl rfl rfl ?_
          refine w_end ?_
          refine x_seq ?_
          refine c_ret ?_
          refine x_tr ?_
          refine x_sr ?_
          obtain ⟨v30, hv30, H⟩ := H
          exact x_retc tok _ rfl [.agg (S_api_Msg.cs v30).toArray, .int .i64 4] ⟨⟨_, _, rfl, rfl, .inr ⟨rfl, _, rfl, rfl, hv30⟩⟩, rfl, trivial⟩ ⟨(v30, 4), rfl, H⟩
        ·
          refine c_skip ?_
          refine x_seq ?_
          refine c_seq ?_
          refine c_region ?_
          obtain ⟨v31, hv31, H⟩ := H
          refine w_y (y_lda tok rfl rfl rfl rfl rfl hv31) rfl rfl ?_
          obtain ⟨h32, wh32, eh32, H⟩ := H
          refine w_h (h_sts tok rfl rfl rfl rfl rfl (oneC (by kernel_rfl)) wh32 eh32) rfl rfl ?_
          refine w_p tok rfl rfl rfl ?_
          refine w_end ?_
          refine x_seq ?_
          refine c_ret ?_
          refine x_sr ?_
          obtain ⟨v33, hv33, H⟩ := H
          exact x_retc tok _ rfl [.agg (S_api_Msg.cs v33).toArray, .int .i64 0] ⟨⟨_, _, rfl, rfl, .inr ⟨rfl, _, rfl, rfl, hv33⟩⟩, rfl, trivial⟩ ⟨(v33, 0), rfl, H⟩
      ·
        refine w_gif (d := 73) H rfl (fun H => ?_) (fun H => ?_)
        ·
          refine w_skip rfl rfl ?_
          refine w_skip rfl rfl ?_
          refine w_skip rfl rfl ?_
          refine w_skip rfl rfl ?_
          refine w_skip rfl rfl ?_
          refine w_skip rfl rfl ?_
          refine w_p tok rfl rfl rfl ?_
          exact w_jn true H ⟨rfl, rfl, rfl, trivial⟩
        ·
          refine w_p tok rfl rfl rfl ?_
          refine w_y (y_nil rfl rfl) rfl rfl ?_
          refine w_p tok rfl rfl rfl ?_
          obtain ⟨v34, hv34, H⟩ := H
          refine w_y (y_ld tok rfl rfl rfl rfl hv34) rfl rfl ?_
          refine w_p tok rfl rfl rfl ?_
          refine w_p tok rfl rfl rfl ?_
          refine w_p tok rfl rfl rfl ?_
          exact w_jn (decide ((v34.len : Int) > 0)) H ⟨rfl, rfl, rfl, trivial⟩
    ·
      refine c_seq ?_
      refine c_region ?_
      refine w_p tok rfl rfl rfl ?_
      refine w_call raft_reader_short_ok (raft_reader_short_ref _ _ _ H) rfl rfl rfl rfl ?_
      rintro _ h36 ⟨r35, rfl, H⟩
      refine w_p tok rfl rfl rfl ?_
      refine w_end ?_
      refine x_seq ?_
      refine c_block ?_
      obtain ⟨I3, μ3, H0, HI⟩ := H
      refine c_loop (σ := Int) (fun (s : Int) => [(7, .int .u64 s), (2, .pointer (some (⟨b1, 0, none⟩ : Addr))), (4, .pointer (some (⟨b3, 0, none⟩ : Addr))), (5, .pointer (some (⟨b15, 0, none⟩ : Addr)))]) I3 μ3 r35 H0 ⟨rfl, rfl, rfl, rfl, trivial⟩ ?_
      rintro t7_3 h_3 H
      replace H := HI t7_3 h_3 H
      unfold raft_Get_l3b at H
      refine c_weak [(7, .int .u64 t7_3), (2, .pointer (some (⟨b1, 0, none⟩ : Addr))), (4, .pointer (some (⟨b3, 0, none⟩ : Addr))), (5, .pointer (some (⟨b15, 0, none⟩ : Addr)))] ⟨rfl, rfl, rfl, rfl, trivial⟩ ?_
      refine c_seq ?_
      refine c_seq ?_
      refine c_region ?_
      refine w_p tok rfl rfl rfl ?_
      refine w_p tok rfl rfl rfl ?_
      refine w_end ?_
      refine x_seq ?_
      refine c_if H rfl (fun H => ?_) (fun H => ?_)
      ·
        refine c_skip ?_
        refine x_seq ?_
        refine c_seq ?_
        refine c_block ?_
        refine c_seq ?_
        refine c_region ?_
        refine w_p tok rfl rfl rfl ?_
        refine w_call raft_reader_short_ok (raft_reader_short_ref _ _ _ H) rfl rfl rfl rfl ?_
        rintro _ h38 ⟨r37, rfl, H⟩
        refine w_y (y_build tok rfl rfl rfl rfl rfl) rfl rfl ?_
        obtain ⟨b39, h40, eb39, eh40, H⟩ := H
        refine w_h (h_alloc tok rfl rfl eb39 eh40) rfl rfl ?_
        obtain ⟨h41, wh41, eh41, H⟩ := H
        refine w_h (h_sts tok rfl rfl rfl rfl rfl (oneC (by kernel_rfl)) wh41 eh41) rfl rfl ?_
        refine w_end ?_
        refine x_seq ?_
        refine c_seq ?_
        refine c_region ?_
        refine w_p tok rfl rfl rfl ?_
        refine w_p tok rfl rfl rfl ?_
        refine w_call raft_reader_short_ok (raft_reader_short_ref _ _ _ H) rfl rfl rfl rfl ?_
        rintro _ h43 ⟨r42, rfl, H⟩
        refine w_call raft_reader_bytes_ok (raft_reader_bytes_ref _ _ _ _ H) rfl rfl rfl rfl ?_
        rintro _ h45 ⟨r44, rfl, H⟩
        refine w_p tok rfl rfl rfl ?_
        obtain ⟨h46, wh46, eh46, H⟩ := H
        refine w_h (h_st tok rfl rfl rfl rfl rfl rfl wh46 eh46) rfl rfl ?_
        refine w_end ?_
        refine x_seq ?_
        refine c_weak [(7, .int .u64 t7_3), (2, .pointer (some (⟨b1, 0, none⟩ : Addr))), (4, .pointer (some (⟨b3, 0, none⟩ : Addr))), (5, .pointer (some (⟨b15, 0, none⟩ : Addr))), (8, .pointer (some (⟨b39, 0, none⟩ : Addr)))] ⟨rfl, rfl, rfl, rfl, rfl, trivial⟩ ?_
        refine c_seq ?_
        refine c_seq ?_
        refine c_region ?_
        refine w_p tok rfl rfl rfl ?_
        refine w_y (y_nil rfl rfl) rfl rfl ?_
        refine w_p tok rfl rfl rfl ?_
        obtain ⟨v47, hv47, H⟩ := H
        refine w_y (y_ld tok rfl rfl rfl rfl hv47) rfl rfl ?_
        refine w_end ?_
        refine x_seq ?_
        refine c_if H rfl (fun H => ?_) (fun H => ?_)
        ·
          refine c_exit ?_
          refine x_te ?_
          refine x_bm rfl ?_
          refine x_te ?_
          refine x_te ?_
          refine x_bh ?_
          exact x_join () H ⟨rfl, rfl, rfl, trivial⟩
        ·
          refine c_skip ?_
          refine x_seq ?_
          refine c_region ?_
          refine w_p tok rfl rfl rfl ?_
          obtain ⟨v48, hv48, H⟩ := H
          refine w_y (y_ld tok rfl rfl rfl rfl hv48) rfl rfl ?_
          obtain ⟨v49, hv49, H⟩ := H
          refine w_y (y_lda tok rfl rfl rfl rfl rfl hv49) rfl rfl ?_
          obtain ⟨b50, h51, eb50, eh51, H⟩ := H
          refine w_h (h_bs tok rfl rfl rfl rfl rfl rfl rfl eb50 eh51) rfl rfl ?_
          refine w_a (a_app (s := v48) (r := (⟨some ⟨b50, 0, none⟩, 1, 1⟩ : Slc)) tok rfl rfl rfl rfl rfl (slcAt_push eb50 eh51) H) rfl rfl ?_
          rintro _ h53 ⟨s52, rfl, H⟩
          refine w_p tok rfl rfl rfl ?_
          obtain ⟨h54, wh54, eh54, H⟩ := H
          refine w_h (h_st tok rfl rfl rfl rfl rfl rfl wh54 eh54) rfl rfl ?_
          refine w_end ?_
          refine x_blk ?_
          refine x_seq ?_
          refine c_weak [(7, .int .u64 t7_3), (2, .pointer (some (⟨b1, 0, none⟩ : Addr))), (4, .pointer (some (⟨b3, 0, none⟩ : Addr))), (5, .pointer (some (⟨b15, 0, none⟩ : Addr)))] ⟨rfl, rfl, rfl, rfl, trivial⟩ ?_
          refine c_region ?_
          refine w_p tok rfl rfl rfl ?_
          refine w_p tok rfl rfl rfl ?_
          obtain ⟨x55, ex55, H⟩ := H
          refine w_pe tok rfl (congrArg (fun z => (.int .u64 z : Value)) ex55) rfl rfl ?_
          refine w_end ?_
          exact x_join x55 H ⟨rfl, rfl, rfl, rfl, trivial⟩
      ·
        refine c_exit ?_
        refine x_te ?_
        refine x_te ?_
        refine x_bh ?_
        exact x_join () H ⟨rfl, rfl, rfl, trivial⟩
  ·
    refine w_gs (d := 34) rfl (fun hb => ?_) (fun hb => ?_)
    ·
      refine w_skip rfl rfl ?_
      refine w_skip rfl rfl ?_
      refine w_p tok rfl rfl rfl ?_
      refine w_jn () rfl ⟨?_, rfl, rfl, rfl, rfl, trivial⟩
      exact congrArg (fun b => some (Value.bool b)) (or_t hb)
    ·
      refine w_p tok rfl rfl rfl ?_
      refine w_p tok rfl rfl rfl ?_
      refine w_p tok rfl rfl rfl ?_
      refine w_jn () rfl ⟨?_, rfl, rfl, rfl, rfl, trivial⟩
      exact congrArg (fun b => some (Value.bool b)) (or_f hb)

theorem pack_Get_ok : CallOk Go.Proofs.Try.prog 35 := ⟨_, Go.Proofs.Try.func35, by kernel_rfl, by kernel_rfl⟩
theorem pack_Get_ref (p0 : Slc) (k : (S_api_Note × Int) → Heap → Prop) (h : Heap) (H : pack_Get p0 k h) : CallsH Go.Proofs.Try.prog 35 #[Slc.v p0] h (fun v h' => ∃ r : S_api_Note × Int, v = .tuple #[.agg (S_api_Note.cs r.1).toArray, .int .i64 r.2] ∧ k r h') := by
  refine f_enter (N := 107) Go.Proofs.Try.func35 rfl rfl rfl (fun w0 => ?_)
  unfold pack_Get at H
  refine c_weak [(0, Slc.v p0)] ⟨rfl, trivial⟩ ?_
  refine c_seq ?_
  refine c_region ?_
  obtain ⟨b1, h2, eb1, eh2, H⟩ := H
  refine w_h (h_alloc tok rfl rfl eb1 eh2) rfl rfl ?_
  refine w_p tok rfl rfl rfl ?_
  refine w_end ?_
  refine x_seq ?_
  refine c_seq ?_
  refine c_region ?_
  refine w_p tok rfl rfl rfl ?_
  refine w_y (y_build tok rfl rfl rfl rfl rfl) rfl rfl ?_
  obtain ⟨b3, h4, eb3, eh4, H⟩ := H
  refine w_h (h_box rfl rfl eb3 eh4) rfl rfl ?_
  refine w_p tok rfl rfl rfl ?_
  refine w_end ?_
  refine x_seq ?_
  refine c_seq ?_
  refine c_region ?_
  refine w_p tok rfl rfl rfl ?_
  refine w_call pack_reader_number_ok (pack_reader_number_ref _ _ _ _ H) rfl rfl rfl rfl ?_
  rintro _ h6 ⟨r5, rfl, H⟩
  refine w_p tok rfl rfl rfl ?_
  refine w_p tok rfl rfl rfl ?_
  refine w_call pack_reader_short_ok (pack_reader_short_ref _ _ _ H) rfl rfl rfl rfl ?_
  rintro _ h8 ⟨r7, rfl, H⟩
  refine w_p tok rfl rfl rfl ?_
  refine w_call pack_reader_short_ok (pack_reader_short_ref _ _ _ H) rfl rfl rfl rfl ?_
  rintro _ h10 ⟨r9, rfl, H⟩
  refine w_p tok rfl rfl rfl ?_
  refine w_call pack_reader_number_ok (pack_reader_number_ref _ _ _ _ H) rfl rfl rfl rfl ?_
  rintro _ h12 ⟨r11, rfl, H⟩
  refine w_p tok rfl rfl rfl ?_
  refine w_p tok rfl rfl rfl ?_
  refine w_call pack_reader_text_ok (pack_reader_text_ref _ _ _ H) rfl rfl rfl rfl ?_
  rintro _ h14 ⟨r13, rfl, H⟩
  refine w_y (y_build tok rfl rfl rfl rfl rfl) rfl rfl ?_
  obtain ⟨b15, h16, eb15, eh16, H⟩ := H
  refine w_h (h_alloc tok rfl rfl eb15 eh16) rfl rfl ?_
  obtain ⟨h17, wh17, eh17, H⟩ := H
  refine w_h (h_sts tok rfl rfl rfl rfl rfl (oneC (by kernel_rfl)) wh17 eh17) rfl rfl ?_
  refine w_end ?_
  refine x_seq ?_
  refine c_weak [(2, .pointer (some (⟨b1, 0, none⟩ : Addr))), (4, .pointer (some (⟨b3, 0, none⟩ : Addr))), (5, .pointer (some (⟨b15, 0, none⟩ : Addr)))] ⟨rfl, rfl, rfl, trivial⟩ ?_
  refine c_seq ?_
  refine c_region ?_
  refine w_p tok rfl rfl rfl ?_
  refine w_call pack_reader_pieces_ok (pack_reader_pieces_ref _ _ _ H) rfl rfl rfl rfl ?_
  rintro _ h19 ⟨r18, rfl, H⟩
  refine w_p tok rfl rfl rfl ?_
  obtain ⟨h20, wh20, eh20, H⟩ := H
  refine w_h (h_st tok rfl rfl rfl rfl rfl rfl wh20 eh20) rfl rfl ?_
  refine w_end ?_
  refine x_seq ?_
  refine c_seq ?_
  refine c_region ?_
  refine w_p tok rfl rfl rfl ?_
  refine w_call pack_reader_query_ok (pack_reader_query_ref _ _ _ H) rfl rfl rfl rfl ?_
  rintro _ h22 ⟨r21, rfl, H⟩
  refine w_p tok rfl rfl rfl ?_
  obtain ⟨h23, wh23, eh23, H⟩ := H
  refine w_h (h_sts tok rfl rfl rfl rfl rfl (oneC (by kernel_rfl)) wh23 eh23) rfl rfl ?_
  refine w_end ?_
  refine x_seq ?_
  refine c_seq ?_
  refine c_region ?_
  refine w_p tok rfl rfl rfl ?_
  refine w_call pack_reader_text_ok (pack_reader_text_ref _ _ _ H) rfl rfl rfl rfl ?_
  rintro _ h25 ⟨r24, rfl, H⟩
  obtain ⟨ms26, H⟩ := H
  refine w_a (a_s2b (s := r24) tok rfl rfl rfl rfl rfl ms26 H) rfl rfl ?_
  rintro _ h27 ⟨s26, rfl, H⟩
  refine w_call reg_Get_ok (reg_Get_ref _ _ _ H) rfl rfl rfl rfl ?_
  rintro _ h29 ⟨r28, rfl, H⟩
  refine w_p tok rfl rfl rfl ?_
  refine w_p tok rfl rfl rfl ?_
  refine w_p tok rfl rfl rfl ?_
  obtain ⟨b30, h31, eb30, eh31, H⟩ := H
  refine w_h (h_alloc tok rfl rfl eb30 eh31) rfl rfl ?_
  obtain ⟨h32, wh32, eh32, H⟩ := H
  refine w_h (h_sts tok rfl rfl rfl rfl rfl (oneC (by kernel_rfl)) wh32 eh32) rfl rfl ?_
  refine w_p tok rfl rfl rfl ?_
  refine w_end ?_
  refine x_seq ?_
  refine c_weak [(2, .pointer (some (⟨b1, 0, none⟩ : Addr))), (4, .pointer (some (⟨b3, 0, none⟩ : Addr))), (5, .pointer (some (⟨b15, 0, none⟩ : Addr))), (6, .pointer (some (⟨b30, 0, none⟩ : Addr))), (7, .int .i64 r28.2)] ⟨rfl, rfl, rfl, rfl, rfl, trivial⟩ ?_
  refine c_seqJ (α := Unit) (fun (s : Unit) => [(2, .pointer (some (⟨b1, 0, none⟩ : Addr))), (4, .pointer (some (⟨b3, 0, none⟩ : Addr))), (5, .pointer (some (⟨b15, 0, none⟩ : Addr)))]) (fun (s : Unit) h => pack_Get_j1 (⟨b1, 0, none⟩ : Addr) (⟨b3, 0, none⟩ : Addr) (⟨b15, 0, none⟩ : Addr) k h) ?_ ?_
  ·
    rintro _ h_1 H
    replace H : pack_Get_j1 (⟨b1, 0, none⟩ : Addr) (⟨b3, 0, none⟩ : Addr) (⟨b15, 0, none⟩ : Addr) k h_1 := H
    unfold pack_Get_j1 at H
    refine c_weak [(2, .pointer (some (⟨b1, 0, none⟩ : Addr))), (4, .pointer (some (⟨b3, 0, none⟩ : Addr))), (5, .pointer (some (⟨b15, 0, none⟩ : Addr)))] ⟨rfl, rfl, rfl, trivial⟩ ?_
    refine c_seq ?_
    refine c_region ?_
    refine w_p tok rfl rfl rfl ?_
    refine w_call pack_reader_short_ok (pack_reader_short_ref _ _ _ H) rfl rfl rfl rfl ?_
    rintro _ h34 ⟨r33, rfl, H⟩
    refine w_p tok rfl rfl rfl ?_
    obtain ⟨h35, wh35, eh35, H⟩ := H
    refine w_h (h_st tok rfl rfl rfl rfl rfl rfl wh35 eh35) rfl rfl ?_
    refine w_end ?_
    refine x_seq ?_
    refine c_seq ?_
    refine c_region ?_
    refine w_p tok rfl rfl rfl ?_
    refine w_call pack_reader_ids_ok (pack_reader_ids_ref _ _ _ H) rfl rfl rfl rfl ?_
    rintro _ h37 ⟨r36, rfl, H⟩
    refine w_p tok rfl rfl rfl ?_
    obtain ⟨h38, wh38, eh38, H⟩ := H
    refine w_h (h_st tok rfl rfl rfl rfl rfl rfl wh38 eh38) rfl rfl ?_
    refine w_end ?_
    refine x_seq ?_
    refine c_seq ?_
    refine c_region ?_
    refine w_p tok rfl rfl rfl ?_
    refine w_call pack_reader_number_ok (pack_reader_number_ref _ _ _ _ H) rfl rfl rfl rfl ?_
    rintro _ h40 ⟨r39, rfl, H⟩
    refine w_p tok rfl rfl rfl ?_
    refine w_p tok rfl rfl rfl ?_
    refine w_p tok rfl rfl rfl ?_
    obtain ⟨h41, wh41, eh41, H⟩ := H
    refine w_h (h_st tok rfl rfl rfl rfl rfl rfl wh41 eh41) rfl rfl ?_
    refine w_end ?_
    refine x_seq ?_
    refine c_weak [(2, .pointer (some (⟨b1, 0, none⟩ : Addr))), (4, .pointer (some (⟨b3, 0, none⟩ : Addr))), (5, .pointer (some (⟨b15, 0, none⟩ : Addr)))] ⟨rfl, rfl, rfl, trivial⟩ ?_
    refine c_seq ?_
    refine c_sim [(2, .pointer (some (⟨b1, 0, none⟩ : Addr))), (4, .pointer (some (⟨b3, 0, none⟩ : Addr))), (5, .pointer (some (⟨b15, 0, none⟩ : Addr)))] (by kernel_rfl) (by kernel_rfl) ⟨rfl, rfl, rfl, trivial⟩ (fun wf => ?_)
    refine sim_p 0 (ei := [(5, .pointer (some (⟨b15, 0, none⟩ : Addr)))]) (d := (some 62)) wf (by kernel_rfl) ⟨rfl, trivial⟩ (by kernel_rfl) (by kernel_rfl) (fun _ => pf_p tok rfl rfl rfl rfl) (fun P_0 => ?_)
    refine sim_p 1 (ei := [(62, .pointer (some ((⟨b15, 0, none⟩ : Addr).add 30)))]) (d := (some 63)) wf (by kernel_rfl) ⟨rfl, trivial⟩ (by kernel_rfl) (by kernel_rfl) (fun _ => pf_p tok rfl rfl rfl rfl) (fun P_1 => ?_)
    obtain ⟨s42, ps42, qs42, rs42, es42, H⟩ := H
    refine sim_p 2 (ei := [(63, .pointer (some (((⟨b15, 0, none⟩ : Addr).add 30).add 1)))]) (d := (some 64)) wf (by kernel_rfl) ⟨rfl, trivial⟩ (by kernel_rfl) (by kernel_rfl) (fun _ => pf_ye rfl rfl rfl (y_sla (L := 0) (H := 32) tok rfl rfl rfl rfl rfl rfl ps42 qs42 rs42) (congrArg Slc.v es42)) (fun P_2 => ?_)
    refine sim_p 3 (ei := [(4, .pointer (some (⟨b3, 0, none⟩ : Addr)))]) (d := (some 65)) wf (by kernel_rfl) ⟨rfl, trivial⟩ (by kernel_rfl) (by kernel_rfl) (fun _ => pf_p tok rfl rfl rfl rfl) (fun P_3 => ?_)
    refine sim_c 4 [3] [3] (ei := [(65, .pointer (some (⟨b3, 0, none⟩ : Addr)))]) pack_reader_bytes_ok (pack_reader_bytes_ref _ _ _ _ H) wf ⟨P_3 _, P_2 _, P_1 _, P_0 _, trivial⟩ (by kernel_rfl) ⟨rfl, trivial⟩ (by kernel_rfl) rfl rfl rfl rfl rfl ?_
    rintro _ h44 ⟨r43, rfl, H⟩
    obtain ⟨l45, H⟩ := H
    refine sim_a 5 [0, 1, 2, 3, 4] [0, 1, 2, 3] (ei := [(64, Slc.v s42), (66, Slc.v r43)]) wf ⟨trivial, P_2 _, P_1 _, P_0 _, trivial⟩ (by kernel_rfl) ⟨rfl, rfl, trivial⟩ (by kernel_rfl) rfl rfl rfl (a_cpy (d := s42) (s := r43) tok rfl rfl rfl rfl rfl H) ?_
    rintro _ h46 ⟨rfl, H⟩
    refine sim_end wf ⟨trivial, trivial, trivial, trivial, trivial⟩ (by kernel_rfl) ?_
    clear wf P_0 P_1 P_2 P_3
    refine x_seq ?_
    refine c_seq ?_
    refine c_region ?_
    refine w_p tok rfl rfl rfl ?_
    refine w_call pack_reader_text_ok (pack_reader_text_ref _ _ _ H) rfl rfl rfl rfl ?_
    rintro _ h48 ⟨r47, rfl, H⟩
    obtain ⟨ms49, H⟩ := H
    refine w_a (a_s2b (s := r47) tok rfl rfl rfl rfl rfl ms49 H) rfl rfl ?_
    rintro _ h50 ⟨s49, rfl, H⟩
    refine w_call raft_Get_ok (raft_Get_ref _ _ _ H) rfl rfl rfl rfl ?_
    rintro _ h52 ⟨r51, rfl, H⟩
    refine w_p tok rfl rfl rfl ?_
    refine w_p tok rfl rfl rfl ?_
    refine w_p tok rfl rfl rfl ?_
    obtain ⟨b53, h54, eb53, eh54, H⟩ := H
    refine w_h (h_alloc tok rfl rfl eb53 eh54) rfl rfl ?_
    obtain ⟨h55, wh55, eh55, H⟩ := H
    refine w_h (h_sts tok rfl rfl rfl rfl rfl (oneC (by kernel_rfl)) wh55 eh55) rfl rfl ?_
    refine w_p tok rfl rfl rfl ?_
    refine w_end ?_
    refine x_seq ?_
    refine c_weak [(2, .pointer (some (⟨b1, 0, none⟩ : Addr))), (4, .pointer (some (⟨b3, 0, none⟩ : Addr))), (5, .pointer (some (⟨b15, 0, none⟩ : Addr))), (8, .pointer (some (⟨b53, 0, none⟩ : Addr))), (7, .int .i64 r51.2)] ⟨rfl, rfl, rfl, rfl, rfl, trivial⟩ ?_
    refine c_seqJ (α := Unit) (fun (s : Unit) => [(2, .pointer (some (⟨b1, 0, none⟩ : Addr))), (4, .pointer (some (⟨b3, 0, none⟩ : Addr))), (5, .pointer (some (⟨b15, 0, none⟩ : Addr)))]) (fun (s : Unit) h => pack_Get_j2 (⟨b1, 0, none⟩ : Addr) (⟨b3, 0, none⟩ : Addr) (⟨b15, 0, none⟩ : Addr) k h) ?_ ?_
    ·
      rintro _ h_2 H
      replace H : pack_Get_j2 (⟨b1, 0, none⟩ : Addr) (⟨b3, 0, none⟩ : Addr) (⟨b15, 0, none⟩ : Addr) k h_2 := H
      unfold pack_Get_j2 at H
      refine c_weak [(2, .pointer (some (⟨b1, 0, none⟩ : Addr))), (4, .pointer (some (⟨b3, 0, none⟩ : Addr))), (5, .pointer (some (⟨b15, 0, none⟩ : Addr)))] ⟨rfl, rfl, rfl, trivial⟩ ?_
      refine c_seq ?_
      refine c_seq ?_
      refine c_region ?_
      refine w_p tok rfl rfl rfl ?_
      refine w_y (y_nil rfl rfl) rfl rfl ?_
      refine w_p tok rfl rfl rfl ?_
      obtain ⟨v56, hv56, H⟩ := H
      refine w_y (y_ld tok rfl rfl rfl rfl hv56) rfl rfl ?_
      refine w_p tok rfl rfl rfl ?_
      refine w_cut 7 (α := Bool) (fun (s : Bool) => [(99, .bool s), (2, .pointer (some (⟨b1, 0, none⟩ : Addr))), (5, .pointer (some (⟨b15, 0, none⟩ : Addr)))]) (fun (s : Bool) h => pack_Get_g3 (⟨b1, 0, none⟩ : Addr) (⟨b15, 0, none⟩ : Addr) s k h) ?_ ?_
      ·
        rintro t99_3 h_3 H
        replace H : pack_Get_g3 (⟨b1, 0, none⟩ : Addr) (⟨b15, 0, none⟩ : Addr) t99_3 k h_3 := H
        unfold pack_Get_g3 at H
        refine w_weak [(99, .bool t99_3), (2, .pointer (some (⟨b1, 0, none⟩ : Addr))), (5, .pointer (some (⟨b15, 0, none⟩ : Addr)))] ⟨rfl, rfl, rfl, trivial⟩ ?_
        refine w_p tok rfl rfl rfl ?_
        refine w_cut 4 (α := Bool) (fun (s : Bool) => [(104, .bool s), (2, .pointer (some (⟨b1, 0, none⟩ : Addr))), (5, .pointer (some (⟨b15, 0, none⟩ : Addr)))]) (fun (s : Bool) h => pack_Get_g4 (⟨b1, 0, none⟩ : Addr) (⟨b15, 0, none⟩ : Addr) s k h) ?_ ?_
        ·
          rintro t104_4 h_4 H
          replace H : pack_Get_g4 (⟨b1, 0, none⟩ : Addr) (⟨b15, 0, none⟩ : Addr) t104_4 k h_4 := H
          unfold pack_Get_g4 at H
          refine w_weak [(104, .bool t104_4), (2, .pointer (some (⟨b1, 0, none⟩ : Addr))), (5, .pointer (some (⟨b15, 0, none⟩ : Addr)))] ⟨rfl, rfl, rfl, trivial⟩ ?_
          refine w_end ?_
          refine x_seq ?_
          refine c_if H rfl (fun H => ?_) (fun H => ?_)
          ·
            refine c_seq ?_
            refine c_region ?_
            refine w_y (y_build tok rfl rfl rfl rfl rfl) rfl rfl ?_
            obtain ⟨h57, wh57, eh57, H⟩ := H
            refine w_h (h_sts tok rfl rfl rfl rfl rfl (oneC (by kernel_rfl)) wh57 eh57) rfl rfl ?_
            refine w_p tok rfl rfl rfl ?_
            refine w_end ?_
            refine x_seq ?_
            refine c_ret ?_
            refine x_tr ?_
            obtain ⟨v58, hv58, H⟩ := H
            exact x_retc tok _ rfl [.agg (S_api_Note.cs v58).toArray, .int .i64 4] ⟨⟨_, _, rfl, rfl, .inr ⟨rfl, _, rfl, rfl, hv58⟩⟩, rfl, trivial⟩ ⟨(v58, 4), rfl, H⟩
          ·
            refine c_skip ?_
            refine x_seq ?_
            refine c_seq ?_
            refine c_region ?_
            obtain ⟨v59, hv59, H⟩ := H
            refine w_y (y_lda tok rfl rfl rfl rfl rfl hv59) rfl rfl ?_
            obtain ⟨h60, wh60, eh60, H⟩ := H
            refine w_h (h_sts tok rfl rfl rfl rfl rfl (oneC (by kernel_rfl)) wh60 eh60) rfl rfl ?_
            refine w_p tok rfl rfl rfl ?_
            refine w_end ?_
            refine x_seq ?_
            refine c_ret ?_
            obtain ⟨v61, hv61, H⟩ := H
            exact x_retc tok _ rfl [.agg (S_api_Note.cs v61).toArray, .int .i64 0] ⟨⟨_, _, rfl, rfl, .inr ⟨rfl, _, rfl, rfl, hv61⟩⟩, rfl, trivial⟩ ⟨(v61, 0), rfl, H⟩
        ·
          refine w_gif (d := 100) H rfl (fun H => ?_) (fun H => ?_)
          ·
            refine w_skip rfl rfl ?_
            refine w_skip rfl rfl ?_
            refine w_skip rfl rfl ?_
            refine w_p tok rfl rfl rfl ?_
            exact w_jn true H ⟨rfl, rfl, rfl, trivial⟩
          ·
            obtain ⟨v62, hv62, H⟩ := H
            refine w_y (y_lda tok rfl rfl rfl rfl rfl hv62) rfl rfl ?_
            refine w_call pack_Check_ok (pack_Check_ref _ _ _ H) rfl rfl rfl rfl ?_
            rintro _ h64 ⟨r63, rfl, H⟩
            refine w_p tok rfl rfl rfl ?_
            refine w_p tok rfl rfl rfl ?_
            exact w_jn (r63 != 0) H ⟨rfl, rfl, rfl, trivial⟩
      ·
        refine w_gif (d := 92) H rfl (fun H => ?_) (fun H => ?_)
        ·
          refine w_skip rfl rfl ?_
          refine w_skip rfl rfl ?_
          refine w_skip rfl rfl ?_
          refine w_skip rfl rfl ?_
          refine w_skip rfl rfl ?_
          refine w_skip rfl rfl ?_
          refine w_p tok rfl rfl rfl ?_
          exact w_jn true H ⟨rfl, rfl, rfl, trivial⟩
        ·
          refine w_p tok rfl rfl rfl ?_
          refine w_y (y_nil rfl rfl) rfl rfl ?_
          refine w_p tok rfl rfl rfl ?_
          obtain ⟨v65, hv65, H⟩ := H
          refine w_y (y_ld tok rfl rfl rfl rfl hv65) rfl rfl ?_
          refine w_p tok rfl rfl rfl ?_
          refine w_p tok rfl rfl rfl ?_
          refine w_p tok rfl rfl rfl ?_
          exact w_jn (decide ((v65.len : Int) > 0)) H ⟨rfl, rfl, rfl, trivial⟩
    ·
      refine c_sim [(2, .pointer (some (⟨b1, 0, none⟩ : Addr))), (4, .pointer (some (⟨b3, 0, none⟩ : Addr))), (5, .pointer (some (⟨b15, 0, none⟩ : Addr))), (7, .int .i64 r51.2), (8, .pointer (some (⟨b53, 0, none⟩ : Addr)))] (by kernel_rfl) (by kernel_rfl) ⟨rfl, rfl, rfl, rfl, rfl, trivial⟩ (fun wf => ?_)
      refine sim_p 0 (ei := [(4, .pointer (some (⟨b3, 0, none⟩ : Addr)))]) (d := (some 75)) wf (by kernel_rfl) ⟨rfl, trivial⟩ (by kernel_rfl) (by kernel_rfl) (fun _ => pf_p tok rfl rfl rfl rfl) (fun P_0 => ?_)
      obtain ⟨v66, hv66, H⟩ := H
      refine sim_l 1 (ei := [(8, .pointer (some (⟨b53, 0, none⟩ : Addr)))]) (d := (some 76)) wf (by kernel_rfl) ⟨rfl, trivial⟩ (by kernel_rfl) (by kernel_rfl) (pf_y rfl rfl rfl (y_lda tok rfl rfl rfl rfl rfl hv66)) (fun P_1 => ?_)
      refine sim_p 2 (ei := [(4, .pointer (some (⟨b3, 0, none⟩ : Addr)))]) (d := (some 77)) wf (by kernel_rfl) ⟨rfl, trivial⟩ (by kernel_rfl) (by kernel_rfl) (fun _ => pf_p tok rfl rfl rfl rfl) (fun P_2 => ?_)
      refine sim_p 3 (ei := [(77, .pointer (some (⟨b3, 0, none⟩ : Addr)))]) (d := (some 78)) wf (by kernel_rfl) ⟨rfl, trivial⟩ (by kernel_rfl) (by kernel_rfl) (fun _ => pf_y rfl rfl rfl (y_nil rfl rfl)) (fun P_3 => ?_)
      refine sim_p 4 (ei := [(78, .pointer (some (⟨b3, 0, none⟩ : Addr)))]) (d := (some 79)) wf (by kernel_rfl) ⟨rfl, trivial⟩ (by kernel_rfl) (by kernel_rfl) (fun _ => pf_p tok rfl rfl rfl rfl) (fun P_4 => ?_)
      obtain ⟨v67, hv67, H⟩ := H
      refine sim_l 5 (ei := [(79, .pointer (some ((⟨b3, 0, none⟩ : Addr).add 1)))]) (d := (some 80)) wf (by kernel_rfl) ⟨rfl, trivial⟩ (by kernel_rfl) (by kernel_rfl) (pf_y rfl rfl rfl (y_ld tok rfl rfl rfl rfl hv67)) (fun P_5 => ?_)
      refine sim_p 6 (ei := [(80, .bool v67)]) (d := (some 81)) wf (by kernel_rfl) ⟨rfl, trivial⟩ (by kernel_rfl) (by kernel_rfl) (fun _ => pf_p tok rfl rfl rfl rfl) (fun P_6 => ?_)
      refine sim_p 10 (ei := [(5, .pointer (some (⟨b15, 0, none⟩ : Addr)))]) (d := (some 85)) wf (by kernel_rfl) ⟨rfl, trivial⟩ (by kernel_rfl) (by kernel_rfl) (fun _ => pf_p tok rfl rfl rfl rfl) (fun P_10 => ?_)
      refine sim_gif 81 H rfl (fun hb H => ?_) (fun hb H => ?_)
      ·
        refine sim_p 7 (v := undef) (ei := [(7, .int .i64 r51.2), (81, .bool true)]) (d := (some 82)) wf (by kernel_rfl) ⟨rfl, rfl, trivial⟩ (by kernel_rfl) (by kernel_rfl) (fun _ => pf_s rfl rfl rfl) (fun P_7 => ?_)
        refine sim_p 8 (v := undef) (ei := [(81, .bool true)]) (d := (some 83)) wf (by kernel_rfl) ⟨rfl, trivial⟩ (by kernel_rfl) (by kernel_rfl) (fun _ => pf_s rfl rfl rfl) (fun P_8 => ?_)
        refine sim_p 9 (ei := [(81, .bool true)]) (d := (some 84)) wf (by kernel_rfl) ⟨rfl, trivial⟩ (by kernel_rfl) (by kernel_rfl) (fun _ => pf_p tok rfl rfl rfl rfl) (fun P_9 => ?_)
        obtain ⟨h68, wh68, eh68, H⟩ := H
        refine sim_h 11 [1, 2, 3, 4, 5, 6, 10] [1, 2, 3, 4, 5, 6, 10] (ei := [(76, .agg (S_api_Msg.cs v66).toArray), (85, .pointer (some ((⟨b15, 0, none⟩ : Addr).add 63)))]) wf ⟨P_9 _, P_8 _, P_7 _, P_10 _, P_6 _, P_5, P_4 _, P_3 _, P_2 _, P_1, P_0 _, trivial⟩ (by kernel_rfl) ⟨rfl, rfl, trivial⟩ (by kernel_rfl) rfl rfl rfl (h_sts tok rfl rfl rfl rfl rfl (oneC (by kernel_rfl)) wh68 eh68) ?_
        refine sim_p 12 (ei := [(75, .pointer (some (⟨b3, 0, none⟩ : Addr)))]) (d := (some 86)) wf (by kernel_rfl) ⟨rfl, trivial⟩ (by kernel_rfl) (by kernel_rfl) (fun _ => pf_y rfl rfl rfl (y_nil rfl rfl)) (fun P_12 => ?_)
        refine sim_p 13 (ei := [(86, .pointer (some (⟨b3, 0, none⟩ : Addr)))]) (d := (some 87)) wf (by kernel_rfl) ⟨rfl, trivial⟩ (by kernel_rfl) (by kernel_rfl) (fun _ => pf_p tok rfl rfl rfl rfl) (fun P_13 => ?_)
        obtain ⟨h69, wh69, eh69, H⟩ := H
        refine sim_h 14 [0, 1, 2, 3, 4, 5, 6, 7, 8, 9, 10, 11, 12, 13] [0, 1, 2, 3, 4, 5, 6, 7, 8, 9, 10, 12, 13] (ei := [(84, .bool true), (87, .pointer (some ((⟨b3, 0, none⟩ : Addr).add 1)))]) wf ⟨P_13 _, P_12 _, P_9 _, P_8 _, P_7 _, trivial, trivial, trivial, trivial, trivial, trivial, trivial, P_0 _, trivial⟩ (by kernel_rfl) ⟨rfl, rfl, trivial⟩ (by kernel_rfl) rfl rfl rfl (h_st tok rfl rfl rfl rfl rfl rfl wh69 eh69) ?_
        refine sim_end wf ⟨trivial, trivial, trivial, trivial, trivial, trivial, trivial, trivial, trivial, trivial, trivial, trivial, trivial, trivial⟩ (by kernel_rfl) ?_
        clear wf P_0 P_1 P_10 P_12 P_13 P_2 P_3 P_4 P_5 P_6 P_7 P_8 P_9
        exact x_join () H ⟨rfl, rfl, rfl, trivial⟩
      ·
        refine sim_p 7 (ei := [(7, .int .i64 r51.2), (81, .bool false)]) (d := (some 82)) wf (by kernel_rfl) ⟨rfl, rfl, trivial⟩ (by kernel_rfl) (by kernel_rfl) (fun _ => pf_p tok rfl rfl rfl rfl) (fun P_7 => ?_)
        refine sim_p 8 (ei := [(81, .bool false), (82, .int .i64 r51.2)]) (d := (some 83)) wf (by kernel_rfl) ⟨rfl, rfl, trivial⟩ (by kernel_rfl) (by kernel_rfl) (fun _ => pf_p tok rfl rfl rfl rfl) (fun P_8 => ?_)
        refine sim_p 9 (ei := [(81, .bool false), (83, .bool (r51.2 != 0))]) (d := (some 84)) wf (by kernel_rfl) ⟨rfl, rfl, trivial⟩ (by kernel_rfl) (by kernel_rfl) (fun _ => pf_p tok rfl rfl rfl rfl) (fun P_9 => ?_)
        obtain ⟨h70, wh70, eh70, H⟩ := H
        refine sim_h 11 [1, 2, 3, 4, 5, 6, 10] [1, 2, 3, 4, 5, 6, 10] (ei := [(76, .agg (S_api_Msg.cs v66).toArray), (85, .pointer (some ((⟨b15, 0, none⟩ : Addr).add 63)))]) wf ⟨P_9 _, P_8 _, P_7 _, P_10 _, P_6 _, P_5, P_4 _, P_3 _, P_2 _, P_1, P_0 _, trivial⟩ (by kernel_rfl) ⟨rfl, rfl, trivial⟩ (by kernel_rfl) rfl rfl rfl (h_sts tok rfl rfl rfl rfl rfl (oneC (by kernel_rfl)) wh70 eh70) ?_
        refine sim_p 12 (ei := [(75, .pointer (some (⟨b3, 0, none⟩ : Addr)))]) (d := (some 86)) wf (by kernel_rfl) ⟨rfl, trivial⟩ (by kernel_rfl) (by kernel_rfl) (fun _ => pf_y rfl rfl rfl (y_nil rfl rfl)) (fun P_12 => ?_)
        refine sim_p 13 (ei := [(86, .pointer (some (⟨b3, 0, none⟩ : Addr)))]) (d := (some 87)) wf (by kernel_rfl) ⟨rfl, trivial⟩ (by kernel_rfl) (by kernel_rfl) (fun _ => pf_p tok rfl rfl rfl rfl) (fun P_13 => ?_)
        obtain ⟨h71, wh71, eh71, H⟩ := H
        refine sim_h 14 [0, 1, 2, 3, 4, 5, 6, 7, 8, 9, 10, 11, 12, 13] [0, 1, 2, 3, 4, 5, 6, 7, 8, 9, 10, 12, 13] (ei := [(84, .bool (r51.2 != 0)), (87, .pointer (some ((⟨b3, 0, none⟩ : Addr).add 1)))]) wf ⟨P_13 _, P_12 _, P_9 _, P_8 _, P_7 _, trivial, trivial, trivial, trivial, trivial, trivial, trivial, P_0 _, trivial⟩ (by kernel_rfl) ⟨rfl, rfl, trivial⟩ (by kernel_rfl) rfl rfl rfl (h_st tok rfl rfl rfl rfl rfl rfl wh71 eh71) ?_
        refine sim_end wf ⟨trivial, trivial, trivial, trivial, trivial, trivial, trivial, trivial, trivial, trivial, trivial, trivial, trivial, trivial⟩ (by kernel_rfl) ?_
        clear wf P_0 P_1 P_10 P_12 P_13 P_2 P_3 P_4 P_5 P_6 P_7 P_8 P_9
        exact x_join () H ⟨rfl, rfl, rfl, trivial⟩
  ·
    refine c_sim [(2, .pointer (some (⟨b1, 0, none⟩ : Addr))), (4, .pointer (some (⟨b3, 0, none⟩ : Addr))), (5, .pointer (some (⟨b15, 0, none⟩ : Addr))), (6, .pointer (some (⟨b30, 0, none⟩ : Addr))), (7, .int .i64 r28.2)] (by kernel_rfl) (by kernel_rfl) ⟨rfl, rfl, rfl, rfl, rfl, trivial⟩ (fun wf => ?_)
    refine sim_p 0 (ei := [(4, .pointer (some (⟨b3, 0, none⟩ : Addr)))]) (d := (some 38)) wf (by kernel_rfl) ⟨rfl, trivial⟩ (by kernel_rfl) (by kernel_rfl) (fun _ => pf_p tok rfl rfl rfl rfl) (fun P_0 => ?_)
    obtain ⟨v72, hv72, H⟩ := H
    refine sim_l 1 (ei := [(6, .pointer (some (⟨b30, 0, none⟩ : Addr)))]) (d := (some 39)) wf (by kernel_rfl) ⟨rfl, trivial⟩ (by kernel_rfl) (by kernel_rfl) (pf_y rfl rfl rfl (y_lda tok rfl rfl rfl rfl rfl hv72)) (fun P_1 => ?_)
    refine sim_p 2 (ei := [(4, .pointer (some (⟨b3, 0, none⟩ : Addr)))]) (d := (some 40)) wf (by kernel_rfl) ⟨rfl, trivial⟩ (by kernel_rfl) (by kernel_rfl) (fun _ => pf_p tok rfl rfl rfl rfl) (fun P_2 => ?_)
    refine sim_p 3 (ei := [(40, .pointer (some (⟨b3, 0, none⟩ : Addr)))]) (d := (some 41)) wf (by kernel_rfl) ⟨rfl, trivial⟩ (by kernel_rfl) (by kernel_rfl) (fun _ => pf_y rfl rfl rfl (y_nil rfl rfl)) (fun P_3 => ?_)
    refine sim_p 4 (ei := [(41, .pointer (some (⟨b3, 0, none⟩ : Addr)))]) (d := (some 42)) wf (by kernel_rfl) ⟨rfl, trivial⟩ (by kernel_rfl) (by kernel_rfl) (fun _ => pf_p tok rfl rfl rfl rfl) (fun P_4 => ?_)
    obtain ⟨v73, hv73, H⟩ := H
    refine sim_l 5 (ei := [(42, .pointer (some ((⟨b3, 0, none⟩ : Addr).add 1)))]) (d := (some 43)) wf (by kernel_rfl) ⟨rfl, trivial⟩ (by kernel_rfl) (by kernel_rfl) (pf_y rfl rfl rfl (y_ld tok rfl rfl rfl rfl hv73)) (fun P_5 => ?_)
    refine sim_p 6 (ei := [(43, .bool v73)]) (d := (some 44)) wf (by kernel_rfl) ⟨rfl, trivial⟩ (by kernel_rfl) (by kernel_rfl) (fun _ => pf_p tok rfl rfl rfl rfl) (fun P_6 => ?_)
    refine sim_p 10 (ei := [(5, .pointer (some (⟨b15, 0, none⟩ : Addr)))]) (d := (some 48)) wf (by kernel_rfl) ⟨rfl, trivial⟩ (by kernel_rfl) (by kernel_rfl) (fun _ => pf_p tok rfl rfl rfl rfl) (fun P_10 => ?_)
    refine sim_gif 44 H rfl (fun hb H => ?_) (fun hb H => ?_)
    ·
      refine sim_p 7 (v := undef) (ei := [(7, .int .i64 r28.2), (44, .bool true)]) (d := (some 45)) wf (by kernel_rfl) ⟨rfl, rfl, trivial⟩ (by kernel_rfl) (by kernel_rfl) (fun _ => pf_s rfl rfl rfl) (fun P_7 => ?_)
      refine sim_p 8 (v := undef) (ei := [(44, .bool true)]) (d := (some 46)) wf (by kernel_rfl) ⟨rfl, trivial⟩ (by kernel_rfl) (by kernel_rfl) (fun _ => pf_s rfl rfl rfl) (fun P_8 => ?_)
      refine sim_p 9 (ei := [(44, .bool true)]) (d := (some 47)) wf (by kernel_rfl) ⟨rfl, trivial⟩ (by kernel_rfl) (by kernel_rfl) (fun _ => pf_p tok rfl rfl rfl rfl) (fun P_9 => ?_)
      obtain ⟨h74, wh74, eh74, H⟩ := H
      refine sim_h 11 [1, 2, 3, 4, 5, 6, 10] [1, 2, 3, 4, 5, 6, 10] (ei := [(39, .agg (S_api_Command.cs v72).toArray), (48, .pointer (some ((⟨b15, 0, none⟩ : Addr).add 11)))]) wf ⟨P_9 _, P_8 _, P_7 _, P_10 _, P_6 _, P_5, P_4 _, P_3 _, P_2 _, P_1, P_0 _, trivial⟩ (by kernel_rfl) ⟨rfl, rfl, trivial⟩ (by kernel_rfl) rfl rfl rfl (h_sts tok rfl rfl rfl rfl rfl (oneC (by kernel_rfl)) wh74 eh74) ?_
      refine sim_p 12 (ei := [(38, .pointer (some (⟨b3, 0, none⟩ : Addr)))]) (d := (some 49)) wf (by kernel_rfl) ⟨rfl, trivial⟩ (by kernel_rfl) (by kernel_rfl) (fun _ => pf_y rfl rfl rfl (y_nil rfl rfl)) (fun P_12 => ?_)
      refine sim_p 13 (ei := [(49, .pointer (some (⟨b3, 0, none⟩ : Addr)))]) (d := (some 50)) wf (by kernel_rfl) ⟨rfl, trivial⟩ (by kernel_rfl) (by kernel_rfl) (fun _ => pf_p tok rfl rfl rfl rfl) (fun P_13 => ?_)
      obtain ⟨h75, wh75, eh75, H⟩ := H
      refine sim_h 14 [0, 1, 2, 3, 4, 5, 6, 7, 8, 9, 10, 11, 12, 13] [0, 1, 2, 3, 4, 5, 6, 7, 8, 9, 10, 12, 13] (ei := [(47, .bool true), (50, .pointer (some ((⟨b3, 0, none⟩ : Addr).add 1)))]) wf ⟨P_13 _, P_12 _, P_9 _, P_8 _, P_7 _, trivial, trivial, trivial, trivial, trivial, trivial, trivial, P_0 _, trivial⟩ (by kernel_rfl) ⟨rfl, rfl, trivial⟩ (by kernel_rfl) rfl rfl rfl (h_st tok rfl rfl rfl rfl rfl rfl wh75 eh75) ?_
      refine sim_end wf ⟨trivial, trivial, trivial, trivial, trivial, trivial, trivial, trivial, trivial, trivial, trivial, trivial, trivial, trivial⟩ (by kernel_rfl) ?_
      clear wf P_0 P_1 P_10 P_12 P_13 P_2 P_3 P_4 P_5 P_6 P_7 P_8 P_9
      exact x_join () H ⟨rfl, rfl, rfl, trivial⟩
    ·
      refine sim_p 7 (ei := [(7, .int .i64 r28.2), (44, .bool false)]) (d := (some 45)) wf (by kernel_rfl) ⟨rfl, rfl, trivial⟩ (by kernel_rfl) (by kernel_rfl) (fun _ => pf_p tok rfl rfl rfl rfl) (fun P_7 => ?_)
      refine sim_p 8 (ei := [(44, .bool false), (45, .int .i64 r28.2)]) (d := (some 46)) wf (by kernel_rfl) ⟨rfl, rfl, trivial⟩ (by kernel_rfl) (by kernel_rfl) (fun _ => pf_p tok rfl rfl rfl rfl) (fun P_8 => ?_)
      refine sim_p 9 (ei := [(44, .bool false), (46, .bool (r28.2 != 0))]) (d := (some 47)) wf (by kernel_rfl) ⟨rfl, rfl, trivial⟩ (by kernel_rfl) (by kernel_rfl) (fun _ => pf_p tok rfl rfl rfl rfl) (fun P_9 => ?_)
      obtain ⟨h76, wh76, eh76, H⟩ := H
      refine sim_h 11 [1, 2, 3, 4, 5, 6, 10] [1, 2, 3, 4, 5, 6, 10] (ei := [(39, .agg (S_api_Command.cs v72).toArray), (48, .pointer (some ((⟨b15, 0, none⟩ : Addr).add 11)))]) wf ⟨P_9 _, P_8 _, P_7 _, P_10 _, P_6 _, P_5, P_4 _, P_3 _, P_2 _, P_1, P_0 _, trivial⟩ (by kernel_rfl) ⟨rfl, rfl, trivial⟩ (by kernel_rfl) rfl rfl rfl (h_sts tok rfl rfl rfl rfl rfl (oneC (by kernel_rfl)) wh76 eh76) ?_
      refine sim_p 12 (ei := [(38, .pointer (some (⟨b3, 0, none⟩ : Addr)))]) (d := (some 49)) wf (by kernel_rfl) ⟨rfl, trivial⟩ (by kernel_rfl) (by kernel_rfl) (fun _ => pf_y rfl rfl rfl (y_nil rfl rfl)) (fun P_12 => ?_)
      refine sim_p 13 (ei := [(49, .pointer (some (⟨b3, 0, none⟩ : Addr)))]) (d := (some 50)) wf (by kernel_rfl) ⟨rfl, trivial⟩ (by kernel_rfl) (by kernel_rfl) (fun _ => pf_p tok rfl rfl rfl rfl) (fun P_13 => ?_)
      obtain ⟨h77, wh77, eh77, H⟩ := H
      refine sim_h 14 [0, 1, 2, 3, 4, 5, 6, 7, 8, 9, 10, 11, 12, 13] [0, 1, 2, 3, 4, 5, 6, 7, 8, 9, 10, 12, 13] (ei := [(47, .bool (r28.2 != 0)), (50, .pointer (some ((⟨b3, 0, none⟩ : Addr).add 1)))]) wf ⟨P_13 _, P_12 _, P_9 _, P_8 _, P_7 _, trivial, trivial, trivial, trivial, trivial, trivial, trivial, P_0 _, trivial⟩ (by kernel_rfl) ⟨rfl, rfl, trivial⟩ (by kernel_rfl) rfl rfl rfl (h_st tok rfl rfl rfl rfl rfl rfl wh77 eh77) ?_
      refine sim_end wf ⟨trivial, trivial, trivial, trivial, trivial, trivial, trivial, trivial, trivial, trivial, trivial, trivial, trivial, trivial⟩ (by kernel_rfl) ?_
      clear wf P_0 P_1 P_10 P_12 P_13 P_2 P_3 P_4 P_5 P_6 P_7 P_8 P_9
      exact x_join () H ⟨rfl, rfl, rfl, trivial⟩

theorem ref01_Same_ok : CallOk Go.Proofs.Try.prog 28 := ⟨_, Go.Proofs.Try.func28, by kernel_rfl, by kernel_rfl⟩
theorem ref01_Same_ref (p0 : Slc) (p1 : Slc) (k : (Bool) → Heap → Prop) (h : Heap) (H : ref01_Same p0 p1 k h) : CallsH Go.Proofs.Try.prog 28 #[Slc.v p0, Slc.v p1] h (fun v h' => ∃ r : Bool, v = .bool r ∧ k r h') := by
  refine f_enter (N := 26) Go.Proofs.Try.func28 rfl rfl rfl (fun w0 => ?_)
  unfold ref01_Same at H
  refine c_weak [(0, Slc.v p0), (1, Slc.v p1)] ⟨rfl, rfl, trivial⟩ ?_
  refine c_seq ?_
  refine c_region ?_
  refine w_p tok rfl rfl rfl ?_
  refine w_end ?_
  refine x_seq ?_
  refine c_seq ?_
  refine c_seq ?_
  refine c_region ?_
  refine w_p tok rfl rfl rfl ?_
  refine w_p tok rfl rfl rfl ?_
  refine w_p tok rfl rfl rfl ?_
  refine w_p tok rfl rfl rfl ?_
  refine w_p tok rfl rfl rfl ?_
  refine w_end ?_
  refine x_seq ?_
  refine c_if H rfl (fun H => ?_) (fun H => ?_)
  ·
    refine c_seq ?_
    refine c_region ?_
    refine w_p tok rfl rfl rfl ?_
    refine w_end ?_
    refine x_seq ?_
    refine c_weak [(4, .bool false)] ⟨rfl, trivial⟩ ?_
    refine c_ret ?_
    refine x_tr ?_
    exact x_ret _ rfl _ rfl ⟨false, rfl, H⟩
  ·
    refine c_skip ?_
    refine x_seq ?_
    refine c_seq ?_
    refine c_seq ?_
    refine c_region ?_
    refine w_p tok rfl rfl rfl ?_
    refine w_end ?_
    refine x_seq ?_
    refine c_block ?_
    obtain ⟨I1, μ1, H0, HI⟩ := H
    refine c_loop (σ := Int) (fun (s : Int) => [(5, .int .i64 s), (0, Slc.v p0), (1, Slc.v p1)]) I1 μ1 0 H0 ⟨rfl, rfl, rfl, trivial⟩ ?_
    rintro t5_1 h_1 H
    replace H := HI t5_1 h_1 H
    unfold ref01_Same_l1b at H
    refine c_weak [(5, .int .i64 t5_1), (0, Slc.v p0), (1, Slc.v p1)] ⟨rfl, rfl, rfl, trivial⟩ ?_
    refine c_seq ?_
    refine c_seq ?_
    refine c_region ?_
    refine w_p tok rfl rfl rfl ?_
    refine w_p tok rfl rfl rfl ?_
    refine w_p tok rfl rfl rfl ?_
    refine w_p tok rfl rfl rfl ?_
    refine w_end ?_
    refine x_seq ?_
    refine c_if H rfl (fun H => ?_) (fun H => ?_)
    ·
      refine c_skip ?_
      refine x_seq ?_
      refine c_seq ?_
      refine c_block ?_
      refine c_seq ?_
      refine c_draw (by kernel_rfl) (by kernel_rfl) ?_
      refine q_p tok rfl rfl rfl ?_
      refine q_p tok rfl rfl rfl ?_
      obtain ⟨a1, ha1, la1, ua1, H⟩ := H
      refine q_y (y_ixa' tok rfl rfl ha1 rfl rfl rfl la1 ua1) rfl rfl ?_
      obtain ⟨v2, hv2, H⟩ := H
      refine q_y (y_ld tok rfl rfl rfl rfl hv2) rfl rfl ?_
      refine q_p tok rfl rfl rfl ?_
      refine q_p tok rfl rfl rfl ?_
      obtain ⟨a3, ha3, la3, ua3, H⟩ := H
      refine q_y (y_ixa' tok rfl rfl ha3 rfl rfl rfl la3 ua3) rfl rfl ?_
      obtain ⟨v4, hv4, H⟩ := H
      refine q_y (y_ld tok rfl rfl rfl rfl hv4) rfl rfl ?_
      refine q_p tok rfl rfl rfl ?_
      refine q_end ?_
      refine x_seq ?_
      refine c_weak [(5, .int .i64 t5_1), (0, Slc.v p0), (1, Slc.v p1), (25, .bool (v2 != v4))] ⟨rfl, rfl, rfl, rfl, trivial⟩ ?_
      refine c_if H rfl (fun H => ?_) (fun H => ?_)
      ·
        refine c_seq ?_
        refine c_region ?_
        refine w_p tok rfl rfl rfl ?_
        refine w_end ?_
        refine x_seq ?_
        refine c_ret ?_
        refine x_br ?_
        refine x_tr ?_
        refine x_tr ?_
        refine x_br ?_
        refine x_tr ?_
        exact x_ret _ rfl _ rfl ⟨false, rfl, H⟩
      ·
        refine c_skip ?_
        refine x_blk ?_
        refine x_seq ?_
        refine c_region ?_
        refine w_p tok rfl rfl rfl ?_
        refine w_p tok rfl rfl rfl ?_
        obtain ⟨x5, ex5, H⟩ := H
        refine w_pe tok rfl (congrArg (fun z => (.int .i64 z : Value)) ex5) rfl rfl ?_
        refine w_end ?_
        exact x_join x5 H ⟨rfl, rfl, rfl, trivial⟩
    ·
      refine c_exit ?_
      refine x_te ?_
      refine x_te ?_
      refine x_bh ?_
      refine x_seq ?_
      refine c_weak [] trivial ?_
      refine c_seq ?_
      refine c_region ?_
      refine w_p tok rfl rfl rfl ?_
      refine w_end ?_
      refine x_seq ?_
      refine c_ret ?_
      exact x_ret _ rfl _ rfl ⟨true, rfl, H⟩

theorem ref01_Kept_ok : CallOk Go.Proofs.Try.prog 36 := ⟨_, Go.Proofs.Try.func36, by kernel_rfl, by kernel_rfl⟩
theorem ref01_Kept_ref (p0 : Slc) (p1 : Slc) (k : (Bool) → Heap → Prop) (h : Heap) (H : ref01_Kept p0 p1 k h) : CallsH Go.Proofs.Try.prog 36 #[Slc.v p0, Slc.v p1] h (fun v h' => ∃ r : Bool, v = .bool r ∧ k r h') := by
  refine f_enter (N := 29) Go.Proofs.Try.func36 rfl rfl rfl (fun w0 => ?_)
  unfold ref01_Kept at H
  refine c_weak [(0, Slc.v p0), (1, Slc.v p1)] ⟨rfl, rfl, trivial⟩ ?_
  refine c_seq ?_
  refine c_region ?_
  refine w_p tok rfl rfl rfl ?_
  refine w_end ?_
  refine x_seq ?_
  refine c_seq ?_
  refine c_seq ?_
  refine c_region ?_
  refine w_p tok rfl rfl rfl ?_
  refine w_p tok rfl rfl rfl ?_
  refine w_call ref01_Same_ok (ref01_Same_ref _ _ _ _ H) rfl rfl rfl rfl ?_
  rintro _ h2 ⟨r1, rfl, H⟩
  refine w_p tok rfl rfl rfl ?_
  refine w_end ?_
  refine x_seq ?_
  refine c_if H rfl (fun H => ?_) (fun H => ?_)
  ·
    refine c_seq ?_
    refine c_region ?_
    refine w_p tok rfl rfl rfl ?_
    refine w_end ?_
    refine x_seq ?_
    refine c_ret ?_
    refine x_tr ?_
    exact x_ret _ rfl _ rfl ⟨false, rfl, H⟩
  ·
    refine c_skip ?_
    refine x_seq ?_
    refine c_seq ?_
    refine c_region ?_
    refine w_p tok rfl rfl rfl ?_
    refine w_p tok rfl rfl rfl ?_
    refine w_p tok rfl rfl rfl ?_
    refine w_p tok rfl rfl rfl ?_
    obtain ⟨s3, ps3, qs3, rs3, ts3, es3, H⟩ := H
    refine w_ye (y_sl (s := p0) (L := 0) (H := (IntKind.i64.wrap ((p0.len : Int) + 8))) (M := (p0.cap : Int)) tok rfl rfl rfl rfl rfl rfl rfl (by simp) ps3 qs3 rs3 ts3) (congrArg Slc.v es3) rfl rfl ?_
    refine w_p tok rfl rfl rfl ?_
    refine w_end ?_
    refine x_seq ?_
    refine c_weak [(0, Slc.v p0), (5, Slc.v s3)] ⟨rfl, rfl, trivial⟩ ?_
    refine c_seq ?_
    refine c_seq ?_
    refine c_region ?_
    refine w_p tok rfl rfl rfl ?_
    refine w_p tok rfl rfl rfl ?_
    obtain ⟨x4, ex4, H⟩ := H
    refine w_pe tok rfl (congrArg (fun z => (.int .i64 z : Value)) ex4) rfl rfl ?_
    refine w_end ?_
    refine x_seq ?_
    refine c_block ?_
    obtain ⟨I1, μ1, H0, HI⟩ := H
    refine c_loop (σ := Int) (fun (s : Int) => [(6, .int .i64 s), (5, Slc.v s3)]) I1 μ1 x4 H0 ⟨rfl, rfl, trivial⟩ ?_
    rintro t6_1 h_1 H
    replace H := HI t6_1 h_1 H
    unfold ref01_Kept_l1b at H
    refine c_weak [(6, .int .i64 t6_1), (5, Slc.v s3)] ⟨rfl, rfl, trivial⟩ ?_
    refine c_seq ?_
    refine c_seq ?_
    refine c_region ?_
    refine w_p tok rfl rfl rfl ?_
    refine w_p tok rfl rfl rfl ?_
    refine w_p tok rfl rfl rfl ?_
    refine w_p tok rfl rfl rfl ?_
    refine w_end ?_
    refine x_seq ?_
    refine c_if H rfl (fun H => ?_) (fun H => ?_)
    ·
      refine c_skip ?_
      refine x_seq ?_
      refine c_seq ?_
      refine c_block ?_
      refine c_seq ?_
      refine c_region ?_
      refine w_p tok rfl rfl rfl ?_
      refine w_p tok rfl rfl rfl ?_
      obtain ⟨a5, ha5, la5, ua5, H⟩ := H
      refine w_y (y_ixa' tok rfl rfl ha5 rfl rfl rfl la5 ua5) rfl rfl ?_
      obtain ⟨v6, hv6, H⟩ := H
      refine w_y (y_ld tok rfl rfl rfl rfl hv6) rfl rfl ?_
      refine w_p tok rfl rfl rfl ?_
      refine w_end ?_
      refine x_seq ?_
      refine c_weak [(6, .int .i64 t6_1), (5, Slc.v s3), (28, .bool (v6 != 165))] ⟨rfl, rfl, rfl, trivial⟩ ?_
      refine c_if H rfl (fun H => ?_) (fun H => ?_)
      ·
        refine c_seq ?_
        refine c_region ?_
        refine w_p tok rfl rfl rfl ?_
        refine w_end ?_
        refine x_seq ?_
        refine c_ret ?_
        refine x_br ?_
        refine x_tr ?_
        refine x_tr ?_
        refine x_br ?_
        refine x_tr ?_
        exact x_ret _ rfl _ rfl ⟨false, rfl, H⟩
      ·
        refine c_skip ?_
        refine x_blk ?_
        refine x_seq ?_
        refine c_region ?_
        refine w_p tok rfl rfl rfl ?_
        refine w_p tok rfl rfl rfl ?_
        obtain ⟨x7, ex7, H⟩ := H
        refine w_pe tok rfl (congrArg (fun z => (.int .i64 z : Value)) ex7) rfl rfl ?_
        refine w_end ?_
        exact x_join x7 H ⟨rfl, rfl, trivial⟩
    ·
      refine c_exit ?_
      refine x_te ?_
      refine x_te ?_
      refine x_bh ?_
      refine x_seq ?_
      refine c_seq ?_
      refine c_region ?_
      refine w_p tok rfl rfl rfl ?_
      refine w_end ?_
      refine x_seq ?_
      refine c_ret ?_
      exact x_ret _ rfl _ rfl ⟨true, rfl, H⟩

theorem ref01_Short_ok : CallOk Go.Proofs.Try.prog 98 := ⟨_, Go.Proofs.Try.func98, by kernel_rfl, by kernel_rfl⟩
theorem ref01_Short_ref (p0 : Int) (k : (Slc) → Heap → Prop) (h : Heap) (H : ref01_Short p0 k h) : CallsH Go.Proofs.Try.prog 98 #[.int .u64 p0] h (fun v h' => ∃ r : Slc, v = Slc.v r ∧ k r h') := by
  refine f_enter (N := 20) Go.Proofs.Try.func98 rfl rfl rfl (fun w0 => ?_)
  unfold ref01_Short at H
  refine c_weak [(0, .int .u64 p0)] ⟨rfl, trivial⟩ ?_
  refine c_seq ?_
  refine c_region ?_
  refine w_p tok rfl rfl rfl ?_
  refine w_end ?_
  refine x_seq ?_
  refine c_seq ?_
  refine c_region ?_
  refine w_p tok rfl rfl rfl ?_
  refine w_end ?_
  refine x_seq ?_
  refine c_seq ?_
  refine c_block ?_
  obtain ⟨I1, μ1, H0, HI⟩ := H
  refine c_loop (σ := Int × Slc) (fun (s : Int × Slc) => [(0, .int .u64 s.1), (3, Slc.v s.2)]) I1 μ1 (p0, (⟨none, 0, 0⟩ : Slc)) H0 ⟨rfl, rfl, trivial⟩ ?_
  rintro ⟨t0_1, t3_1⟩ h_1 H
  replace H := HI t0_1 t3_1 h_1 H
  unfold ref01_Short_l1b at H
  refine c_weak [(0, .int .u64 t0_1), (3, Slc.v t3_1)] ⟨rfl, rfl, trivial⟩ ?_
  refine c_seq ?_
  refine c_seq ?_
  refine c_region ?_
  refine w_p tok rfl rfl rfl ?_
  refine w_p tok rfl rfl rfl ?_
  refine w_end ?_
  refine x_seq ?_
  refine c_if H rfl (fun H => ?_) (fun H => ?_)
  ·
    refine c_skip ?_
    refine x_seq ?_
    refine c_block ?_
    refine c_seq ?_
    refine c_region ?_
    refine w_p tok rfl rfl rfl ?_
    refine w_p tok rfl rfl rfl ?_
    refine w_p tok rfl rfl rfl ?_
    refine w_p tok rfl rfl rfl ?_
    refine w_p tok rfl rfl rfl ?_
    obtain ⟨b1, h2, eb1, eh2, H⟩ := H
    refine w_h (h_bs tok rfl rfl rfl rfl rfl rfl rfl eb1 eh2) rfl rfl ?_
    refine w_a (a_app (s := t3_1) (r := (⟨some ⟨b1, 0, none⟩, 1, 1⟩ : Slc)) tok rfl rfl rfl rfl rfl (slcAt_push eb1 eh2) H) rfl rfl ?_
    rintro _ h4 ⟨s3, rfl, H⟩
    refine w_p tok rfl rfl rfl ?_
    refine w_end ?_
    refine x_seq ?_
    refine c_weak [(0, .int .u64 t0_1), (3, Slc.v s3)] ⟨rfl, rfl, trivial⟩ ?_
    refine c_region ?_
    refine w_p tok rfl rfl rfl ?_
    refine w_p tok rfl rfl rfl ?_
    obtain ⟨x5, ex5, H⟩ := H
    refine w_pe tok rfl (congrArg (fun z => (.int .u64 z : Value)) ex5) rfl rfl ?_
    refine w_end ?_
    refine x_blk ?_
    exact x_join (x5, s3) H ⟨rfl, rfl, trivial⟩
  ·
    refine c_exit ?_
    refine x_te ?_
    refine x_te ?_
    refine x_bh ?_
    refine x_seq ?_
    refine c_seq ?_
    refine c_region ?_
    refine w_p tok rfl rfl rfl ?_
    refine w_p tok rfl rfl rfl ?_
    refine w_p tok rfl rfl rfl ?_
    obtain ⟨b6, h7, eb6, eh7, H⟩ := H
    refine w_h (h_bs tok rfl rfl rfl rfl rfl rfl rfl eb6 eh7) rfl rfl ?_
    refine w_a (a_app (s := t3_1) (r := (⟨some ⟨b6, 0, none⟩, 1, 1⟩ : Slc)) tok rfl rfl rfl rfl rfl (slcAt_push eb6 eh7) H) rfl rfl ?_
    rintro _ h9 ⟨s8, rfl, H⟩
    refine w_p tok rfl rfl rfl ?_
    refine w_end ?_
    refine x_seq ?_
    refine c_weak [(2, Slc.v s8)] ⟨rfl, trivial⟩ ?_
    refine c_ret ?_
    exact x_ret _ rfl _ rfl ⟨s8, rfl, H⟩

theorem ref27_text_ok : CallOk Go.Proofs.Try.prog 113 := ⟨_, Go.Proofs.Try.func113, by kernel_rfl, by kernel_rfl⟩
theorem ref27_text_ref (p0 : ByteArray) (k : (Slc) → Heap → Prop) (h : Heap) (H : ref27_text p0 k h) : CallsH Go.Proofs.Try.prog 113 #[.string p0] h (fun v h' => ∃ r : Slc, v = Slc.v r ∧ k r h') := by
  refine f_enter (N := 9) Go.Proofs.Try.func113 rfl rfl rfl (fun w0 => ?_)
  unfold ref27_text at H
  refine c_weak [(0, .string p0)] ⟨rfl, trivial⟩ ?_
  refine c_seq ?_
  refine c_region ?_
  refine w_p tok rfl rfl rfl ?_
  refine w_end ?_
  refine x_seq ?_
  refine c_seq ?_
  refine c_region ?_
  refine w_p tok rfl rfl rfl ?_
  refine w_p tok rfl rfl rfl ?_
  refine w_p tok rfl rfl rfl ?_
  refine w_call ref01_Short_ok (ref01_Short_ref _ _ _ H) rfl rfl rfl rfl ?_
  rintro _ h2 ⟨r1, rfl, H⟩
  refine w_p tok rfl rfl rfl ?_
  refine w_a (a_apps (s := r1) (str := p0) tok rfl rfl rfl rfl rfl rfl H) rfl rfl ?_
  rintro _ h4 ⟨s3, rfl, H⟩
  refine w_p tok rfl rfl rfl ?_
  refine w_end ?_
  refine x_seq ?_
  refine c_weak [(2, Slc.v s3)] ⟨rfl, trivial⟩ ?_
  refine c_ret ?_
  exact x_ret _ rfl _ rfl ⟨s3, rfl, H⟩

theorem ref01_Form_ok : CallOk Go.Proofs.Try.prog 99 := ⟨_, Go.Proofs.Try.func99, by kernel_rfl, by kernel_rfl⟩
theorem ref01_Form_ref (p0 : Int) (p1 : Int) (k : (Slc) → Heap → Prop) (h : Heap) (H : ref01_Form p0 p1 k h) : CallsH Go.Proofs.Try.prog 99 #[.int .u64 p0, .int .i64 p1] h (fun v h' => ∃ r : Slc, v = Slc.v r ∧ k r h') := by
  refine f_enter (N := 21) Go.Proofs.Try.func99 rfl rfl rfl (fun w0 => ?_)
  unfold ref01_Form at H
  refine c_weak [(0, .int .u64 p0), (1, .int .i64 p1)] ⟨rfl, rfl, trivial⟩ ?_
  refine c_seq ?_
  refine c_region ?_
  refine w_p tok rfl rfl rfl ?_
  refine w_end ?_
  refine x_seq ?_
  refine c_seq ?_
  refine c_region ?_
  refine w_p tok rfl rfl rfl ?_
  refine w_end ?_
  refine x_seq ?_
  refine c_seq ?_
  refine c_seq ?_
  refine c_region ?_
  refine w_p tok rfl rfl rfl ?_
  refine w_end ?_
  refine x_seq ?_
  refine c_block ?_
  obtain ⟨I1, μ1, H0, HI⟩ := H
  refine c_loop (σ := Int × Slc × Int) (fun (s : Int × Slc × Int) => [(0, .int .u64 s.1), (5, Slc.v s.2.1), (6, .int .i64 s.2.2), (1, .int .i64 p1)]) I1 μ1 (p0, (⟨none, 0, 0⟩ : Slc), 0) H0 ⟨rfl, rfl, rfl, rfl, trivial⟩ ?_
  rintro ⟨t0_1, t5_1, t6_1⟩ h_1 H
  replace H := HI t0_1 t5_1 t6_1 h_1 H
  unfold ref01_Form_l1b at H
  refine c_weak [(0, .int .u64 t0_1), (5, Slc.v t5_1), (6, .int .i64 t6_1), (1, .int .i64 p1)] ⟨rfl, rfl, rfl, rfl, trivial⟩ ?_
  refine c_seq ?_
  refine c_seq ?_
  refine c_region ?_
  refine w_p tok rfl rfl rfl ?_
  refine w_p tok rfl rfl rfl ?_
  refine w_p tok rfl rfl rfl ?_
  refine w_end ?_
  refine x_seq ?_
  refine c_if H rfl (fun H => ?_) (fun H => ?_)
  ·
    refine c_skip ?_
    refine x_seq ?_
    refine c_seq ?_
    refine c_block ?_
    refine c_seq ?_
    refine c_region ?_
    refine w_p tok rfl rfl rfl ?_
    refine w_p tok rfl rfl rfl ?_
    refine w_p tok rfl rfl rfl ?_
    refine w_p tok rfl rfl rfl ?_
    obtain ⟨b1, h2, eb1, eh2, H⟩ := H
    refine w_h (h_bs tok rfl rfl rfl rfl rfl rfl rfl eb1 eh2) rfl rfl ?_
    refine w_a (a_app (s := t5_1) (r := (⟨some ⟨b1, 0, none⟩, 1, 1⟩ : Slc)) tok rfl rfl rfl rfl rfl (slcAt_push eb1 eh2) H) rfl rfl ?_
    rintro _ h4 ⟨s3, rfl, H⟩
    refine w_p tok rfl rfl rfl ?_
    refine w_end ?_
    refine x_seq ?_
    refine c_weak [(0, .int .u64 t0_1), (5, Slc.v s3), (6, .int .i64 t6_1), (1, .int .i64 p1)] ⟨rfl, rfl, rfl, rfl, trivial⟩ ?_
    refine c_region ?_
    refine w_p tok rfl rfl rfl ?_
    refine w_p tok rfl rfl rfl ?_
    obtain ⟨x5, ex5, H⟩ := H
    refine w_pe tok rfl (congrArg (fun z => (.int .u64 z : Value)) ex5) rfl rfl ?_
    refine w_end ?_
    refine x_blk ?_
    refine x_seq ?_
    refine c_region ?_
    refine w_p tok rfl rfl rfl ?_
    refine w_p tok rfl rfl rfl ?_
    obtain ⟨x6, ex6, H⟩ := H
    refine w_pe tok rfl (congrArg (fun z => (.int .i64 z : Value)) ex6) rfl rfl ?_
    refine w_end ?_
    exact x_join (x5, s3, x6) H ⟨rfl, rfl, rfl, rfl, trivial⟩
  ·
    refine c_exit ?_
    refine x_te ?_
    refine x_te ?_
    refine x_bh ?_
    refine x_seq ?_
    refine c_seq ?_
    refine c_region ?_
    refine w_p tok rfl rfl rfl ?_
    refine w_p tok rfl rfl rfl ?_
    refine w_end ?_
    refine x_seq ?_
    refine c_weak [(4, Slc.v t5_1)] ⟨rfl, trivial⟩ ?_
    refine c_ret ?_
    exact x_ret _ rfl _ rfl ⟨t5_1, rfl, H⟩

theorem ref27_id_ok : CallOk Go.Proofs.Try.prog 114 := ⟨_, Go.Proofs.Try.func114, by kernel_rfl, by kernel_rfl⟩
theorem ref27_id_ref (p0 : S_api_Id) (k : (Slc) → Heap → Prop) (h : Heap) (H : ref27_id p0 k h) : CallsH Go.Proofs.Try.prog 114 #[.agg (S_api_Id.cs p0).toArray] h (fun v h' => ∃ r : Slc, v = Slc.v r ∧ k r h') := by
  refine f_enter (N := 11) Go.Proofs.Try.func114 rfl rfl rfl (fun w0 => ?_)
  unfold ref27_id at H
  refine c_weak [(0, .agg (S_api_Id.cs p0).toArray)] ⟨rfl, trivial⟩ ?_
  refine c_seq ?_
  refine c_region ?_
  obtain ⟨b1, h2, eb1, eh2, H⟩ := H
  refine w_h (h_box rfl rfl eb1 eh2) rfl rfl ?_
  refine w_p tok rfl rfl rfl ?_
  refine w_end ?_
  refine x_seq ?_
  refine c_seq ?_
  refine c_sim [(1, .pointer (some (⟨b1, 0, none⟩ : Addr)))] (by kernel_rfl) (by kernel_rfl) ⟨rfl, trivial⟩ (fun wf => ?_)
  refine sim_p 0 (ei := [(1, .pointer (some (⟨b1, 0, none⟩ : Addr)))]) (d := (some 3)) wf (by kernel_rfl) ⟨rfl, trivial⟩ (by kernel_rfl) (by kernel_rfl) (fun _ => pf_p tok rfl rfl rfl rfl) (fun P_0 => ?_)
  obtain ⟨v3, hv3, H⟩ := H
  refine sim_l 1 (ei := [(3, .pointer (some (⟨b1, 0, none⟩ : Addr)))]) (d := (some 4)) wf (by kernel_rfl) ⟨rfl, trivial⟩ (by kernel_rfl) (by kernel_rfl) (pf_y rfl rfl rfl (y_ld tok rfl rfl rfl rfl hv3)) (fun P_1 => ?_)
  refine sim_p 3 (ei := [(1, .pointer (some (⟨b1, 0, none⟩ : Addr)))]) (d := (some 6)) wf (by kernel_rfl) ⟨rfl, trivial⟩ (by kernel_rfl) (by kernel_rfl) (fun _ => pf_p tok rfl rfl rfl rfl) (fun P_3 => ?_)
  obtain ⟨v4, hv4, H⟩ := H
  refine sim_l 4 (ei := [(6, .pointer (some ((⟨b1, 0, none⟩ : Addr).add 1)))]) (d := (some 7)) wf (by kernel_rfl) ⟨rfl, trivial⟩ (by kernel_rfl) (by kernel_rfl) (pf_y rfl rfl rfl (y_ld tok rfl rfl rfl rfl hv4)) (fun P_4 => ?_)
  refine sim_p 5 (ei := [(7, .int .u16 v4)]) (d := (some 8)) wf (by kernel_rfl) ⟨rfl, trivial⟩ (by kernel_rfl) (by kernel_rfl) (fun _ => pf_p tok rfl rfl rfl rfl) (fun P_5 => ?_)
  refine sim_c 2 [0, 1] [0, 1] (ei := [(4, .int .u64 v3)]) ref01_Form_ok (ref01_Form_ref _ _ _ _ H) wf ⟨P_5 _, P_4, P_3 _, P_1, P_0 _, trivial⟩ (by kernel_rfl) ⟨rfl, trivial⟩ (by kernel_rfl) rfl rfl rfl rfl rfl ?_
  rintro _ h6 ⟨r5, rfl, H⟩
  obtain ⟨hy7, H⟩ := H
  refine sim_re (x := ⟨4, .int .u16 v4, [(6, .pointer (some ((⟨b1, 0, none⟩ : Addr).add 1)))]⟩) (pf_y rfl rfl rfl (y_ld tok rfl rfl rfl rfl hy7)) (fun P_4 => ?_)
  refine sim_c 6 [0, 1, 2, 3, 4, 5] [0, 1, 3, 4, 5] (ei := [(8, .int .u64 (IntKind.u64.wrap v4))]) ref01_Form_ok (ref01_Form_ref _ _ _ _ H) wf ⟨P_5 _, P_4, P_3 _, trivial, trivial, trivial⟩ (by kernel_rfl) ⟨rfl, trivial⟩ (by kernel_rfl) rfl rfl rfl rfl rfl ?_
  rintro _ h9 ⟨r8, rfl, H⟩
  obtain ⟨l12, hl12, H⟩ := H
  refine sim_a 7 [0, 1, 2, 3, 4, 5, 6] [0, 1, 3, 4, 5] (ei := [(5, Slc.v r5), (9, Slc.v r8)]) wf ⟨trivial, trivial, trivial, trivial, trivial, trivial⟩ (by kernel_rfl) ⟨rfl, rfl, trivial⟩ (by kernel_rfl) rfl rfl rfl (a_app (s := r5) (r := r8) tok rfl rfl rfl rfl rfl hl12 H) ?_
  rintro _ h11 ⟨s10, rfl, H⟩
  refine sim_p 8 (ei := [(10, Slc.v s10)]) (d := (some 2)) wf (by kernel_rfl) ⟨rfl, trivial⟩ (by kernel_rfl) (by kernel_rfl) (fun _ => pf_p tok rfl rfl rfl rfl) (fun P_8 => ?_)
  refine sim_end wf ⟨P_8 _, trivial, trivial, trivial, trivial, trivial, trivial⟩ (by kernel_rfl) ?_
  clear wf P_0 P_1 P_3 P_4 P_5 P_8
  refine x_seq ?_
  refine c_weak [(2, Slc.v s10)] ⟨rfl, trivial⟩ ?_
  refine c_ret ?_
  exact x_ret _ rfl _ rfl ⟨s10, rfl, H⟩

theorem ref01_Zig_ok : CallOk Go.Proofs.Try.prog 100 := ⟨_, Go.Proofs.Try.func100, by kernel_rfl, by kernel_rfl⟩
theorem ref01_Zig_ref (p0 : Int) (k : (Int) → Heap → Prop) (h : Heap) (H : ref01_Zig p0 k h) : CallsH Go.Proofs.Try.prog 100 #[.int .i64 p0] h (fun v h' => ∃ r : Int, v = .int .u64 r ∧ k r h') := by
  refine f_enter (N := 13) Go.Proofs.Try.func100 rfl rfl rfl (fun w0 => ?_)
  unfold ref01_Zig at H
  refine c_weak [(0, .int .i64 p0)] ⟨rfl, trivial⟩ ?_
  refine c_seq ?_
  refine c_region ?_
  refine w_p tok rfl rfl rfl ?_
  refine w_end ?_
  refine x_seq ?_
  refine c_seq ?_
  refine c_seq ?_
  refine c_region ?_
  refine w_p tok rfl rfl rfl ?_
  refine w_p tok rfl rfl rfl ?_
  refine w_end ?_
  refine x_seq ?_
  refine c_if H rfl (fun H => ?_) (fun H => ?_)
  ·
    refine c_seq ?_
    refine c_region ?_
    refine w_p tok rfl rfl rfl ?_
    refine w_p tok rfl rfl rfl ?_
    refine w_p tok rfl rfl rfl ?_
    obtain ⟨x1, ex1, H⟩ := H
    refine w_pe tok rfl (congrArg (fun z => (.int .u64 z : Value)) ex1) rfl rfl ?_
    refine w_end ?_
    refine x_seq ?_
    refine c_ret ?_
    refine x_tr ?_
    exact x_ret _ rfl _ rfl ⟨x1, rfl, H⟩
  ·
    refine c_skip ?_
    refine x_seq ?_
    refine c_seq ?_
    refine c_region ?_
    refine w_p tok rfl rfl rfl ?_
    refine w_p tok rfl rfl rfl ?_
    refine w_p tok rfl rfl rfl ?_
    refine w_p tok rfl rfl rfl ?_
    refine w_p tok rfl rfl rfl ?_
    obtain ⟨x2, ex2, H⟩ := H
    refine w_pe tok rfl (congrArg (fun z => (.int .u64 z : Value)) ex2) rfl rfl ?_
    refine w_end ?_
    refine x_seq ?_
    refine c_weak [(2, .int .u64 x2)] ⟨rfl, trivial⟩ ?_
    refine c_ret ?_
    exact x_ret _ rfl _ rfl ⟨x2, rfl, H⟩

theorem ref25_Put_ok : CallOk Go.Proofs.Try.prog 29 := ⟨_, Go.Proofs.Try.func29, by kernel_rfl, by kernel_rfl⟩
theorem ref25_Put_ref (p0 : S_api_Command) (k : (Slc) → Heap → Prop) (h : Heap) (H : ref25_Put p0 k h) : CallsH Go.Proofs.Try.prog 29 #[.agg (S_api_Command.cs p0).toArray] h (fun v h' => ∃ r : Slc, v = Slc.v r ∧ k r h') := by
  refine f_enter (N := 46) Go.Proofs.Try.func29 rfl rfl rfl (fun w0 => ?_)
  unfold ref25_Put at H
  refine c_weak [(0, .agg (S_api_Command.cs p0).toArray)] ⟨rfl, trivial⟩ ?_
  refine c_seq ?_
  refine c_region ?_
  obtain ⟨b1, h2, eb1, eh2, H⟩ := H
  refine w_h (h_box rfl rfl eb1 eh2) rfl rfl ?_
  refine w_p tok rfl rfl rfl ?_
  refine w_end ?_
  refine x_seq ?_
  refine c_seq ?_
  refine c_region ?_
  refine w_p tok rfl rfl rfl ?_
  obtain ⟨v3, hv3, H⟩ := H
  refine w_y (y_ld tok rfl rfl rfl rfl hv3) rfl rfl ?_
  refine w_p tok rfl rfl rfl ?_
  obtain ⟨b4, h5, eb4, eh5, H⟩ := H
  refine w_h (h_bs tok rfl rfl rfl rfl rfl rfl rfl eb4 eh5) rfl rfl ?_
  refine w_p tok rfl rfl rfl ?_
  refine w_end ?_
  refine x_seq ?_
  refine c_seq ?_
  refine c_region ?_
  refine w_p tok rfl rfl rfl ?_
  refine w_p tok rfl rfl rfl ?_
  obtain ⟨v6, hv6, H⟩ := H
  refine w_y (y_ld tok rfl rfl rfl rfl hv6) rfl rfl ?_
  refine w_p tok rfl rfl rfl ?_
  refine w_p tok rfl rfl rfl ?_
  refine w_call ref01_Short_ok (ref01_Short_ref _ _ _ H) rfl rfl rfl rfl ?_
  rintro _ h8 ⟨r7, rfl, H⟩
  obtain ⟨l11, hl11, H⟩ := H
  refine w_a (a_app (s := (⟨some ⟨b4, 0, none⟩, 1, 1⟩ : Slc)) (r := r7) tok rfl rfl rfl rfl rfl hl11 H) rfl rfl ?_
  rintro _ h10 ⟨s9, rfl, H⟩
  refine w_p tok rfl rfl rfl ?_
  refine w_end ?_
  refine x_seq ?_
  refine c_weak [(1, .pointer (some (⟨b1, 0, none⟩ : Addr))), (3, Slc.v s9)] ⟨rfl, rfl, trivial⟩ ?_
  refine c_seq ?_
  refine c_region ?_
  refine w_p tok rfl rfl rfl ?_
  refine w_p tok rfl rfl rfl ?_
  obtain ⟨v12, hv12, H⟩ := H
  refine w_y (y_ld tok rfl rfl rfl rfl hv12) rfl rfl ?_
  refine w_a (a_apps (s := s9) (str := v12) tok rfl rfl rfl rfl rfl rfl H) rfl rfl ?_
  rintro _ h14 ⟨s13, rfl, H⟩
  refine w_p tok rfl rfl rfl ?_
  refine w_end ?_
  refine x_seq ?_
  refine c_seq ?_
  refine c_region ?_
  refine w_p tok rfl rfl rfl ?_
  refine w_p tok rfl rfl rfl ?_
  obtain ⟨v15, hv15, H⟩ := H
  refine w_y (y_ld tok rfl rfl rfl rfl hv15) rfl rfl ?_
  refine w_p tok rfl rfl rfl ?_
  refine w_call ref01_Form_ok (ref01_Form_ref _ _ _ _ H) rfl rfl rfl rfl ?_
  rintro _ h17 ⟨r16, rfl, H⟩
  obtain ⟨l20, hl20, H⟩ := H
  refine w_a (a_app (s := s13) (r := r16) tok rfl rfl rfl rfl rfl hl20 H) rfl rfl ?_
  rintro _ h19 ⟨s18, rfl, H⟩
  refine w_p tok rfl rfl rfl ?_
  refine w_end ?_
  refine x_seq ?_
  refine c_weak [(1, .pointer (some (⟨b1, 0, none⟩ : Addr))), (3, Slc.v s18)] ⟨rfl, rfl, trivial⟩ ?_
  refine c_seq ?_
  refine c_region ?_
  refine w_p tok rfl rfl rfl ?_
  refine w_p tok rfl rfl rfl ?_
  obtain ⟨s21, ps21, qs21, rs21, es21, H⟩ := H
  refine w_ye (y_sla (L := 0) (H := 12) tok rfl rfl rfl rfl rfl rfl ps21 qs21 rs21) (congrArg Slc.v es21) rfl rfl ?_
  obtain ⟨l24, hl24, H⟩ := H
  refine w_a (a_app (s := s18) (r := s21) tok rfl rfl rfl rfl rfl hl24 H) rfl rfl ?_
  rintro _ h23 ⟨s22, rfl, H⟩
  refine w_p tok rfl rfl rfl ?_
  refine w_end ?_
  refine x_seq ?_
  refine c_seq ?_
  refine c_region ?_
  refine w_p tok rfl rfl rfl ?_
  refine w_p tok rfl rfl rfl ?_
  obtain ⟨v25, hv25, H⟩ := H
  refine w_y (y_ld tok rfl rfl rfl rfl hv25) rfl rfl ?_
  refine w_p tok rfl rfl rfl ?_
  refine w_p tok rfl rfl rfl ?_
  refine w_call ref01_Short_ok (ref01_Short_ref _ _ _ H) rfl rfl rfl rfl ?_
  rintro _ h27 ⟨r26, rfl, H⟩
  obtain ⟨l30, hl30, H⟩ := H
  refine w_a (a_app (s := s22) (r := r26) tok rfl rfl rfl rfl rfl hl30 H) rfl rfl ?_
  rintro _ h29 ⟨s28, rfl, H⟩
  refine w_p tok rfl rfl rfl ?_
  refine w_end ?_
  refine x_seq ?_
  refine c_weak [(1, .pointer (some (⟨b1, 0, none⟩ : Addr))), (3, Slc.v s28)] ⟨rfl, rfl, trivial⟩ ?_
  refine c_seq ?_
  refine c_region ?_
  refine w_p tok rfl rfl rfl ?_
  refine w_p tok rfl rfl rfl ?_
  obtain ⟨v31, hv31, H⟩ := H
  refine w_y (y_ld tok rfl rfl rfl rfl hv31) rfl rfl ?_
  obtain ⟨l34, hl34, H⟩ := H
  refine w_a (a_app (s := s28) (r := v31) tok rfl rfl rfl rfl rfl hl34 H) rfl rfl ?_
  rintro _ h33 ⟨s32, rfl, H⟩
  refine w_p tok rfl rfl rfl ?_
  refine w_end ?_
  refine x_seq ?_
  refine c_seq ?_
  refine c_region ?_
  refine w_p tok rfl rfl rfl ?_
  refine w_p tok rfl rfl rfl ?_
  obtain ⟨v35, hv35, H⟩ := H
  refine w_y (y_ld tok rfl rfl rfl rfl hv35) rfl rfl ?_
  refine w_call ref01_Zig_ok (ref01_Zig_ref _ _ _ H) rfl rfl rfl rfl ?_
  rintro _ h37 ⟨r36, rfl, H⟩
  refine w_call ref01_Form_ok (ref01_Form_ref _ _ _ _ H) rfl rfl rfl rfl ?_
  rintro _ h39 ⟨r38, rfl, H⟩
  obtain ⟨l42, hl42, H⟩ := H
  refine w_a (a_app (s := s32) (r := r38) tok rfl rfl rfl rfl rfl hl42 H) rfl rfl ?_
  rintro _ h41 ⟨s40, rfl, H⟩
  refine w_p tok rfl rfl rfl ?_
  refine w_end ?_
  refine x_seq ?_
  refine c_weak [(2, Slc.v s40)] ⟨rfl, trivial⟩ ?_
  refine c_ret ?_
  exact x_ret _ rfl _ rfl ⟨s40, rfl, H⟩

theorem ref26_Form_ok : CallOk Go.Proofs.Try.prog 115 := ⟨_, Go.Proofs.Try.func115, by kernel_rfl, by kernel_rfl⟩
theorem ref26_Form_ref (p0 : S_api_Msg) (k : (Slc) → Heap → Prop) (h : Heap) (H : ref26_Form p0 k h) : CallsH Go.Proofs.Try.prog 115 #[.agg (S_api_Msg.cs p0).toArray] h (fun v h' => ∃ r : Slc, v = Slc.v r ∧ k r h') := by
  refine f_enter (N := 90) Go.Proofs.Try.func115 rfl rfl rfl (fun w0 => ?_)
  unfold ref26_Form at H
  refine c_weak [(0, .agg (S_api_Msg.cs p0).toArray)] ⟨rfl, trivial⟩ ?_
  refine c_seq ?_
  refine c_region ?_
  obtain ⟨b1, h2, eb1, eh2, H⟩ := H
  refine w_h (h_box rfl rfl eb1 eh2) rfl rfl ?_
  refine w_p tok rfl rfl rfl ?_
  refine w_end ?_
  refine x_seq ?_
  refine c_seq ?_
  refine c_region ?_
  refine w_p tok rfl rfl rfl ?_
  obtain ⟨v3, hv3, H⟩ := H
  refine w_y (y_ld tok rfl rfl rfl rfl hv3) rfl rfl ?_
  refine w_p tok rfl rfl rfl ?_
  obtain ⟨b4, h5, eb4, eh5, H⟩ := H
  refine w_h (h_bs tok rfl rfl rfl rfl rfl rfl rfl eb4 eh5) rfl rfl ?_
  refine w_p tok rfl rfl rfl ?_
  refine w_end ?_
  refine x_seq ?_
  refine c_seq ?_
  refine c_region ?_
  refine w_p tok rfl rfl rfl ?_
  refine w_p tok rfl rfl rfl ?_
  obtain ⟨v6, hv6, H⟩ := H
  refine w_y (y_ld tok rfl rfl rfl rfl hv6) rfl rfl ?_
  refine w_call ref01_Short_ok (ref01_Short_ref _ _ _ H) rfl rfl rfl rfl ?_
  rintro _ h8 ⟨r7, rfl, H⟩
  obtain ⟨l11, hl11, H⟩ := H
  refine w_a (a_app (s := (⟨some ⟨b4, 0, none⟩, 1, 1⟩ : Slc)) (r := r7) tok rfl rfl rfl rfl rfl hl11 H) rfl rfl ?_
  rintro _ h10 ⟨s9, rfl, H⟩
  refine w_p tok rfl rfl rfl ?_
  refine w_end ?_
  refine x_seq ?_
  refine c_weak [(1, .pointer (some (⟨b1, 0, none⟩ : Addr))), (3, Slc.v s9)] ⟨rfl, rfl, trivial⟩ ?_
  refine c_seq ?_
  refine c_region ?_
  refine w_p tok rfl rfl rfl ?_
  refine w_p tok rfl rfl rfl ?_
  obtain ⟨v12, hv12, H⟩ := H
  refine w_y (y_ld tok rfl rfl rfl rfl hv12) rfl rfl ?_
  refine w_call ref01_Short_ok (ref01_Short_ref _ _ _ H) rfl rfl rfl rfl ?_
  rintro _ h14 ⟨r13, rfl, H⟩
  obtain ⟨l17, hl17, H⟩ := H
  refine w_a (a_app (s := s9) (r := r13) tok rfl rfl rfl rfl rfl hl17 H) rfl rfl ?_
  rintro _ h16 ⟨s15, rfl, H⟩
  refine w_p tok rfl rfl rfl ?_
  refine w_end ?_
  refine x_seq ?_
  refine c_seq ?_
  refine c_region ?_
  refine w_p tok rfl rfl rfl ?_
  refine w_p tok rfl rfl rfl ?_
  obtain ⟨v18, hv18, H⟩ := H
  refine w_y (y_ld tok rfl rfl rfl rfl hv18) rfl rfl ?_
  refine w_call ref01_Short_ok (ref01_Short_ref _ _ _ H) rfl rfl rfl rfl ?_
  rintro _ h20 ⟨r19, rfl, H⟩
  obtain ⟨l23, hl23, H⟩ := H
  refine w_a (a_app (s := s15) (r := r19) tok rfl rfl rfl rfl rfl hl23 H) rfl rfl ?_
  rintro _ h22 ⟨s21, rfl, H⟩
  refine w_p tok rfl rfl rfl ?_
  refine w_end ?_
  refine x_seq ?_
  refine c_weak [(1, .pointer (some (⟨b1, 0, none⟩ : Addr))), (3, Slc.v s21)] ⟨rfl, rfl, trivial⟩ ?_
  refine c_seq ?_
  refine c_region ?_
  refine w_p tok rfl rfl rfl ?_
  refine w_p tok rfl rfl rfl ?_
  obtain ⟨v24, hv24, H⟩ := H
  refine w_y (y_ld tok rfl rfl rfl rfl hv24) rfl rfl ?_
  refine w_call ref01_Short_ok (ref01_Short_ref _ _ _ H) rfl rfl rfl rfl ?_
  rintro _ h26 ⟨r25, rfl, H⟩
  obtain ⟨l29, hl29, H⟩ := H
  refine w_a (a_app (s := s21) (r := r25) tok rfl rfl rfl rfl rfl hl29 H) rfl rfl ?_
  rintro _ h28 ⟨s27, rfl, H⟩
  refine w_p tok rfl rfl rfl ?_
  refine w_end ?_
  refine x_seq ?_
  refine c_seqJ (α := Slc) (fun (s : Slc) => [(3, Slc.v s), (1, .pointer (some (⟨b1, 0, none⟩ : Addr)))]) (fun (s : Slc) h => ref26_Form_j1 (⟨b1, 0, none⟩ : Addr) s k h) ?_ ?_
  ·
    rintro t3_1 h_1 H
    replace H : ref26_Form_j1 (⟨b1, 0, none⟩ : Addr) t3_1 k h_1 := H
    unfold ref26_Form_j1 at H
    refine c_weak [(3, Slc.v t3_1), (1, .pointer (some (⟨b1, 0, none⟩ : Addr)))] ⟨rfl, rfl, trivial⟩ ?_
    refine c_seq ?_
    refine c_region ?_
    refine w_p tok rfl rfl rfl ?_
    refine w_p tok rfl rfl rfl ?_
    obtain ⟨v30, hv30, H⟩ := H
    refine w_y (y_ld tok rfl rfl rfl rfl hv30) rfl rfl ?_
    refine w_p tok rfl rfl rfl ?_
    refine w_p tok rfl rfl rfl ?_
    refine w_call ref01_Short_ok (ref01_Short_ref _ _ _ H) rfl rfl rfl rfl ?_
    rintro _ h32 ⟨r31, rfl, H⟩
    obtain ⟨l35, hl35, H⟩ := H
    refine w_a (a_app (s := t3_1) (r := r31) tok rfl rfl rfl rfl rfl hl35 H) rfl rfl ?_
    rintro _ h34 ⟨s33, rfl, H⟩
    refine w_p tok rfl rfl rfl ?_
    refine w_end ?_
    refine x_seq ?_
    refine c_weak [(3, Slc.v s33), (1, .pointer (some (⟨b1, 0, none⟩ : Addr)))] ⟨rfl, rfl, trivial⟩ ?_
    refine c_seq ?_
    refine c_seq ?_
    refine c_region ?_
    refine w_p tok rfl rfl rfl ?_
    refine w_end ?_
    refine x_seq ?_
    refine c_block ?_
    obtain ⟨I2, μ2, H0, HI⟩ := H
    refine c_loop (σ := Slc × Int) (fun (s : Slc × Int) => [(3, Slc.v s.1), (4, .int .i64 s.2), (1, .pointer (some (⟨b1, 0, none⟩ : Addr)))]) I2 μ2 (s33, 0) H0 ⟨rfl, rfl, rfl, trivial⟩ ?_
    rintro ⟨t3_2, t4_2⟩ h_2 H
    replace H := HI t3_2 t4_2 h_2 H
    unfold ref26_Form_l2b at H
    refine c_weak [(3, Slc.v t3_2), (4, .int .i64 t4_2), (1, .pointer (some (⟨b1, 0, none⟩ : Addr)))] ⟨rfl, rfl, rfl, trivial⟩ ?_
    refine c_seq ?_
    refine c_seq ?_
    refine c_region ?_
    refine w_p tok rfl rfl rfl ?_
    refine w_p tok rfl rfl rfl ?_
    obtain ⟨v36, hv36, H⟩ := H
    refine w_y (y_ld tok rfl rfl rfl rfl hv36) rfl rfl ?_
    refine w_p tok rfl rfl rfl ?_
    refine w_p tok rfl rfl rfl ?_
    refine w_end ?_
    refine x_seq ?_
    refine c_if H rfl (fun H => ?_) (fun H => ?_)
    ·
      refine c_skip ?_
      refine x_seq ?_
      refine c_seq ?_
      refine c_block ?_
      refine c_seq ?_
      refine c_region ?_
      refine w_p tok rfl rfl rfl ?_
      refine w_p tok rfl rfl rfl ?_
      obtain ⟨v37, hv37, H⟩ := H
      refine w_y (y_ld tok rfl rfl rfl rfl hv37) rfl rfl ?_
      refine w_p tok rfl rfl rfl ?_
      obtain ⟨a38, ha38, la38, ua38, H⟩ := H
      refine w_y (y_ixa' tok rfl rfl ha38 rfl rfl rfl la38 ua38) rfl rfl ?_
      refine w_p tok rfl rfl rfl ?_
      obtain ⟨v39, hv39, H⟩ := H
      refine w_y (y_ld tok rfl rfl rfl rfl hv39) rfl rfl ?_
      refine w_call ref01_Short_ok (ref01_Short_ref _ _ _ H) rfl rfl rfl rfl ?_
      rintro _ h41 ⟨r40, rfl, H⟩
      obtain ⟨l44, hl44, H⟩ := H
      refine w_a (a_app (s := t3_2) (r := r40) tok rfl rfl rfl rfl rfl hl44 H) rfl rfl ?_
      rintro _ h43 ⟨s42, rfl, H⟩
      refine w_p tok rfl rfl rfl ?_
      refine w_end ?_
      refine x_seq ?_
      refine c_weak [(3, Slc.v s42), (4, .int .i64 t4_2), (1, .pointer (some (⟨b1, 0, none⟩ : Addr)))] ⟨rfl, rfl, rfl, trivial⟩ ?_
      refine c_seq ?_
      refine c_region ?_
      refine w_p tok rfl rfl rfl ?_
      refine w_p tok rfl rfl rfl ?_
      obtain ⟨v45, hv45, H⟩ := H
      refine w_y (y_ld tok rfl rfl rfl rfl hv45) rfl rfl ?_
      refine w_p tok rfl rfl rfl ?_
      obtain ⟨a46, ha46, la46, ua46, H⟩ := H
      refine w_y (y_ixa' tok rfl rfl ha46 rfl rfl rfl la46 ua46) rfl rfl ?_
      refine w_p tok rfl rfl rfl ?_
      obtain ⟨v47, hv47, H⟩ := H
      refine w_y (y_ld tok rfl rfl rfl rfl hv47) rfl rfl ?_
      refine w_p tok rfl rfl rfl ?_
      refine w_p tok rfl rfl rfl ?_
      refine w_call ref01_Short_ok (ref01_Short_ref _ _ _ H) rfl rfl rfl rfl ?_
      rintro _ h49 ⟨r48, rfl, H⟩
      obtain ⟨l52, hl52, H⟩ := H
      refine w_a (a_app (s := s42) (r := r48) tok rfl rfl rfl rfl rfl hl52 H) rfl rfl ?_
      rintro _ h51 ⟨s50, rfl, H⟩
      refine w_p tok rfl rfl rfl ?_
      refine w_end ?_
      refine x_seq ?_
      refine c_weak [(3, Slc.v s50), (4, .int .i64 t4_2), (1, .pointer (some (⟨b1, 0, none⟩ : Addr)))] ⟨rfl, rfl, rfl, trivial⟩ ?_
      refine c_region ?_
      refine w_p tok rfl rfl rfl ?_
      refine w_p tok rfl rfl rfl ?_
      obtain ⟨v53, hv53, H⟩ := H
      refine w_y (y_ld tok rfl rfl rfl rfl hv53) rfl rfl ?_
      refine w_p tok rfl rfl rfl ?_
      obtain ⟨a54, ha54, la54, ua54, H⟩ := H
      refine w_y (y_ixa' tok rfl rfl ha54 rfl rfl rfl la54 ua54) rfl rfl ?_
      refine w_p tok rfl rfl rfl ?_
      obtain ⟨v55, hv55, H⟩ := H
      refine w_y (y_ld tok rfl rfl rfl rfl hv55) rfl rfl ?_
      obtain ⟨l58, hl58, H⟩ := H
      refine w_a (a_app (s := s50) (r := v55) tok rfl rfl rfl rfl rfl hl58 H) rfl rfl ?_
      rintro _ h57 ⟨s56, rfl, H⟩
      refine w_p tok rfl rfl rfl ?_
      refine w_end ?_
      refine x_blk ?_
      refine x_seq ?_
      refine c_weak [(3, Slc.v s56), (4, .int .i64 t4_2), (1, .pointer (some (⟨b1, 0, none⟩ : Addr)))] ⟨rfl, rfl, rfl, trivial⟩ ?_
      refine c_region ?_
      refine w_p tok rfl rfl rfl ?_
      refine w_p tok rfl rfl rfl ?_
      obtain ⟨x59, ex59, H⟩ := H
      refine w_pe tok rfl (congrArg (fun z => (.int .i64 z : Value)) ex59) rfl rfl ?_
      refine w_end ?_
      exact x_join (s56, x59) H ⟨rfl, rfl, rfl, trivial⟩
    ·
      refine c_exit ?_
      refine x_te ?_
      refine x_te ?_
      refine x_bh ?_
      refine x_seq ?_
      refine c_seq ?_
      refine c_region ?_
      refine w_p tok rfl rfl rfl ?_
      refine w_p tok rfl rfl rfl ?_
      obtain ⟨v60, hv60, H⟩ := H
      refine w_y (y_ld tok rfl rfl rfl rfl hv60) rfl rfl ?_
      refine w_p tok rfl rfl rfl ?_
      refine w_p tok rfl rfl rfl ?_
      refine w_call ref01_Short_ok (ref01_Short_ref _ _ _ H) rfl rfl rfl rfl ?_
      rintro _ h62 ⟨r61, rfl, H⟩
      obtain ⟨l65, hl65, H⟩ := H
      refine w_a (a_app (s := t3_2) (r := r61) tok rfl rfl rfl rfl rfl hl65 H) rfl rfl ?_
      rintro _ h64 ⟨s63, rfl, H⟩
      refine w_p tok rfl rfl rfl ?_
      refine w_end ?_
      refine x_seq ?_
      refine c_weak [(3, Slc.v s63), (1, .pointer (some (⟨b1, 0, none⟩ : Addr)))] ⟨rfl, rfl, trivial⟩ ?_
      refine c_seq ?_
      refine c_region ?_
      refine w_p tok rfl rfl rfl ?_
      refine w_p tok rfl rfl rfl ?_
      obtain ⟨v66, hv66, H⟩ := H
      refine w_y (y_ld tok rfl rfl rfl rfl hv66) rfl rfl ?_
      obtain ⟨l69, hl69, H⟩ := H
      refine w_a (a_app (s := s63) (r := v66) tok rfl rfl rfl rfl rfl hl69 H) rfl rfl ?_
      rintro _ h68 ⟨s67, rfl, H⟩
      refine w_p tok rfl rfl rfl ?_
      refine w_end ?_
      refine x_seq ?_
      refine c_ret ?_
      exact x_ret _ rfl _ rfl ⟨s67, rfl, H⟩
  ·
    refine c_seq ?_
    refine c_region ?_
    refine w_p tok rfl rfl rfl ?_
    obtain ⟨v70, hv70, H⟩ := H
    refine w_y (y_ld tok rfl rfl rfl rfl hv70) rfl rfl ?_
    refine w_end ?_
    refine x_seq ?_
    refine c_if H rfl (fun H => ?_) (fun H => ?_)
    ·
      refine c_region ?_
      refine w_p tok rfl rfl rfl ?_
      obtain ⟨b71, h72, eb71, eh72, H⟩ := H
      refine w_h (h_bs tok rfl rfl rfl rfl rfl rfl rfl eb71 eh72) rfl rfl ?_
      refine w_a (a_app (s := s27) (r := (⟨some ⟨b71, 0, none⟩, 1, 1⟩ : Slc)) tok rfl rfl rfl rfl rfl (slcAt_push eb71 eh72) H) rfl rfl ?_
      rintro _ h74 ⟨s73, rfl, H⟩
      refine w_p tok rfl rfl rfl ?_
      refine w_end ?_
      exact x_join s73 H ⟨rfl, rfl, trivial⟩
    ·
      refine c_region ?_
      refine w_p tok rfl rfl rfl ?_
      obtain ⟨b75, h76, eb75, eh76, H⟩ := H
      refine w_h (h_bs tok rfl rfl rfl rfl rfl rfl rfl eb75 eh76) rfl rfl ?_
      refine w_a (a_app (s := s27) (r := (⟨some ⟨b75, 0, none⟩, 1, 1⟩ : Slc)) tok rfl rfl rfl rfl rfl (slcAt_push eb75 eh76) H) rfl rfl ?_
      rintro _ h78 ⟨s77, rfl, H⟩
      refine w_p tok rfl rfl rfl ?_
      refine w_end ?_
      exact x_join s77 H ⟨rfl, rfl, trivial⟩

theorem ref27_Form_ok : CallOk Go.Proofs.Try.prog 37 := ⟨_, Go.Proofs.Try.func37, by kernel_rfl, by kernel_rfl⟩
theorem ref27_Form_ref (p0 : S_api_Note) (k : (Slc) → Heap → Prop) (h : Heap) (H : ref27_Form p0 k h) : CallsH Go.Proofs.Try.prog 37 #[.agg (S_api_Note.cs p0).toArray] h (fun v h' => ∃ r : Slc, v = Slc.v r ∧ k r h') := by
  refine f_enter (N := 159) Go.Proofs.Try.func37 rfl rfl rfl (fun w0 => ?_)
  unfold ref27_Form at H
  refine c_weak [(0, .agg (S_api_Note.cs p0).toArray)] ⟨rfl, trivial⟩ ?_
  refine c_seq ?_
  refine c_region ?_
  obtain ⟨b1, h2, eb1, eh2, H⟩ := H
  refine w_h (h_box rfl rfl eb1 eh2) rfl rfl ?_
  refine w_p tok rfl rfl rfl ?_
  refine w_end ?_
  refine x_seq ?_
  refine c_seq ?_
  refine c_region ?_
  refine w_p tok rfl rfl rfl ?_
  obtain ⟨v3, hv3, H⟩ := H
  refine w_y (y_ld tok rfl rfl rfl rfl hv3) rfl rfl ?_
  refine w_p tok rfl rfl rfl ?_
  obtain ⟨b4, h5, eb4, eh5, H⟩ := H
  refine w_h (h_bs tok rfl rfl rfl rfl rfl rfl rfl eb4 eh5) rfl rfl ?_
  refine w_p tok rfl rfl rfl ?_
  refine w_end ?_
  refine x_seq ?_
  refine c_seq ?_
  refine c_region ?_
  refine w_p tok rfl rfl rfl ?_
  refine w_p tok rfl rfl rfl ?_
  obtain ⟨v6, hv6, H⟩ := H
  refine w_y (y_ld tok rfl rfl rfl rfl hv6) rfl rfl ?_
  refine w_call ref01_Short_ok (ref01_Short_ref _ _ _ H) rfl rfl rfl rfl ?_
  rintro _ h8 ⟨r7, rfl, H⟩
  obtain ⟨l11, hl11, H⟩ := H
  refine w_a (a_app (s := (⟨some ⟨b4, 0, none⟩, 1, 1⟩ : Slc)) (r := r7) tok rfl rfl rfl rfl rfl hl11 H) rfl rfl ?_
  rintro _ h10 ⟨s9, rfl, H⟩
  refine w_p tok rfl rfl rfl ?_
  refine w_end ?_
  refine x_seq ?_
  refine c_weak [(1, .pointer (some (⟨b1, 0, none⟩ : Addr))), (3, Slc.v s9)] ⟨rfl, rfl, trivial⟩ ?_
  refine c_seq ?_
  refine c_region ?_
  refine w_p tok rfl rfl rfl ?_
  refine w_p tok rfl rfl rfl ?_
  obtain ⟨v12, hv12, H⟩ := H
  refine w_y (y_ld tok rfl rfl rfl rfl hv12) rfl rfl ?_
  refine w_call ref01_Short_ok (ref01_Short_ref _ _ _ H) rfl rfl rfl rfl ?_
  rintro _ h14 ⟨r13, rfl, H⟩
  obtain ⟨l17, hl17, H⟩ := H
  refine w_a (a_app (s := s9) (r := r13) tok rfl rfl rfl rfl rfl hl17 H) rfl rfl ?_
  rintro _ h16 ⟨s15, rfl, H⟩
  refine w_p tok rfl rfl rfl ?_
  refine w_end ?_
  refine x_seq ?_
  refine c_seq ?_
  refine c_region ?_
  refine w_p tok rfl rfl rfl ?_
  refine w_p tok rfl rfl rfl ?_
  obtain ⟨v18, hv18, H⟩ := H
  refine w_y (y_ld tok rfl rfl rfl rfl hv18) rfl rfl ?_
  refine w_p tok rfl rfl rfl ?_
  obtain ⟨b19, h20, eb19, eh20, H⟩ := H
  refine w_h (h_bs tok rfl rfl rfl rfl rfl rfl rfl eb19 eh20) rfl rfl ?_
  refine w_a (a_app (s := s15) (r := (⟨some ⟨b19, 0, none⟩, 1, 1⟩ : Slc)) tok rfl rfl rfl rfl rfl (slcAt_push eb19 eh20) H) rfl rfl ?_
  rintro _ h22 ⟨s21, rfl, H⟩
  refine w_p tok rfl rfl rfl ?_
  refine w_end ?_
  refine x_seq ?_
  refine c_weak [(1, .pointer (some (⟨b1, 0, none⟩ : Addr))), (3, Slc.v s21)] ⟨rfl, rfl, trivial⟩ ?_
  refine c_seq ?_
  refine c_region ?_
  refine w_p tok rfl rfl rfl ?_
  refine w_p tok rfl rfl rfl ?_
  obtain ⟨v23, hv23, H⟩ := H
  refine w_y (y_ld tok rfl rfl rfl rfl hv23) rfl rfl ?_
  refine w_call ref27_text_ok (ref27_text_ref _ _ _ H) rfl rfl rfl rfl ?_
  rintro _ h25 ⟨r24, rfl, H⟩
  obtain ⟨l28, hl28, H⟩ := H
  refine w_a (a_app (s := s21) (r := r24) tok rfl rfl rfl rfl rfl hl28 H) rfl rfl ?_
  rintro _ h27 ⟨s26, rfl, H⟩
  refine w_p tok rfl rfl rfl ?_
  refine w_end ?_
  refine x_seq ?_
  refine c_seq ?_
  refine c_region ?_
  refine w_p tok rfl rfl rfl ?_
  refine w_p tok rfl rfl rfl ?_
  obtain ⟨v29, hv29, H⟩ := H
  refine w_y (y_ld tok rfl rfl rfl rfl hv29) rfl rfl ?_
  refine w_p tok rfl rfl rfl ?_
  refine w_p tok rfl rfl rfl ?_
  refine w_call ref01_Short_ok (ref01_Short_ref _ _ _ H) rfl rfl rfl rfl ?_
  rintro _ h31 ⟨r30, rfl, H⟩
  obtain ⟨l34, hl34, H⟩ := H
  refine w_a (a_app (s := s26) (r := r30) tok rfl rfl rfl rfl rfl hl34 H) rfl rfl ?_
  rintro _ h33 ⟨s32, rfl, H⟩
  refine w_p tok rfl rfl rfl ?_
  refine w_end ?_
  refine x_seq ?_
  refine c_weak [(1, .pointer (some (⟨b1, 0, none⟩ : Addr))), (3, Slc.v s32)] ⟨rfl, rfl, trivial⟩ ?_
  refine c_seq ?_
  refine c_seq ?_
  refine c_region ?_
  refine w_p tok rfl rfl rfl ?_
  refine w_end ?_
  refine x_seq ?_
  refine c_block ?_
  obtain ⟨I1, μ1, H0, HI⟩ := H
  refine c_loop (σ := Slc × Int) (fun (s : Slc × Int) => [(3, Slc.v s.1), (4, .int .i64 s.2), (1, .pointer (some (⟨b1, 0, none⟩ : Addr)))]) I1 μ1 (s32, 0) H0 ⟨rfl, rfl, rfl, trivial⟩ ?_
  rintro ⟨t3_1, t4_1⟩ h_1 H
  replace H := HI t3_1 t4_1 h_1 H
  unfold ref27_Form_l1b at H
  refine c_weak [(3, Slc.v t3_1), (4, .int .i64 t4_1), (1, .pointer (some (⟨b1, 0, none⟩ : Addr)))] ⟨rfl, rfl, rfl, trivial⟩ ?_
  refine c_seq ?_
  refine c_seq ?_
  refine c_region ?_
  refine w_p tok rfl rfl rfl ?_
  refine w_p tok rfl rfl rfl ?_
  obtain ⟨v35, hv35, H⟩ := H
  refine w_y (y_ld tok rfl rfl rfl rfl hv35) rfl rfl ?_
  refine w_p tok rfl rfl rfl ?_
  refine w_p tok rfl rfl rfl ?_
  refine w_end ?_
  refine x_seq ?_
  refine c_if H rfl (fun H => ?_) (fun H => ?_)
  ·
    refine c_skip ?_
    refine x_seq ?_
    refine c_seq ?_
    refine c_block ?_
    refine c_seq ?_
    refine c_region ?_
    refine w_p tok rfl rfl rfl ?_
    obtain ⟨v36, hv36, H⟩ := H
    refine w_y (y_ld tok rfl rfl rfl rfl hv36) rfl rfl ?_
    refine w_p tok rfl rfl rfl ?_
    obtain ⟨a37, ha37, la37, ua37, H⟩ := H
    refine w_y (y_ixa' tok rfl rfl ha37 rfl rfl rfl la37 ua37) rfl rfl ?_
    obtain ⟨v38, hv38, H⟩ := H
    refine w_y (y_lda tok rfl rfl rfl rfl rfl hv38) rfl rfl ?_
    obtain ⟨b39, h40, eb39, eh40, H⟩ := H
    refine w_h (h_alloc tok rfl rfl eb39 eh40) rfl rfl ?_
    obtain ⟨h41, wh41, eh41, H⟩ := H
    refine w_h (h_sts tok rfl rfl rfl rfl rfl (oneC (by kernel_rfl)) wh41 eh41) rfl rfl ?_
    refine w_end ?_
    refine x_seq ?_
    refine c_weak [(3, Slc.v t3_1), (4, .int .i64 t4_1), (1, .pointer (some (⟨b1, 0, none⟩ : Addr))), (5, .pointer (some (⟨b39, 0, none⟩ : Addr)))] ⟨rfl, rfl, rfl, rfl, trivial⟩ ?_
    refine c_seq ?_
    refine c_region ?_
    refine w_p tok rfl rfl rfl ?_
    refine w_p tok rfl rfl rfl ?_
    obtain ⟨v42, hv42, H⟩ := H
    refine w_y (y_ld tok rfl rfl rfl rfl hv42) rfl rfl ?_
    refine w_call ref27_text_ok (ref27_text_ref _ _ _ H) rfl rfl rfl rfl ?_
    rintro _ h44 ⟨r43, rfl, H⟩
    obtain ⟨l47, hl47, H⟩ := H
    refine w_a (a_app (s := t3_1) (r := r43) tok rfl rfl rfl rfl rfl hl47 H) rfl rfl ?_
    rintro _ h46 ⟨s45, rfl, H⟩
    refine w_p tok rfl rfl rfl ?_
    refine w_end ?_
    refine x_seq ?_
    refine c_seq ?_
    refine c_region ?_
    refine w_p tok rfl rfl rfl ?_
    refine w_p tok rfl rfl rfl ?_
    obtain ⟨v48, hv48, H⟩ := H
    refine w_y (y_ld tok rfl rfl rfl rfl hv48) rfl rfl ?_
    refine w_p tok rfl rfl rfl ?_
    refine w_call ref01_Form_ok (ref01_Form_ref _ _ _ _ H) rfl rfl rfl rfl ?_
    rintro _ h50 ⟨r49, rfl, H⟩
    obtain ⟨l53, hl53, H⟩ := H
    refine w_a (a_app (s := s45) (r := r49) tok rfl rfl rfl rfl rfl hl53 H) rfl rfl ?_
    rintro _ h52 ⟨s51, rfl, H⟩
    refine w_p tok rfl rfl rfl ?_
    refine w_end ?_
    refine x_seq ?_
    refine c_weak [(3, Slc.v s51), (4, .int .i64 t4_1), (1, .pointer (some (⟨b1, 0, none⟩ : Addr))), (5, .pointer (some (⟨b39, 0, none⟩ : Addr)))] ⟨rfl, rfl, rfl, rfl, trivial⟩ ?_
    refine c_seq ?_
    refine c_region ?_
    refine w_p tok rfl rfl rfl ?_
    refine w_p tok rfl rfl rfl ?_
    obtain ⟨v54, hv54, H⟩ := H
    refine w_y (y_ld tok rfl rfl rfl rfl hv54) rfl rfl ?_
    refine w_p tok rfl rfl rfl ?_
    refine w_call ref01_Form_ok (ref01_Form_ref _ _ _ _ H) rfl rfl rfl rfl ?_
    rintro _ h56 ⟨r55, rfl, H⟩
    obtain ⟨l59, hl59, H⟩ := H
    refine w_a (a_app (s := s51) (r := r55) tok rfl rfl rfl rfl rfl hl59 H) rfl rfl ?_
    rintro _ h58 ⟨s57, rfl, H⟩
    refine w_p tok rfl rfl rfl ?_
    refine w_end ?_
    refine x_seq ?_
    refine c_region ?_
    refine w_p tok rfl rfl rfl ?_
    refine w_p tok rfl rfl rfl ?_
    obtain ⟨v60, hv60, H⟩ := H
    refine w_y (y_lda tok rfl rfl rfl rfl rfl hv60) rfl rfl ?_
    refine w_call ref27_id_ok (ref27_id_ref _ _ _ H) rfl rfl rfl rfl ?_
    rintro _ h62 ⟨r61, rfl, H⟩
    obtain ⟨l65, hl65, H⟩ := H
    refine w_a (a_app (s := s57) (r := r61) tok rfl rfl rfl rfl rfl hl65 H) rfl rfl ?_
    rintro _ h64 ⟨s63, rfl, H⟩
    refine w_p tok rfl rfl rfl ?_
    refine w_end ?_
    refine x_blk ?_
    refine x_seq ?_
    refine c_weak [(3, Slc.v s63), (4, .int .i64 t4_1), (1, .pointer (some (⟨b1, 0, none⟩ : Addr)))] ⟨rfl, rfl, rfl, trivial⟩ ?_
    refine c_region ?_
    refine w_p tok rfl rfl rfl ?_
    refine w_p tok rfl rfl rfl ?_
    obtain ⟨x66, ex66, H⟩ := H
    refine w_pe tok rfl (congrArg (fun z => (.int .i64 z : Value)) ex66) rfl rfl ?_
    refine w_end ?_
    exact x_join (s63, x66) H ⟨rfl, rfl, rfl, trivial⟩
  ·
    refine c_exit ?_
    refine x_te ?_
    refine x_te ?_
    refine x_bh ?_
    refine x_seq ?_
    refine c_seq ?_
    refine c_region ?_
    refine w_p tok rfl rfl rfl ?_
    refine w_p tok rfl rfl rfl ?_
    refine w_p tok rfl rfl rfl ?_
    obtain ⟨v67, hv67, H⟩ := H
    refine w_y (y_ld tok rfl rfl rfl rfl hv67) rfl rfl ?_
    refine w_call ref27_text_ok (ref27_text_ref _ _ _ H) rfl rfl rfl rfl ?_
    rintro _ h69 ⟨r68, rfl, H⟩
    obtain ⟨l72, hl72, H⟩ := H
    refine w_a (a_app (s := t3_1) (r := r68) tok rfl rfl rfl rfl rfl hl72 H) rfl rfl ?_
    rintro _ h71 ⟨s70, rfl, H⟩
    refine w_p tok rfl rfl rfl ?_
    refine w_end ?_
    refine x_seq ?_
    refine c_weak [(3, Slc.v s70), (1, .pointer (some (⟨b1, 0, none⟩ : Addr)))] ⟨rfl, rfl, trivial⟩ ?_
    refine c_seq ?_
    refine c_region ?_
    refine w_p tok rfl rfl rfl ?_
    refine w_p tok rfl rfl rfl ?_
    refine w_p tok rfl rfl rfl ?_
    obtain ⟨v73, hv73, H⟩ := H
    refine w_y (y_ld tok rfl rfl rfl rfl hv73) rfl rfl ?_
    refine w_p tok rfl rfl rfl ?_
    refine w_call ref01_Form_ok (ref01_Form_ref _ _ _ _ H) rfl rfl rfl rfl ?_
    rintro _ h75 ⟨r74, rfl, H⟩
    obtain ⟨l78, hl78, H⟩ := H
    refine w_a (a_app (s := s70) (r := r74) tok rfl rfl rfl rfl rfl hl78 H) rfl rfl ?_
    rintro _ h77 ⟨s76, rfl, H⟩
    refine w_p tok rfl rfl rfl ?_
    refine w_end ?_
    refine x_seq ?_
    refine c_weak [(3, Slc.v s76), (1, .pointer (some (⟨b1, 0, none⟩ : Addr)))] ⟨rfl, rfl, trivial⟩ ?_
    refine c_seq ?_
    refine c_region ?_
    refine w_p tok rfl rfl rfl ?_
    refine w_p tok rfl rfl rfl ?_
    refine w_p tok rfl rfl rfl ?_
    obtain ⟨v79, hv79, H⟩ := H
    refine w_y (y_ld tok rfl rfl rfl rfl hv79) rfl rfl ?_
    refine w_p tok rfl rfl rfl ?_
    refine w_call ref01_Form_ok (ref01_Form_ref _ _ _ _ H) rfl rfl rfl rfl ?_
    rintro _ h81 ⟨r80, rfl, H⟩
    obtain ⟨l84, hl84, H⟩ := H
    refine w_a (a_app (s := s76) (r := r80) tok rfl rfl rfl rfl rfl hl84 H) rfl rfl ?_
    rintro _ h83 ⟨s82, rfl, H⟩
    refine w_p tok rfl rfl rfl ?_
    refine w_end ?_
    refine x_seq ?_
    refine c_weak [(3, Slc.v s82), (1, .pointer (some (⟨b1, 0, none⟩ : Addr)))] ⟨rfl, rfl, trivial⟩ ?_
    refine c_seq ?_
    refine c_region ?_
    refine w_p tok rfl rfl rfl ?_
    refine w_p tok rfl rfl rfl ?_
    refine w_p tok rfl rfl rfl ?_
    obtain ⟨v85, hv85, H⟩ := H
    refine w_y (y_ld tok rfl rfl rfl rfl hv85) rfl rfl ?_
    refine w_p tok rfl rfl rfl ?_
    refine w_call ref01_Form_ok (ref01_Form_ref _ _ _ _ H) rfl rfl rfl rfl ?_
    rintro _ h87 ⟨r86, rfl, H⟩
    obtain ⟨l90, hl90, H⟩ := H
    refine w_a (a_app (s := s82) (r := r86) tok rfl rfl rfl rfl rfl hl90 H) rfl rfl ?_
    rintro _ h89 ⟨s88, rfl, H⟩
    refine w_p tok rfl rfl rfl ?_
    refine w_end ?_
    refine x_seq ?_
    refine c_weak [(3, Slc.v s88), (1, .pointer (some (⟨b1, 0, none⟩ : Addr)))] ⟨rfl, rfl, trivial⟩ ?_
    refine c_seq ?_
    refine c_region ?_
    refine w_p tok rfl rfl rfl ?_
    refine w_p tok rfl rfl rfl ?_
    refine w_p tok rfl rfl rfl ?_
    obtain ⟨v91, hv91, H⟩ := H
    refine w_y (y_ld tok rfl rfl rfl rfl hv91) rfl rfl ?_
    refine w_p tok rfl rfl rfl ?_
    obtain ⟨b92, h93, eb92, eh93, H⟩ := H
    refine w_h (h_bs tok rfl rfl rfl rfl rfl rfl rfl eb92 eh93) rfl rfl ?_
    refine w_a (a_app (s := s88) (r := (⟨some ⟨b92, 0, none⟩, 1, 1⟩ : Slc)) tok rfl rfl rfl rfl rfl (slcAt_push eb92 eh93) H) rfl rfl ?_
    rintro _ h95 ⟨s94, rfl, H⟩
    refine w_p tok rfl rfl rfl ?_
    refine w_end ?_
    refine x_seq ?_
    refine c_weak [(3, Slc.v s94), (1, .pointer (some (⟨b1, 0, none⟩ : Addr)))] ⟨rfl, rfl, trivial⟩ ?_
    refine c_seq ?_
    refine c_region ?_
    refine w_p tok rfl rfl rfl ?_
    refine w_p tok rfl rfl rfl ?_
    obtain ⟨v96, hv96, H⟩ := H
    refine w_y (y_lda tok rfl rfl rfl rfl rfl hv96) rfl rfl ?_
    refine w_call ref25_Put_ok (ref25_Put_ref _ _ _ H) rfl rfl rfl rfl ?_
    rintro _ h98 ⟨r97, rfl, H⟩
    obtain ⟨l99, ll99, hl99, H⟩ := H
    refine w_y (y_b2s (s := r97) (l := l99) tok rfl rfl rfl rfl rfl ll99 hl99) rfl rfl ?_
    refine w_call ref27_text_ok (ref27_text_ref _ _ _ H) rfl rfl rfl rfl ?_
    rintro _ h101 ⟨r100, rfl, H⟩
    obtain ⟨l104, hl104, H⟩ := H
    refine w_a (a_app (s := s94) (r := r100) tok rfl rfl rfl rfl rfl hl104 H) rfl rfl ?_
    rintro _ h103 ⟨s102, rfl, H⟩
    refine w_p tok rfl rfl rfl ?_
    refine w_end ?_
    refine x_seq ?_
    refine c_weak [(3, Slc.v s102), (1, .pointer (some (⟨b1, 0, none⟩ : Addr)))] ⟨rfl, rfl, trivial⟩ ?_
    refine c_seq ?_
    refine c_region ?_
    refine w_p tok rfl rfl rfl ?_
    refine w_p tok rfl rfl rfl ?_
    obtain ⟨v105, hv105, H⟩ := H
    refine w_y (y_ld tok rfl rfl rfl rfl hv105) rfl rfl ?_
    refine w_call ref01_Short_ok (ref01_Short_ref _ _ _ H) rfl rfl rfl rfl ?_
    rintro _ h107 ⟨r106, rfl, H⟩
    obtain ⟨l110, hl110, H⟩ := H
    refine w_a (a_app (s := s102) (r := r106) tok rfl rfl rfl rfl rfl hl110 H) rfl rfl ?_
    rintro _ h109 ⟨s108, rfl, H⟩
    refine w_p tok rfl rfl rfl ?_
    refine w_end ?_
    refine x_seq ?_
    refine c_seq ?_
    refine c_region ?_
    refine w_p tok rfl rfl rfl ?_
    refine w_p tok rfl rfl rfl ?_
    obtain ⟨v111, hv111, H⟩ := H
    refine w_y (y_ld tok rfl rfl rfl rfl hv111) rfl rfl ?_
    refine w_p tok rfl rfl rfl ?_
    refine w_p tok rfl rfl rfl ?_
    refine w_call ref01_Short_ok (ref01_Short_ref _ _ _ H) rfl rfl rfl rfl ?_
    rintro _ h113 ⟨r112, rfl, H⟩
    obtain ⟨l116, hl116, H⟩ := H
    refine w_a (a_app (s := s108) (r := r112) tok rfl rfl rfl rfl rfl hl116 H) rfl rfl ?_
    rintro _ h115 ⟨s114, rfl, H⟩
    refine w_p tok rfl rfl rfl ?_
    refine w_end ?_
    refine x_seq ?_
    refine c_weak [(3, Slc.v s114), (1, .pointer (some (⟨b1, 0, none⟩ : Addr)))] ⟨rfl, rfl, trivial⟩ ?_
    refine c_seq ?_
    refine c_seq ?_
    refine c_region ?_
    refine w_p tok rfl rfl rfl ?_
    refine w_end ?_
    refine x_seq ?_
    refine c_block ?_
    obtain ⟨I2, μ2, H0, HI⟩ := H
    refine c_loop (σ := Slc × Int) (fun (s : Slc × Int) => [(3, Slc.v s.1), (6, .int .i64 s.2), (1, .pointer (some (⟨b1, 0, none⟩ : Addr)))]) I2 μ2 (s114, 0) H0 ⟨rfl, rfl, rfl, trivial⟩ ?_
    rintro ⟨t3_2, t6_2⟩ h_2 H
    replace H := HI t3_2 t6_2 h_2 H
    unfold ref27_Form_l2b at H
    refine c_weak [(3, Slc.v t3_2), (6, .int .i64 t6_2), (1, .pointer (some (⟨b1, 0, none⟩ : Addr)))] ⟨rfl, rfl, rfl, trivial⟩ ?_
    refine c_seq ?_
    refine c_seq ?_
    refine c_region ?_
    refine w_p tok rfl rfl rfl ?_
    refine w_p tok rfl rfl rfl ?_
    obtain ⟨v117, hv117, H⟩ := H
    refine w_y (y_ld tok rfl rfl rfl rfl hv117) rfl rfl ?_
    refine w_p tok rfl rfl rfl ?_
    refine w_p tok rfl rfl rfl ?_
    refine w_end ?_
    refine x_seq ?_
    refine c_if H rfl (fun H => ?_) (fun H => ?_)
    ·
      refine c_skip ?_
      refine x_seq ?_
      refine c_seq ?_
      refine c_block ?_
      refine c_region ?_
      refine w_p tok rfl rfl rfl ?_
      refine w_p tok rfl rfl rfl ?_
      obtain ⟨v118, hv118, H⟩ := H
      refine w_y (y_ld tok rfl rfl rfl rfl hv118) rfl rfl ?_
      refine w_p tok rfl rfl rfl ?_
      obtain ⟨a119, ha119, la119, ua119, H⟩ := H
      refine w_y (y_ixa' tok rfl rfl ha119 rfl rfl rfl la119 ua119) rfl rfl ?_
      obtain ⟨v120, hv120, H⟩ := H
      refine w_y (y_lda tok rfl rfl rfl rfl rfl hv120) rfl rfl ?_
      refine w_call ref27_id_ok (ref27_id_ref _ _ _ H) rfl rfl rfl rfl ?_
      rintro _ h122 ⟨r121, rfl, H⟩
      obtain ⟨l125, hl125, H⟩ := H
      refine w_a (a_app (s := t3_2) (r := r121) tok rfl rfl rfl rfl rfl hl125 H) rfl rfl ?_
      rintro _ h124 ⟨s123, rfl, H⟩
      refine w_p tok rfl rfl rfl ?_
      refine w_end ?_
      refine x_blk ?_
      refine x_seq ?_
      refine c_weak [(3, Slc.v s123), (6, .int .i64 t6_2), (1, .pointer (some (⟨b1, 0, none⟩ : Addr)))] ⟨rfl, rfl, rfl, trivial⟩ ?_
      refine c_region ?_
      refine w_p tok rfl rfl rfl ?_
      refine w_p tok rfl rfl rfl ?_
      obtain ⟨x126, ex126, H⟩ := H
      refine w_pe tok rfl (congrArg (fun z => (.int .i64 z : Value)) ex126) rfl rfl ?_
      refine w_end ?_
      exact x_join (s123, x126) H ⟨rfl, rfl, rfl, trivial⟩
    ·
      refine c_exit ?_
      refine x_te ?_
      refine x_te ?_
      refine x_bh ?_
      refine x_seq ?_
      refine c_seq ?_
      refine c_region ?_
      refine w_p tok rfl rfl rfl ?_
      refine w_p tok rfl rfl rfl ?_
      refine w_p tok rfl rfl rfl ?_
      obtain ⟨v127, hv127, H⟩ := H
      refine w_y (y_ld tok rfl rfl rfl rfl hv127) rfl rfl ?_
      obtain ⟨b128, h129, eb128, eh129, H⟩ := H
      refine w_h (h_bs tok rfl rfl rfl rfl rfl rfl rfl eb128 eh129) rfl rfl ?_
      refine w_a (a_app (s := t3_2) (r := (⟨some ⟨b128, 0, none⟩, 1, 1⟩ : Slc)) tok rfl rfl rfl rfl rfl (slcAt_push eb128 eh129) H) rfl rfl ?_
      rintro _ h131 ⟨s130, rfl, H⟩
      refine w_p tok rfl rfl rfl ?_
      refine w_end ?_
      refine x_seq ?_
      refine c_weak [(3, Slc.v s130), (1, .pointer (some (⟨b1, 0, none⟩ : Addr)))] ⟨rfl, rfl, trivial⟩ ?_
      refine c_seq ?_
      refine c_region ?_
      refine w_p tok rfl rfl rfl ?_
      refine w_p tok rfl rfl rfl ?_
      refine w_p tok rfl rfl rfl ?_
      obtain ⟨s132, ps132, qs132, rs132, es132, H⟩ := H
      refine w_ye (y_sla (L := 0) (H := 32) tok rfl rfl rfl rfl rfl rfl ps132 qs132 rs132) (congrArg Slc.v es132) rfl rfl ?_
      obtain ⟨l135, hl135, H⟩ := H
      refine w_a (a_app (s := s130) (r := s132) tok rfl rfl rfl rfl rfl hl135 H) rfl rfl ?_
      rintro _ h134 ⟨s133, rfl, H⟩
      refine w_p tok rfl rfl rfl ?_
      refine w_end ?_
      refine x_seq ?_
      refine c_seq ?_
      refine c_region ?_
      refine w_p tok rfl rfl rfl ?_
      refine w_p tok rfl rfl rfl ?_
      obtain ⟨v136, hv136, H⟩ := H
      refine w_y (y_lda tok rfl rfl rfl rfl rfl hv136) rfl rfl ?_
      refine w_call ref26_Form_ok (ref26_Form_ref _ _ _ H) rfl rfl rfl rfl ?_
      rintro _ h138 ⟨r137, rfl, H⟩
      obtain ⟨l139, ll139, hl139, H⟩ := H
      refine w_y (y_b2s (s := r137) (l := l139) tok rfl rfl rfl rfl rfl ll139 hl139) rfl rfl ?_
      refine w_call ref27_text_ok (ref27_text_ref _ _ _ H) rfl rfl rfl rfl ?_
      rintro _ h141 ⟨r140, rfl, H⟩
      obtain ⟨l144, hl144, H⟩ := H
      refine w_a (a_app (s := s133) (r := r140) tok rfl rfl rfl rfl rfl hl144 H) rfl rfl ?_
      rintro _ h143 ⟨s142, rfl, H⟩
      refine w_p tok rfl rfl rfl ?_
      refine w_end ?_
      refine x_seq ?_
      refine c_weak [(2, Slc.v s142)] ⟨rfl, trivial⟩ ?_
      refine c_ret ?_
      exact x_ret _ rfl _ rfl ⟨s142, rfl, H⟩

theorem ref13_Check_ok : CallOk Go.Proofs.Try.prog 117 := ⟨_, Go.Proofs.Try.func117, by kernel_rfl, by kernel_rfl⟩
theorem ref13_Check_ref (p0 : S_api_Piece) (k : (Bool) → Heap → Prop) (h : Heap) (H : ref13_Check p0 k h) : CallsH Go.Proofs.Try.prog 117 #[.agg (S_api_Piece.cs p0).toArray] h (fun v h' => ∃ r : Bool, v = .bool r ∧ k r h') := by
  refine f_enter (N := 13) Go.Proofs.Try.func117 rfl rfl rfl (fun w0 => ?_)
  unfold ref13_Check at H
  refine c_weak [(0, .agg (S_api_Piece.cs p0).toArray)] ⟨rfl, trivial⟩ ?_
  refine c_seq ?_
  refine c_region ?_
  obtain ⟨b1, h2, eb1, eh2, H⟩ := H
  refine w_h (h_box rfl rfl eb1 eh2) rfl rfl ?_
  refine w_p tok rfl rfl rfl ?_
  refine w_end ?_
  refine x_seq ?_
  refine c_seq ?_
  refine c_region ?_
  refine w_p tok rfl rfl rfl ?_
  obtain ⟨v3, hv3, H⟩ := H
  refine w_y (y_ld tok rfl rfl rfl rfl hv3) rfl rfl ?_
  refine w_p tok rfl rfl rfl ?_
  refine w_p tok rfl rfl rfl ?_
  refine w_p tok rfl rfl rfl ?_
  refine w_cut 5 (α := Bool) (fun (s : Bool) => [(12, .bool s)]) (fun (s : Bool) h => ref13_Check_g1 s k h) ?_ ?_
  ·
    rintro t12_1 h_1 H
    replace H : ref13_Check_g1 t12_1 k h_1 := H
    unfold ref13_Check_g1 at H
    refine w_weak [(12, .bool t12_1)] ⟨rfl, trivial⟩ ?_
    refine w_p tok rfl rfl rfl ?_
    refine w_end ?_
    refine x_seq ?_
    refine c_ret ?_
    exact x_ret _ rfl _ rfl ⟨t12_1, rfl, H⟩
  ·
    refine w_gif (d := 7) H rfl (fun H => ?_) (fun H => ?_)
    ·
      refine w_p tok rfl rfl rfl ?_
      obtain ⟨v4, hv4, H⟩ := H
      refine w_y (y_ld tok rfl rfl rfl rfl hv4) rfl rfl ?_
      refine w_p tok rfl rfl rfl ?_
      refine w_p tok rfl rfl rfl ?_
      refine w_p tok rfl rfl rfl ?_
      exact w_jn (decide ((v4.size : Int) ≤ 200)) H ⟨rfl, trivial⟩
    ·
      refine w_skip rfl rfl ?_
      refine w_skip rfl rfl ?_
      refine w_skip rfl rfl ?_
      refine w_skip rfl rfl ?_
      refine w_p tok rfl rfl rfl ?_
      exact w_jn false H ⟨rfl, trivial⟩

theorem ref27_byteOk_ok : CallOk Go.Proofs.Try.prog 116 := ⟨_, Go.Proofs.Try.func116, by kernel_rfl, by kernel_rfl⟩
theorem ref27_byteOk_ref (p0 : Int) (k : (Bool) → Heap → Prop) (h : Heap) (H : ref27_byteOk p0 k h) : CallsH Go.Proofs.Try.prog 116 #[.int .i64 p0] h (fun v h' => ∃ r : Bool, v = .bool r ∧ k r h') := by
  refine f_enter (N := 9) Go.Proofs.Try.func116 rfl rfl rfl (fun w0 => ?_)
  unfold ref27_byteOk at H
  refine c_weak [(0, .int .i64 p0)] ⟨rfl, trivial⟩ ?_
  refine c_seq ?_
  refine c_region ?_
  refine w_p tok rfl rfl rfl ?_
  refine w_end ?_
  refine x_seq ?_
  refine c_seq ?_
  refine c_region ?_
  refine w_p tok rfl rfl rfl ?_
  refine w_p tok rfl rfl rfl ?_
  refine w_p tok rfl rfl rfl ?_
  refine w_cutU 3 [(8, .bool ((decide (p0 ≥ 0)) && (decide (p0 ≤ 255))))] ?_ ?_
  ·
    refine w_p tok rfl rfl rfl ?_
    refine w_end ?_
    refine x_seq ?_
    refine c_ret ?_
    exact x_ret _ rfl _ rfl ⟨((decide (p0 ≥ 0)) && (decide (p0 ≤ 255))), rfl, H⟩
  ·
    refine w_gs (d := 5) rfl (fun hb => ?_) (fun hb => ?_)
    ·
      refine w_p tok rfl rfl rfl ?_
      refine w_p tok rfl rfl rfl ?_
      refine w_p tok rfl rfl rfl ?_
      refine w_jn () rfl ⟨?_, trivial⟩
      exact congrArg (fun b => some (Value.bool b)) (and_t hb)
    ·
      refine w_skip rfl rfl ?_
      refine w_skip rfl rfl ?_
      refine w_p tok rfl rfl rfl ?_
      refine w_jn () rfl ⟨?_, trivial⟩
      exact congrArg (fun b => some (Value.bool b)) (and_f hb)

theorem ref27_Check_ok : CallOk Go.Proofs.Try.prog 38 := ⟨_, Go.Proofs.Try.func38, by kernel_rfl, by kernel_rfl⟩
theorem ref27_Check_ref (p0 : S_api_Note) (k : (Int) → Heap → Prop) (h : Heap) (H : ref27_Check p0 k h) : CallsH Go.Proofs.Try.prog 38 #[.agg (S_api_Note.cs p0).toArray] h (fun v h' => ∃ r : Int, v = .int .i64 r ∧ k r h') := by
  refine f_enter (N := 67) Go.Proofs.Try.func38 rfl rfl rfl (fun w0 => ?_)
  unfold ref27_Check at H
  refine c_weak [(0, .agg (S_api_Note.cs p0).toArray)] ⟨rfl, trivial⟩ ?_
  refine c_seq ?_
  refine c_region ?_
  obtain ⟨b1, h2, eb1, eh2, H⟩ := H
  refine w_h (h_box rfl rfl eb1 eh2) rfl rfl ?_
  refine w_p tok rfl rfl rfl ?_
  refine w_end ?_
  refine x_seq ?_
  refine c_seq ?_
  refine c_seq ?_
  refine c_region ?_
  refine w_p tok rfl rfl rfl ?_
  obtain ⟨v3, hv3, H⟩ := H
  refine w_y (y_ld tok rfl rfl rfl rfl hv3) rfl rfl ?_
  refine w_p tok rfl rfl rfl ?_
  refine w_p tok rfl rfl rfl ?_
  refine w_p tok rfl rfl rfl ?_
  refine w_cut 5 (α := Bool) (fun (s : Bool) => [(13, .bool s), (1, .pointer (some (⟨b1, 0, none⟩ : Addr)))]) (fun (s : Bool) h => ref27_Check_g1 (⟨b1, 0, none⟩ : Addr) s k h) ?_ ?_
  ·
    rintro t13_1 h_1 H
    replace H : ref27_Check_g1 (⟨b1, 0, none⟩ : Addr) t13_1 k h_1 := H
    unfold ref27_Check_g1 at H
    refine w_weak [(13, .bool t13_1), (1, .pointer (some (⟨b1, 0, none⟩ : Addr)))] ⟨rfl, rfl, trivial⟩ ?_
    refine w_end ?_
    refine x_seq ?_
    refine c_if H rfl (fun H => ?_) (fun H => ?_)
    ·
      refine c_seq ?_
      refine c_region ?_
      refine w_p tok rfl rfl rfl ?_
      refine w_end ?_
      refine x_seq ?_
      refine c_ret ?_
      refine x_tr ?_
      exact x_ret _ rfl _ rfl ⟨3, rfl, H⟩
    ·
      refine c_skip ?_
      refine x_seq ?_
      refine c_seq ?_
      refine c_seq ?_
      refine c_region ?_
      refine w_p tok rfl rfl rfl ?_
      obtain ⟨v4, hv4, H⟩ := H
      refine w_y (y_ld tok rfl rfl rfl rfl hv4) rfl rfl ?_
      refine w_p tok rfl rfl rfl ?_
      refine w_p tok rfl rfl rfl ?_
      refine w_cut 4 (α := Bool) (fun (s : Bool) => [(21, .bool s), (1, .pointer (some (⟨b1, 0, none⟩ : Addr)))]) (fun (s : Bool) h => ref27_Check_g2 (⟨b1, 0, none⟩ : Addr) s k h) ?_ ?_
      ·
        rintro t21_2 h_2 H
        replace H : ref27_Check_g2 (⟨b1, 0, none⟩ : Addr) t21_2 k h_2 := H
        unfold ref27_Check_g2 at H
        refine w_weak [(21, .bool t21_2), (1, .pointer (some (⟨b1, 0, none⟩ : Addr)))] ⟨rfl, rfl, trivial⟩ ?_
        refine w_p tok rfl rfl rfl ?_
        refine w_cut 5 (α := Bool) (fun (s : Bool) => [(27, .bool s), (1, .pointer (some (⟨b1, 0, none⟩ : Addr)))]) (fun (s : Bool) h => ref27_Check_g3 (⟨b1, 0, none⟩ : Addr) s k h) ?_ ?_
        ·
          rintro t27_3 h_3 H
          replace H : ref27_Check_g3 (⟨b1, 0, none⟩ : Addr) t27_3 k h_3 := H
          unfold ref27_Check_g3 at H
          refine w_weak [(27, .bool t27_3), (1, .pointer (some (⟨b1, 0, none⟩ : Addr)))] ⟨rfl, rfl, trivial⟩ ?_
          refine w_p tok rfl rfl rfl ?_
          refine w_cut 6 (α := Bool) (fun (s : Bool) => [(34, .bool s), (1, .pointer (some (⟨b1, 0, none⟩ : Addr)))]) (fun (s : Bool) h => ref27_Check_g4 (⟨b1, 0, none⟩ : Addr) s k h) ?_ ?_
          ·
            rintro t34_4 h_4 H
            replace H : ref27_Check_g4 (⟨b1, 0, none⟩ : Addr) t34_4 k h_4 := H
            unfold ref27_Check_g4 at H
            refine w_weak [(34, .bool t34_4), (1, .pointer (some (⟨b1, 0, none⟩ : Addr)))] ⟨rfl, rfl, trivial⟩ ?_
            refine w_p tok rfl rfl rfl ?_
            refine w_cut 6 (α := Bool) (fun (s : Bool) => [(41, .bool s), (1, .pointer (some (⟨b1, 0, none⟩ : Addr)))]) (fun (s : Bool) h => ref27_Check_g5 (⟨b1, 0, none⟩ : Addr) s k h) ?_ ?_
            ·
              rintro t41_5 h_5 H
              replace H : ref27_Check_g5 (⟨b1, 0, none⟩ : Addr) t41_5 k h_5 := H
              unfold ref27_Check_g5 at H
              refine w_weak [(41, .bool t41_5), (1, .pointer (some (⟨b1, 0, none⟩ : Addr)))] ⟨rfl, rfl, trivial⟩ ?_
              refine w_p tok rfl rfl rfl ?_
              refine w_cut 6 (α := Bool) (fun (s : Bool) => [(48, .bool s), (1, .pointer (some (⟨b1, 0, none⟩ : Addr)))]) (fun (s : Bool) h => ref27_Check_g6 (⟨b1, 0, none⟩ : Addr) s k h) ?_ ?_
              ·
                rintro t48_6 h_6 H
                replace H : ref27_Check_g6 (⟨b1, 0, none⟩ : Addr) t48_6 k h_6 := H
                unfold ref27_Check_g6 at H
                refine w_weak [(48, .bool t48_6), (1, .pointer (some (⟨b1, 0, none⟩ : Addr)))] ⟨rfl, rfl, trivial⟩ ?_
                refine w_end ?_
                refine x_seq ?_
                refine c_if H rfl (fun H => ?_) (fun H => ?_)
                ·
                  refine c_seq ?_
                  refine c_region ?_
                  refine w_p tok rfl rfl rfl ?_
                  refine w_end ?_
                  refine x_seq ?_
                  refine c_ret ?_
                  refine x_tr ?_
                  exact x_ret _ rfl _ rfl ⟨1, rfl, H⟩
                ·
                  refine c_skip ?_
                  refine x_seq ?_
                  refine c_seq ?_
                  refine c_seq ?_
                  refine c_region ?_
                  refine w_p tok rfl rfl rfl ?_
                  refine w_end ?_
                  refine x_seq ?_
                  refine c_block ?_
                  obtain ⟨I7, μ7, H0, HI⟩ := H
                  refine c_loop (σ := Int) (fun (s : Int) => [(3, .int .i64 s), (1, .pointer (some (⟨b1, 0, none⟩ : Addr)))]) I7 μ7 0 H0 ⟨rfl, rfl, trivial⟩ ?_
                  rintro t3_7 h_7 H
                  replace H := HI t3_7 h_7 H
                  unfold ref27_Check_l7b at H
                  refine c_weak [(3, .int .i64 t3_7), (1, .pointer (some (⟨b1, 0, none⟩ : Addr)))] ⟨rfl, rfl, trivial⟩ ?_
                  refine c_seq ?_
                  refine c_seq ?_
                  refine c_region ?_
                  refine w_p tok rfl rfl rfl ?_
                  refine w_p tok rfl rfl rfl ?_
                  obtain ⟨v5, hv5, H⟩ := H
                  refine w_y (y_ld tok rfl rfl rfl rfl hv5) rfl rfl ?_
                  refine w_p tok rfl rfl rfl ?_
                  refine w_p tok rfl rfl rfl ?_
                  refine w_end ?_
                  refine x_seq ?_
                  refine c_if H rfl (fun H => ?_) (fun H => ?_)
                  ·
                    refine c_skip ?_
                    refine x_seq ?_
                    refine c_seq ?_
                    refine c_block ?_
                    refine c_seq ?_
                    refine c_region ?_
                    refine w_p tok rfl rfl rfl ?_
                    obtain ⟨v6, hv6, H⟩ := H
                    refine w_y (y_ld tok rfl rfl rfl rfl hv6) rfl rfl ?_
                    refine w_p tok rfl rfl rfl ?_
                    obtain ⟨a7, ha7, la7, ua7, H⟩ := H
                    refine w_y (y_ixa' tok rfl rfl ha7 rfl rfl rfl la7 ua7) rfl rfl ?_
                    obtain ⟨v8, hv8, H⟩ := H
                    refine w_y (y_lda tok rfl rfl rfl rfl rfl hv8) rfl rfl ?_
                    refine w_call ref13_Check_ok (ref13_Check_ref _ _ _ H) rfl rfl rfl rfl ?_
                    rintro _ h10 ⟨r9, rfl, H⟩
                    refine w_p tok rfl rfl rfl ?_
                    refine w_end ?_
                    refine x_seq ?_
                    refine c_weak [(3, .int .i64 t3_7), (1, .pointer (some (⟨b1, 0, none⟩ : Addr))), (62, .bool (!r9))] ⟨rfl, rfl, rfl, trivial⟩ ?_
                    refine c_if H rfl (fun H => ?_) (fun H => ?_)
                    ·
                      refine c_seq ?_
                      refine c_region ?_
                      refine w_p tok rfl rfl rfl ?_
                      refine w_end ?_
                      refine x_seq ?_
                      refine c_ret ?_
                      refine x_br ?_
                      refine x_tr ?_
                      refine x_tr ?_
                      refine x_br ?_
                      refine x_tr ?_
                      exact x_ret _ rfl _ rfl ⟨1, rfl, H⟩
                    ·
                      refine c_skip ?_
                      refine x_blk ?_
                      refine x_seq ?_
                      refine c_region ?_
                      refine w_p tok rfl rfl rfl ?_
                      refine w_p tok rfl rfl rfl ?_
                      obtain ⟨x11, ex11, H⟩ := H
                      refine w_pe tok rfl (congrArg (fun z => (.int .i64 z : Value)) ex11) rfl rfl ?_
                      refine w_end ?_
                      exact x_join x11 H ⟨rfl, rfl, trivial⟩
                  ·
                    refine c_exit ?_
                    refine x_te ?_
                    refine x_te ?_
                    refine x_bh ?_
                    refine x_seq ?_
                    refine c_seq ?_
                    refine c_seq ?_
                    refine c_region ?_
                    obtain ⟨v12, hv12, H⟩ := H
                    refine w_y (y_lda tok rfl rfl rfl rfl rfl hv12) rfl rfl ?_
                    refine w_call ref27_Form_ok (ref27_Form_ref _ _ _ H) rfl rfl rfl rfl ?_
                    rintro _ h14 ⟨r13, rfl, H⟩
                    refine w_p tok rfl rfl rfl ?_
                    refine w_p tok rfl rfl rfl ?_
                    refine w_end ?_
                    refine x_seq ?_
                    refine c_weak [(66, .bool (decide ((r13.len : Int) > 4096)))] ⟨rfl, trivial⟩ ?_
                    refine c_if H rfl (fun H => ?_) (fun H => ?_)
                    ·
                      refine c_seq ?_
                      refine c_region ?_
                      refine w_p tok rfl rfl rfl ?_
                      refine w_end ?_
                      refine x_seq ?_
                      refine c_ret ?_
                      refine x_tr ?_
                      exact x_ret _ rfl _ rfl ⟨3, rfl, H⟩
                    ·
                      refine c_skip ?_
                      refine x_seq ?_
                      refine c_seq ?_
                      refine c_region ?_
                      refine w_p tok rfl rfl rfl ?_
                      refine w_end ?_
                      refine x_seq ?_
                      refine c_ret ?_
                      exact x_ret _ rfl _ rfl ⟨0, rfl, H⟩
              ·
                refine w_gif (d := 42) H rfl (fun H => ?_) (fun H => ?_)
                ·
                  refine w_skip rfl rfl ?_
                  refine w_skip rfl rfl ?_
                  refine w_skip rfl rfl ?_
                  refine w_skip rfl rfl ?_
                  refine w_skip rfl rfl ?_
                  refine w_p tok rfl rfl rfl ?_
                  exact w_jn true H ⟨rfl, rfl, trivial⟩
                ·
                  refine w_p tok rfl rfl rfl ?_
                  refine w_p tok rfl rfl rfl ?_
                  obtain ⟨v15, hv15, H⟩ := H
                  refine w_y (y_ld tok rfl rfl rfl rfl hv15) rfl rfl ?_
                  refine w_call ref27_byteOk_ok (ref27_byteOk_ref _ _ _ H) rfl rfl rfl rfl ?_
                  rintro _ h17 ⟨r16, rfl, H⟩
                  refine w_p tok rfl rfl rfl ?_
                  refine w_p tok rfl rfl rfl ?_
                  exact w_jn (!r16) H ⟨rfl, rfl, trivial⟩
            ·
              refine w_gif (d := 35) H rfl (fun H => ?_) (fun H => ?_)
              ·
                refine w_skip rfl rfl ?_
                refine w_skip rfl rfl ?_
                refine w_skip rfl rfl ?_
                refine w_skip rfl rfl ?_
                refine w_skip rfl rfl ?_
                refine w_p tok rfl rfl rfl ?_
                exact w_jn true H ⟨rfl, rfl, trivial⟩
              ·
                refine w_p tok rfl rfl rfl ?_
                refine w_p tok rfl rfl rfl ?_
                obtain ⟨v18, hv18, H⟩ := H
                refine w_y (y_ld tok rfl rfl rfl rfl hv18) rfl rfl ?_
                refine w_call ref27_byteOk_ok (ref27_byteOk_ref _ _ _ H) rfl rfl rfl rfl ?_
                rintro _ h20 ⟨r19, rfl, H⟩
                refine w_p tok rfl rfl rfl ?_
                refine w_p tok rfl rfl rfl ?_
                exact w_jn (!r19) H ⟨rfl, rfl, trivial⟩
          ·
            refine w_gif (d := 28) H rfl (fun H => ?_) (fun H => ?_)
            ·
              refine w_skip rfl rfl ?_
              refine w_skip rfl rfl ?_
              refine w_skip rfl rfl ?_
              refine w_skip rfl rfl ?_
              refine w_skip rfl rfl ?_
              refine w_p tok rfl rfl rfl ?_
              exact w_jn true H ⟨rfl, rfl, trivial⟩
            ·
              refine w_p tok rfl rfl rfl ?_
              refine w_p tok rfl rfl rfl ?_
              obtain ⟨v21, hv21, H⟩ := H
              refine w_y (y_ld tok rfl rfl rfl rfl hv21) rfl rfl ?_
              refine w_call ref27_byteOk_ok (ref27_byteOk_ref _ _ _ H) rfl rfl rfl rfl ?_
              rintro _ h23 ⟨r22, rfl, H⟩
              refine w_p tok rfl rfl rfl ?_
              refine w_p tok rfl rfl rfl ?_
              exact w_jn (!r22) H ⟨rfl, rfl, trivial⟩
        ·
          refine w_gif (d := 22) H rfl (fun H => ?_) (fun H => ?_)
          ·
            refine w_skip rfl rfl ?_
            refine w_skip rfl rfl ?_
            refine w_skip rfl rfl ?_
            refine w_skip rfl rfl ?_
            refine w_p tok rfl rfl rfl ?_
            exact w_jn true H ⟨rfl, rfl, trivial⟩
          ·
            refine w_p tok rfl rfl rfl ?_
            obtain ⟨v24, hv24, H⟩ := H
            refine w_y (y_ld tok rfl rfl rfl rfl hv24) rfl rfl ?_
            refine w_call ref27_byteOk_ok (ref27_byteOk_ref _ _ _ H) rfl rfl rfl rfl ?_
            rintro _ h26 ⟨r25, rfl, H⟩
            refine w_p tok rfl rfl rfl ?_
            refine w_p tok rfl rfl rfl ?_
            exact w_jn (!r25) H ⟨rfl, rfl, trivial⟩
      ·
        refine w_gif (d := 17) H rfl (fun H => ?_) (fun H => ?_)
        ·
          refine w_skip rfl rfl ?_
          refine w_skip rfl rfl ?_
          refine w_skip rfl rfl ?_
          refine w_p tok rfl rfl rfl ?_
          exact w_jn true H ⟨rfl, rfl, trivial⟩
        ·
          refine w_p tok rfl rfl rfl ?_
          obtain ⟨v27, hv27, H⟩ := H
          refine w_y (y_ld tok rfl rfl rfl rfl hv27) rfl rfl ?_
          refine w_p tok rfl rfl rfl ?_
          refine w_p tok rfl rfl rfl ?_
          exact w_jn (decide (v27 > 13)) H ⟨rfl, rfl, trivial⟩
  ·
    refine w_gif (d := 8) H rfl (fun H => ?_) (fun H => ?_)
    ·
      refine w_skip rfl rfl ?_
      refine w_skip rfl rfl ?_
      refine w_skip rfl rfl ?_
      refine w_skip rfl rfl ?_
      refine w_p tok rfl rfl rfl ?_
      exact w_jn true H ⟨rfl, rfl, trivial⟩
    ·
      refine w_p tok rfl rfl rfl ?_
      obtain ⟨v28, hv28, H⟩ := H
      refine w_y (y_ld tok rfl rfl rfl rfl hv28) rfl rfl ?_
      refine w_p tok rfl rfl rfl ?_
      refine w_p tok rfl rfl rfl ?_
      refine w_p tok rfl rfl rfl ?_
      exact w_jn (decide ((v28.len : Int) > 64)) H ⟨rfl, rfl, trivial⟩

theorem law27_PackGets_ok : CallOk Go.Proofs.Try.prog 6 := ⟨_, Go.Proofs.Try.func6, by kernel_rfl, by kernel_rfl⟩
theorem law27_PackGets_ref (p0 : Slc) (k : (Bool) → Heap → Prop) (h : Heap) (H : law27_PackGets p0 k h) : CallsH Go.Proofs.Try.prog 6 #[Slc.v p0] h (fun v h' => ∃ r : Bool, v = .bool r ∧ k r h') := by
  refine f_enter (N := 47) Go.Proofs.Try.func6 rfl rfl rfl (fun w0 => ?_)
  unfold law27_PackGets at H
  refine c_weak [(0, Slc.v p0)] ⟨rfl, trivial⟩ ?_
  refine c_seq ?_
  refine c_region ?_
  refine w_p tok rfl rfl rfl ?_
  refine w_end ?_
  refine x_seq ?_
  refine c_seq ?_
  refine c_seq ?_
  refine c_region ?_
  refine w_p tok rfl rfl rfl ?_
  refine w_p tok rfl rfl rfl ?_
  refine w_p tok rfl rfl rfl ?_
  refine w_end ?_
  refine x_seq ?_
  refine c_if H rfl (fun H => ?_) (fun H => ?_)
  ·
    refine c_seq ?_
    refine c_region ?_
    refine w_call law27_awake_ok (law27_awake_ref  _ _ H) rfl rfl rfl rfl ?_
    rintro _ h2 ⟨r1, rfl, H⟩
    refine w_p tok rfl rfl rfl ?_
    refine w_end ?_
    refine x_seq ?_
    refine c_ret ?_
    refine x_tr ?_
    exact x_ret _ rfl _ rfl ⟨r1, rfl, H⟩
  ·
    refine c_skip ?_
    refine x_seq ?_
    refine c_seq ?_
    refine c_region ?_
    refine w_p tok rfl rfl rfl ?_
    refine w_call ref01_Lent_ok (ref01_Lent_ref _ _ _ H) rfl rfl rfl rfl ?_
    rintro _ h4 ⟨r3, rfl, H⟩
    refine w_p tok rfl rfl rfl ?_
    refine w_end ?_
    refine x_seq ?_
    refine c_seq ?_
    refine c_region ?_
    refine w_p tok rfl rfl rfl ?_
    refine w_call pack_Get_ok (pack_Get_ref _ _ _ H) rfl rfl rfl rfl ?_
    rintro _ h6 ⟨r5, rfl, H⟩
    refine w_p tok rfl rfl rfl ?_
    refine w_p tok rfl rfl rfl ?_
    refine w_p tok rfl rfl rfl ?_
    obtain ⟨b7, h8, eb7, eh8, H⟩ := H
    refine w_h (h_alloc tok rfl rfl eb7 eh8) rfl rfl ?_
    obtain ⟨h9, wh9, eh9, H⟩ := H
    refine w_h (h_sts tok rfl rfl rfl rfl rfl (oneC (by kernel_rfl)) wh9 eh9) rfl rfl ?_
    refine w_p tok rfl rfl rfl ?_
    refine w_end ?_
    refine x_seq ?_
    refine c_weak [(0, Slc.v p0), (3, Slc.v r3), (4, .pointer (some (⟨b7, 0, none⟩ : Addr))), (5, .int .i64 r5.2)] ⟨rfl, rfl, rfl, rfl, trivial⟩ ?_
    refine c_seq ?_
    refine c_seq ?_
    refine c_region ?_
    refine w_p tok rfl rfl rfl ?_
    refine w_p tok rfl rfl rfl ?_
    refine w_call ref01_Kept_ok (ref01_Kept_ref _ _ _ _ H) rfl rfl rfl rfl ?_
    rintro _ h11 ⟨r10, rfl, H⟩
    refine w_p tok rfl rfl rfl ?_
    refine w_end ?_
    refine x_seq ?_
    refine c_if H rfl (fun H => ?_) (fun H => ?_)
    ·
      refine c_seq ?_
      refine c_region ?_
      refine w_p tok rfl rfl rfl ?_
      refine w_end ?_
      refine x_seq ?_
      refine c_weak [(2, .bool false)] ⟨rfl, trivial⟩ ?_
      refine c_ret ?_
      refine x_tr ?_
      exact x_ret _ rfl _ rfl ⟨false, rfl, H⟩
    ·
      refine c_skip ?_
      refine x_seq ?_
      refine c_seq ?_
      refine c_seq ?_
      refine c_region ?_
      refine w_p tok rfl rfl rfl ?_
      refine w_p tok rfl rfl rfl ?_
      refine w_end ?_
      refine x_seq ?_
      refine c_if H rfl (fun H => ?_) (fun H => ?_)
      ·
        refine c_seq ?_
        refine c_region ?_
        refine w_p tok rfl rfl rfl ?_
        refine w_p tok rfl rfl rfl ?_
        refine w_p tok rfl rfl rfl ?_
        refine w_cut 6 (α := Bool) (fun (s : Bool) => [(31, .bool s)]) (fun (s : Bool) h => law27_PackGets_g1 s k h) ?_ ?_
        ·
          rintro t31_1 h_1 H
          replace H : law27_PackGets_g1 t31_1 k h_1 := H
          unfold law27_PackGets_g1 at H
          refine w_weak [(31, .bool t31_1)] ⟨rfl, trivial⟩ ?_
          refine w_p tok rfl rfl rfl ?_
          refine w_cut 2 (α := Bool) (fun (s : Bool) => [(34, .bool s)]) (fun (s : Bool) h => law27_PackGets_g2 s k h) ?_ ?_
          ·
            rintro t34_2 h_2 H
            replace H : law27_PackGets_g2 t34_2 k h_2 := H
            unfold law27_PackGets_g2 at H
            refine w_weak [(34, .bool t34_2)] ⟨rfl, trivial⟩ ?_
            refine w_p tok rfl rfl rfl ?_
            refine w_end ?_
            refine x_seq ?_
            refine c_ret ?_
            refine x_tr ?_
            exact x_ret _ rfl _ rfl ⟨t34_2, rfl, H⟩
          ·
            refine w_gif (d := 32) H rfl (fun H => ?_) (fun H => ?_)
            ·
              refine w_call law27_awake_ok (law27_awake_ref  _ _ H) rfl rfl rfl rfl ?_
              rintro _ h13 ⟨r12, rfl, H⟩
              refine w_p tok rfl rfl rfl ?_
              exact w_jn r12 H ⟨rfl, trivial⟩
            ·
              refine w_skip rfl rfl ?_
              refine w_p tok rfl rfl rfl ?_
              exact w_jn false H ⟨rfl, trivial⟩
        ·
          refine w_gif (d := 25) H rfl (fun H => ?_) (fun H => ?_)
          ·
            obtain ⟨v14, hv14, H⟩ := H
            refine w_y (y_lda tok rfl rfl rfl rfl rfl hv14) rfl rfl ?_
            refine w_call ref27_Form_ok (ref27_Form_ref _ _ _ H) rfl rfl rfl rfl ?_
            rintro _ h16 ⟨r15, rfl, H⟩
            refine w_y (y_build tok rfl rfl rfl rfl rfl) rfl rfl ?_
            refine w_call ref27_Form_ok (ref27_Form_ref _ _ _ H) rfl rfl rfl rfl ?_
            rintro _ h18 ⟨r17, rfl, H⟩
            refine w_call ref01_Same_ok (ref01_Same_ref _ _ _ _ H) rfl rfl rfl rfl ?_
            rintro _ h20 ⟨r19, rfl, H⟩
            refine w_p tok rfl rfl rfl ?_
            exact w_jn r19 H ⟨rfl, trivial⟩
          ·
            refine w_skip rfl rfl ?_
            refine w_skip rfl rfl ?_
            refine w_skip rfl rfl ?_
            refine w_skip rfl rfl ?_
            refine w_skip rfl rfl ?_
            refine w_p tok rfl rfl rfl ?_
            exact w_jn false H ⟨rfl, trivial⟩
      ·
        refine c_skip ?_
        refine x_seq ?_
        refine c_weak [(0, Slc.v p0), (4, .pointer (some (⟨b7, 0, none⟩ : Addr)))] ⟨rfl, rfl, trivial⟩ ?_
        refine c_seq ?_
        refine c_region ?_
        obtain ⟨v21, hv21, H⟩ := H
        refine w_y (y_lda tok rfl rfl rfl rfl rfl hv21) rfl rfl ?_
        refine w_call ref27_Check_ok (ref27_Check_ref _ _ _ H) rfl rfl rfl rfl ?_
        rintro _ h23 ⟨r22, rfl, H⟩
        refine w_p tok rfl rfl rfl ?_
        refine w_p tok rfl rfl rfl ?_
        refine w_cut 5 (α := Bool) (fun (s : Bool) => [(43, .bool s)]) (fun (s : Bool) h => law27_PackGets_g3 s k h) ?_ ?_
        ·
          rintro t43_3 h_3 H
          replace H : law27_PackGets_g3 t43_3 k h_3 := H
          unfold law27_PackGets_g3 at H
          refine w_weak [(43, .bool t43_3)] ⟨rfl, trivial⟩ ?_
          refine w_p tok rfl rfl rfl ?_
          refine w_cut 2 (α := Bool) (fun (s : Bool) => [(46, .bool s)]) (fun (s : Bool) h => law27_PackGets_g4 s k h) ?_ ?_
          ·
            rintro t46_4 h_4 H
            replace H : law27_PackGets_g4 t46_4 k h_4 := H
            unfold law27_PackGets_g4 at H
            refine w_weak [(46, .bool t46_4)] ⟨rfl, trivial⟩ ?_
            refine w_p tok rfl rfl rfl ?_
            refine w_end ?_
            refine x_seq ?_
            refine c_ret ?_
            exact x_ret _ rfl _ rfl ⟨t46_4, rfl, H⟩
          ·
            refine w_gif (d := 44) H rfl (fun H => ?_) (fun H => ?_)
            ·
              refine w_call law27_awake_ok (law27_awake_ref  _ _ H) rfl rfl rfl rfl ?_
              rintro _ h25 ⟨r24, rfl, H⟩
              refine w_p tok rfl rfl rfl ?_
              exact w_jn r24 H ⟨rfl, trivial⟩
            ·
              refine w_skip rfl rfl ?_
              refine w_p tok rfl rfl rfl ?_
              exact w_jn false H ⟨rfl, trivial⟩
        ·
          refine w_gif (d := 38) H rfl (fun H => ?_) (fun H => ?_)
          ·
            obtain ⟨v26, hv26, H⟩ := H
            refine w_y (y_lda tok rfl rfl rfl rfl rfl hv26) rfl rfl ?_
            refine w_call ref27_Form_ok (ref27_Form_ref _ _ _ H) rfl rfl rfl rfl ?_
            rintro _ h28 ⟨r27, rfl, H⟩
            refine w_p tok rfl rfl rfl ?_
            refine w_call ref01_Same_ok (ref01_Same_ref _ _ _ _ H) rfl rfl rfl rfl ?_
            rintro _ h30 ⟨r29, rfl, H⟩
            refine w_p tok rfl rfl rfl ?_
            exact w_jn r29 H ⟨rfl, trivial⟩
          ·
            refine w_skip rfl rfl ?_
            refine w_skip rfl rfl ?_
            refine w_skip rfl rfl ?_
            refine w_skip rfl rfl ?_
            refine w_p tok rfl rfl rfl ?_
            exact w_jn false H ⟨rfl, trivial⟩

theorem ref01_Pick_ok : CallOk Go.Proofs.Try.prog 39 := ⟨_, Go.Proofs.Try.func39, by kernel_rfl, by kernel_rfl⟩
theorem ref01_Pick_ref (p0 : Int) (p1 : Int) (k : (Int) → Heap → Prop) (h : Heap) (H : ref01_Pick p0 p1 k h) : CallsH Go.Proofs.Try.prog 39 #[.int .i64 p0, .int .i64 p1] h (fun v h' => ∃ r : Int, v = .int .i64 r ∧ k r h') := by
  refine f_enter (N := 17) Go.Proofs.Try.func39 rfl rfl rfl (fun w0 => ?_)
  unfold ref01_Pick at H
  refine c_weak [(0, .int .i64 p0), (1, .int .i64 p1)] ⟨rfl, rfl, trivial⟩ ?_
  refine c_seq ?_
  refine c_region ?_
  refine w_p tok rfl rfl rfl ?_
  refine w_end ?_
  refine x_seq ?_
  refine c_seq ?_
  refine c_seq ?_
  refine c_region ?_
  refine w_p tok rfl rfl rfl ?_
  refine w_p tok rfl rfl rfl ?_
  refine w_end ?_
  refine x_seq ?_
  refine c_if H rfl (fun H => ?_) (fun H => ?_)
  ·
    refine c_seq ?_
    refine c_region ?_
    refine w_p tok rfl rfl rfl ?_
    refine w_end ?_
    refine x_seq ?_
    refine c_ret ?_
    refine x_tr ?_
    exact x_ret _ rfl _ rfl ⟨0, rfl, H⟩
  ·
    refine c_skip ?_
    refine x_seq ?_
    refine c_seq ?_
    refine c_region ?_
    refine w_p tok rfl rfl rfl ?_
    refine w_p tok rfl rfl rfl ?_
    obtain ⟨z1, H⟩ := H
    refine w_y (y_rem rfl rfl rfl z1) rfl rfl ?_
    obtain ⟨x2, ex2, H⟩ := H
    refine w_pe tok rfl (congrArg (fun z => (.int .i64 z : Value)) ex2) rfl rfl ?_
    refine w_end ?_
    refine x_seq ?_
    refine c_weak [(1, .int .i64 p1), (5, .int .i64 x2)] ⟨rfl, rfl, trivial⟩ ?_
    refine c_seqJ (α := Int) (fun (s : Int) => [(5, .int .i64 s)]) (fun (s : Int) h => ref01_Pick_j1 s k h) ?_ ?_
    ·
      rintro t5_1 h_1 H
      replace H : ref01_Pick_j1 t5_1 k h_1 := H
      unfold ref01_Pick_j1 at H
      refine c_weak [(5, .int .i64 t5_1)] ⟨rfl, trivial⟩ ?_
      refine c_seq ?_
      refine c_region ?_
      refine w_p tok rfl rfl rfl ?_
      refine w_p tok rfl rfl rfl ?_
      refine w_end ?_
      refine x_seq ?_
      refine c_ret ?_
      exact x_ret _ rfl _ rfl ⟨t5_1, rfl, H⟩
    ·
      refine c_seq ?_
      refine c_region ?_
      refine w_p tok rfl rfl rfl ?_
      refine w_p tok rfl rfl rfl ?_
      refine w_end ?_
      refine x_seq ?_
      refine c_if H rfl (fun H => ?_) (fun H => ?_)
      ·
        refine c_region ?_
        refine w_p tok rfl rfl rfl ?_
        refine w_p tok rfl rfl rfl ?_
        refine w_p tok rfl rfl rfl ?_
        obtain ⟨x3, ex3, H⟩ := H
        refine w_pe tok rfl (congrArg (fun z => (.int .i64 z : Value)) ex3) rfl rfl ?_
        refine w_end ?_
        exact x_join x3 H ⟨rfl, trivial⟩
      ·
        refine c_skip ?_
        exact x_join x2 H ⟨rfl, trivial⟩

theorem law27_PackTorn_ok : CallOk Go.Proofs.Try.prog 7 := ⟨_, Go.Proofs.Try.func7, by kernel_rfl, by kernel_rfl⟩
theorem law27_PackTorn_ref (p0 : S_api_Note) (p1 : Int) (k : (Bool) → Heap → Prop) (h : Heap) (H : law27_PackTorn p0 p1 k h) : CallsH Go.Proofs.Try.prog 7 #[.agg (S_api_Note.cs p0).toArray, .int .i64 p1] h (fun v h' => ∃ r : Bool, v = .bool r ∧ k r h') := by
  refine f_enter (N := 48) Go.Proofs.Try.func7 rfl rfl rfl (fun w0 => ?_)
  unfold law27_PackTorn at H
  refine c_weak [(0, .agg (S_api_Note.cs p0).toArray), (1, .int .i64 p1)] ⟨rfl, rfl, trivial⟩ ?_
  refine c_seq ?_
  refine c_region ?_
  obtain ⟨b1, h2, eb1, eh2, H⟩ := H
  refine w_h (h_box rfl rfl eb1 eh2) rfl rfl ?_
  refine w_p tok rfl rfl rfl ?_
  refine w_end ?_
  refine x_seq ?_
  refine c_seq ?_
  refine c_seq ?_
  refine c_region ?_
  obtain ⟨v3, hv3, H⟩ := H
  refine w_y (y_lda tok rfl rfl rfl rfl rfl hv3) rfl rfl ?_
  refine w_call ref27_Great_ok (ref27_Great_ref _ _ _ H) rfl rfl rfl rfl ?_
  rintro _ h5 ⟨r4, rfl, H⟩
  refine w_p tok rfl rfl rfl ?_
  refine w_cut 4 (α := Bool) (fun (s : Bool) => [(16, .bool s), (1, .int .i64 p1), (2, .pointer (some (⟨b1, 0, none⟩ : Addr)))]) (fun (s : Bool) h => law27_PackTorn_g1 p1 (⟨b1, 0, none⟩ : Addr) s k h) ?_ ?_
  ·
    rintro t16_1 h_1 H
    replace H : law27_PackTorn_g1 p1 (⟨b1, 0, none⟩ : Addr) t16_1 k h_1 := H
    unfold law27_PackTorn_g1 at H
    refine w_weak [(16, .bool t16_1), (1, .int .i64 p1), (2, .pointer (some (⟨b1, 0, none⟩ : Addr)))] ⟨rfl, rfl, rfl, trivial⟩ ?_
    refine w_end ?_
    refine x_seq ?_
    refine c_if H rfl (fun H => ?_) (fun H => ?_)
    ·
      refine c_seq ?_
      refine c_region ?_
      refine w_call law27_awake_ok (law27_awake_ref  _ _ H) rfl rfl rfl rfl ?_
      rintro _ h7 ⟨r6, rfl, H⟩
      refine w_p tok rfl rfl rfl ?_
      refine w_end ?_
      refine x_seq ?_
      refine c_ret ?_
      refine x_tr ?_
      exact x_ret _ rfl _ rfl ⟨r6, rfl, H⟩
    ·
      refine c_skip ?_
      refine x_seq ?_
      refine c_seq ?_
      refine c_region ?_
      obtain ⟨v8, hv8, H⟩ := H
      refine w_y (y_lda tok rfl rfl rfl rfl rfl hv8) rfl rfl ?_
      refine w_call pack_Put_ok (pack_Put_ref _ _ _ H) rfl rfl rfl rfl ?_
      rintro _ h10 ⟨r9, rfl, H⟩
      refine w_p tok rfl rfl rfl ?_
      refine w_end ?_
      refine x_seq ?_
      refine c_seq ?_
      refine c_region ?_
      refine w_p tok rfl rfl rfl ?_
      refine w_p tok rfl rfl rfl ?_
      refine w_p tok rfl rfl rfl ?_
      refine w_p tok rfl rfl rfl ?_
      refine w_call ref01_Pick_ok (ref01_Pick_ref _ _ _ _ H) rfl rfl rfl rfl ?_
      rintro _ h12 ⟨r11, rfl, H⟩
      obtain ⟨s13, ps13, qs13, rs13, ts13, es13, H⟩ := H
      refine w_ye (y_sl (s := r9) (L := 0) (H := r11) (M := (r9.cap : Int)) tok rfl rfl rfl rfl rfl rfl rfl (by simp) ps13 qs13 rs13 ts13) (congrArg Slc.v es13) rfl rfl ?_
      refine w_call pack_Get_ok (pack_Get_ref _ _ _ H) rfl rfl rfl rfl ?_
      rintro _ h15 ⟨r14, rfl, H⟩
      refine w_p tok rfl rfl rfl ?_
      refine w_p tok rfl rfl rfl ?_
      refine w_p tok rfl rfl rfl ?_
      obtain ⟨b16, h17, eb16, eh17, H⟩ := H
      refine w_h (h_alloc tok rfl rfl eb16 eh17) rfl rfl ?_
      obtain ⟨h18, wh18, eh18, H⟩ := H
      refine w_h (h_sts tok rfl rfl rfl rfl rfl (oneC (by kernel_rfl)) wh18 eh18) rfl rfl ?_
      refine w_p tok rfl rfl rfl ?_
      refine w_end ?_
      refine x_seq ?_
      refine c_weak [(5, Slc.v r9), (7, .int .i64 r14.2)] ⟨rfl, rfl, trivial⟩ ?_
      refine c_seq ?_
      refine c_region ?_
      obtain ⟨b19, h20, eb19, eh20, H⟩ := H
      refine w_h (h_bs tok rfl rfl rfl rfl rfl rfl rfl eb19 eh20) rfl rfl ?_
      refine w_p tok rfl rfl rfl ?_
      obtain ⟨l23, hl23, H⟩ := H
      refine w_a (a_app (s := (⟨some ⟨b19, 0, none⟩, 0, 0⟩ : Slc)) (r := r9) tok rfl rfl rfl rfl rfl hl23 H) rfl rfl ?_
      rintro _ h22 ⟨s21, rfl, H⟩
      obtain ⟨b24, h25, eb24, eh25, H⟩ := H
      refine w_h (h_bs tok rfl rfl rfl rfl rfl rfl rfl eb24 eh25) rfl rfl ?_
      refine w_a (a_app (s := s21) (r := (⟨some ⟨b24, 0, none⟩, 1, 1⟩ : Slc)) tok rfl rfl rfl rfl rfl (slcAt_push eb24 eh25) H) rfl rfl ?_
      rintro _ h27 ⟨s26, rfl, H⟩
      refine w_call pack_Get_ok (pack_Get_ref _ _ _ H) rfl rfl rfl rfl ?_
      rintro _ h29 ⟨r28, rfl, H⟩
      refine w_p tok rfl rfl rfl ?_
      refine w_p tok rfl rfl rfl ?_
      refine w_p tok rfl rfl rfl ?_
      obtain ⟨b30, h31, eb30, eh31, H⟩ := H
      refine w_h (h_alloc tok rfl rfl eb30 eh31) rfl rfl ?_
      obtain ⟨h32, wh32, eh32, H⟩ := H
      refine w_h (h_sts tok rfl rfl rfl rfl rfl (oneC (by kernel_rfl)) wh32 eh32) rfl rfl ?_
      refine w_p tok rfl rfl rfl ?_
      refine w_end ?_
      refine x_seq ?_
      refine c_weak [(7, .int .i64 r14.2), (9, .int .i64 r28.2)] ⟨rfl, rfl, trivial⟩ ?_
      refine c_seq ?_
      refine c_region ?_
      refine w_p tok rfl rfl rfl ?_
      refine w_p tok rfl rfl rfl ?_
      refine w_p tok rfl rfl rfl ?_
      refine w_cutU 3 [(44, .bool ((r14.2 == 4) && (r28.2 == 4)))] ?_ ?_
      ·
        refine w_p tok rfl rfl rfl ?_
        refine w_cut 2 (α := Bool) (fun (s : Bool) => [(47, .bool s)]) (fun (s : Bool) h => law27_PackTorn_g2 s k h) ?_ ?_
        ·
          rintro t47_2 h_2 H
          replace H : law27_PackTorn_g2 t47_2 k h_2 := H
          unfold law27_PackTorn_g2 at H
          refine w_weak [(47, .bool t47_2)] ⟨rfl, trivial⟩ ?_
          refine w_p tok rfl rfl rfl ?_
          refine w_end ?_
          refine x_seq ?_
          refine c_ret ?_
          exact x_ret _ rfl _ rfl ⟨t47_2, rfl, H⟩
        ·
          refine w_gif (d := 45) H rfl (fun H => ?_) (fun H => ?_)
          ·
            refine w_call law27_awake_ok (law27_awake_ref  _ _ H) rfl rfl rfl rfl ?_
            rintro _ h34 ⟨r33, rfl, H⟩
            refine w_p tok rfl rfl rfl ?_
            exact w_jn r33 H ⟨rfl, trivial⟩
          ·
            refine w_skip rfl rfl ?_
            refine w_p tok rfl rfl rfl ?_
            exact w_jn false H ⟨rfl, trivial⟩
      ·
        refine w_gs (d := 41) rfl (fun hb => ?_) (fun hb => ?_)
        ·
          refine w_p tok rfl rfl rfl ?_
          refine w_p tok rfl rfl rfl ?_
          refine w_p tok rfl rfl rfl ?_
          refine w_jn () rfl ⟨?_, trivial⟩
          exact congrArg (fun b => some (Value.bool b)) (and_t hb)
        ·
          refine w_skip rfl rfl ?_
          refine w_skip rfl rfl ?_
          refine w_p tok rfl rfl rfl ?_
          refine w_jn () rfl ⟨?_, trivial⟩
          exact congrArg (fun b => some (Value.bool b)) (and_f hb)
  ·
    refine w_gif (d := 12) H rfl (fun H => ?_) (fun H => ?_)
    ·
      refine w_skip rfl rfl ?_
      refine w_skip rfl rfl ?_
      refine w_skip rfl rfl ?_
      refine w_p tok rfl rfl rfl ?_
      exact w_jn true H ⟨rfl, rfl, rfl, trivial⟩
    ·
      obtain ⟨v35, hv35, H⟩ := H
      refine w_y (y_lda tok rfl rfl rfl rfl rfl hv35) rfl rfl ?_
      refine w_call ref27_Check_ok (ref27_Check_ref _ _ _ H) rfl rfl rfl rfl ?_
      rintro _ h37 ⟨r36, rfl, H⟩
      refine w_p tok rfl rfl rfl ?_
      refine w_p tok rfl rfl rfl ?_
      exact w_jn (r36 != 0) H ⟨rfl, rfl, rfl, trivial⟩
end Go.Q.Yb

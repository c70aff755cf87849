/- A part of the proof of statements of this seat: lemmas, no statement of their own. -/
import Derived.Test.YthjafnfadiijgaaYhTab
import Derived.Test.YthjafnfadiijgaaYhLg
import Derived.Test.YthjafnfadiijgaaYhVt3
import Derived.Test.YthjafnfadiijgaaQUn
import Derived.Test.YthjafnfadiijgaaQFst
-- squeezed
set_option linter.unusedVariables false
set_option maxRecDepth 100000
set_option maxHeartbeats 1000000
namespace Go.Q.Yh
/-- math bits.Mul32 -/
def math_bits_Mul32 (p0 : Int) (p1 : Int) (k : (Int × Int) → Heap → Prop) (h : Heap) : Prop :=
 ∃ x1 : Int, x1 = (IntKind.u64.wrap ((IntKind.u64.wrap p0) * (IntKind.u64.wrap p1))) ∧ (∃ x2 : Int, x2 = (IntKind.u32.wrap (shr .u64 x1 (32 : Int).toNat)) ∧ (∃ x3 : Int, x3 = (IntKind.u32.wrap x1) ∧ (k (x2, x3) h)))

/-- math bits.Mul64 -/
def math_bits_Mul64 (p0 : Int) (p1 : Int) (k : (Int × Int) → Heap → Prop) (h : Heap) : Prop :=
 ∃ x1 : Int, x1 = (bwAnd .u64 p0 4294967295) ∧ (∃ x2 : Int, x2 = (shr .u64 p0 (32 : Int).toNat) ∧ (∃ x3 : Int, x3 = (bwAnd .u64 p1 4294967295) ∧ (∃ x4 : Int, x4 = (shr .u64 p1 (32 : Int).toNat) ∧ (∃ x5 : Int, x5 = (IntKind.u64.wrap (x1 * x3)) ∧ (∃ x6 : Int, x6 = (IntKind.u64.wrap ((IntKind.u64.wrap (x2 * x3)) + (shr .u64 x5 (32 : Int).toNat))) ∧ (∃ x7 : Int, x7 = (bwAnd .u64 x6 4294967295) ∧ (∃ x8 : Int, x8 = (shr .u64 x6 (32 : Int).toNat) ∧ (∃ x9 : Int, x9 = (IntKind.u64.wrap (x7 + (IntKind.u64.wrap (x1 * x4)))) ∧ (∃ x10 : Int, x10 = (IntKind.u64.wrap ((IntKind.u64.wrap ((IntKind.u64.wrap (x2 * x4)) + x8)) + (shr .u64 x9 (32 : Int).toNat))) ∧ (∃ x11 : Int, x11 = (IntKind.u64.wrap (p0 * p1)) ∧ (k (x10, x11) h)))))))))))

/-- math bits.Mul -/
def math_bits_Mul (p0 : Int) (p1 : Int) (k : (Int × Int) → Heap → Prop) (h : Heap) : Prop :=
 if false then (math_bits_Mul32 (IntKind.u32.wrap p0) (IntKind.u32.wrap p1) (fun (r1 : Int × Int) h2 => ∃ x3 : Int, x3 = (IntKind.u64.wrap r1.1) ∧ (∃ x4 : Int, x4 = (IntKind.u64.wrap r1.2) ∧ (k (x3, x4) h2))) h) else (math_bits_Mul64 p0 p1 (fun (r5 : Int × Int) h6 => k (r5.1, r5.2) h6) h)

/-- slices.Repeat   uint64 uint64  -/
def slices_Repeat_uint64_uint64_l3b (t7_3 : Slc) (t8_3 : Int) (k : (Slc) → Heap → Prop) (nx3 : (Int) → Heap → Prop) (h_3 : Heap) : Prop :=
 if (decide (t8_3 < (t7_3.len : Int))) then (∃ s8 : Slc, (0 : Int) ≤ t8_3 ∧ (t8_3 : Int) ≤ (t7_3.len : Int) ∧ ((t7_3.len : Int) : Int) ≤ (t7_3.cap : Int) ∧ (t7_3.cap : Int) ≤ (t7_3.cap : Int) ∧ s8 = subS t7_3 1 t8_3.toNat (t7_3.len : Int).toNat (t7_3.cap : Int).toNat ∧ (∃ s9 : Slc, (0 : Int) ≤ 0 ∧ (0 : Int) ≤ t8_3 ∧ (t8_3 : Int) ≤ (t7_3.cap : Int) ∧ (t7_3.cap : Int) ≤ (t7_3.cap : Int) ∧ s9 = subS t7_3 1 (0 : Int).toNat t8_3.toNat (t7_3.cap : Int).toNat ∧ (∃ l10 : List Value, Cpy 1 h_3 s8 s9 l10 (fun h11 => nx3 (IntKind.i64.wrap (t8_3 + ((min s9.len s8.len : Nat) : Int))) h11)))) else (k t7_3 h_3)
def slices_Repeat_uint64_uint64_l3 (t7_3 : Slc) (i8 : Int) (k : (Slc) → Heap → Prop) (h : Heap) : Prop :=
 ∃ (I : Int → Heap → Prop) (μ : Int → Heap → Nat), I i8 h ∧ ∀ (t8_3 : Int) (h : Heap), I t8_3 h → slices_Repeat_uint64_uint64_l3b t7_3 t8_3 k (fun s h' => I s h' ∧ μ s h' < μ t8_3 h) h
def slices_Repeat_uint64_uint64_j2 (t0_2 : Slc) (t6_2 : Int) (k : (Slc) → Heap → Prop) (h_2 : Heap) : Prop :=
 ∃ (b3 : Nat) (h4 : Heap), (0 : Int) ≤ (IntKind.i64.wrap t6_2) ∧ ((IntKind.i64.wrap t6_2) : Int) ≤ (IntKind.i64.wrap t6_2) ∧ ((IntKind.i64.wrap t6_2) : Int) * 8 ≤ 281474976710656 ∧ ((IntKind.i64.wrap t6_2) : Int) ≤ 9223372036854775807 ∧ b3 = h_2.size ∧ h4 = h_2.push (.cells (zrow [.int .u64 0] (IntKind.i64.wrap t6_2).toNat).toArray 22) ∧ (∃ l5 : List Value, Cpy 1 h4 (⟨some ⟨b3, 0, none⟩, (IntKind.i64.wrap t6_2).toNat, (IntKind.i64.wrap t6_2).toNat⟩ : Slc) t0_2 l5 (fun h6 => ∃ x7 : Int, x7 = ((min t0_2.len (⟨some ⟨b3, 0, none⟩, (IntKind.i64.wrap t6_2).toNat, (IntKind.i64.wrap t6_2).toNat⟩ : Slc).len : Nat) : Int) ∧ (slices_Repeat_uint64_uint64_l3 (⟨some ⟨b3, 0, none⟩, (IntKind.i64.wrap t6_2).toNat, (IntKind.i64.wrap t6_2).toNat⟩ : Slc) x7 k h6)))
def slices_Repeat_uint64_uint64_j1 (t0_1 : Slc) (t1_1 : Int) (k : (Slc) → Heap → Prop) (h_1 : Heap) : Prop :=
 math_bits_Mul (IntKind.u64.wrap (t0_1.len : Int)) (IntKind.u64.wrap t1_1) (fun (r1 : Int × Int) h2 => if ((decide (r1.1 > 0)) || (decide (r1.2 > 9223372036854775807))) then (False) else (slices_Repeat_uint64_uint64_j2 t0_1 r1.2 k h2)) h_1
def slices_Repeat_uint64_uint64 (p0 : Slc) (p1 : Int) (k : (Slc) → Heap → Prop) (h : Heap) : Prop :=
 if (decide (p1 < 0)) then (False) else (slices_Repeat_uint64_uint64_j1 p0 p1 k h)

/-- quaestor raft.New -/
def raft_New (p0 : Int) (p1 : Int) (p2 : Int) (p3 : Int) (p4 : Option Addr) (p5 : Slc) (k : (Option Addr) → Heap → Prop) (h : Heap) : Prop :=
 if ((((decide (p1 < 1)) || (decide (p1 > 32))) || (decide (p0 < 0))) || (decide (p0 ≥ p1))) then (k none h) else (rlog_Log_Base p4 (fun (r1 : Int × Int) h2 => slices_Clone_byte_byte p5 (fun (r3 : Slc) h4 => ∃ (b5 : Nat) (h6 : Heap), b5 = h4.size ∧ h6 = h4.push (.cells (S_raft_Raft.cs (⟨p0, p1, p2, p3, none, r3, r1.1, 0, (-1), 0, none, (⟨none, 0, 0⟩ : Slc), (⟨none, 0, 0⟩ : Slc), (⟨none, 0, 0⟩ : Slc)⟩ : S_raft_Raft)).toArray 94) ∧ (rlog_Log_Entries p4 (fun (r7 : Slc) h8 => rlog_New r1.1 r1.2 r7 (fun (r9 : Option Addr) h10 => ∃ h11 : Heap, WrH h10 ((⟨b5, 0, none⟩ : Addr).add 4) ∧ h11 = setH h10 ((⟨b5, 0, none⟩ : Addr).add 4) (.pointer r9) ∧ (k (some (⟨b5, 0, none⟩ : Addr)) h11)) h8) h6)) h2) h)

/-- (*quaestor raft.Raft).patience -/
def raft_Raft_patience (p0 : Option Addr) (k : (Int) → Heap → Prop) (h : Heap) : Prop :=
 ∃ a1 : Addr, p0 = some a1 ∧ (∃ v2 : Int, cellH h a1 = some (.int .i64 v2) ∧ (∃ x3 : Int, x3 = (IntKind.i64.wrap (10 + (IntKind.i64.wrap (7 * v2)))) ∧ (k x3 h)))

/-- (*quaestor raft.Raft).keepTerm -/
def raft_Raft_keepTerm (p0 : Option Addr) (k : (Unit) → Heap → Prop) (h : Heap) : Prop :=
 ∃ a1 : Addr, p0 = some a1 ∧ (∃ v2 : Slc, cellH h (a1.add 13) = some (Slc.v v2) ∧ (∃ v3 : Int, cellH h (a1.add 2) = some (.int .u64 v3) ∧ (∃ v4 : Int, cellH h (a1.add 3) = some (.int .i64 v4) ∧ (∃ (b5 : Nat) (h6 : Heap), b5 = h.size ∧ h6 = h.push (.cells ((S_api_Keep.cs (⟨1, v3, v4, 0, (⟨none, 0, 0⟩ : Slc), (⟨none, 0, 0⟩ : Slc)⟩ : S_api_Keep))).toArray 107) ∧ (cellH h6 (a1.add 13) = some (Slc.v v2) ∧ (App 107 6 80 [.int .i64 0, .int .u64 0, .int .i64 0, .int .u64 0, .slice none 0 0, .slice none 0 0] h6 v2 1 ((S_api_Keep.cs (⟨1, v3, v4, 0, (⟨none, 0, 0⟩ : Slc), (⟨none, 0, 0⟩ : Slc)⟩ : S_api_Keep))) (fun s8 h9 => ∃ h10 : Heap, WrH h9 (a1.add 13) ∧ h10 = setH h9 (a1.add 13) (Slc.v s8) ∧ (k () h10))))))))

/-- (*quaestor raft.Raft).follow -/
def raft_Raft_follow_j1 (t0_1 : Option Addr) (t2_1 : Int) (k : (Unit) → Heap → Prop) (h_1 : Heap) : Prop :=
 ∃ a1 : Addr, t0_1 = some a1 ∧ (∃ h2 : Heap, WrH h_1 (a1.add 7) ∧ h2 = setH h_1 (a1.add 7) (.int .i64 0) ∧ (∃ h3 : Heap, WrH h2 (a1.add 8) ∧ h3 = setH h2 (a1.add 8) (.int .i64 t2_1) ∧ (∃ h4 : Heap, WrH h3 (a1.add 10) ∧ h4 = setH h3 (a1.add 10) (.pointer none) ∧ (k () h4))))
def raft_Raft_follow (p0 : Option Addr) (p1 : Int) (p2 : Int) (k : (Unit) → Heap → Prop) (h : Heap) : Prop :=
 ∃ a5 : Addr, p0 = some a5 ∧ (∃ v6 : Int, cellH h (a5.add 2) = some (.int .u64 v6) ∧ (if (decide (p1 > v6)) then (∃ h7 : Heap, WrH h (a5.add 2) ∧ h7 = setH h (a5.add 2) (.int .u64 p1) ∧ (∃ h8 : Heap, WrH h7 (a5.add 3) ∧ h8 = setH h7 (a5.add 3) (.int .i64 0) ∧ (raft_Raft_keepTerm p0 (fun (r9 : Unit) h10 => raft_Raft_follow_j1 p0 p2 k h10) h8))) else (raft_Raft_follow_j1 p0 p2 k h)))

/-- (*quaestor raft.Raft).due -/
def raft_Raft_due (p0 : Option Addr) (p1 : Int) (k : (S_api_Msg) → Heap → Prop) (h : Heap) : Prop :=
 ∃ (b1 : Nat) (h2 : Heap), b1 = h.size ∧ h2 = h.push (.cells (S_api_Msg.cs (⟨0, 0, 0, 0, 0, false, (⟨none, 0, 0⟩ : Slc), (⟨none, 0, 0⟩ : Slc)⟩ : S_api_Msg)).toArray 26) ∧ (∃ a3 : Addr, p0 = some a3 ∧ (∃ v4 : Slc, cellH h2 (a3.add 11) = some (Slc.v v4) ∧ (∃ a5 : Addr, v4.a = some a5 ∧ (0 : Int) ≤ p1 ∧ p1 < (v4.len : Int) ∧ (∃ v6 : Int, cellH h2 (a5.add (p1.toNat * 1)) = some (.int .u64 v6) ∧ (∃ v7 : Option Addr, cellH h2 (a3.add 4) = some (.pointer v7) ∧ (rlog_Log_Base v7 (fun (r8 : Int × Int) h9 => if (decide (v6 ≤ r8.1)) then (∃ v10 : Int, cellH h9 (a3.add 2) = some (.int .u64 v10) ∧ (∃ v11 : Int, cellH h9 (a3.add 6) = some (.int .u64 v11) ∧ (∃ v12 : Slc, cellH h9 (a3.add 5) = some (Slc.v v12) ∧ (slices_Clone_byte_byte v12 (fun (r13 : Slc) h14 => cellH h14 (a3.add 6) = some (.int .u64 v11) ∧ cellH h14 (a3.add 2) = some (.int .u64 v10) ∧ (∃ h17 : Heap, WrsAt h14 (⟨b1, 0, none⟩ : Addr) 8 ∧ h17 = setsH h14 (⟨b1, 0, none⟩ : Addr) 0 (S_api_Msg.cs (⟨5, v10, r8.1, r8.2, v11, false, (⟨none, 0, 0⟩ : Slc), r13⟩ : S_api_Msg)) ∧ (∃ v18 : S_api_Msg, CellsAt h17 (⟨b1, 0, none⟩ : Addr) (S_api_Msg.cs v18) ∧ k v18 h17))) h9)))) else (∃ v19 : Option Addr, cellH h9 (a3.add 4) = some (.pointer v19) ∧ (rlog_Log_From v19 v6 4 (fun (r20 : Slc × Int) h21 => ∃ v22 : Option Addr, cellH h21 (a3.add 4) = some (.pointer v22) ∧ (rlog_Log_Term v22 (IntKind.u64.wrap (v6 - 1)) (fun (r23 : Int × Int) h24 => ∃ v25 : Int, cellH h24 (a3.add 2) = some (.int .u64 v25) ∧ (∃ v26 : Int, cellH h24 (a3.add 6) = some (.int .u64 v26) ∧ (∃ h27 : Heap, WrsAt h24 (⟨b1, 0, none⟩ : Addr) 8 ∧ h27 = setsH h24 (⟨b1, 0, none⟩ : Addr) 0 (S_api_Msg.cs (⟨3, v25, (IntKind.u64.wrap (v6 - 1)), r23.1, v26, false, r20.1, (⟨none, 0, 0⟩ : Slc)⟩ : S_api_Msg)) ∧ (∃ v28 : S_api_Msg, CellsAt h27 (⟨b1, 0, none⟩ : Addr) (S_api_Msg.cs v28) ∧ k v28 h27)))) h21)) h9))) h2))))))

/-- (*quaestor raft.Raft).settle -/
def raft_Raft_settle_g1 (t0_1 : Option Addr) (t2_1 : Int) (t36_1 : Bool) (k : (Unit) → Heap → Prop) (h_1 : Heap) : Prop :=
 if t36_1 then (∃ a9 : Addr, t0_1 = some a9 ∧ (∃ h10 : Heap, WrH h_1 (a9.add 6) ∧ h10 = setH h_1 (a9.add 6) (.int .u64 t2_1) ∧ (k () h10))) else (k () h_1)
def raft_Raft_settle (p0 : Option Addr) (k : (Unit) → Heap → Prop) (h : Heap) : Prop :=
 ∃ a1 : Addr, p0 = some a1 ∧ (∃ v2 : Slc, cellH h (a1.add 12) = some (Slc.v v2) ∧ (vote_Commit v2 (fun (r3 : Int) h4 => ∃ v5 : Option Addr, cellH h4 (a1.add 4) = some (.pointer v5) ∧ (rlog_Log_Term v5 r3 (fun (r6 : Int × Int) h7 => ∃ v8 : Int, cellH h7 (a1.add 6) = some (.int .u64 v8) ∧ (if ((decide (r3 > v8)) && (r6.2 == 0)) then (∃ v11 : Int, cellH h7 (a1.add 2) = some (.int .u64 v11) ∧ (raft_Raft_settle_g1 p0 r3 (r6.1 == v11) k h7)) else (raft_Raft_settle_g1 p0 r3 false k h7))) h4)) h))

/-- (*quaestor raft.Raft).put -/
def raft_Raft_put (p0 : Option Addr) (p1 : Slc) (k : (Int × Int) → Heap → Prop) (h : Heap) : Prop :=
 ∃ a1 : Addr, p0 = some a1 ∧ (∃ v2 : Option Addr, cellH h (a1.add 4) = some (.pointer v2) ∧ (rlog_Log_Last v2 (fun (r3 : Int × Int) h4 => ∃ v5 : Int, cellH h4 (a1.add 2) = some (.int .u64 v5) ∧ (slices_Clone_byte_byte p1 (fun (r6 : Slc) h7 => cellH h7 (a1.add 2) = some (.int .u64 v5) ∧ (∃ (b9 : Nat) (h10 : Heap), b9 = h7.size ∧ h10 = h7.push (.cells ((S_api_Entry.cs (⟨v5, r6⟩ : S_api_Entry))).toArray 65) ∧ (∃ v11 : Option Addr, cellH h10 (a1.add 4) = some (.pointer v11) ∧ (rlog_Log_Append v11 r3.1 r3.2 (⟨some ⟨b9, 0, none⟩, 1, 1⟩ : Slc) (fun (r12 : Int × Int) h13 => if (r12.2 != 0) then (k (0, r12.2) h13) else (∃ v14 : Slc, cellH h13 (a1.add 13) = some (Slc.v v14) ∧ (∃ (b15 : Nat) (h16 : Heap), b15 = h13.size ∧ h16 = h13.push (.cells ((S_api_Keep.cs (⟨2, r3.2, 0, r3.1, (⟨some ⟨b9, 0, none⟩, 1, 1⟩ : Slc), (⟨none, 0, 0⟩ : Slc)⟩ : S_api_Keep))).toArray 107) ∧ (App 107 6 80 [.int .i64 0, .int .u64 0, .int .i64 0, .int .u64 0, .slice none 0 0, .slice none 0 0] h16 v14 1 ((S_api_Keep.cs (⟨2, r3.2, 0, r3.1, (⟨some ⟨b9, 0, none⟩, 1, 1⟩ : Slc), (⟨none, 0, 0⟩ : Slc)⟩ : S_api_Keep))) (fun s17 h18 => ∃ h19 : Heap, WrH h18 (a1.add 13) ∧ h19 = setH h18 (a1.add 13) (Slc.v s17) ∧ (∃ v20 : Slc, cellH h19 (a1.add 12) = some (Slc.v v20) ∧ (∃ v21 : Int, cellH h19 a1 = some (.int .i64 v21) ∧ (∃ a22 : Addr, v20.a = some a22 ∧ (0 : Int) ≤ v21 ∧ v21 < (v20.len : Int) ∧ (∃ h23 : Heap, WrH h19 (a22.add (v21.toNat * 1)) ∧ h23 = setH h19 (a22.add (v21.toNat * 1)) (.int .u64 r12.1) ∧ (raft_Raft_settle p0 (fun (r24 : Unit) h25 => k (r12.1, 0) h25) h23)))))))))) h10)))) h4)) h))

/-- (*quaestor raft.Raft).others -/
def raft_Raft_others__raft_Raft_due_j2 (t0_2 : Option Addr) (t1c0_2 : Option Addr) (t10_2 : Int) (t11_2 : Int) (t5_2 : Slc) (k : (Slc) → Heap → Prop) (nx1 : (Slc × Int) → Heap → Prop) (h_2 : Heap) : Prop :=
 nx1 (t5_2, (IntKind.i64.wrap (t11_2 + 1))) h_2
def raft_Raft_others__raft_Raft_due_l1b (t0_1 : Option Addr) (t1c0_1 : Option Addr) (t10_1 : Int) (t5_1 : Slc) (t11_1 : Int) (k : (Slc) → Heap → Prop) (nx1 : (Slc × Int) → Heap → Prop) (h_1 : Heap) : Prop :=
 if (decide (t11_1 < t10_1)) then (∃ a3 : Addr, t0_1 = some a3 ∧ (∃ v4 : Int, cellH h_1 a3 = some (.int .i64 v4) ∧ (if (t11_1 != v4) then (raft_Raft_due t1c0_1 t11_1 (fun (r5 : S_api_Msg) h6 => ∃ (b7 : Nat) (h8 : Heap), b7 = h6.size ∧ h8 = h6.push (.cells ((S_api_Mail.cs (⟨t11_1, r5⟩ : S_api_Mail))).toArray 45) ∧ (App 45 9 104 [.int .i64 0, .int .i64 0, .int .u64 0, .int .u64 0, .int .u64 0, .int .u64 0, .bool false, .slice none 0 0, .slice none 0 0] h8 t5_1 1 ((S_api_Mail.cs (⟨t11_1, r5⟩ : S_api_Mail))) (fun s9 h10 => raft_Raft_others__raft_Raft_due_j2 t0_1 t1c0_1 t10_1 t11_1 s9 k nx1 h10))) h_1) else (raft_Raft_others__raft_Raft_due_j2 t0_1 t1c0_1 t10_1 t11_1 t5_1 k nx1 h_1)))) else (k t5_1 h_1)
def raft_Raft_others__raft_Raft_due_l1 (t0_1 : Option Addr) (t1c0_1 : Option Addr) (t10_1 : Int) (i5 : Slc) (i11 : Int) (k : (Slc) → Heap → Prop) (h : Heap) : Prop :=
 ∃ (I : (Slc × Int) → Heap → Prop) (μ : (Slc × Int) → Heap → Nat), I (i5, i11) h ∧ ∀ (t5_1 : Slc) (t11_1 : Int) (h : Heap), I (t5_1, t11_1) h → raft_Raft_others__raft_Raft_due_l1b t0_1 t1c0_1 t10_1 t5_1 t11_1 k (fun s h' => I s h' ∧ μ s h' < μ (t5_1, t11_1) h) h
def raft_Raft_others__raft_Raft_due (p0 : Option Addr) (p1c0 : Option Addr) (k : (Slc) → Heap → Prop) (h : Heap) : Prop :=
 ∃ a1 : Addr, p0 = some a1 ∧ (∃ v2 : Int, cellH h (a1.add 1) = some (.int .i64 v2) ∧ (raft_Raft_others__raft_Raft_due_l1 p0 p1c0 v2 (⟨none, 0, 0⟩ : Slc) 0 k h))

/-- (*quaestor raft.Raft).win -/
def raft_Raft_win_j2 (t0_2 : Option Addr) (t3_2 : Int) (k : (Slc) → Heap → Prop) (h_2 : Heap) : Prop :=
 ∃ a12 : Addr, t0_2 = some a12 ∧ (∃ v13 : Slc, cellH h_2 (a12.add 12) = some (Slc.v v13) ∧ (∃ v14 : Int, cellH h_2 a12 = some (.int .i64 v14) ∧ (∃ a15 : Addr, v13.a = some a15 ∧ (0 : Int) ≤ v14 ∧ v14 < (v13.len : Int) ∧ (∃ h16 : Heap, WrH h_2 (a15.add (v14.toNat * 1)) ∧ h16 = setH h_2 (a15.add (v14.toNat * 1)) (.int .u64 t3_2) ∧ (raft_Raft_put t0_2 (⟨none, 0, 0⟩ : Slc) (fun (r17 : Int × Int) h18 => raft_Raft_others__raft_Raft_due t0_2 t0_2 (fun (r19 : Slc) h20 => k r19 h20) h18) h16)))))
def raft_Raft_win_g1 (t0_1 : Option Addr) (t17_1 : Bool) (k : (Slc) → Heap → Prop) (h_1 : Heap) : Prop :=
 if t17_1 then (k (⟨none, 0, 0⟩ : Slc) h_1) else (∃ a3 : Addr, t0_1 = some a3 ∧ (∃ v4 : Option Addr, cellH h_1 (a3.add 4) = some (.pointer v4) ∧ (rlog_Log_Last v4 (fun (r5 : Int × Int) h6 => ∃ v7 : Int, cellH h6 a3 = some (.int .i64 v7) ∧ (∃ h8 : Heap, WrH h6 (a3.add 7) ∧ h8 = setH h6 (a3.add 7) (.int .i64 2) ∧ (∃ h9 : Heap, WrH h8 (a3.add 8) ∧ h9 = setH h8 (a3.add 8) (.int .i64 v7) ∧ (∃ h10 : Heap, WrH h9 (a3.add 9) ∧ h10 = setH h9 (a3.add 9) (.int .i64 0) ∧ (∃ h11 : Heap, WrH h10 (a3.add 10) ∧ h11 = setH h10 (a3.add 10) (.pointer none) ∧ (∃ v21 : Int, cellH h11 (a3.add 1) = some (.int .i64 v21) ∧ (∃ v22 : Int, cellH h11 (a3.add 1) = some (.int .i64 v22) ∧ ((∃ (b23 : Nat) (h24 : Heap), b23 = h11.size ∧ h24 = h11.push (.cells ([.int .u64 (IntKind.u64.wrap (r5.1 + 1))]).toArray 22) ∧ (cellH h24 (a3.add 1) = some (.int .i64 v22) ∧ cellH h24 (a3.add 1) = some (.int .i64 v21) ∧ ((slices_Repeat_uint64_uint64 (⟨some ⟨b23, 0, none⟩, 1, 1⟩ : Slc) v21 (fun (r27 : Slc) h28 => cellH h28 (a3.add 1) = some (.int .i64 v22) ∧ ((∃ (b30 : Nat) (h31 : Heap), (0 : Int) ≤ v22 ∧ (v22 : Int) ≤ v22 ∧ (v22 : Int) * 8 ≤ 281474976710656 ∧ (v22 : Int) ≤ 9223372036854775807 ∧ b30 = h28.size ∧ h31 = h28.push (.cells (zrow [.int .u64 0] v22.toNat).toArray 22) ∧ (∃ h32 : Heap, WrH h31 (a3.add 11) ∧ h32 = setH h31 (a3.add 11) (Slc.v r27) ∧ (∃ h33 : Heap, WrH h32 (a3.add 12) ∧ h33 = setH h32 (a3.add 12) (Slc.v (⟨some ⟨b30, 0, none⟩, v22.toNat, v22.toNat⟩ : Slc)) ∧ (raft_Raft_win_j2 t0_1 r5.1 k h33)))) ∧ (∃ h34 : Heap, WrH h28 (a3.add 11) ∧ h34 = setH h28 (a3.add 11) (Slc.v r27) ∧ (∃ (b35 : Nat) (h36 : Heap), (0 : Int) ≤ v22 ∧ (v22 : Int) ≤ v22 ∧ (v22 : Int) * 8 ≤ 281474976710656 ∧ (v22 : Int) ≤ 9223372036854775807 ∧ b35 = h34.size ∧ h36 = h34.push (.cells (zrow [.int .u64 0] v22.toNat).toArray 22) ∧ (∃ h37 : Heap, WrH h36 (a3.add 12) ∧ h37 = setH h36 (a3.add 12) (Slc.v (⟨some ⟨b35, 0, none⟩, v22.toNat, v22.toNat⟩ : Slc)) ∧ (raft_Raft_win_j2 t0_1 r5.1 k h37)))))) h24) ∧ (∃ (b38 : Nat) (h39 : Heap), (0 : Int) ≤ v22 ∧ (v22 : Int) ≤ v22 ∧ (v22 : Int) * 8 ≤ 281474976710656 ∧ (v22 : Int) ≤ 9223372036854775807 ∧ b38 = h24.size ∧ h39 = h24.push (.cells (zrow [.int .u64 0] v22.toNat).toArray 22) ∧ (cellH h39 (a3.add 1) = some (.int .i64 v21) ∧ (slices_Repeat_uint64_uint64 (⟨some ⟨b23, 0, none⟩, 1, 1⟩ : Slc) v21 (fun (r41 : Slc) h42 => ∃ h43 : Heap, WrH h42 (a3.add 11) ∧ h43 = setH h42 (a3.add 11) (Slc.v r41) ∧ (∃ h44 : Heap, WrH h43 (a3.add 12) ∧ h44 = setH h43 (a3.add 12) (Slc.v (⟨some ⟨b38, 0, none⟩, v22.toNat, v22.toNat⟩ : Slc)) ∧ (raft_Raft_win_j2 t0_1 r5.1 k h44))) h39)))))) ∧ (∃ (b45 : Nat) (h46 : Heap), (0 : Int) ≤ v22 ∧ (v22 : Int) ≤ v22 ∧ (v22 : Int) * 8 ≤ 281474976710656 ∧ (v22 : Int) ≤ 9223372036854775807 ∧ b45 = h11.size ∧ h46 = h11.push (.cells (zrow [.int .u64 0] v22.toNat).toArray 22) ∧ (cellH h46 (a3.add 1) = some (.int .i64 v21) ∧ (∃ (b48 : Nat) (h49 : Heap), b48 = h46.size ∧ h49 = h46.push (.cells ([.int .u64 (IntKind.u64.wrap (r5.1 + 1))]).toArray 22) ∧ (cellH h49 (a3.add 1) = some (.int .i64 v21) ∧ (slices_Repeat_uint64_uint64 (⟨some ⟨b48, 0, none⟩, 1, 1⟩ : Slc) v21 (fun (r51 : Slc) h52 => ∃ h53 : Heap, WrH h52 (a3.add 11) ∧ h53 = setH h52 (a3.add 11) (Slc.v r51) ∧ (∃ h54 : Heap, WrH h53 (a3.add 12) ∧ h54 = setH h53 (a3.add 12) (Slc.v (⟨some ⟨b45, 0, none⟩, v22.toNat, v22.toNat⟩ : Slc)) ∧ (raft_Raft_win_j2 t0_1 r5.1 k h54))) h49))))))))))))) h_1)))
def raft_Raft_win (p0 : Option Addr) (k : (Slc) → Heap → Prop) (h : Heap) : Prop :=
 ∃ a1 : Addr, p0 = some a1 ∧ (∃ v2 : Int, cellH h (a1.add 7) = some (.int .i64 v2) ∧ (if (v2 != 1) then (raft_Raft_win_g1 p0 true k h) else (∃ v55 : Option Addr, cellH h (a1.add 10) = some (.pointer v55) ∧ (vote_Ballot_Won v55 (fun (r56 : Bool) h57 => raft_Raft_win_g1 p0 (!r56) k h57) h))))

/-- (*quaestor raft.Raft).campaign 1 -/
def raft_Raft_campaign_1 (p0 : Int) (p1 : Addr) (p2 : Addr) (p3 : Addr) (k : (S_api_Msg) → Heap → Prop) (h : Heap) : Prop :=
 ∃ (b1 : Nat) (h2 : Heap), b1 = h.size ∧ h2 = h.push (.cells (S_api_Msg.cs (⟨0, 0, 0, 0, 0, false, (⟨none, 0, 0⟩ : Slc), (⟨none, 0, 0⟩ : Slc)⟩ : S_api_Msg)).toArray 26) ∧ (∃ v3 : Option Addr, cellH h2 p1 = some (.pointer v3) ∧ (∃ a4 : Addr, v3 = some a4 ∧ (∃ v5 : Int, cellH h2 (a4.add 2) = some (.int .u64 v5) ∧ (∃ v6 : Int, cellH h2 p2 = some (.int .u64 v6) ∧ (∃ v7 : Int, cellH h2 p3 = some (.int .u64 v7) ∧ (∃ h8 : Heap, WrsAt h2 (⟨b1, 0, none⟩ : Addr) 8 ∧ h8 = setsH h2 (⟨b1, 0, none⟩ : Addr) 0 (S_api_Msg.cs (⟨1, v5, v6, v7, 0, false, (⟨none, 0, 0⟩ : Slc), (⟨none, 0, 0⟩ : Slc)⟩ : S_api_Msg)) ∧ (∃ v9 : S_api_Msg, CellsAt h8 (⟨b1, 0, none⟩ : Addr) (S_api_Msg.cs v9) ∧ k v9 h8)))))))

/-- (*quaestor raft.Raft).others -/
def raft_Raft_others__raft_Raft_campaign_1_j2 (t0_2 : Option Addr) (t1c0_2 : Addr) (t1c1_2 : Addr) (t1c2_2 : Addr) (t10_2 : Int) (t11_2 : Int) (t5_2 : Slc) (k : (Slc) → Heap → Prop) (nx1 : (Slc × Int) → Heap → Prop) (h_2 : Heap) : Prop :=
 nx1 (t5_2, (IntKind.i64.wrap (t11_2 + 1))) h_2
def raft_Raft_others__raft_Raft_campaign_1_l1b (t0_1 : Option Addr) (t1c0_1 : Addr) (t1c1_1 : Addr) (t1c2_1 : Addr) (t10_1 : Int) (t5_1 : Slc) (t11_1 : Int) (k : (Slc) → Heap → Prop) (nx1 : (Slc × Int) → Heap → Prop) (h_1 : Heap) : Prop :=
 if (decide (t11_1 < t10_1)) then (∃ a3 : Addr, t0_1 = some a3 ∧ (∃ v4 : Int, cellH h_1 a3 = some (.int .i64 v4) ∧ (if (t11_1 != v4) then (raft_Raft_campaign_1 t11_1 t1c0_1 t1c1_1 t1c2_1 (fun (r5 : S_api_Msg) h6 => ∃ (b7 : Nat) (h8 : Heap), b7 = h6.size ∧ h8 = h6.push (.cells ((S_api_Mail.cs (⟨t11_1, r5⟩ : S_api_Mail))).toArray 45) ∧ (App 45 9 104 [.int .i64 0, .int .i64 0, .int .u64 0, .int .u64 0, .int .u64 0, .int .u64 0, .bool false, .slice none 0 0, .slice none 0 0] h8 t5_1 1 ((S_api_Mail.cs (⟨t11_1, r5⟩ : S_api_Mail))) (fun s9 h10 => raft_Raft_others__raft_Raft_campaign_1_j2 t0_1 t1c0_1 t1c1_1 t1c2_1 t10_1 t11_1 s9 k nx1 h10))) h_1) else (raft_Raft_others__raft_Raft_campaign_1_j2 t0_1 t1c0_1 t1c1_1 t1c2_1 t10_1 t11_1 t5_1 k nx1 h_1)))) else (k t5_1 h_1)
def raft_Raft_others__raft_Raft_campaign_1_l1 (t0_1 : Option Addr) (t1c0_1 : Addr) (t1c1_1 : Addr) (t1c2_1 : Addr) (t10_1 : Int) (i5 : Slc) (i11 : Int) (k : (Slc) → Heap → Prop) (h : Heap) : Prop :=
 ∃ (I : (Slc × Int) → Heap → Prop) (μ : (Slc × Int) → Heap → Nat), I (i5, i11) h ∧ ∀ (t5_1 : Slc) (t11_1 : Int) (h : Heap), I (t5_1, t11_1) h → raft_Raft_others__raft_Raft_campaign_1_l1b t0_1 t1c0_1 t1c1_1 t1c2_1 t10_1 t5_1 t11_1 k (fun s h' => I s h' ∧ μ s h' < μ (t5_1, t11_1) h) h
def raft_Raft_others__raft_Raft_campaign_1 (p0 : Option Addr) (p1c0 : Addr) (p1c1 : Addr) (p1c2 : Addr) (k : (Slc) → Heap → Prop) (h : Heap) : Prop :=
 ∃ a1 : Addr, p0 = some a1 ∧ (∃ v2 : Int, cellH h (a1.add 1) = some (.int .i64 v2) ∧ (raft_Raft_others__raft_Raft_campaign_1_l1 p0 p1c0 p1c1 p1c2 v2 (⟨none, 0, 0⟩ : Slc) 0 k h))

/-- (*quaestor raft.Raft).campaign -/
def raft_Raft_campaign (p0 : Option Addr) (k : (Slc) → Heap → Prop) (h : Heap) : Prop :=
 ∃ (b1 : Nat) (h2 : Heap), b1 = h.size ∧ h2 = h.push (.cells ([.pointer p0]).toArray 37) ∧ (∃ v3 : Option Addr, cellH h2 (⟨b1, 0, none⟩ : Addr) = some (.pointer v3) ∧ (∃ a4 : Addr, v3 = some a4 ∧ (∃ v5 : Int, cellH h2 (a4.add 2) = some (.int .u64 v5) ∧ (if (decide (v5 ≥ 4611686018427387904)) then (k (⟨none, 0, 0⟩ : Slc) h2) else (∃ v6 : Option Addr, cellH h2 (⟨b1, 0, none⟩ : Addr) = some (.pointer v6) ∧ (∃ a7 : Addr, v6 = some a7 ∧ (∃ v8 : Int, cellH h2 (a7.add 2) = some (.int .u64 v8) ∧ (∃ h9 : Heap, WrH h2 (a7.add 2) ∧ h9 = setH h2 (a7.add 2) (.int .u64 (IntKind.u64.wrap (v8 + 1))) ∧ (∃ v10 : Option Addr, cellH h9 (⟨b1, 0, none⟩ : Addr) = some (.pointer v10) ∧ (∃ v11 : Option Addr, cellH h9 (⟨b1, 0, none⟩ : Addr) = some (.pointer v11) ∧ (∃ v12 : Option Addr, cellH h9 (⟨b1, 0, none⟩ : Addr) = some (.pointer v12) ∧ (∃ v13 : Option Addr, cellH h9 (⟨b1, 0, none⟩ : Addr) = some (.pointer v13) ∧ (∃ v14 : Option Addr, cellH h9 (⟨b1, 0, none⟩ : Addr) = some (.pointer v14) ∧ (∃ a15 : Addr, v14 = some a15 ∧ (∃ v16 : Int, cellH h9 a15 = some (.int .i64 v16) ∧ (∃ a17 : Addr, v10 = some a17 ∧ (∃ h18 : Heap, WrH h9 (a17.add 7) ∧ h18 = setH h9 (a17.add 7) (.int .i64 1) ∧ (cellH h18 (⟨b1, 0, none⟩ : Addr) = some (.pointer v13) ∧ cellH h18 (⟨b1, 0, none⟩ : Addr) = some (.pointer v12) ∧ cellH h18 (⟨b1, 0, none⟩ : Addr) = some (.pointer v11) ∧ (∃ a22 : Addr, v11 = some a22 ∧ (∃ h23 : Heap, WrH h18 (a22.add 8) ∧ h23 = setH h18 (a22.add 8) (.int .i64 (-1)) ∧ (cellH h23 (⟨b1, 0, none⟩ : Addr) = some (.pointer v13) ∧ cellH h23 (⟨b1, 0, none⟩ : Addr) = some (.pointer v12) ∧ (∃ a26 : Addr, v12 = some a26 ∧ (∃ h27 : Heap, WrH h23 (a26.add 9) ∧ h27 = setH h23 (a26.add 9) (.int .i64 0) ∧ (cellH h27 (⟨b1, 0, none⟩ : Addr) = some (.pointer v13) ∧ (∃ a29 : Addr, v13 = some a29 ∧ (∃ h30 : Heap, WrH h27 (a29.add 3) ∧ h30 = setH h27 (a29.add 3) (.int .i64 (IntKind.i64.wrap (v16 + 1))) ∧ (∃ v31 : Option Addr, cellH h30 (⟨b1, 0, none⟩ : Addr) = some (.pointer v31) ∧ (raft_Raft_keepTerm v31 (fun (r32 : Unit) h33 => ∃ v34 : Option Addr, cellH h33 (⟨b1, 0, none⟩ : Addr) = some (.pointer v34) ∧ (∃ v35 : Option Addr, cellH h33 (⟨b1, 0, none⟩ : Addr) = some (.pointer v35) ∧ (∃ a36 : Addr, v35 = some a36 ∧ (∃ v37 : Int, cellH h33 (a36.add 1) = some (.int .i64 v37) ∧ (vote_New v37 (fun (r38 : Option Addr) h39 => cellH h39 (⟨b1, 0, none⟩ : Addr) = some (.pointer v34) ∧ (∃ a41 : Addr, v34 = some a41 ∧ (∃ h42 : Heap, WrH h39 (a41.add 10) ∧ h42 = setH h39 (a41.add 10) (.pointer r38) ∧ (∃ v43 : Option Addr, cellH h42 (⟨b1, 0, none⟩ : Addr) = some (.pointer v43) ∧ (∃ a44 : Addr, v43 = some a44 ∧ (∃ v45 : Option Addr, cellH h42 (a44.add 10) = some (.pointer v45) ∧ (∃ v46 : Option Addr, cellH h42 (⟨b1, 0, none⟩ : Addr) = some (.pointer v46) ∧ (∃ a47 : Addr, v46 = some a47 ∧ (∃ v48 : Int, cellH h42 a47 = some (.int .i64 v48) ∧ (vote_Ballot_Yes v45 v48 (fun (r49 : Bool) h50 => ∃ v51 : Option Addr, cellH h50 (⟨b1, 0, none⟩ : Addr) = some (.pointer v51) ∧ (∃ a52 : Addr, v51 = some a52 ∧ (∃ v53 : Option Addr, cellH h50 (a52.add 4) = some (.pointer v53) ∧ (rlog_Log_Last v53 (fun (r54 : Int × Int) h55 => ∃ (b56 : Nat) (h57 : Heap), b56 = h55.size ∧ h57 = h55.push (.cells ([.int .u64 0]).toArray 22) ∧ (∃ (b58 : Nat) (h59 : Heap), b58 = h57.size ∧ h59 = h57.push (.cells ([.int .u64 0]).toArray 22) ∧ (∃ h60 : Heap, WrH h59 (⟨b56, 0, none⟩ : Addr) ∧ h60 = setH h59 (⟨b56, 0, none⟩ : Addr) (.int .u64 r54.1) ∧ (∃ h61 : Heap, WrH h60 (⟨b58, 0, none⟩ : Addr) ∧ h61 = setH h60 (⟨b58, 0, none⟩ : Addr) (.int .u64 r54.2) ∧ (∃ v62 : Option Addr, cellH h61 (⟨b1, 0, none⟩ : Addr) = some (.pointer v62) ∧ (raft_Raft_others__raft_Raft_campaign_1 v62 (⟨b1, 0, none⟩ : Addr) (⟨b56, 0, none⟩ : Addr) (⟨b58, 0, none⟩ : Addr) (fun (r63 : Slc) h64 => ∃ v65 : Option Addr, cellH h64 (⟨b1, 0, none⟩ : Addr) = some (.pointer v65) ∧ (raft_Raft_win v65 (fun (r66 : Slc) h67 => ∃ l70 : List Value, SlcAt h67 r66 l70 ∧ App 45 9 104 [.int .i64 0, .int .i64 0, .int .u64 0, .int .u64 0, .int .u64 0, .int .u64 0, .bool false, .slice none 0 0, .slice none 0 0] h67 r63 r66.len l70 (fun s68 h69 => k s68 h69)) h64)) h61)))))) h50)))) h42)))))))))) h33))))) h30))))))))))))))))))))))))))))

/-- (*quaestor raft.Raft).Tick -/
def raft_Raft_Tick_j2 (t0_2 : Option Addr) (t30_2 : Bool) (k : (Slc) → Heap → Prop) (h_2 : Heap) : Prop :=
 if t30_2 then (raft_Raft_campaign t0_2 (fun (r7 : Slc) h8 => k r7 h8) h_2) else (k (⟨none, 0, 0⟩ : Slc) h_2)
def raft_Raft_Tick_g1 (t0_1 : Option Addr) (t25_1 : Bool) (k : (Slc) → Heap → Prop) (h_1 : Heap) : Prop :=
 if t25_1 then (raft_Raft_others__raft_Raft_due t0_1 t0_1 (fun (r5 : Slc) h6 => k r5 h6) h_1) else (∃ a9 : Addr, t0_1 = some a9 ∧ (∃ v10 : Int, cellH h_1 (a9.add 7) = some (.int .i64 v10) ∧ (if (v10 != 2) then (∃ v11 : Int, cellH h_1 (a9.add 9) = some (.int .i64 v11) ∧ (raft_Raft_patience t0_1 (fun (r12 : Int) h13 => cellH h13 (a9.add 9) = some (.int .i64 v11) ∧ (raft_Raft_Tick_j2 t0_1 (decide (v11 ≥ r12)) k h13)) h_1)) else (raft_Raft_Tick_j2 t0_1 false k h_1))))
def raft_Raft_Tick (p0 : Option Addr) (k : (Slc) → Heap → Prop) (h : Heap) : Prop :=
 if (p0.isNone) then (k (⟨none, 0, 0⟩ : Slc) h) else (∃ a1 : Addr, p0 = some a1 ∧ (∃ v2 : Int, cellH h (a1.add 9) = some (.int .i64 v2) ∧ (∃ h3 : Heap, WrH h (a1.add 9) ∧ h3 = setH h (a1.add 9) (.int .i64 (IntKind.i64.wrap (v2 + 1))) ∧ (∃ v4 : Int, cellH h3 (a1.add 7) = some (.int .i64 v4) ∧ (if (v4 == 2) then (∃ v15 : Int, cellH h3 (a1.add 9) = some (.int .i64 v15) ∧ (raft_Raft_Tick_g1 p0 ((Int.tmod v15 3) == 0) k h3)) else (raft_Raft_Tick_g1 p0 false k h3))))))

/-- (*quaestor raft.Raft).Propose -/
def raft_Raft_Propose_g1 (t0_1 : Option Addr) (t1_1 : Slc) (t14_1 : Bool) (k : (Int × Int) → Heap → Prop) (h_1 : Heap) : Prop :=
 if t14_1 then (k (0, 18) h_1) else (raft_Raft_put t0_1 t1_1 (fun (r1 : Int × Int) h2 => k (r1.1, r1.2) h2) h_1)
def raft_Raft_Propose (p0 : Option Addr) (p1 : Slc) (k : (Int × Int) → Heap → Prop) (h : Heap) : Prop :=
 if (p0.isNone) then (raft_Raft_Propose_g1 p0 p1 true k h) else (∃ a3 : Addr, p0 = some a3 ∧ (∃ v4 : Int, cellH h (a3.add 7) = some (.int .i64 v4) ∧ (raft_Raft_Propose_g1 p0 p1 (v4 != 2) k h)))

/-- (*quaestor raft.Raft).Committed -/
def raft_Raft_Committed (p0 : Option Addr) (k : (Int) → Heap → Prop) (h : Heap) : Prop :=
 if (p0.isNone) then (k 0 h) else (∃ a1 : Addr, p0 = some a1 ∧ (∃ v2 : Int, cellH h (a1.add 6) = some (.int .u64 v2) ∧ (k v2 h)))

/-- (*quaestor raft.Raft).Entry -/
def raft_Raft_Entry (p0 : Option Addr) (p1 : Int) (k : (S_api_Entry × Int) → Heap → Prop) (h : Heap) : Prop :=
 ∃ (b1 : Nat) (h2 : Heap), b1 = h.size ∧ h2 = h.push (.cells (S_api_Entry.cs (⟨0, (⟨none, 0, 0⟩ : Slc)⟩ : S_api_Entry)).toArray 65) ∧ (if (p0.isNone) then (∃ h3 : Heap, WrsAt h2 (⟨b1, 0, none⟩ : Addr) 2 ∧ h3 = setsH h2 (⟨b1, 0, none⟩ : Addr) 0 (S_api_Entry.cs (⟨0, (⟨none, 0, 0⟩ : Slc)⟩ : S_api_Entry)) ∧ (∃ v4 : S_api_Entry, CellsAt h3 (⟨b1, 0, none⟩ : Addr) (S_api_Entry.cs v4) ∧ k (v4, 6) h3)) else (∃ a5 : Addr, p0 = some a5 ∧ (∃ v6 : Option Addr, cellH h2 (a5.add 4) = some (.pointer v6) ∧ (rlog_Log_Term v6 p1 (fun (r7 : Int × Int) h8 => if (r7.2 != 0) then (∃ h9 : Heap, WrsAt h8 (⟨b1, 0, none⟩ : Addr) 2 ∧ h9 = setsH h8 (⟨b1, 0, none⟩ : Addr) 0 (S_api_Entry.cs (⟨0, (⟨none, 0, 0⟩ : Slc)⟩ : S_api_Entry)) ∧ (∃ v10 : S_api_Entry, CellsAt h9 (⟨b1, 0, none⟩ : Addr) (S_api_Entry.cs v10) ∧ k (v10, r7.2) h9)) else (∃ v11 : Option Addr, cellH h8 (a5.add 4) = some (.pointer v11) ∧ (rlog_Log_From v11 p1 1 (fun (r12 : Slc × Int) h13 => if ((r12.2 != 0) || ((r12.1.len : Int) == 0)) then (∃ h14 : Heap, WrsAt h13 (⟨b1, 0, none⟩ : Addr) 2 ∧ h14 = setsH h13 (⟨b1, 0, none⟩ : Addr) 0 (S_api_Entry.cs (⟨0, (⟨none, 0, 0⟩ : Slc)⟩ : S_api_Entry)) ∧ (∃ v15 : S_api_Entry, CellsAt h14 (⟨b1, 0, none⟩ : Addr) (S_api_Entry.cs v15) ∧ k (v15, 13) h14)) else (∃ a16 : Addr, r12.1.a = some a16 ∧ (0 : Int) ≤ 0 ∧ 0 < (r12.1.len : Int) ∧ (∃ v17 : S_api_Entry, CellsAt h13 (a16.add ((0 : Int).toNat * 2)) (S_api_Entry.cs v17) ∧ (∃ h18 : Heap, WrsAt h13 (⟨b1, 0, none⟩ : Addr) 2 ∧ h18 = setsH h13 (⟨b1, 0, none⟩ : Addr) 0 (S_api_Entry.cs v17) ∧ (∃ v19 : S_api_Entry, CellsAt h18 (⟨b1, 0, none⟩ : Addr) (S_api_Entry.cs v19) ∧ k (v19, 0) h18))))) h8))) h2))))

/-- (*quaestor raft.Raft).Leads -/
def raft_Raft_Leads_g1 (t11_1 : Bool) (k : (Bool) → Heap → Prop) (h_1 : Heap) : Prop :=
 k t11_1 h_1
def raft_Raft_Leads (p0 : Option Addr) (k : (Bool) → Heap → Prop) (h : Heap) : Prop :=
 if (!p0.isNone) then (∃ a1 : Addr, p0 = some a1 ∧ (∃ v2 : Int, cellH h (a1.add 7) = some (.int .i64 v2) ∧ (raft_Raft_Leads_g1 (v2 == 2) k h))) else (raft_Raft_Leads_g1 false k h)

/-- (*quaestor raft.Raft).Leader -/
def raft_Raft_Leader (p0 : Option Addr) (k : (Int) → Heap → Prop) (h : Heap) : Prop :=
 if (p0.isNone) then (∃ x1 : Int, x1 = (-1) ∧ (k x1 h)) else (∃ a2 : Addr, p0 = some a2 ∧ (∃ v3 : Int, cellH h (a2.add 8) = some (.int .i64 v3) ∧ (k v3 h)))

/-- (*quaestor raft.Raft).Term -/
def raft_Raft_Term (p0 : Option Addr) (k : (Int) → Heap → Prop) (h : Heap) : Prop :=
 if (p0.isNone) then (k 0 h) else (∃ a1 : Addr, p0 = some a1 ∧ (∃ v2 : Int, cellH h (a1.add 2) = some (.int .u64 v2) ∧ (k v2 h)))

theorem math_bits_Mul32_ok : CallOk Go.Proofs.Try.prog 86 := ⟨_, Go.Proofs.Try.func86, by kernel_rfl, by kernel_rfl⟩
theorem math_bits_Mul32_ref (p0 : Int) (p1 : Int) (k : (Int × Int) → Heap → Prop) (h : Heap) (H : math_bits_Mul32 p0 p1 k h) : CallsH Go.Proofs.Try.prog 86 #[.int .u32 p0, .int .u32 p1] h (fun v h' => ∃ r : Int × Int, v = .tuple #[.int .u32 r.1, .int .u32 r.2] ∧ k r h') := by
 refine f_enter (N := 17) Go.Proofs.Try.func86 rfl rfl rfl (fun w0 => ?_)
 unfold math_bits_Mul32 at H
 refine c_weak [(0, .int .u32 p0), (1, .int .u32 p1)] ⟨rfl, rfl, trivial⟩ ?_
 refine c_seq (c_region ?_)
 iterate 2 refine wP tok ?_
 refine w_end (x_seq ?_)
 refine c_seq (c_region ?_)
 iterate 5 refine wP tok ?_
 obtain ⟨x1, ex1, H⟩ := H
 refine w_pe tok rfl (congrArg (fun z => (.int .u64 z : Value)) ex1) rfl rfl ?_
 refine w_end (x_seq ?_)
 refine c_weak [(6, .int .u64 x1)] ⟨rfl, trivial⟩ ?_
 refine c_seq (c_region ?_)
 iterate 5 refine wP tok ?_
 obtain ⟨x2, ex2, H⟩ := H
 refine w_pe tok rfl (congrArg (fun z => (.int .u32 z : Value)) ex2) rfl rfl ?_
 obtain ⟨x3, ex3, H⟩ := H
 refine w_pe tok rfl (congrArg (fun z => (.int .u32 z : Value)) ex3) rfl rfl ?_
 refine w_end (x_seq (c_ret ?_))
 exact x_ret _ rfl _ rfl ⟨(x2, x3), rfl, H⟩

theorem math_bits_Mul64_ok : CallOk Go.Proofs.Try.prog 87 := ⟨_, Go.Proofs.Try.func87, by kernel_rfl, by kernel_rfl⟩
theorem math_bits_Mul64_ref (p0 : Int) (p1 : Int) (k : (Int × Int) → Heap → Prop) (h : Heap) (H : math_bits_Mul64 p0 p1 k h) : CallsH Go.Proofs.Try.prog 87 #[.int .u64 p0, .int .u64 p1] h (fun v h' => ∃ r : Int × Int, v = .tuple #[.int .u64 r.1, .int .u64 r.2] ∧ k r h') := by
 refine f_enter (N := 51) Go.Proofs.Try.func87 rfl rfl rfl (fun w0 => ?_)
 unfold math_bits_Mul64 at H
 refine c_weak [(0, .int .u64 p0), (1, .int .u64 p1)] ⟨rfl, rfl, trivial⟩ ?_
 refine c_seq (c_region ?_)
 iterate 2 refine wP tok ?_
 refine w_end (x_seq ?_)
 refine c_seq (c_region ?_)
 iterate 2 refine wP tok ?_
 obtain ⟨x1, ex1, H⟩ := H
 refine w_pe tok rfl (congrArg (fun z => (.int .u64 z : Value)) ex1) rfl rfl ?_
 refine w_end (x_seq ?_)
 refine c_seq (c_region ?_)
 iterate 2 refine wP tok ?_
 obtain ⟨x2, ex2, H⟩ := H
 refine w_pe tok rfl (congrArg (fun z => (.int .u64 z : Value)) ex2) rfl rfl ?_
 refine w_end (x_seq ?_)
 refine c_seq (c_region ?_)
 iterate 2 refine wP tok ?_
 obtain ⟨x3, ex3, H⟩ := H
 refine w_pe tok rfl (congrArg (fun z => (.int .u64 z : Value)) ex3) rfl rfl ?_
 refine w_end (x_seq ?_)
 refine c_weak [(0, .int .u64 p0), (1, .int .u64 p1), (6, .int .u64 x1), (7, .int .u64 x2), (8, .int .u64 x3)] ⟨rfl, rfl, rfl, rfl, rfl, trivial⟩ ?_
 refine c_seq (c_region ?_)
 iterate 2 refine wP tok ?_
 obtain ⟨x4, ex4, H⟩ := H
 refine w_pe tok rfl (congrArg (fun z => (.int .u64 z : Value)) ex4) rfl rfl ?_
 refine w_end (x_seq ?_)
 refine c_seq (c_region ?_)
 iterate 3 refine wP tok ?_
 obtain ⟨x5, ex5, H⟩ := H
 refine w_pe tok rfl (congrArg (fun z => (.int .u64 z : Value)) ex5) rfl rfl ?_
 refine w_end (x_seq ?_)
 refine c_seq (c_region ?_)
 iterate 6 refine wP tok ?_
 obtain ⟨x6, ex6, H⟩ := H
 refine w_pe tok rfl (congrArg (fun z => (.int .u64 z : Value)) ex6) rfl rfl ?_
 refine w_end (x_seq ?_)
 refine c_weak [(0, .int .u64 p0), (1, .int .u64 p1), (6, .int .u64 x1), (7, .int .u64 x2), (9, .int .u64 x4), (11, .int .u64 x6)] ⟨rfl, rfl, rfl, rfl, rfl, rfl, trivial⟩ ?_
 refine c_seq (c_region ?_)
 iterate 2 refine wP tok ?_
 obtain ⟨x7, ex7, H⟩ := H
 refine w_pe tok rfl (congrArg (fun z => (.int .u64 z : Value)) ex7) rfl rfl ?_
 refine w_end (x_seq ?_)
 refine c_seq (c_region ?_)
 iterate 2 refine wP tok ?_
 obtain ⟨x8, ex8, H⟩ := H
 refine w_pe tok rfl (congrArg (fun z => (.int .u64 z : Value)) ex8) rfl rfl ?_
 refine w_end (x_seq ?_)
 refine c_seq (c_region ?_)
 iterate 5 refine wP tok ?_
 obtain ⟨x9, ex9, H⟩ := H
 refine w_pe tok rfl (congrArg (fun z => (.int .u64 z : Value)) ex9) rfl rfl ?_
 refine w_end (x_seq ?_)
 refine c_weak [(0, .int .u64 p0), (1, .int .u64 p1), (7, .int .u64 x2), (9, .int .u64 x4), (12, .int .u64 x9), (13, .int .u64 x8)] ⟨rfl, rfl, rfl, rfl, rfl, rfl, trivial⟩ ?_
 refine c_seq (c_region ?_)
 iterate 8 refine wP tok ?_
 obtain ⟨x10, ex10, H⟩ := H
 refine w_pe tok rfl (congrArg (fun z => (.int .u64 z : Value)) ex10) rfl rfl ?_
 refine w_end (x_seq ?_)
 refine c_weak [(0, .int .u64 p0), (1, .int .u64 p1), (4, .int .u64 x10)] ⟨rfl, rfl, rfl, trivial⟩ ?_
 refine c_seq (c_region ?_)
 iterate 3 refine wP tok ?_
 obtain ⟨x11, ex11, H⟩ := H
 refine w_pe tok rfl (congrArg (fun z => (.int .u64 z : Value)) ex11) rfl rfl ?_
 refine w_end (x_seq (c_ret ?_))
 exact x_ret _ rfl _ rfl ⟨(x10, x11), rfl, H⟩

theorem math_bits_Mul_ok : CallOk Go.Proofs.Try.prog 81 := ⟨_, Go.Proofs.Try.func81, by kernel_rfl, by kernel_rfl⟩
theorem math_bits_Mul_ref (p0 : Int) (p1 : Int) (k : (Int × Int) → Heap → Prop) (h : Heap) (H : math_bits_Mul p0 p1 k h) : CallsH Go.Proofs.Try.prog 81 #[.int .u64 p0, .int .u64 p1] h (fun v h' => ∃ r : Int × Int, v = .tuple #[.int .u64 r.1, .int .u64 r.2] ∧ k r h') := by
 refine f_enter (N := 30) Go.Proofs.Try.func81 rfl rfl rfl (fun w0 => ?_)
 unfold math_bits_Mul at H
 refine c_weak [(0, .int .u64 p0), (1, .int .u64 p1)] ⟨rfl, rfl, trivial⟩ ?_
 refine c_seq (c_region ?_)
 iterate 2 refine wP tok ?_
 refine w_end (x_seq (c_seq ?_))
 refine c_if H rfl (fun H => ?_) (fun H => ?_)
 ·
  refine c_seq (c_region ?_)
  iterate 4 refine wP tok ?_
  refine w_call math_bits_Mul32_ok (math_bits_Mul32_ref _ _ _ _ H) rfl rfl rfl rfl ?_
  rintro _ h2 ⟨r1, rfl, H⟩
  iterate 5 refine wP tok ?_
  refine w_end (x_seq ?_)
  refine c_weak [(6, .int .u32 r1.1), (7, .int .u32 r1.2)] ⟨rfl, rfl, trivial⟩ ?_
  refine c_seq (c_region ?_)
  iterate 4 refine wP tok ?_
  obtain ⟨x3, ex3, H⟩ := H
  refine w_pe tok rfl (congrArg (fun z => (.int .u64 z : Value)) ex3) rfl rfl ?_
  obtain ⟨x4, ex4, H⟩ := H
  refine w_pe tok rfl (congrArg (fun z => (.int .u64 z : Value)) ex4) rfl rfl ?_
  refine w_end (x_seq ?_)
  refine c_ret (x_tr ?_)
  exact x_ret _ rfl _ rfl ⟨(x3, x4), rfl, H⟩
 ·
  refine c_skip (x_seq ?_)
  refine c_seq (c_region ?_)
  iterate 2 refine wP tok ?_
  refine w_call math_bits_Mul64_ok (math_bits_Mul64_ref _ _ _ _ H) rfl rfl rfl rfl ?_
  rintro _ h6 ⟨r5, rfl, H⟩
  iterate 5 refine wP tok ?_
  refine w_end (x_seq ?_)
  refine c_weak [(8, .int .u64 r5.1), (9, .int .u64 r5.2)] ⟨rfl, rfl, trivial⟩ ?_
  refine c_seq (c_region ?_)
  iterate 4 refine wP tok ?_
  refine w_end (x_seq (c_ret ?_))
  exact x_ret _ rfl _ rfl ⟨(r5.1, r5.2), rfl, H⟩

theorem slices_Repeat_uint64_uint64_ok : CallOk Go.Proofs.Try.prog 71 := ⟨_, Go.Proofs.Try.func71, by kernel_rfl, by kernel_rfl⟩
theorem slices_Repeat_uint64_uint64_ref (p0 : Slc) (p1 : Int) (k : (Slc) → Heap → Prop) (h : Heap) (H : slices_Repeat_uint64_uint64 p0 p1 k h) : CallsH Go.Proofs.Try.prog 71 #[Slc.v p0, .int .i64 p1] h (fun v h' => ∃ r : Slc, v = Slc.v r ∧ k r h') := by
 refine f_enter (N := 48) Go.Proofs.Try.func71 rfl rfl rfl (fun w0 => ?_)
 unfold slices_Repeat_uint64_uint64 at H
 refine c_weak [(0, Slc.v p0), (1, .int .i64 p1)] ⟨rfl, rfl, trivial⟩ ?_
 refine c_seq (c_region ?_)
 refine wP tok ?_
 refine w_end (x_seq ?_)
 refine c_seqJ (α := Unit) (fun (s : Unit) => [(0, Slc.v p0), (1, .int .i64 p1)]) (fun (s : Unit) h => slices_Repeat_uint64_uint64_j1 p0 p1 k h) ?_ ?_
 ·
  rintro _ h_1 H
  replace H : slices_Repeat_uint64_uint64_j1 p0 p1 k h_1 := H
  unfold slices_Repeat_uint64_uint64_j1 at H
  refine c_weak [(0, Slc.v p0), (1, .int .i64 p1)] ⟨rfl, rfl, trivial⟩ ?_
  refine c_seq (c_region ?_)
  iterate 5 refine wP tok ?_
  refine w_call math_bits_Mul_ok (math_bits_Mul_ref _ _ _ _ H) rfl rfl rfl rfl ?_
  rintro _ h2 ⟨r1, rfl, H⟩
  iterate 5 refine wP tok ?_
  refine w_end (x_seq ?_)
  refine c_weak [(0, Slc.v p0), (5, .int .u64 r1.1), (6, .int .u64 r1.2)] ⟨rfl, rfl, rfl, trivial⟩ ?_
  refine c_seqJ (α := Unit) (fun (s : Unit) => [(0, Slc.v p0), (6, .int .u64 r1.2)]) (fun (s : Unit) h => slices_Repeat_uint64_uint64_j2 p0 r1.2 k h) ?_ ?_
  ·
   rintro _ h_2 H
   replace H : slices_Repeat_uint64_uint64_j2 p0 r1.2 k h_2 := H
   unfold slices_Repeat_uint64_uint64_j2 at H
   refine c_weak [(0, Slc.v p0), (6, .int .u64 r1.2)] ⟨rfl, rfl, trivial⟩ ?_
   refine c_seq (c_region ?_)
   iterate 2 refine wP tok ?_
   obtain ⟨b3, h4, ph4, qh4, rh4, th4, eb3, eh4, H⟩ := H
   refine w_h (h_mk tok rfl rfl rfl rfl rfl rfl ph4 qh4 rh4 th4 eb3 eh4) rfl rfl ?_
   refine wP tok ?_
   refine w_end (x_seq ?_)
   refine c_seq (c_region ?_)
   iterate 2 refine wP tok ?_
   obtain ⟨l5, H⟩ := H
   refine w_a (a_cpy (d := (⟨some ⟨b3, 0, none⟩, (IntKind.i64.wrap r1.2).toNat, (IntKind.i64.wrap r1.2).toNat⟩ : Slc)) (s := p0) tok rfl rfl rfl rfl rfl H) rfl rfl ?_
   rintro _ h6 ⟨rfl, H⟩
   obtain ⟨x7, ex7, H⟩ := H
   refine w_pe tok rfl (congrArg (fun z => (.int .i64 z : Value)) ex7) rfl rfl ?_
   refine w_end (x_seq ?_)
   refine c_weak [(7, Slc.v (⟨some ⟨b3, 0, none⟩, (IntKind.i64.wrap r1.2).toNat, (IntKind.i64.wrap r1.2).toNat⟩ : Slc)), (8, .int .i64 x7)] ⟨rfl, rfl, trivial⟩ ?_
   refine c_seq (c_block ?_)
   obtain ⟨I3, μ3, H0, HI⟩ := H
   refine c_loop (σ := Int) (fun (s : Int) => [(8, .int .i64 s), (7, Slc.v (⟨some ⟨b3, 0, none⟩, (IntKind.i64.wrap r1.2).toNat, (IntKind.i64.wrap r1.2).toNat⟩ : Slc))]) I3 μ3 x7 H0 ⟨rfl, rfl, trivial⟩ ?_
   rintro t8_3 h_3 H
   replace H := HI t8_3 h_3 H
   unfold slices_Repeat_uint64_uint64_l3b at H
   refine c_weak [(8, .int .i64 t8_3), (7, Slc.v (⟨some ⟨b3, 0, none⟩, (IntKind.i64.wrap r1.2).toNat, (IntKind.i64.wrap r1.2).toNat⟩ : Slc))] ⟨rfl, rfl, trivial⟩ ?_
   refine c_seq (c_seq (c_region ?_))
   iterate 4 refine wP tok ?_
   refine w_end (x_seq ?_)
   refine c_if H rfl (fun H => ?_) (fun H => ?_)
   ·
    refine c_skip (x_seq (c_block ?_))
    refine c_sim [(7, Slc.v (⟨some ⟨b3, 0, none⟩, (IntKind.i64.wrap r1.2).toNat, (IntKind.i64.wrap r1.2).toNat⟩ : Slc)), (8, .int .i64 t8_3)] (by kernel_rfl) (by kernel_rfl) ⟨rfl, rfl, trivial⟩ (fun wf => ?_)
    refine sQ 0 [(8, .int .i64 t8_3)] (some 38) tok wf ⟨rfl, trivial⟩ (fun P_0 => ?_)
    refine sQ 1 [(7, Slc.v (⟨some ⟨b3, 0, none⟩, (IntKind.i64.wrap r1.2).toNat, (IntKind.i64.wrap r1.2).toNat⟩ : Slc))] (some 39) tok wf ⟨rfl, trivial⟩ (fun P_1 => ?_)
    refine sQ 2 [(8, .int .i64 t8_3)] (some 40) tok wf ⟨rfl, trivial⟩ (fun P_2 => ?_)
    obtain ⟨s8, ps8, qs8, rs8, ts8, es8, H⟩ := H
    refine sP 3 [(39, Slc.v (⟨some ⟨b3, 0, none⟩, (IntKind.i64.wrap r1.2).toNat, (IntKind.i64.wrap r1.2).toNat⟩ : Slc)), (40, .int .i64 t8_3)] (some 41) wf ⟨rfl, rfl, trivial⟩ (fun _ => pf_ye rfl rfl rfl (y_sl (s := (⟨some ⟨b3, 0, none⟩, (IntKind.i64.wrap r1.2).toNat, (IntKind.i64.wrap r1.2).toNat⟩ : Slc)) (L := t8_3) (H := ((⟨some ⟨b3, 0, none⟩, (IntKind.i64.wrap r1.2).toNat, (IntKind.i64.wrap r1.2).toNat⟩ : Slc).len : Int)) (M := ((⟨some ⟨b3, 0, none⟩, (IntKind.i64.wrap r1.2).toNat, (IntKind.i64.wrap r1.2).toNat⟩ : Slc).cap : Int)) tok rfl rfl rfl rfl rfl rfl rfl (by simp) ps8 qs8 rs8 ts8) (congrArg Slc.v es8)) (fun P_3 => ?_)
    refine sQ 4 [(7, Slc.v (⟨some ⟨b3, 0, none⟩, (IntKind.i64.wrap r1.2).toNat, (IntKind.i64.wrap r1.2).toNat⟩ : Slc))] (some 42) tok wf ⟨rfl, trivial⟩ (fun P_4 => ?_)
    refine sQ 5 [(8, .int .i64 t8_3)] (some 43) tok wf ⟨rfl, trivial⟩ (fun P_5 => ?_)
    obtain ⟨s9, ps9, qs9, rs9, ts9, es9, H⟩ := H
    refine sP 6 [(42, Slc.v (⟨some ⟨b3, 0, none⟩, (IntKind.i64.wrap r1.2).toNat, (IntKind.i64.wrap r1.2).toNat⟩ : Slc)), (43, .int .i64 t8_3)] (some 44) wf ⟨rfl, rfl, trivial⟩ (fun _ => pf_ye rfl rfl rfl (y_sl (s := (⟨some ⟨b3, 0, none⟩, (IntKind.i64.wrap r1.2).toNat, (IntKind.i64.wrap r1.2).toNat⟩ : Slc)) (L := 0) (H := t8_3) (M := ((⟨some ⟨b3, 0, none⟩, (IntKind.i64.wrap r1.2).toNat, (IntKind.i64.wrap r1.2).toNat⟩ : Slc).cap : Int)) tok rfl rfl rfl rfl rfl rfl rfl (by simp) ps9 qs9 rs9 ts9) (congrArg Slc.v es9)) (fun P_6 => ?_)
    obtain ⟨l10, H⟩ := H
    refine sim_a 7 [1, 2, 3, 4, 5, 6] [1, 2, 3, 4, 5, 6] (ei := [(41, Slc.v s8), (44, Slc.v s9)]) wf ⟨P_6 _, P_5 _, P_4 _, P_3 _, P_2 _, P_1 _, P_0 _, trivial⟩ (by kernel_rfl) ⟨rfl, rfl, trivial⟩ (by kernel_rfl) rfl rfl rfl (a_cpy (d := s8) (s := s9) tok rfl rfl rfl rfl rfl H) ?_
    rintro _ h11 ⟨rfl, H⟩
    refine sQ 8 [(38, .int .i64 t8_3), (45, .int .i64 ((min s9.len s8.len : Nat) : Int))] (some 46) tok wf ⟨rfl, rfl, trivial⟩ (fun P_8 => ?_)
    refine sQ 9 [(46, .int .i64 (IntKind.i64.wrap (t8_3 + ((min s9.len s8.len : Nat) : Int))))] (some 8) tok wf ⟨rfl, trivial⟩ (fun P_9 => ?_)
    refine sim_end wf ⟨P_9 _, P_8 _, trivial, trivial, trivial, trivial, trivial, trivial, P_0 _, trivial⟩ (by kernel_rfl) ?_
    clear wf P_0 P_1 P_2 P_3 P_4 P_5 P_6 P_8 P_9
    refine x_blk ?_
    exact x_join (IntKind.i64.wrap (t8_3 + ((min s9.len s8.len : Nat) : Int))) H ⟨rfl, rfl, trivial⟩
   ·
    refine c_exit ?_
    refine x_te (x_te ?_)
    refine x_bh ?_
    refine x_seq (c_seq (c_region ?_))
    iterate 2 refine wP tok ?_
    refine w_end (x_seq ?_)
    refine c_weak [(4, Slc.v (⟨some ⟨b3, 0, none⟩, (IntKind.i64.wrap r1.2).toNat, (IntKind.i64.wrap r1.2).toNat⟩ : Slc))] ⟨rfl, trivial⟩ ?_
    refine c_ret ?_
    exact x_ret _ rfl _ rfl ⟨(⟨some ⟨b3, 0, none⟩, (IntKind.i64.wrap r1.2).toNat, (IntKind.i64.wrap r1.2).toNat⟩ : Slc), rfl, H⟩
  ·
   refine c_seq (c_region ?_)
   iterate 3 refine wP tok ?_
   refine w_cutU 3 [(26, .bool ((decide (r1.1 > 0)) || (decide (r1.2 > 9223372036854775807)))), (0, Slc.v p0), (6, .int .u64 r1.2)] ?_ ?_
   ·
    refine w_end (x_seq ?_)
    refine c_if H rfl (fun H => ?_) (fun H => ?_)
    ·
     refine c_region ?_
     exact H.elim
    ·
     refine c_skip ?_
     exact x_join () H ⟨rfl, rfl, trivial⟩
   ·
    refine w_gs (d := 23) rfl (fun hb => ?_) (fun hb => ?_)
    ·
     iterate 2 refine w_skip rfl rfl ?_
     refine wP tok ?_
     refine w_jn () rfl ⟨?_, rfl, rfl, trivial⟩
     exact congrArg (fun b => some (Value.bool b)) (or_t hb)
    ·
     iterate 3 refine wP tok ?_
     refine w_jn () rfl ⟨?_, rfl, rfl, trivial⟩
     exact congrArg (fun b => some (Value.bool b)) (or_f hb)
 ·
  refine c_seq (c_region ?_)
  iterate 2 refine wP tok ?_
  refine w_end (x_seq ?_)
  refine c_if H rfl (fun H => ?_) (fun H => ?_)
  ·
   refine c_region ?_
   exact H.elim
  ·
   refine c_skip ?_
   exact x_join () H ⟨rfl, rfl, trivial⟩

theorem raft_New_ok : CallOk Go.Proofs.Try.prog 13 := ⟨_, Go.Proofs.Try.func13, by kernel_rfl, by kernel_rfl⟩
theorem raft_New_ref (p0 : Int) (p1 : Int) (p2 : Int) (p3 : Int) (p4 : Option Addr) (p5 : Slc) (k : (Option Addr) → Heap → Prop) (h : Heap) (H : raft_New p0 p1 p2 p3 p4 p5 k h) : CallsH Go.Proofs.Try.prog 13 #[.int .i64 p0, .int .i64 p1, .int .u64 p2, .int .i64 p3, .pointer p4, Slc.v p5] h (fun v h' => ∃ r : Option Addr, v = .pointer r ∧ k r h') := by
 refine f_enter (N := 54) Go.Proofs.Try.func13 rfl rfl rfl (fun w0 => ?_)
 unfold raft_New at H
 refine c_weak [(0, .int .i64 p0), (1, .int .i64 p1), (2, .int .u64 p2), (3, .int .i64 p3), (4, .pointer p4), (5, Slc.v p5)] ⟨rfl, rfl, rfl, rfl, rfl, rfl, trivial⟩ ?_
 refine c_seq (c_region ?_)
 refine wP tok ?_
 refine w_end (x_seq ?_)
 refine c_seq (c_seq (c_region ?_))
 iterate 3 refine wP tok ?_
 refine w_cutU 3 [(21, .bool ((decide (p1 < 1)) || (decide (p1 > 32)))), (0, .int .i64 p0), (1, .int .i64 p1), (2, .int .u64 p2), (3, .int .i64 p3), (4, .pointer p4), (5, Slc.v p5)] ?_ ?_
 ·
  refine wP tok ?_
  refine w_cutU 3 [(25, .bool (((decide (p1 < 1)) || (decide (p1 > 32))) || (decide (p0 < 0)))), (0, .int .i64 p0), (1, .int .i64 p1), (2, .int .u64 p2), (3, .int .i64 p3), (4, .pointer p4), (5, Slc.v p5)] ?_ ?_
  ·
   refine wP tok ?_
   refine w_cutU 4 [(30, .bool ((((decide (p1 < 1)) || (decide (p1 > 32))) || (decide (p0 < 0))) || (decide (p0 ≥ p1)))), (0, .int .i64 p0), (1, .int .i64 p1), (2, .int .u64 p2), (3, .int .i64 p3), (4, .pointer p4), (5, Slc.v p5)] ?_ ?_
   ·
    refine w_end (x_seq ?_)
    refine c_if H rfl (fun H => ?_) (fun H => ?_)
    ·
     refine c_seq (c_region ?_)
     refine wP tok ?_
     refine w_end (x_seq ?_)
     refine c_weak [(12, .pointer none)] ⟨rfl, trivial⟩ ?_
     refine c_ret (x_tr ?_)
     exact x_ret _ rfl _ rfl ⟨none, rfl, H⟩
    ·
     refine c_skip (x_seq ?_)
     refine c_seq (c_region ?_)
     refine wP tok ?_
     refine w_call rlog_Log_Base_ok (rlog_Log_Base_ref _ _ _ H) rfl rfl rfl rfl ?_
     rintro _ h2 ⟨r1, rfl, H⟩
     iterate 5 refine wP tok ?_
     refine w_end (x_seq ?_)
     refine c_seq (c_region ?_)
     iterate 6 refine wP tok ?_
     refine w_call slices_Clone_byte_byte_ok (slices_Clone_byte_byte_ref _ _ _ H) rfl rfl rfl rfl ?_
     rintro _ h4 ⟨r3, rfl, H⟩
     refine w_y (y_build tok rfl rfl rfl rfl rfl) rfl rfl ?_
     obtain ⟨b5, h6, eb5, eh6, H⟩ := H
     refine w_h (h_box rfl rfl eb5 eh6) rfl rfl ?_
     refine wP tok ?_
     refine w_end (x_seq ?_)
     refine c_weak [(4, .pointer p4), (13, .int .u64 r1.1), (14, .int .u64 r1.2), (15, .pointer (some (⟨b5, 0, none⟩ : Addr)))] ⟨rfl, rfl, rfl, rfl, trivial⟩ ?_
     refine c_seq (c_region ?_)
     iterate 4 refine wP tok ?_
     refine w_call rlog_Log_Entries_ok (rlog_Log_Entries_ref _ _ _ H) rfl rfl rfl rfl ?_
     rintro _ h8 ⟨r7, rfl, H⟩
     refine w_call rlog_New_ok (rlog_New_ref _ _ _ _ _ H) rfl rfl rfl rfl ?_
     rintro _ h10 ⟨r9, rfl, H⟩
     refine w_y (y_nil rfl rfl) rfl rfl ?_
     refine wP tok ?_
     obtain ⟨h11, wh11, eh11, H⟩ := H
     refine w_h (h_st tok rfl rfl rfl rfl rfl rfl wh11 eh11) rfl rfl ?_
     refine w_end (x_seq ?_)
     refine c_weak [(15, .pointer (some (⟨b5, 0, none⟩ : Addr)))] ⟨rfl, trivial⟩ ?_
     refine c_seq (c_region ?_)
     iterate 2 refine wP tok ?_
     refine w_end (x_seq (c_ret ?_))
     exact x_ret _ rfl _ rfl ⟨(some (⟨b5, 0, none⟩ : Addr)), rfl, H⟩
   ·
    refine w_gs (d := 26) rfl (fun hb => ?_) (fun hb => ?_)
    ·
     iterate 3 refine w_skip rfl rfl ?_
     refine wP tok ?_
     refine w_jn () rfl ⟨?_, rfl, rfl, rfl, rfl, rfl, rfl, trivial⟩
     exact congrArg (fun b => some (Value.bool b)) (or_t hb)
    ·
     iterate 4 refine wP tok ?_
     refine w_jn () rfl ⟨?_, rfl, rfl, rfl, rfl, rfl, rfl, trivial⟩
     exact congrArg (fun b => some (Value.bool b)) (or_f hb)
  ·
   refine w_gs (d := 22) rfl (fun hb => ?_) (fun hb => ?_)
   ·
    iterate 2 refine w_skip rfl rfl ?_
    refine wP tok ?_
    refine w_jn () rfl ⟨?_, rfl, rfl, rfl, rfl, rfl, rfl, trivial⟩
    exact congrArg (fun b => some (Value.bool b)) (or_t hb)
   ·
    iterate 3 refine wP tok ?_
    refine w_jn () rfl ⟨?_, rfl, rfl, rfl, rfl, rfl, rfl, trivial⟩
    exact congrArg (fun b => some (Value.bool b)) (or_f hb)
 ·
  refine w_gs (d := 18) rfl (fun hb => ?_) (fun hb => ?_)
  ·
   iterate 2 refine w_skip rfl rfl ?_
   refine wP tok ?_
   refine w_jn () rfl ⟨?_, rfl, rfl, rfl, rfl, rfl, rfl, trivial⟩
   exact congrArg (fun b => some (Value.bool b)) (or_t hb)
  ·
   iterate 3 refine wP tok ?_
   refine w_jn () rfl ⟨?_, rfl, rfl, rfl, rfl, rfl, rfl, trivial⟩
   exact congrArg (fun b => some (Value.bool b)) (or_f hb)

theorem raft_Raft_patience_ok : CallOk Go.Proofs.Try.prog 43 := ⟨_, Go.Proofs.Try.func43, by kernel_rfl, by kernel_rfl⟩
theorem raft_Raft_patience_ref (p0 : Option Addr) (k : (Int) → Heap → Prop) (h : Heap) (H : raft_Raft_patience p0 k h) : CallsH Go.Proofs.Try.prog 43 #[.pointer p0] h (fun v h' => ∃ r : Int, v = .int .i64 r ∧ k r h') := by
 refine f_enter (N := 9) Go.Proofs.Try.func43 rfl rfl rfl (fun w0 => ?_)
 unfold raft_Raft_patience at H
 refine c_weak [(0, .pointer p0)] ⟨rfl, trivial⟩ ?_
 refine c_seq (c_region ?_)
 refine wP tok ?_
 refine w_end (x_seq ?_)
 refine c_seq (c_region ?_)
 refine wP tok ?_
 obtain ⟨a1, ha1, H⟩ := H
 refine w_y (y_nil' rfl rfl ha1) rfl rfl ?_
 refine wP tok ?_
 obtain ⟨v2, hv2, H⟩ := H
 refine w_y (y_ld tok rfl rfl rfl rfl hv2) rfl rfl ?_
 iterate 2 refine wP tok ?_
 obtain ⟨x3, ex3, H⟩ := H
 refine w_pe tok rfl (congrArg (fun z => (.int .i64 z : Value)) ex3) rfl rfl ?_
 refine w_end (x_seq ?_)
 refine c_weak [(2, .int .i64 x3)] ⟨rfl, trivial⟩ ?_
 refine c_ret ?_
 exact x_ret _ rfl _ rfl ⟨x3, rfl, H⟩

theorem raft_Raft_keepTerm_ok : CallOk Go.Proofs.Try.prog 64 := ⟨_, Go.Proofs.Try.func64, by kernel_rfl, by kernel_rfl⟩
theorem raft_Raft_keepTerm_ref (p0 : Option Addr) (k : (Unit) → Heap → Prop) (h : Heap) (H : raft_Raft_keepTerm p0 k h) : CallsH Go.Proofs.Try.prog 64 #[.pointer p0] h (fun v h' => ∃ r : Unit, v = .tuple #[] ∧ k r h') := by
 refine f_enter (N := 20) Go.Proofs.Try.func64 rfl rfl rfl (fun w0 => ?_)
 unfold raft_Raft_keepTerm at H
 refine c_weak [(0, .pointer p0)] ⟨rfl, trivial⟩ ?_
 refine c_sim [(0, .pointer p0)] (by kernel_rfl) (by kernel_rfl) ⟨rfl, trivial⟩ (fun wf => ?_)
 refine sQ 0 [(0, .pointer p0)] (some 2) tok wf ⟨rfl, trivial⟩ (fun P_0 => ?_)
 refine sQ 1 [(0, .pointer p0)] (some 3) tok wf ⟨rfl, trivial⟩ (fun P_1 => ?_)
 obtain ⟨a1, ha1, H⟩ := H
 refine sP 2 [(3, .pointer p0)] (some 4) wf ⟨rfl, trivial⟩ (fun _ => pf_y rfl rfl rfl (y_nil' rfl rfl ha1)) (fun P_2 => ?_)
 refine sQ 3 [(4, .pointer (some a1))] (some 5) tok wf ⟨rfl, trivial⟩ (fun P_3 => ?_)
 obtain ⟨v2, hv2, H⟩ := H
 refine sL 4 [(5, .pointer (some (a1.add 13)))] (some 6) wf ⟨rfl, trivial⟩ (pf_y rfl rfl rfl (y_ld tok rfl rfl rfl rfl hv2)) (fun P_4 => ?_)
 refine sQ 5 [(0, .pointer p0)] (some 7) tok wf ⟨rfl, trivial⟩ (fun P_5 => ?_)
 refine sP 6 [(7, .pointer p0)] (some 8) wf ⟨rfl, trivial⟩ (fun _ => pf_y rfl rfl rfl (y_nil' rfl rfl ha1)) (fun P_6 => ?_)
 refine sQ 7 [(8, .pointer (some a1))] (some 9) tok wf ⟨rfl, trivial⟩ (fun P_7 => ?_)
 obtain ⟨v3, hv3, H⟩ := H
 refine sL 8 [(9, .pointer (some (a1.add 2)))] (some 10) wf ⟨rfl, trivial⟩ (pf_y rfl rfl rfl (y_ld tok rfl rfl rfl rfl hv3)) (fun P_8 => ?_)
 refine sQ 9 [(0, .pointer p0)] (some 11) tok wf ⟨rfl, trivial⟩ (fun P_9 => ?_)
 refine sP 10 [(11, .pointer p0)] (some 12) wf ⟨rfl, trivial⟩ (fun _ => pf_y rfl rfl rfl (y_nil' rfl rfl ha1)) (fun P_10 => ?_)
 refine sQ 11 [(12, .pointer (some a1))] (some 13) tok wf ⟨rfl, trivial⟩ (fun P_11 => ?_)
 obtain ⟨v4, hv4, H⟩ := H
 refine sL 12 [(13, .pointer (some (a1.add 3)))] (some 14) wf ⟨rfl, trivial⟩ (pf_y rfl rfl rfl (y_ld tok rfl rfl rfl rfl hv4)) (fun P_12 => ?_)
 refine sP 13 [(10, .int .u64 v3), (14, .int .i64 v4)] (some 15) wf ⟨rfl, rfl, trivial⟩ (fun _ => pf_y rfl rfl rfl (y_build tok rfl rfl rfl rfl rfl)) (fun P_13 => ?_)
 obtain ⟨b5, h6, eb5, eh6, H⟩ := H
 refine sim_h 14 [5, 6, 7, 8, 9, 10, 11, 12, 13] [5, 6, 7, 8, 9, 10, 11, 12, 13] (ei := [(15, .agg (S_api_Keep.cs (⟨1, v3, v4, 0, (⟨none, 0, 0⟩ : Slc), (⟨none, 0, 0⟩ : Slc)⟩ : S_api_Keep)).toArray)]) wf ⟨P_13 _, P_12, P_11 _, P_10 _, P_9 _, P_8, P_7 _, P_6 _, P_5 _, P_4, P_3 _, P_2 _, P_1 _, P_0 _, trivial⟩ (by kernel_rfl) ⟨rfl, trivial⟩ (by kernel_rfl) rfl rfl rfl (h_bs tok rfl rfl rfl rfl rfl rfl rfl eb5 eh6) ?_
 obtain ⟨hy7, H⟩ := H
 refine sim_re (x := ⟨4, Slc.v v2, [(5, .pointer (some (a1.add 13)))]⟩) (pf_y rfl rfl rfl (y_ld tok rfl rfl rfl rfl hy7)) (fun P_4 => ?_)
 refine sim_a 15 [1, 2, 3, 4, 5, 6, 7, 8, 9, 10, 11, 12, 13, 14] [1, 2, 3, 4, 5, 6, 7, 8, 9, 10, 11, 12, 13] (ei := [(6, Slc.v v2), (16, Slc.v (⟨some ⟨b5, 0, none⟩, 1, 1⟩ : Slc))]) wf ⟨trivial, trivial, trivial, trivial, trivial, trivial, trivial, trivial, trivial, P_4, P_3 _, P_2 _, P_1 _, P_0 _, trivial⟩ (by kernel_rfl) ⟨rfl, rfl, trivial⟩ (by kernel_rfl) rfl rfl rfl (a_app (s := v2) (r := (⟨some ⟨b5, 0, none⟩, 1, 1⟩ : Slc)) tok rfl rfl rfl rfl rfl (slcAt_push eb5 eh6) H) ?_
 rintro _ h9 ⟨s8, rfl, H⟩
 refine sP 16 [(2, .pointer p0)] (some 18) wf ⟨rfl, trivial⟩ (fun _ => pf_y rfl rfl rfl (y_nil' rfl rfl ha1)) (fun P_16 => ?_)
 refine sQ 17 [(18, .pointer (some a1))] (some 19) tok wf ⟨rfl, trivial⟩ (fun P_17 => ?_)
 obtain ⟨h10, wh10, eh10, H⟩ := H
 refine sim_h 18 [0, 1, 2, 3, 4, 5, 6, 7, 8, 9, 10, 11, 12, 13, 14, 15, 16, 17] [0, 1, 2, 3, 4, 5, 6, 7, 8, 9, 10, 11, 12, 13, 16, 17] (ei := [(17, Slc.v s8), (19, .pointer (some (a1.add 13)))]) wf ⟨P_17 _, P_16 _, trivial, trivial, trivial, trivial, trivial, trivial, trivial, trivial, trivial, trivial, trivial, trivial, trivial, P_0 _, trivial⟩ (by kernel_rfl) ⟨rfl, rfl, trivial⟩ (by kernel_rfl) rfl rfl rfl (h_st tok rfl rfl rfl rfl rfl rfl wh10 eh10) ?_
 refine sim_end wf ⟨trivial, trivial, trivial, trivial, trivial, trivial, trivial, trivial, trivial, trivial, trivial, trivial, trivial, trivial, trivial, trivial, trivial⟩ (by kernel_rfl) ?_
 clear wf P_0 P_1 P_10 P_11 P_12 P_13 P_16 P_17 P_2 P_3 P_4 P_5 P_6 P_7 P_8 P_9
 exact x_end _ rfl _ rfl ⟨(), rfl, H⟩

theorem raft_Raft_follow_ok : CallOk Go.Proofs.Try.prog 46 := ⟨_, Go.Proofs.Try.func46, by kernel_rfl, by kernel_rfl⟩
theorem raft_Raft_follow_ref (p0 : Option Addr) (p1 : Int) (p2 : Int) (k : (Unit) → Heap → Prop) (h : Heap) (H : raft_Raft_follow p0 p1 p2 k h) : CallsH Go.Proofs.Try.prog 46 #[.pointer p0, .int .u64 p1, .int .i64 p2] h (fun v h' => ∃ r : Unit, v = .tuple #[] ∧ k r h') := by
 refine f_enter (N := 31) Go.Proofs.Try.func46 rfl rfl rfl (fun w0 => ?_)
 unfold raft_Raft_follow at H
 refine c_weak [(0, .pointer p0), (1, .int .u64 p1), (2, .int .i64 p2)] ⟨rfl, rfl, rfl, trivial⟩ ?_
 refine c_seqJ (α := Unit) (fun (s : Unit) => [(0, .pointer p0), (2, .int .i64 p2)]) (fun (s : Unit) h => raft_Raft_follow_j1 p0 p2 k h) ?_ ?_
 ·
  rintro _ h_1 H
  replace H : raft_Raft_follow_j1 p0 p2 k h_1 := H
  unfold raft_Raft_follow_j1 at H
  refine c_weak [(0, .pointer p0), (2, .int .i64 p2)] ⟨rfl, rfl, trivial⟩ ?_
  refine c_region ?_
  iterate 4 refine wP tok ?_
  obtain ⟨a1, ha1, H⟩ := H
  refine w_y (y_nil' rfl rfl ha1) rfl rfl ?_
  refine wP tok ?_
  obtain ⟨h2, wh2, eh2, H⟩ := H
  refine w_h (h_st tok rfl rfl rfl rfl rfl rfl wh2 eh2) rfl rfl ?_
  refine w_y (y_nil' rfl rfl ha1) rfl rfl ?_
  refine wP tok ?_
  obtain ⟨h3, wh3, eh3, H⟩ := H
  refine w_h (h_st tok rfl rfl rfl rfl rfl rfl wh3 eh3) rfl rfl ?_
  refine w_y (y_nil' rfl rfl ha1) rfl rfl ?_
  refine wP tok ?_
  obtain ⟨h4, wh4, eh4, H⟩ := H
  refine w_h (h_st tok rfl rfl rfl rfl rfl rfl wh4 eh4) rfl rfl ?_
  refine w_end ?_
  exact x_end _ rfl _ rfl ⟨(), rfl, H⟩
 ·
  refine c_seq (c_region ?_)
  iterate 2 refine wP tok ?_
  obtain ⟨a5, ha5, H⟩ := H
  refine w_y (y_nil' rfl rfl ha5) rfl rfl ?_
  refine wP tok ?_
  obtain ⟨v6, hv6, H⟩ := H
  refine w_y (y_ld tok rfl rfl rfl rfl hv6) rfl rfl ?_
  refine wP tok ?_
  refine w_end (x_seq ?_)
  refine c_if H rfl (fun H => ?_) (fun H => ?_)
  ·
   refine c_seq (c_region ?_)
   iterate 3 refine wP tok ?_
   refine w_y (y_nil' rfl rfl ha5) rfl rfl ?_
   refine wP tok ?_
   obtain ⟨h7, wh7, eh7, H⟩ := H
   refine w_h (h_st tok rfl rfl rfl rfl rfl rfl wh7 eh7) rfl rfl ?_
   refine w_y (y_nil' rfl rfl ha5) rfl rfl ?_
   refine wP tok ?_
   obtain ⟨h8, wh8, eh8, H⟩ := H
   refine w_h (h_st tok rfl rfl rfl rfl rfl rfl wh8 eh8) rfl rfl ?_
   refine w_end (x_seq ?_)
   refine c_weak [(0, .pointer p0), (2, .int .i64 p2)] ⟨rfl, rfl, trivial⟩ ?_
   refine c_region ?_
   refine wP tok ?_
   refine w_call raft_Raft_keepTerm_ok (raft_Raft_keepTerm_ref _ _ _ H) rfl rfl rfl rfl ?_
   rintro _ h10 ⟨r9, rfl, H⟩
   refine w_end ?_
   exact x_join () H ⟨rfl, rfl, trivial⟩
  ·
   refine c_skip ?_
   exact x_join () H ⟨rfl, rfl, trivial⟩

theorem raft_Raft_due_ok : CallOk Go.Proofs.Try.prog 42 := ⟨_, Go.Proofs.Try.func42, by kernel_rfl, by kernel_rfl⟩
theorem raft_Raft_due_ref (p0 : Option Addr) (p1 : Int) (k : (S_api_Msg) → Heap → Prop) (h : Heap) (H : raft_Raft_due p0 p1 k h) : CallsH Go.Proofs.Try.prog 42 #[.pointer p0, .int .i64 p1] h (fun v h' => ∃ r : S_api_Msg, v = .agg (S_api_Msg.cs r).toArray ∧ k r h') := by
 refine f_enter (N := 76) Go.Proofs.Try.func42 rfl rfl rfl (fun w0 => ?_)
 unfold raft_Raft_due at H
 refine c_weak [(0, .pointer p0), (1, .int .i64 p1)] ⟨rfl, rfl, trivial⟩ ?_
 refine c_seq (c_region ?_)
 obtain ⟨b1, h2, eb1, eh2, H⟩ := H
 refine w_h (h_alloc tok rfl rfl eb1 eh2) rfl rfl ?_
 refine w_end (x_seq ?_)
 refine c_seq (c_region ?_)
 refine wP tok ?_
 obtain ⟨a3, ha3, H⟩ := H
 refine w_y (y_nil' rfl rfl ha3) rfl rfl ?_
 refine wP tok ?_
 obtain ⟨v4, hv4, H⟩ := H
 refine w_y (y_ld tok rfl rfl rfl rfl hv4) rfl rfl ?_
 refine wP tok ?_
 obtain ⟨a5, ha5, la5, ua5, H⟩ := H
 refine w_y (y_ixa' tok rfl rfl ha5 rfl rfl rfl la5 ua5) rfl rfl ?_
 obtain ⟨v6, hv6, H⟩ := H
 refine w_y (y_ld tok rfl rfl rfl rfl hv6) rfl rfl ?_
 refine wP tok ?_
 refine w_end (x_seq ?_)
 refine c_weak [(0, .pointer p0), (4, .pointer (some (⟨b1, 0, none⟩ : Addr))), (5, .int .u64 v6)] ⟨rfl, rfl, rfl, trivial⟩ ?_
 refine c_seq (c_region ?_)
 refine wP tok ?_
 refine w_y (y_nil' rfl rfl ha3) rfl rfl ?_
 refine wP tok ?_
 obtain ⟨v7, hv7, H⟩ := H
 refine w_y (y_ld tok rfl rfl rfl rfl hv7) rfl rfl ?_
 refine w_call rlog_Log_Base_ok (rlog_Log_Base_ref _ _ _ H) rfl rfl rfl rfl ?_
 rintro _ h9 ⟨r8, rfl, H⟩
 iterate 5 refine wP tok ?_
 refine w_end (x_seq ?_)
 refine c_weak [(0, .pointer p0), (4, .pointer (some (⟨b1, 0, none⟩ : Addr))), (5, .int .u64 v6), (6, .int .u64 r8.1), (7, .int .u64 r8.2)] ⟨rfl, rfl, rfl, rfl, rfl, trivial⟩ ?_
 refine c_seq (c_seq (c_region ?_))
 iterate 3 refine wP tok ?_
 refine w_end (x_seq ?_)
 refine c_if H rfl (fun H => ?_) (fun H => ?_)
 ·
  refine c_seq ?_
  refine c_sim [(0, .pointer p0), (4, .pointer (some (⟨b1, 0, none⟩ : Addr))), (6, .int .u64 r8.1), (7, .int .u64 r8.2)] (by kernel_rfl) (by kernel_rfl) ⟨rfl, rfl, rfl, rfl, trivial⟩ (fun wf => ?_)
  refine sQ 0 [(0, .pointer p0)] (some 28) tok wf ⟨rfl, trivial⟩ (fun P_0 => ?_)
  refine sP 1 [(28, .pointer p0)] (some 29) wf ⟨rfl, trivial⟩ (fun _ => pf_y rfl rfl rfl (y_nil' rfl rfl ha3)) (fun P_1 => ?_)
  refine sQ 2 [(29, .pointer (some a3))] (some 30) tok wf ⟨rfl, trivial⟩ (fun P_2 => ?_)
  obtain ⟨v10, hv10, H⟩ := H
  refine sL 3 [(30, .pointer (some (a3.add 2)))] (some 31) wf ⟨rfl, trivial⟩ (pf_y rfl rfl rfl (y_ld tok rfl rfl rfl rfl hv10)) (fun P_3 => ?_)
  refine sQ 4 [(6, .int .u64 r8.1)] (some 32) tok wf ⟨rfl, trivial⟩ (fun P_4 => ?_)
  refine sQ 5 [(7, .int .u64 r8.2)] (some 33) tok wf ⟨rfl, trivial⟩ (fun P_5 => ?_)
  refine sQ 6 [(0, .pointer p0)] (some 34) tok wf ⟨rfl, trivial⟩ (fun P_6 => ?_)
  refine sP 7 [(34, .pointer p0)] (some 35) wf ⟨rfl, trivial⟩ (fun _ => pf_y rfl rfl rfl (y_nil' rfl rfl ha3)) (fun P_7 => ?_)
  refine sQ 8 [(35, .pointer (some a3))] (some 36) tok wf ⟨rfl, trivial⟩ (fun P_8 => ?_)
  obtain ⟨v11, hv11, H⟩ := H
  refine sL 9 [(36, .pointer (some (a3.add 6)))] (some 37) wf ⟨rfl, trivial⟩ (pf_y rfl rfl rfl (y_ld tok rfl rfl rfl rfl hv11)) (fun P_9 => ?_)
  refine sQ 10 [(0, .pointer p0)] (some 38) tok wf ⟨rfl, trivial⟩ (fun P_10 => ?_)
  refine sP 11 [(38, .pointer p0)] (some 39) wf ⟨rfl, trivial⟩ (fun _ => pf_y rfl rfl rfl (y_nil' rfl rfl ha3)) (fun P_11 => ?_)
  refine sQ 12 [(39, .pointer (some a3))] (some 40) tok wf ⟨rfl, trivial⟩ (fun P_12 => ?_)
  obtain ⟨v12, hv12, H⟩ := H
  refine sL 13 [(40, .pointer (some (a3.add 5)))] (some 41) wf ⟨rfl, trivial⟩ (pf_y rfl rfl rfl (y_ld tok rfl rfl rfl rfl hv12)) (fun P_13 => ?_)
  refine sim_c 14 [10, 11, 12, 13] [10, 11, 12, 13] (ei := [(41, Slc.v v12)]) slices_Clone_byte_byte_ok (slices_Clone_byte_byte_ref _ _ _ H) wf ⟨P_13, P_12 _, P_11 _, P_10 _, P_9, P_8 _, P_7 _, P_6 _, P_5 _, P_4 _, P_3, P_2 _, P_1 _, P_0 _, trivial⟩ (by kernel_rfl) ⟨rfl, trivial⟩ (by kernel_rfl) rfl rfl rfl rfl rfl ?_
  rintro _ h14 ⟨r13, rfl, H⟩
  obtain ⟨hy15, hy16, H⟩ := H
  refine sim_re (x := ⟨9, .int .u64 v11, [(36, .pointer (some (a3.add 6)))]⟩) (pf_y rfl rfl rfl (y_ld tok rfl rfl rfl rfl hy15)) (fun P_9 => ?_)
  refine sim_re (x := ⟨3, .int .u64 v10, [(30, .pointer (some (a3.add 2)))]⟩) (pf_y rfl rfl rfl (y_ld tok rfl rfl rfl rfl hy16)) (fun P_3 => ?_)
  refine sP 15 [(31, .int .u64 v10), (32, .int .u64 r8.1), (33, .int .u64 r8.2), (37, .int .u64 v11), (42, Slc.v r13)] (some 43) wf ⟨rfl, rfl, rfl, rfl, rfl, trivial⟩ (fun _ => pf_y rfl rfl rfl (y_build tok rfl rfl rfl rfl rfl)) (fun P_15 => ?_)
  obtain ⟨h17, wh17, eh17, H⟩ := H
  refine sim_h 16 [0, 1, 2, 3, 4, 5, 6, 7, 8, 9, 10, 11, 12, 13, 14, 15] [0, 1, 2, 3, 4, 5, 6, 7, 8, 9, 10, 11, 12, 13, 15] (ei := [(4, .pointer (some (⟨b1, 0, none⟩ : Addr))), (43, .agg (S_api_Msg.cs (⟨5, v10, r8.1, r8.2, v11, false, (⟨none, 0, 0⟩ : Slc), r13⟩ : S_api_Msg)).toArray)]) wf ⟨P_15 _, trivial, trivial, trivial, trivial, P_9, P_8 _, P_7 _, P_6 _, P_5 _, P_4 _, P_3, P_2 _, P_1 _, P_0 _, trivial⟩ (by kernel_rfl) ⟨rfl, rfl, trivial⟩ (by kernel_rfl) rfl rfl rfl (h_sts tok rfl rfl rfl rfl rfl (oneC (by kernel_rfl)) wh17 eh17) ?_
  refine sim_end wf ⟨trivial, trivial, trivial, trivial, trivial, trivial, trivial, trivial, trivial, trivial, trivial, trivial, trivial, trivial, trivial, trivial⟩ (by kernel_rfl) ?_
  clear wf P_0 P_1 P_10 P_11 P_12 P_13 P_15 P_2 P_3 P_4 P_5 P_6 P_7 P_8 P_9
  refine x_seq ?_
  refine c_weak [(4, .pointer (some (⟨b1, 0, none⟩ : Addr)))] ⟨rfl, trivial⟩ ?_
  refine c_ret (x_tr ?_)
  obtain ⟨v18, hv18, H⟩ := H
  exact x_retc tok _ rfl [.agg (S_api_Msg.cs v18).toArray] ⟨⟨_, _, rfl, rfl, .inr ⟨rfl, _, rfl, rfl, hv18⟩⟩, trivial⟩ ⟨v18, rfl, H⟩
 ·
  refine c_skip (x_seq ?_)
  refine c_seq (c_region ?_)
  refine wP tok ?_
  refine w_y (y_nil' rfl rfl ha3) rfl rfl ?_
  refine wP tok ?_
  obtain ⟨v19, hv19, H⟩ := H
  refine w_y (y_ld tok rfl rfl rfl rfl hv19) rfl rfl ?_
  refine wP tok ?_
  refine w_call rlog_Log_From_ok (rlog_Log_From_ref _ _ _ _ _ H) rfl rfl rfl rfl ?_
  rintro _ h21 ⟨r20, rfl, H⟩
  iterate 5 refine wP tok ?_
  refine w_end (x_seq ?_)
  refine c_weak [(0, .pointer p0), (4, .pointer (some (⟨b1, 0, none⟩ : Addr))), (5, .int .u64 v6), (8, Slc.v r20.1)] ⟨rfl, rfl, rfl, rfl, trivial⟩ ?_
  refine c_seq (c_region ?_)
  refine wP tok ?_
  refine w_y (y_nil' rfl rfl ha3) rfl rfl ?_
  refine wP tok ?_
  obtain ⟨v22, hv22, H⟩ := H
  refine w_y (y_ld tok rfl rfl rfl rfl hv22) rfl rfl ?_
  iterate 2 refine wP tok ?_
  refine w_call rlog_Log_Term_ok (rlog_Log_Term_ref _ _ _ _ H) rfl rfl rfl rfl ?_
  rintro _ h24 ⟨r23, rfl, H⟩
  iterate 4 refine wP tok ?_
  refine w_end (x_seq ?_)
  refine c_weak [(0, .pointer p0), (4, .pointer (some (⟨b1, 0, none⟩ : Addr))), (5, .int .u64 v6), (8, Slc.v r20.1), (7, .int .u64 r23.1)] ⟨rfl, rfl, rfl, rfl, rfl, trivial⟩ ?_
  refine c_seq ?_
  refine c_sim [(0, .pointer p0), (4, .pointer (some (⟨b1, 0, none⟩ : Addr))), (5, .int .u64 v6), (7, .int .u64 r23.1), (8, Slc.v r20.1)] (by kernel_rfl) (by kernel_rfl) ⟨rfl, rfl, rfl, rfl, rfl, trivial⟩ (fun wf => ?_)
  refine sQ 0 [(0, .pointer p0)] (some 63) tok wf ⟨rfl, trivial⟩ (fun P_0 => ?_)
  refine sP 1 [(63, .pointer p0)] (some 64) wf ⟨rfl, trivial⟩ (fun _ => pf_y rfl rfl rfl (y_nil' rfl rfl ha3)) (fun P_1 => ?_)
  refine sQ 2 [(64, .pointer (some a3))] (some 65) tok wf ⟨rfl, trivial⟩ (fun P_2 => ?_)
  obtain ⟨v25, hv25, H⟩ := H
  refine sL 3 [(65, .pointer (some (a3.add 2)))] (some 66) wf ⟨rfl, trivial⟩ (pf_y rfl rfl rfl (y_ld tok rfl rfl rfl rfl hv25)) (fun P_3 => ?_)
  refine sQ 4 [(5, .int .u64 v6)] (some 67) tok wf ⟨rfl, trivial⟩ (fun P_4 => ?_)
  refine sQ 5 [(67, .int .u64 v6)] (some 68) tok wf ⟨rfl, trivial⟩ (fun P_5 => ?_)
  refine sQ 6 [(7, .int .u64 r23.1)] (some 69) tok wf ⟨rfl, trivial⟩ (fun P_6 => ?_)
  refine sQ 7 [(0, .pointer p0)] (some 70) tok wf ⟨rfl, trivial⟩ (fun P_7 => ?_)
  refine sP 8 [(70, .pointer p0)] (some 71) wf ⟨rfl, trivial⟩ (fun _ => pf_y rfl rfl rfl (y_nil' rfl rfl ha3)) (fun P_8 => ?_)
  refine sQ 9 [(71, .pointer (some a3))] (some 72) tok wf ⟨rfl, trivial⟩ (fun P_9 => ?_)
  obtain ⟨v26, hv26, H⟩ := H
  refine sL 10 [(72, .pointer (some (a3.add 6)))] (some 73) wf ⟨rfl, trivial⟩ (pf_y rfl rfl rfl (y_ld tok rfl rfl rfl rfl hv26)) (fun P_10 => ?_)
  refine sQ 11 [(8, Slc.v r20.1)] (some 74) tok wf ⟨rfl, trivial⟩ (fun P_11 => ?_)
  refine sP 12 [(66, .int .u64 v25), (68, .int .u64 (IntKind.u64.wrap (v6 - 1))), (69, .int .u64 r23.1), (73, .int .u64 v26), (74, Slc.v r20.1)] (some 75) wf ⟨rfl, rfl, rfl, rfl, rfl, trivial⟩ (fun _ => pf_y rfl rfl rfl (y_build tok rfl rfl rfl rfl rfl)) (fun P_12 => ?_)
  obtain ⟨h27, wh27, eh27, H⟩ := H
  refine sim_h 13 [0, 1, 2, 3, 4, 5, 6, 7, 8, 9, 10, 11, 12] [0, 1, 2, 3, 4, 5, 6, 7, 8, 9, 10, 11, 12] (ei := [(4, .pointer (some (⟨b1, 0, none⟩ : Addr))), (75, .agg (S_api_Msg.cs (⟨3, v25, (IntKind.u64.wrap (v6 - 1)), r23.1, v26, false, r20.1, (⟨none, 0, 0⟩ : Slc)⟩ : S_api_Msg)).toArray)]) wf ⟨P_12 _, P_11 _, P_10, P_9 _, P_8 _, P_7 _, P_6 _, P_5 _, P_4 _, P_3, P_2 _, P_1 _, P_0 _, trivial⟩ (by kernel_rfl) ⟨rfl, rfl, trivial⟩ (by kernel_rfl) rfl rfl rfl (h_sts tok rfl rfl rfl rfl rfl (oneC (by kernel_rfl)) wh27 eh27) ?_
  refine sim_end wf ⟨trivial, trivial, trivial, trivial, trivial, trivial, trivial, trivial, trivial, trivial, trivial, trivial, trivial, trivial⟩ (by kernel_rfl) ?_
  clear wf P_0 P_1 P_10 P_11 P_12 P_2 P_3 P_4 P_5 P_6 P_7 P_8 P_9
  refine x_seq ?_
  refine c_weak [(4, .pointer (some (⟨b1, 0, none⟩ : Addr)))] ⟨rfl, trivial⟩ ?_
  refine c_ret ?_
  obtain ⟨v28, hv28, H⟩ := H
  exact x_retc tok _ rfl [.agg (S_api_Msg.cs v28).toArray] ⟨⟨_, _, rfl, rfl, .inr ⟨rfl, _, rfl, rfl, hv28⟩⟩, trivial⟩ ⟨v28, rfl, H⟩

theorem raft_Raft_settle_ok : CallOk Go.Proofs.Try.prog 74 := ⟨_, Go.Proofs.Try.func74, by kernel_rfl, by kernel_rfl⟩
theorem raft_Raft_settle_ref (p0 : Option Addr) (k : (Unit) → Heap → Prop) (h : Heap) (H : raft_Raft_settle p0 k h) : CallsH Go.Proofs.Try.prog 74 #[.pointer p0] h (fun v h' => ∃ r : Unit, v = .tuple #[] ∧ k r h') := by
 refine f_enter (N := 41) Go.Proofs.Try.func74 rfl rfl rfl (fun w0 => ?_)
 unfold raft_Raft_settle at H
 refine c_weak [(0, .pointer p0)] ⟨rfl, trivial⟩ ?_
 refine c_seq (c_region ?_)
 refine wP tok ?_
 obtain ⟨a1, ha1, H⟩ := H
 refine w_y (y_nil' rfl rfl ha1) rfl rfl ?_
 refine wP tok ?_
 obtain ⟨v2, hv2, H⟩ := H
 refine w_y (y_ld tok rfl rfl rfl rfl hv2) rfl rfl ?_
 refine w_call vote_Commit_ok (vote_Commit_ref _ _ _ H) rfl rfl rfl rfl ?_
 rintro _ h4 ⟨r3, rfl, H⟩
 refine wP tok ?_
 refine w_end (x_seq ?_)
 refine c_seq (c_region ?_)
 refine wP tok ?_
 refine w_y (y_nil' rfl rfl ha1) rfl rfl ?_
 refine wP tok ?_
 obtain ⟨v5, hv5, H⟩ := H
 refine w_y (y_ld tok rfl rfl rfl rfl hv5) rfl rfl ?_
 refine wP tok ?_
 refine w_call rlog_Log_Term_ok (rlog_Log_Term_ref _ _ _ _ H) rfl rfl rfl rfl ?_
 rintro _ h7 ⟨r6, rfl, H⟩
 iterate 5 refine wP tok ?_
 refine w_end (x_seq ?_)
 refine c_weak [(0, .pointer p0), (2, .int .u64 r3), (3, .int .u64 r6.1), (4, .int .i64 r6.2)] ⟨rfl, rfl, rfl, rfl, trivial⟩ ?_
 refine c_seq (c_region ?_)
 iterate 2 refine wP tok ?_
 refine w_y (y_nil' rfl rfl ha1) rfl rfl ?_
 refine wP tok ?_
 obtain ⟨v8, hv8, H⟩ := H
 refine w_y (y_ld tok rfl rfl rfl rfl hv8) rfl rfl ?_
 iterate 2 refine wP tok ?_
 refine w_cutU 3 [(28, .bool ((decide (r3 > v8)) && (r6.2 == 0))), (0, .pointer p0), (2, .int .u64 r3), (3, .int .u64 r6.1)] ?_ ?_
 ·
  refine wP tok ?_
  refine w_cut 7 (α := Bool) (fun (s : Bool) => [(36, .bool s), (0, .pointer p0), (2, .int .u64 r3)]) (fun (s : Bool) h => raft_Raft_settle_g1 p0 r3 s k h) ?_ ?_
  ·
   rintro t36_1 h_1 H
   replace H : raft_Raft_settle_g1 p0 r3 t36_1 k h_1 := H
   unfold raft_Raft_settle_g1 at H
   refine w_weak [(36, .bool t36_1), (0, .pointer p0), (2, .int .u64 r3)] ⟨rfl, rfl, rfl, trivial⟩ ?_
   refine w_end (x_seq ?_)
   refine c_if H rfl (fun H => ?_) (fun H => ?_)
   ·
    refine c_region ?_
    iterate 2 refine wP tok ?_
    obtain ⟨a9, ha9, H⟩ := H
    refine w_y (y_nil' rfl rfl ha9) rfl rfl ?_
    refine wP tok ?_
    obtain ⟨h10, wh10, eh10, H⟩ := H
    refine w_h (h_st tok rfl rfl rfl rfl rfl rfl wh10 eh10) rfl rfl ?_
    refine w_end ?_
    exact x_end _ rfl _ rfl ⟨(), rfl, H⟩
   ·
    refine c_skip ?_
    exact x_end _ rfl _ rfl ⟨(), rfl, H⟩
  ·
   refine w_gif (d := 29) H rfl (fun H => ?_) (fun H => ?_)
   ·
    iterate 2 refine wP tok ?_
    refine w_y (y_nil' rfl rfl ha1) rfl rfl ?_
    refine wP tok ?_
    obtain ⟨v11, hv11, H⟩ := H
    refine w_y (y_ld tok rfl rfl rfl rfl hv11) rfl rfl ?_
    iterate 2 refine wP tok ?_
    exact w_jn (r6.1 == v11) H ⟨rfl, rfl, rfl, trivial⟩
   ·
    iterate 6 refine w_skip rfl rfl ?_
    refine wP tok ?_
    exact w_jn false H ⟨rfl, rfl, rfl, trivial⟩
 ·
  refine w_gs (d := 25) rfl (fun hb => ?_) (fun hb => ?_)
  ·
   iterate 3 refine wP tok ?_
   refine w_jn () rfl ⟨?_, rfl, rfl, rfl, trivial⟩
   exact congrArg (fun b => some (Value.bool b)) (and_t hb)
  ·
   iterate 2 refine w_skip rfl rfl ?_
   refine wP tok ?_
   refine w_jn () rfl ⟨?_, rfl, rfl, rfl, trivial⟩
   exact congrArg (fun b => some (Value.bool b)) (and_f hb)

theorem raft_Raft_put_ok : CallOk Go.Proofs.Try.prog 59 := ⟨_, Go.Proofs.Try.func59, by kernel_rfl, by kernel_rfl⟩
theorem raft_Raft_put_ref (p0 : Option Addr) (p1 : Slc) (k : (Int × Int) → Heap → Prop) (h : Heap) (H : raft_Raft_put p0 p1 k h) : CallsH Go.Proofs.Try.prog 59 #[.pointer p0, Slc.v p1] h (fun v h' => ∃ r : Int × Int, v = .tuple #[.int .u64 r.1, .int .i64 r.2] ∧ k r h') := by
 refine f_enter (N := 67) Go.Proofs.Try.func59 rfl rfl rfl (fun w0 => ?_)
 unfold raft_Raft_put at H
 refine c_weak [(0, .pointer p0), (1, Slc.v p1)] ⟨rfl, rfl, trivial⟩ ?_
 refine c_seq (c_region ?_)
 iterate 2 refine wP tok ?_
 refine w_end (x_seq ?_)
 refine c_seq (c_region ?_)
 refine wP tok ?_
 obtain ⟨a1, ha1, H⟩ := H
 refine w_y (y_nil' rfl rfl ha1) rfl rfl ?_
 refine wP tok ?_
 obtain ⟨v2, hv2, H⟩ := H
 refine w_y (y_ld tok rfl rfl rfl rfl hv2) rfl rfl ?_
 refine w_call rlog_Log_Last_ok (rlog_Log_Last_ref _ _ _ H) rfl rfl rfl rfl ?_
 rintro _ h4 ⟨r3, rfl, H⟩
 iterate 5 refine wP tok ?_
 refine w_end (x_seq ?_)
 refine c_weak [(0, .pointer p0), (1, Slc.v p1), (6, .int .u64 r3.1), (7, .int .u64 r3.2)] ⟨rfl, rfl, rfl, rfl, trivial⟩ ?_
 refine c_seq ?_
 refine c_sim [(0, .pointer p0), (1, Slc.v p1), (6, .int .u64 r3.1), (7, .int .u64 r3.2)] (by kernel_rfl) (by kernel_rfl) ⟨rfl, rfl, rfl, rfl, trivial⟩ (fun wf => ?_)
 refine sQ 0 [(0, .pointer p0)] (some 19) tok wf ⟨rfl, trivial⟩ (fun P_0 => ?_)
 refine sP 1 [(19, .pointer p0)] (some 20) wf ⟨rfl, trivial⟩ (fun _ => pf_y rfl rfl rfl (y_nil' rfl rfl ha1)) (fun P_1 => ?_)
 refine sQ 2 [(20, .pointer (some a1))] (some 21) tok wf ⟨rfl, trivial⟩ (fun P_2 => ?_)
 obtain ⟨v5, hv5, H⟩ := H
 refine sL 3 [(21, .pointer (some (a1.add 2)))] (some 22) wf ⟨rfl, trivial⟩ (pf_y rfl rfl rfl (y_ld tok rfl rfl rfl rfl hv5)) (fun P_3 => ?_)
 refine sQ 4 [(1, Slc.v p1)] (some 23) tok wf ⟨rfl, trivial⟩ (fun P_4 => ?_)
 refine sim_c 5 [4] [4] (ei := [(23, Slc.v p1)]) slices_Clone_byte_byte_ok (slices_Clone_byte_byte_ref _ _ _ H) wf ⟨P_4 _, P_3, P_2 _, P_1 _, P_0 _, trivial⟩ (by kernel_rfl) ⟨rfl, trivial⟩ (by kernel_rfl) rfl rfl rfl rfl rfl ?_
 rintro _ h7 ⟨r6, rfl, H⟩
 obtain ⟨hy8, H⟩ := H
 refine sim_re (x := ⟨3, .int .u64 v5, [(21, .pointer (some (a1.add 2)))]⟩) (pf_y rfl rfl rfl (y_ld tok rfl rfl rfl rfl hy8)) (fun P_3 => ?_)
 refine sP 6 [(22, .int .u64 v5), (24, Slc.v r6)] (some 25) wf ⟨rfl, rfl, trivial⟩ (fun _ => pf_y rfl rfl rfl (y_build tok rfl rfl rfl rfl rfl)) (fun P_6 => ?_)
 obtain ⟨b9, h10, eb9, eh10, H⟩ := H
 refine sim_h 7 [0, 1, 2, 3, 4, 5, 6] [0, 1, 2, 3, 4, 6] (ei := [(25, .agg (S_api_Entry.cs (⟨v5, r6⟩ : S_api_Entry)).toArray)]) wf ⟨P_6 _, trivial, P_3, P_2 _, P_1 _, P_0 _, trivial⟩ (by kernel_rfl) ⟨rfl, trivial⟩ (by kernel_rfl) rfl rfl rfl (h_bs tok rfl rfl rfl rfl rfl rfl rfl eb9 eh10) ?_
 refine sQ 8 [(26, Slc.v (⟨some ⟨b9, 0, none⟩, 1, 1⟩ : Slc))] (some 8) tok wf ⟨rfl, trivial⟩ (fun P_8 => ?_)
 refine sim_end wf ⟨P_8 _, trivial, trivial, trivial, trivial, trivial, trivial, trivial⟩ (by kernel_rfl) ?_
 clear wf P_0 P_1 P_2 P_3 P_4 P_6 P_8
 refine x_seq ?_
 refine c_weak [(0, .pointer p0), (6, .int .u64 r3.1), (7, .int .u64 r3.2), (8, Slc.v (⟨some ⟨b9, 0, none⟩, 1, 1⟩ : Slc))] ⟨rfl, rfl, rfl, rfl, trivial⟩ ?_
 refine c_seq (c_region ?_)
 refine wP tok ?_
 refine w_y (y_nil' rfl rfl ha1) rfl rfl ?_
 refine wP tok ?_
 obtain ⟨v11, hv11, H⟩ := H
 refine w_y (y_ld tok rfl rfl rfl rfl hv11) rfl rfl ?_
 iterate 3 refine wP tok ?_
 refine w_call rlog_Log_Append_ok (rlog_Log_Append_ref _ _ _ _ _ _ H) rfl rfl rfl rfl ?_
 rintro _ h13 ⟨r12, rfl, H⟩
 iterate 5 refine wP tok ?_
 refine w_end (x_seq ?_)
 refine c_weak [(0, .pointer p0), (6, .int .u64 r3.1), (7, .int .u64 r3.2), (8, Slc.v (⟨some ⟨b9, 0, none⟩, 1, 1⟩ : Slc)), (9, .int .u64 r12.1), (10, .int .i64 r12.2)] ⟨rfl, rfl, rfl, rfl, rfl, rfl, trivial⟩ ?_
 refine c_seq (c_seq (c_region ?_))
 iterate 2 refine wP tok ?_
 refine w_end (x_seq ?_)
 refine c_if H rfl (fun H => ?_) (fun H => ?_)
 ·
  refine c_seq (c_region ?_)
  iterate 3 refine wP tok ?_
  refine w_end (x_seq ?_)
  refine c_weak [(4, .int .u64 0), (5, .int .i64 r12.2)] ⟨rfl, rfl, trivial⟩ ?_
  refine c_ret (x_tr ?_)
  exact x_ret _ rfl _ rfl ⟨(0, r12.2), rfl, H⟩
 ·
  refine c_skip (x_seq ?_)
  refine c_seq (c_region ?_)
  iterate 2 refine wP tok ?_
  refine w_y (y_nil' rfl rfl ha1) rfl rfl ?_
  refine wP tok ?_
  obtain ⟨v14, hv14, H⟩ := H
  refine w_y (y_ld tok rfl rfl rfl rfl hv14) rfl rfl ?_
  iterate 3 refine wP tok ?_
  refine w_y (y_build tok rfl rfl rfl rfl rfl) rfl rfl ?_
  obtain ⟨b15, h16, eb15, eh16, H⟩ := H
  refine w_h (h_bs tok rfl rfl rfl rfl rfl rfl rfl eb15 eh16) rfl rfl ?_
  refine w_a (a_app (s := v14) (r := (⟨some ⟨b15, 0, none⟩, 1, 1⟩ : Slc)) tok rfl rfl rfl rfl rfl (slcAt_push eb15 eh16) H) rfl rfl ?_
  rintro _ h18 ⟨s17, rfl, H⟩
  refine w_y (y_nil' rfl rfl ha1) rfl rfl ?_
  refine wP tok ?_
  obtain ⟨h19, wh19, eh19, H⟩ := H
  refine w_h (h_st tok rfl rfl rfl rfl rfl rfl wh19 eh19) rfl rfl ?_
  refine w_end (x_seq ?_)
  refine c_weak [(0, .pointer p0), (9, .int .u64 r12.1)] ⟨rfl, rfl, trivial⟩ ?_
  refine c_seq ?_
  refine c_sim [(0, .pointer p0), (9, .int .u64 r12.1)] (by kernel_rfl) (by kernel_rfl) ⟨rfl, rfl, trivial⟩ (fun wf => ?_)
  refine sQ 0 [(0, .pointer p0)] (some 54) tok wf ⟨rfl, trivial⟩ (fun P_0 => ?_)
  refine sP 1 [(54, .pointer p0)] (some 55) wf ⟨rfl, trivial⟩ (fun _ => pf_y rfl rfl rfl (y_nil' rfl rfl ha1)) (fun P_1 => ?_)
  refine sQ 2 [(55, .pointer (some a1))] (some 56) tok wf ⟨rfl, trivial⟩ (fun P_2 => ?_)
  obtain ⟨v20, hv20, H⟩ := H
  refine sL 3 [(56, .pointer (some (a1.add 12)))] (some 57) wf ⟨rfl, trivial⟩ (pf_y rfl rfl rfl (y_ld tok rfl rfl rfl rfl hv20)) (fun P_3 => ?_)
  refine sQ 4 [(0, .pointer p0)] (some 58) tok wf ⟨rfl, trivial⟩ (fun P_4 => ?_)
  refine sP 5 [(58, .pointer p0)] (some 59) wf ⟨rfl, trivial⟩ (fun _ => pf_y rfl rfl rfl (y_nil' rfl rfl ha1)) (fun P_5 => ?_)
  refine sQ 6 [(59, .pointer (some a1))] (some 60) tok wf ⟨rfl, trivial⟩ (fun P_6 => ?_)
  obtain ⟨v21, hv21, H⟩ := H
  refine sL 7 [(60, .pointer (some a1))] (some 61) wf ⟨rfl, trivial⟩ (pf_y rfl rfl rfl (y_ld tok rfl rfl rfl rfl hv21)) (fun P_7 => ?_)
  refine sQ 8 [(9, .int .u64 r12.1)] (some 62) tok wf ⟨rfl, trivial⟩ (fun P_8 => ?_)
  obtain ⟨a22, ha22, la22, ua22, H⟩ := H
  refine sP 9 [(57, Slc.v v20), (61, .int .i64 v21)] (some 63) wf ⟨rfl, rfl, trivial⟩ (fun _ => pf_y rfl rfl rfl (y_ixa' tok rfl rfl ha22 rfl rfl rfl la22 ua22)) (fun P_9 => ?_)
  obtain ⟨h23, wh23, eh23, H⟩ := H
  refine sim_h 10 [0, 1, 2, 3, 4, 5, 6, 7, 8, 9] [0, 1, 2, 3, 4, 5, 6, 7, 8, 9] (ei := [(62, .int .u64 r12.1), (63, .pointer (some (a22.add (v21.toNat * 1))))]) wf ⟨P_9 _, P_8 _, P_7, P_6 _, P_5 _, P_4 _, P_3, P_2 _, P_1 _, P_0 _, trivial⟩ (by kernel_rfl) ⟨rfl, rfl, trivial⟩ (by kernel_rfl) rfl rfl rfl (h_st tok rfl rfl rfl rfl rfl rfl wh23 eh23) ?_
  refine sim_end wf ⟨trivial, trivial, trivial, trivial, trivial, trivial, trivial, trivial, trivial, trivial, trivial⟩ (by kernel_rfl) ?_
  clear wf P_0 P_1 P_2 P_3 P_4 P_5 P_6 P_7 P_8 P_9
  refine x_seq ?_
  refine c_weak [(0, .pointer p0), (9, .int .u64 r12.1)] ⟨rfl, rfl, trivial⟩ ?_
  refine c_seq (c_region ?_)
  refine wP tok ?_
  refine w_call raft_Raft_settle_ok (raft_Raft_settle_ref _ _ _ H) rfl rfl rfl rfl ?_
  rintro _ h25 ⟨r24, rfl, H⟩
  refine w_end (x_seq ?_)
  refine c_seq (c_region ?_)
  iterate 3 refine wP tok ?_
  refine w_end (x_seq (c_ret ?_))
  exact x_ret _ rfl _ rfl ⟨(r12.1, 0), rfl, H⟩

theorem raft_Raft_others__raft_Raft_due_ok : CallOk Go.Proofs.Try.prog 41 := ⟨_, Go.Proofs.Try.func41, by kernel_rfl, by kernel_rfl⟩
theorem raft_Raft_others__raft_Raft_due_ref (p0 : Option Addr) (p1c0 : Option Addr) (k : (Slc) → Heap → Prop) (h : Heap) (H : raft_Raft_others__raft_Raft_due p0 p1c0 k h) : CallsH Go.Proofs.Try.prog 41 #[.pointer p0, (Value.func (.func 42) #[.pointer p1c0] #[])] h (fun v h' => ∃ r : Slc, v = Slc.v r ∧ k r h') := by
 refine f_enter (N := 30) Go.Proofs.Try.func41 rfl rfl rfl (fun w0 => ?_)
 unfold raft_Raft_others__raft_Raft_due at H
 refine c_weak [(0, .pointer p0), (1, (Value.func (.func 42) #[.pointer p1c0] #[]))] ⟨rfl, rfl, trivial⟩ ?_
 refine c_seq (c_region ?_)
 refine wP tok ?_
 refine w_end (x_seq ?_)
 refine c_seq (c_region ?_)
 refine wP tok ?_
 refine w_end (x_seq ?_)
 refine c_seq (c_seq (c_region ?_))
 refine wP tok ?_
 obtain ⟨a1, ha1, H⟩ := H
 refine w_y (y_nil' rfl rfl ha1) rfl rfl ?_
 refine wP tok ?_
 obtain ⟨v2, hv2, H⟩ := H
 refine w_y (y_ld tok rfl rfl rfl rfl hv2) rfl rfl ?_
 refine wP tok ?_
 refine w_end (x_seq (c_block ?_))
 obtain ⟨I1, μ1, H0, HI⟩ := H
 refine c_loop (σ := Slc × Int) (fun (s : Slc × Int) => [(5, Slc.v s.1), (11, .int .i64 s.2), (0, .pointer p0), (1, (Value.func (.func 42) #[.pointer p1c0] #[])), (10, .int .i64 v2)]) I1 μ1 ((⟨none, 0, 0⟩ : Slc), 0) H0 ⟨rfl, rfl, rfl, rfl, rfl, trivial⟩ ?_
 rintro ⟨t5_1, t11_1⟩ h_1 H
 replace H := HI t5_1 t11_1 h_1 H
 unfold raft_Raft_others__raft_Raft_due_l1b at H
 refine c_weak [(5, Slc.v t5_1), (11, .int .i64 t11_1), (0, .pointer p0), (1, (Value.func (.func 42) #[.pointer p1c0] #[])), (10, .int .i64 v2)] ⟨rfl, rfl, rfl, rfl, rfl, trivial⟩ ?_
 refine c_seq (c_region ?_)
 refine wP tok ?_
 refine w_end (x_seq (c_seq ?_))
 refine c_if H rfl (fun H => ?_) (fun H => ?_)
 ·
  refine c_skip (x_seq ?_)
  refine c_seqJ (α := Slc) (fun (s : Slc) => [(5, Slc.v s), (0, .pointer p0), (1, (Value.func (.func 42) #[.pointer p1c0] #[])), (10, .int .i64 v2), (11, .int .i64 t11_1)]) (fun (s : Slc) h => raft_Raft_others__raft_Raft_due_j2 p0 p1c0 v2 t11_1 s k (fun s h' => I1 s h' ∧ μ1 s h' < μ1 (t5_1, t11_1) h_1) h) ?_ ?_
  ·
   rintro t5_2 h_2 H
   replace H : raft_Raft_others__raft_Raft_due_j2 p0 p1c0 v2 t11_1 t5_2 k (fun s h' => I1 s h' ∧ μ1 s h' < μ1 (t5_1, t11_1) h_1) h_2 := H
   unfold raft_Raft_others__raft_Raft_due_j2 at H
   refine c_weak [(5, Slc.v t5_2), (0, .pointer p0), (1, (Value.func (.func 42) #[.pointer p1c0] #[])), (10, .int .i64 v2), (11, .int .i64 t11_1)] ⟨rfl, rfl, rfl, rfl, rfl, trivial⟩ ?_
   refine c_region ?_
   iterate 2 refine wP tok ?_
   refine w_end ?_
   exact x_join (t5_2, (IntKind.i64.wrap (t11_1 + 1))) H ⟨rfl, rfl, rfl, rfl, rfl, trivial⟩
  ·
   refine c_block (c_seq (c_region ?_))
   iterate 2 refine wP tok ?_
   refine w_end (x_seq ?_)
   refine c_seq (c_region ?_)
   iterate 2 refine wP tok ?_
   obtain ⟨a3, ha3, H⟩ := H
   refine w_y (y_nil' rfl rfl ha3) rfl rfl ?_
   refine wP tok ?_
   obtain ⟨v4, hv4, H⟩ := H
   refine w_y (y_ld tok rfl rfl rfl rfl hv4) rfl rfl ?_
   refine wP tok ?_
   refine w_end (x_seq ?_)
   refine c_weak [(5, Slc.v t5_1), (11, .int .i64 t11_1), (0, .pointer p0), (1, (Value.func (.func 42) #[.pointer p1c0] #[])), (10, .int .i64 v2), (6, .int .i64 t11_1), (19, .bool (t11_1 != v4))] ⟨rfl, rfl, rfl, rfl, rfl, rfl, rfl, trivial⟩ ?_
   refine c_if H rfl (fun H => ?_) (fun H => ?_)
   ·
    refine c_region ?_
    iterate 4 refine wP tok ?_
    refine w_callf (vs := [.int .i64 t11_1]) (cap := []) (fs := [.pointer p1c0]) raft_Raft_due_ok (raft_Raft_due_ref _ _ _ _ H) rfl rfl rfl rfl rfl ?_
    rintro _ h6 ⟨r5, rfl, H⟩
    refine w_y (y_build tok rfl rfl rfl rfl rfl) rfl rfl ?_
    obtain ⟨b7, h8, eb7, eh8, H⟩ := H
    refine w_h (h_bs tok rfl rfl rfl rfl rfl rfl rfl eb7 eh8) rfl rfl ?_
    refine w_a (a_app (s := t5_1) (r := (⟨some ⟨b7, 0, none⟩, 1, 1⟩ : Slc)) tok rfl rfl rfl rfl rfl (slcAt_push eb7 eh8) H) rfl rfl ?_
    rintro _ h10 ⟨s9, rfl, H⟩
    refine wP tok ?_
    refine w_end ?_
    refine x_blk ?_
    exact x_join s9 H ⟨rfl, rfl, rfl, rfl, rfl, trivial⟩
   ·
    refine c_skip ?_
    refine x_blk ?_
    exact x_join t5_1 H ⟨rfl, rfl, rfl, rfl, rfl, trivial⟩
 ·
  refine c_exit ?_
  refine x_te (x_te ?_)
  refine x_bh ?_
  refine x_seq (c_seq (c_region ?_))
  iterate 2 refine wP tok ?_
  refine w_end (x_seq ?_)
  refine c_weak [(4, Slc.v t5_1)] ⟨rfl, trivial⟩ ?_
  refine c_ret ?_
  exact x_ret _ rfl _ rfl ⟨t5_1, rfl, H⟩

theorem raft_Raft_win_ok : CallOk Go.Proofs.Try.prog 49 := ⟨_, Go.Proofs.Try.func49, by kernel_rfl, by kernel_rfl⟩
theorem raft_Raft_win_ref (p0 : Option Addr) (k : (Slc) → Heap → Prop) (h : Heap) (H : raft_Raft_win p0 k h) : CallsH Go.Proofs.Try.prog 49 #[.pointer p0] h (fun v h' => ∃ r : Slc, v = Slc.v r ∧ k r h') := by
 refine f_enter (N := 77) Go.Proofs.Try.func49 rfl rfl rfl (fun w0 => ?_)
 unfold raft_Raft_win at H
 refine c_weak [(0, .pointer p0)] ⟨rfl, trivial⟩ ?_
 refine c_seq (c_region ?_)
 refine wP tok ?_
 refine w_end (x_seq ?_)
 refine c_seq (c_seq (c_region ?_))
 refine wP tok ?_
 obtain ⟨a1, ha1, H⟩ := H
 refine w_y (y_nil' rfl rfl ha1) rfl rfl ?_
 refine wP tok ?_
 obtain ⟨v2, hv2, H⟩ := H
 refine w_y (y_ld tok rfl rfl rfl rfl hv2) rfl rfl ?_
 iterate 2 refine wP tok ?_
 refine w_cut 7 (α := Bool) (fun (s : Bool) => [(17, .bool s), (0, .pointer p0)]) (fun (s : Bool) h => raft_Raft_win_g1 p0 s k h) ?_ ?_
 ·
  rintro t17_1 h_1 H
  replace H : raft_Raft_win_g1 p0 t17_1 k h_1 := H
  unfold raft_Raft_win_g1 at H
  refine w_weak [(17, .bool t17_1), (0, .pointer p0)] ⟨rfl, rfl, trivial⟩ ?_
  refine w_end (x_seq ?_)
  refine c_if H rfl (fun H => ?_) (fun H => ?_)
  ·
   refine c_seq (c_region ?_)
   refine wP tok ?_
   refine w_end (x_seq ?_)
   refine c_ret (x_tr ?_)
   exact x_ret _ rfl _ rfl ⟨(⟨none, 0, 0⟩ : Slc), rfl, H⟩
  ·
   refine c_skip (x_seq ?_)
   refine c_seq (c_region ?_)
   refine wP tok ?_
   obtain ⟨a3, ha3, H⟩ := H
   refine w_y (y_nil' rfl rfl ha3) rfl rfl ?_
   refine wP tok ?_
   obtain ⟨v4, hv4, H⟩ := H
   refine w_y (y_ld tok rfl rfl rfl rfl hv4) rfl rfl ?_
   refine w_call rlog_Log_Last_ok (rlog_Log_Last_ref _ _ _ H) rfl rfl rfl rfl ?_
   rintro _ h6 ⟨r5, rfl, H⟩
   iterate 5 refine wP tok ?_
   refine w_end (x_seq ?_)
   refine c_weak [(0, .pointer p0), (3, .int .u64 r5.1)] ⟨rfl, rfl, trivial⟩ ?_
   refine c_seq (c_region ?_)
   iterate 5 refine wP tok ?_
   refine w_y (y_nil' rfl rfl ha3) rfl rfl ?_
   refine wP tok ?_
   obtain ⟨v7, hv7, H⟩ := H
   refine w_y (y_ld tok rfl rfl rfl rfl hv7) rfl rfl ?_
   refine w_y (y_nil' rfl rfl ha3) rfl rfl ?_
   refine wP tok ?_
   obtain ⟨h8, wh8, eh8, H⟩ := H
   refine w_h (h_st tok rfl rfl rfl rfl rfl rfl wh8 eh8) rfl rfl ?_
   refine w_y (y_nil' rfl rfl ha3) rfl rfl ?_
   refine wP tok ?_
   obtain ⟨h9, wh9, eh9, H⟩ := H
   refine w_h (h_st tok rfl rfl rfl rfl rfl rfl wh9 eh9) rfl rfl ?_
   refine w_y (y_nil' rfl rfl ha3) rfl rfl ?_
   refine wP tok ?_
   obtain ⟨h10, wh10, eh10, H⟩ := H
   refine w_h (h_st tok rfl rfl rfl rfl rfl rfl wh10 eh10) rfl rfl ?_
   refine w_y (y_nil' rfl rfl ha3) rfl rfl ?_
   refine wP tok ?_
   obtain ⟨h11, wh11, eh11, H⟩ := H
   refine w_h (h_st tok rfl rfl rfl rfl rfl rfl wh11 eh11) rfl rfl ?_
   refine w_end (x_seq ?_)
   refine c_weak [(0, .pointer p0), (3, .int .u64 r5.1)] ⟨rfl, rfl, trivial⟩ ?_
   refine c_seqJ (α := Unit) (fun (s : Unit) => [(0, .pointer p0), (3, .int .u64 r5.1)]) (fun (s : Unit) h => raft_Raft_win_j2 p0 r5.1 k h) ?_ ?_
   ·
    rintro _ h_2 H
    replace H : raft_Raft_win_j2 p0 r5.1 k h_2 := H
    unfold raft_Raft_win_j2 at H
    refine c_weak [(0, .pointer p0), (3, .int .u64 r5.1)] ⟨rfl, rfl, trivial⟩ ?_
    refine c_seq ?_
    refine c_sim [(0, .pointer p0), (3, .int .u64 r5.1)] (by kernel_rfl) (by kernel_rfl) ⟨rfl, rfl, trivial⟩ (fun wf => ?_)
    refine sQ 0 [(0, .pointer p0)] (some 61) tok wf ⟨rfl, trivial⟩ (fun P_0 => ?_)
    obtain ⟨a12, ha12, H⟩ := H
    refine sP 1 [(61, .pointer p0)] (some 62) wf ⟨rfl, trivial⟩ (fun _ => pf_y rfl rfl rfl (y_nil' rfl rfl ha12)) (fun P_1 => ?_)
    refine sQ 2 [(62, .pointer (some a12))] (some 63) tok wf ⟨rfl, trivial⟩ (fun P_2 => ?_)
    obtain ⟨v13, hv13, H⟩ := H
    refine sL 3 [(63, .pointer (some (a12.add 12)))] (some 64) wf ⟨rfl, trivial⟩ (pf_y rfl rfl rfl (y_ld tok rfl rfl rfl rfl hv13)) (fun P_3 => ?_)
    refine sQ 4 [(0, .pointer p0)] (some 65) tok wf ⟨rfl, trivial⟩ (fun P_4 => ?_)
    refine sP 5 [(65, .pointer p0)] (some 66) wf ⟨rfl, trivial⟩ (fun _ => pf_y rfl rfl rfl (y_nil' rfl rfl ha12)) (fun P_5 => ?_)
    refine sQ 6 [(66, .pointer (some a12))] (some 67) tok wf ⟨rfl, trivial⟩ (fun P_6 => ?_)
    obtain ⟨v14, hv14, H⟩ := H
    refine sL 7 [(67, .pointer (some a12))] (some 68) wf ⟨rfl, trivial⟩ (pf_y rfl rfl rfl (y_ld tok rfl rfl rfl rfl hv14)) (fun P_7 => ?_)
    refine sQ 8 [(3, .int .u64 r5.1)] (some 69) tok wf ⟨rfl, trivial⟩ (fun P_8 => ?_)
    obtain ⟨a15, ha15, la15, ua15, H⟩ := H
    refine sP 9 [(64, Slc.v v13), (68, .int .i64 v14)] (some 70) wf ⟨rfl, rfl, trivial⟩ (fun _ => pf_y rfl rfl rfl (y_ixa' tok rfl rfl ha15 rfl rfl rfl la15 ua15)) (fun P_9 => ?_)
    obtain ⟨h16, wh16, eh16, H⟩ := H
    refine sim_h 10 [0, 1, 2, 3, 4, 5, 6, 7, 8, 9] [0, 1, 2, 3, 4, 5, 6, 7, 8, 9] (ei := [(69, .int .u64 r5.1), (70, .pointer (some (a15.add (v14.toNat * 1))))]) wf ⟨P_9 _, P_8 _, P_7, P_6 _, P_5 _, P_4 _, P_3, P_2 _, P_1 _, P_0 _, trivial⟩ (by kernel_rfl) ⟨rfl, rfl, trivial⟩ (by kernel_rfl) rfl rfl rfl (h_st tok rfl rfl rfl rfl rfl rfl wh16 eh16) ?_
    refine sim_end wf ⟨trivial, trivial, trivial, trivial, trivial, trivial, trivial, trivial, trivial, trivial, trivial⟩ (by kernel_rfl) ?_
    clear wf P_0 P_1 P_2 P_3 P_4 P_5 P_6 P_7 P_8 P_9
    refine x_seq ?_
    refine c_weak [(0, .pointer p0)] ⟨rfl, trivial⟩ ?_
    refine c_seq (c_region ?_)
    refine wP tok ?_
    refine w_call raft_Raft_put_ok (raft_Raft_put_ref _ _ _ _ H) rfl rfl rfl rfl ?_
    rintro _ h18 ⟨r17, rfl, H⟩
    refine w_end (x_seq ?_)
    refine c_seq (c_region ?_)
    iterate 2 refine wP tok ?_
    refine w_y (y_mkff rfl rfl rfl) rfl rfl ?_
    refine w_call raft_Raft_others__raft_Raft_due_ok (raft_Raft_others__raft_Raft_due_ref _ _ _ _ H) rfl rfl rfl rfl ?_
    rintro _ h20 ⟨r19, rfl, H⟩
    refine wP tok ?_
    refine w_end (x_seq ?_)
    refine c_weak [(2, Slc.v r19)] ⟨rfl, trivial⟩ ?_
    refine c_ret ?_
    exact x_ret _ rfl _ rfl ⟨r19, rfl, H⟩
   ·
    refine c_sim [(0, .pointer p0), (3, .int .u64 r5.1)] (by kernel_rfl) (by kernel_rfl) ⟨rfl, rfl, trivial⟩ (fun wf => ?_)
    refine sQ 0 [(0, .pointer p0)] (some 42) tok wf ⟨rfl, trivial⟩ (fun P_0 => ?_)
    refine sQ 1 [(0, .pointer p0)] (some 43) tok wf ⟨rfl, trivial⟩ (fun P_1 => ?_)
    refine sQ 2 [(3, .int .u64 r5.1)] (some 44) tok wf ⟨rfl, trivial⟩ (fun P_2 => ?_)
    refine sQ 3 [(44, .int .u64 r5.1)] (some 45) tok wf ⟨rfl, trivial⟩ (fun P_3 => ?_)
    refine sQ 5 [(0, .pointer p0)] (some 47) tok wf ⟨rfl, trivial⟩ (fun P_5 => ?_)
    refine sP 6 [(47, .pointer p0)] (some 48) wf ⟨rfl, trivial⟩ (fun _ => pf_y rfl rfl rfl (y_nil' rfl rfl ha3)) (fun P_6 => ?_)
    refine sQ 7 [(48, .pointer (some a3))] (some 49) tok wf ⟨rfl, trivial⟩ (fun P_7 => ?_)
    obtain ⟨v21, hv21, H⟩ := H
    refine sL 8 [(49, .pointer (some (a3.add 1)))] (some 50) wf ⟨rfl, trivial⟩ (pf_y rfl rfl rfl (y_ld tok rfl rfl rfl rfl hv21)) (fun P_8 => ?_)
    refine sQ 10 [(0, .pointer p0)] (some 52) tok wf ⟨rfl, trivial⟩ (fun P_10 => ?_)
    refine sP 11 [(52, .pointer p0)] (some 53) wf ⟨rfl, trivial⟩ (fun _ => pf_y rfl rfl rfl (y_nil' rfl rfl ha3)) (fun P_11 => ?_)
    refine sQ 12 [(53, .pointer (some a3))] (some 54) tok wf ⟨rfl, trivial⟩ (fun P_12 => ?_)
    obtain ⟨v22, hv22, H⟩ := H
    refine sL 13 [(54, .pointer (some (a3.add 1)))] (some 55) wf ⟨rfl, trivial⟩ (pf_y rfl rfl rfl (y_ld tok rfl rfl rfl rfl hv22)) (fun P_13 => ?_)
    refine sim_or 4 14 wf ⟨P_13, P_12 _, P_11 _, P_10 _, P_8, P_7 _, P_6 _, P_5 _, P_3 _, P_2 _, P_1 _, P_0 _, trivial⟩ (by kernel_rfl) (by kernel_rfl) H (fun H => ?_) (fun H => ?_)
    ·
     obtain ⟨b23, h24, eb23, eh24, H⟩ := H
     refine sim_hi 4 [2, 3] [2, 3] (ei := [(45, .int .u64 (IntKind.u64.wrap (r5.1 + 1)))]) wf ⟨P_13, P_12 _, P_11 _, P_10 _, P_8, P_7 _, P_6 _, P_5 _, P_3 _, P_2 _, P_1 _, P_0 _, trivial⟩ (by kernel_rfl) ⟨rfl, trivial⟩ (by kernel_rfl) rfl rfl rfl (h_bs tok rfl rfl rfl rfl rfl rfl rfl eb23 eh24) ?_
     obtain ⟨hy25, hy26, H⟩ := H
     refine sim_re (x := ⟨13, .int .i64 v22, [(54, .pointer (some (a3.add 1)))]⟩) (pf_y rfl rfl rfl (y_ld tok rfl rfl rfl rfl hy25)) (fun P_13 => ?_)
     refine sim_re (x := ⟨8, .int .i64 v21, [(49, .pointer (some (a3.add 1)))]⟩) (pf_y rfl rfl rfl (y_ld tok rfl rfl rfl rfl hy26)) (fun P_8 => ?_)
     refine sim_or 9 14 wf ⟨P_13, P_12 _, P_11 _, P_10 _, P_8, P_7 _, P_6 _, P_5 _, trivial, trivial, P_1 _, P_0 _, trivial⟩ (by kernel_rfl) (by kernel_rfl) H (fun H => ?_) (fun H => ?_)
     ·
      refine sim_ci 9 [2, 3, 4, 5, 6, 7, 8] [2, 3, 5, 6, 7, 8] (ei := [(46, Slc.v (⟨some ⟨b23, 0, none⟩, 1, 1⟩ : Slc)), (50, .int .i64 v21)]) slices_Repeat_uint64_uint64_ok (slices_Repeat_uint64_uint64_ref _ _ _ _ H) wf ⟨P_13, P_12 _, P_11 _, P_10 _, P_8, P_7 _, P_6 _, P_5 _, trivial, trivial, P_1 _, P_0 _, trivial⟩ (by kernel_rfl) ⟨rfl, rfl, trivial⟩ (by kernel_rfl) rfl rfl rfl rfl rfl ?_
      rintro _ h28 ⟨r27, rfl, H⟩
      obtain ⟨hy29, H⟩ := H
      refine sim_re (x := ⟨13, .int .i64 v22, [(54, .pointer (some (a3.add 1)))]⟩) (pf_y rfl rfl rfl (y_ld tok rfl rfl rfl rfl hy29)) (fun P_13 => ?_)
      refine sP 15 [(42, .pointer p0)] (some 57) wf ⟨rfl, trivial⟩ (fun _ => pf_y rfl rfl rfl (y_nil' rfl rfl ha3)) (fun P_15 => ?_)
      refine sQ 16 [(57, .pointer (some a3))] (some 58) tok wf ⟨rfl, trivial⟩ (fun P_16 => ?_)
      refine sim_or 14 17 wf ⟨P_16 _, P_15 _, P_13, P_12 _, P_11 _, P_10 _, trivial, trivial, trivial, trivial, trivial, trivial, P_1 _, P_0 _, trivial⟩ (by kernel_rfl) (by kernel_rfl) H (fun H => ?_) (fun H => ?_)
      ·
       obtain ⟨b30, h31, ph31, qh31, rh31, th31, eb30, eh31, H⟩ := H
       refine sim_hi 14 [10, 11, 12, 13] [2, 3, 5, 6, 7, 8, 10, 11, 12, 13] (ei := [(55, .int .i64 v22)]) wf ⟨P_16 _, P_15 _, P_13, P_12 _, P_11 _, P_10 _, trivial, trivial, trivial, trivial, trivial, trivial, P_1 _, P_0 _, trivial⟩ (by kernel_rfl) ⟨rfl, trivial⟩ (by kernel_rfl) rfl rfl rfl (h_mk tok rfl rfl rfl rfl rfl rfl ph31 qh31 rh31 th31 eb30 eh31) ?_
       obtain ⟨h32, wh32, eh32, H⟩ := H
       refine sim_h 17 [0, 2, 3, 4, 5, 6, 7, 8, 9, 10, 11, 12, 13, 15, 16] [0, 2, 3, 5, 6, 7, 8, 10, 11, 12, 13, 15, 16] (ei := [(51, Slc.v r27), (58, .pointer (some (a3.add 11)))]) wf ⟨P_16 _, P_15 _, trivial, trivial, trivial, trivial, trivial, trivial, trivial, trivial, trivial, trivial, P_1 _, P_0 _, trivial⟩ (by kernel_rfl) ⟨rfl, rfl, trivial⟩ (by kernel_rfl) rfl rfl rfl (h_st tok rfl rfl rfl rfl rfl rfl wh32 eh32) ?_
       refine sP 18 [(43, .pointer p0)] (some 59) wf ⟨rfl, trivial⟩ (fun _ => pf_y rfl rfl rfl (y_nil' rfl rfl ha3)) (fun P_18 => ?_)
       refine sQ 19 [(59, .pointer (some a3))] (some 60) tok wf ⟨rfl, trivial⟩ (fun P_19 => ?_)
       obtain ⟨h33, wh33, eh33, H⟩ := H
       refine sim_h 20 [0, 1, 2, 3, 4, 5, 6, 7, 8, 9, 10, 11, 12, 13, 14, 15, 16, 17, 18, 19] [0, 1, 2, 3, 5, 6, 7, 8, 10, 11, 12, 13, 15, 16, 18, 19] (ei := [(56, Slc.v (⟨some ⟨b30, 0, none⟩, v22.toNat, v22.toNat⟩ : Slc)), (60, .pointer (some (a3.add 12)))]) wf ⟨P_19 _, P_18 _, trivial, trivial, trivial, trivial, trivial, trivial, trivial, trivial, trivial, trivial, trivial, trivial, P_1 _, trivial, trivial⟩ (by kernel_rfl) ⟨rfl, rfl, trivial⟩ (by kernel_rfl) rfl rfl rfl (h_st tok rfl rfl rfl rfl rfl rfl wh33 eh33) ?_
       refine sim_end wf ⟨trivial, trivial, trivial, trivial, trivial, trivial, trivial, trivial, trivial, trivial, trivial, trivial, trivial, trivial, trivial, trivial, trivial⟩ (by kernel_rfl) ?_
       clear wf P_0 P_1 P_10 P_11 P_12 P_13 P_15 P_16 P_18 P_19 P_2 P_3 P_5 P_6 P_7 P_8
       exact x_join () H ⟨rfl, rfl, trivial⟩
      ·
       obtain ⟨h34, wh34, eh34, H⟩ := H
       refine sim_hi 17 [0, 2, 3, 4, 5, 6, 7, 8, 9, 10, 11, 12, 13, 15, 16] [0, 2, 3, 5, 6, 7, 8, 10, 11, 12, 13, 15, 16] (ei := [(51, Slc.v r27), (58, .pointer (some (a3.add 11)))]) wf ⟨P_16 _, P_15 _, P_13, P_12 _, P_11 _, P_10 _, trivial, trivial, trivial, trivial, trivial, trivial, P_1 _, P_0 _, trivial⟩ (by kernel_rfl) ⟨rfl, rfl, trivial⟩ (by kernel_rfl) rfl rfl rfl (h_st tok rfl rfl rfl rfl rfl rfl wh34 eh34) ?_
       obtain ⟨b35, h36, ph36, qh36, rh36, th36, eb35, eh36, H⟩ := H
       refine sim_h 14 [10, 11, 12, 13] [0, 2, 3, 5, 6, 7, 8, 10, 11, 12, 13, 15, 16] (ei := [(55, .int .i64 v22)]) wf ⟨trivial, trivial, trivial, trivial, trivial, trivial, trivial, trivial, trivial, trivial, trivial, trivial, P_1 _, trivial, trivial⟩ (by kernel_rfl) ⟨rfl, trivial⟩ (by kernel_rfl) rfl rfl rfl (h_mk tok rfl rfl rfl rfl rfl rfl ph36 qh36 rh36 th36 eb35 eh36) ?_
       refine sP 18 [(43, .pointer p0)] (some 59) wf ⟨rfl, trivial⟩ (fun _ => pf_y rfl rfl rfl (y_nil' rfl rfl ha3)) (fun P_18 => ?_)
       refine sQ 19 [(59, .pointer (some a3))] (some 60) tok wf ⟨rfl, trivial⟩ (fun P_19 => ?_)
       obtain ⟨h37, wh37, eh37, H⟩ := H
       refine sim_h 20 [0, 1, 2, 3, 4, 5, 6, 7, 8, 9, 10, 11, 12, 13, 14, 15, 16, 17, 18, 19] [0, 1, 2, 3, 5, 6, 7, 8, 10, 11, 12, 13, 15, 16, 18, 19] (ei := [(56, Slc.v (⟨some ⟨b35, 0, none⟩, v22.toNat, v22.toNat⟩ : Slc)), (60, .pointer (some (a3.add 12)))]) wf ⟨P_19 _, P_18 _, trivial, trivial, trivial, trivial, trivial, trivial, trivial, trivial, trivial, trivial, trivial, trivial, P_1 _, trivial, trivial⟩ (by kernel_rfl) ⟨rfl, rfl, trivial⟩ (by kernel_rfl) rfl rfl rfl (h_st tok rfl rfl rfl rfl rfl rfl wh37 eh37) ?_
       refine sim_end wf ⟨trivial, trivial, trivial, trivial, trivial, trivial, trivial, trivial, trivial, trivial, trivial, trivial, trivial, trivial, trivial, trivial, trivial⟩ (by kernel_rfl) ?_
       clear wf P_0 P_1 P_10 P_11 P_12 P_13 P_15 P_16 P_18 P_19 P_2 P_3 P_5 P_6 P_7 P_8
       exact x_join () H ⟨rfl, rfl, trivial⟩
     ·
      obtain ⟨b38, h39, ph39, qh39, rh39, th39, eb38, eh39, H⟩ := H
      refine sim_hi 14 [10, 11, 12, 13] [2, 3, 10, 11, 12, 13] (ei := [(55, .int .i64 v22)]) wf ⟨P_13, P_12 _, P_11 _, P_10 _, P_8, P_7 _, P_6 _, P_5 _, trivial, trivial, P_1 _, P_0 _, trivial⟩ (by kernel_rfl) ⟨rfl, trivial⟩ (by kernel_rfl) rfl rfl rfl (h_mk tok rfl rfl rfl rfl rfl rfl ph39 qh39 rh39 th39 eb38 eh39) ?_
      obtain ⟨hy40, H⟩ := H
      refine sim_re (x := ⟨8, .int .i64 v21, [(49, .pointer (some (a3.add 1)))]⟩) (pf_y rfl rfl rfl (y_ld tok rfl rfl rfl rfl hy40)) (fun P_8 => ?_)
      refine sim_c 9 [2, 3, 4, 5, 6, 7, 8] [2, 3, 5, 6, 7, 8, 10, 11, 12, 13] (ei := [(46, Slc.v (⟨some ⟨b23, 0, none⟩, 1, 1⟩ : Slc)), (50, .int .i64 v21)]) slices_Repeat_uint64_uint64_ok (slices_Repeat_uint64_uint64_ref _ _ _ _ H) wf ⟨trivial, trivial, trivial, trivial, P_8, P_7 _, P_6 _, P_5 _, trivial, trivial, P_1 _, P_0 _, trivial⟩ (by kernel_rfl) ⟨rfl, rfl, trivial⟩ (by kernel_rfl) rfl rfl rfl rfl rfl ?_
      rintro _ h42 ⟨r41, rfl, H⟩
      refine sP 15 [(42, .pointer p0)] (some 57) wf ⟨rfl, trivial⟩ (fun _ => pf_y rfl rfl rfl (y_nil' rfl rfl ha3)) (fun P_15 => ?_)
      refine sQ 16 [(57, .pointer (some a3))] (some 58) tok wf ⟨rfl, trivial⟩ (fun P_16 => ?_)
      obtain ⟨h43, wh43, eh43, H⟩ := H
      refine sim_h 17 [0, 2, 3, 4, 5, 6, 7, 8, 9, 10, 11, 12, 13, 15, 16] [0, 2, 3, 5, 6, 7, 8, 10, 11, 12, 13, 15, 16] (ei := [(51, Slc.v r41), (58, .pointer (some (a3.add 11)))]) wf ⟨P_16 _, P_15 _, trivial, trivial, trivial, trivial, trivial, trivial, trivial, trivial, trivial, trivial, P_1 _, P_0 _, trivial⟩ (by kernel_rfl) ⟨rfl, rfl, trivial⟩ (by kernel_rfl) rfl rfl rfl (h_st tok rfl rfl rfl rfl rfl rfl wh43 eh43) ?_
      refine sP 18 [(43, .pointer p0)] (some 59) wf ⟨rfl, trivial⟩ (fun _ => pf_y rfl rfl rfl (y_nil' rfl rfl ha3)) (fun P_18 => ?_)
      refine sQ 19 [(59, .pointer (some a3))] (some 60) tok wf ⟨rfl, trivial⟩ (fun P_19 => ?_)
      obtain ⟨h44, wh44, eh44, H⟩ := H
      refine sim_h 20 [0, 1, 2, 3, 4, 5, 6, 7, 8, 9, 10, 11, 12, 13, 14, 15, 16, 17, 18, 19] [0, 1, 2, 3, 5, 6, 7, 8, 10, 11, 12, 13, 15, 16, 18, 19] (ei := [(56, Slc.v (⟨some ⟨b38, 0, none⟩, v22.toNat, v22.toNat⟩ : Slc)), (60, .pointer (some (a3.add 12)))]) wf ⟨P_19 _, P_18 _, trivial, trivial, trivial, trivial, trivial, trivial, trivial, trivial, trivial, trivial, trivial, trivial, P_1 _, trivial, trivial⟩ (by kernel_rfl) ⟨rfl, rfl, trivial⟩ (by kernel_rfl) rfl rfl rfl (h_st tok rfl rfl rfl rfl rfl rfl wh44 eh44) ?_
      refine sim_end wf ⟨trivial, trivial, trivial, trivial, trivial, trivial, trivial, trivial, trivial, trivial, trivial, trivial, trivial, trivial, trivial, trivial, trivial⟩ (by kernel_rfl) ?_
      clear wf P_0 P_1 P_10 P_11 P_12 P_13 P_15 P_16 P_18 P_19 P_2 P_3 P_5 P_6 P_7 P_8
      exact x_join () H ⟨rfl, rfl, trivial⟩
    ·
     obtain ⟨b45, h46, ph46, qh46, rh46, th46, eb45, eh46, H⟩ := H
     refine sim_hi 14 [10, 11, 12, 13] [10, 11, 12, 13] (ei := [(55, .int .i64 v22)]) wf ⟨P_13, P_12 _, P_11 _, P_10 _, P_8, P_7 _, P_6 _, P_5 _, P_3 _, P_2 _, P_1 _, P_0 _, trivial⟩ (by kernel_rfl) ⟨rfl, trivial⟩ (by kernel_rfl) rfl rfl rfl (h_mk tok rfl rfl rfl rfl rfl rfl ph46 qh46 rh46 th46 eb45 eh46) ?_
     obtain ⟨hy47, H⟩ := H
     refine sim_re (x := ⟨8, .int .i64 v21, [(49, .pointer (some (a3.add 1)))]⟩) (pf_y rfl rfl rfl (y_ld tok rfl rfl rfl rfl hy47)) (fun P_8 => ?_)
     obtain ⟨b48, h49, eb48, eh49, H⟩ := H
     refine sim_h 4 [2, 3] [2, 3, 10, 11, 12, 13] (ei := [(45, .int .u64 (IntKind.u64.wrap (r5.1 + 1)))]) wf ⟨trivial, trivial, trivial, trivial, P_8, P_7 _, P_6 _, P_5 _, P_3 _, P_2 _, P_1 _, P_0 _, trivial⟩ (by kernel_rfl) ⟨rfl, trivial⟩ (by kernel_rfl) rfl rfl rfl (h_bs tok rfl rfl rfl rfl rfl rfl rfl eb48 eh49) ?_
     obtain ⟨hy50, H⟩ := H
     refine sim_re (x := ⟨8, .int .i64 v21, [(49, .pointer (some (a3.add 1)))]⟩) (pf_y rfl rfl rfl (y_ld tok rfl rfl rfl rfl hy50)) (fun P_8 => ?_)
     refine sim_c 9 [2, 3, 4, 5, 6, 7, 8] [2, 3, 5, 6, 7, 8, 10, 11, 12, 13] (ei := [(46, Slc.v (⟨some ⟨b48, 0, none⟩, 1, 1⟩ : Slc)), (50, .int .i64 v21)]) slices_Repeat_uint64_uint64_ok (slices_Repeat_uint64_uint64_ref _ _ _ _ H) wf ⟨trivial, trivial, trivial, trivial, P_8, P_7 _, P_6 _, P_5 _, trivial, trivial, P_1 _, P_0 _, trivial⟩ (by kernel_rfl) ⟨rfl, rfl, trivial⟩ (by kernel_rfl) rfl rfl rfl rfl rfl ?_
     rintro _ h52 ⟨r51, rfl, H⟩
     refine sP 15 [(42, .pointer p0)] (some 57) wf ⟨rfl, trivial⟩ (fun _ => pf_y rfl rfl rfl (y_nil' rfl rfl ha3)) (fun P_15 => ?_)
     refine sQ 16 [(57, .pointer (some a3))] (some 58) tok wf ⟨rfl, trivial⟩ (fun P_16 => ?_)
     obtain ⟨h53, wh53, eh53, H⟩ := H
     refine sim_h 17 [0, 2, 3, 4, 5, 6, 7, 8, 9, 10, 11, 12, 13, 15, 16] [0, 2, 3, 5, 6, 7, 8, 10, 11, 12, 13, 15, 16] (ei := [(51, Slc.v r51), (58, .pointer (some (a3.add 11)))]) wf ⟨P_16 _, P_15 _, trivial, trivial, trivial, trivial, trivial, trivial, trivial, trivial, trivial, trivial, P_1 _, P_0 _, trivial⟩ (by kernel_rfl) ⟨rfl, rfl, trivial⟩ (by kernel_rfl) rfl rfl rfl (h_st tok rfl rfl rfl rfl rfl rfl wh53 eh53) ?_
     refine sP 18 [(43, .pointer p0)] (some 59) wf ⟨rfl, trivial⟩ (fun _ => pf_y rfl rfl rfl (y_nil' rfl rfl ha3)) (fun P_18 => ?_)
     refine sQ 19 [(59, .pointer (some a3))] (some 60) tok wf ⟨rfl, trivial⟩ (fun P_19 => ?_)
     obtain ⟨h54, wh54, eh54, H⟩ := H
     refine sim_h 20 [0, 1, 2, 3, 4, 5, 6, 7, 8, 9, 10, 11, 12, 13, 14, 15, 16, 17, 18, 19] [0, 1, 2, 3, 5, 6, 7, 8, 10, 11, 12, 13, 15, 16, 18, 19] (ei := [(56, Slc.v (⟨some ⟨b45, 0, none⟩, v22.toNat, v22.toNat⟩ : Slc)), (60, .pointer (some (a3.add 12)))]) wf ⟨P_19 _, P_18 _, trivial, trivial, trivial, trivial, trivial, trivial, trivial, trivial, trivial, trivial, trivial, trivial, P_1 _, trivial, trivial⟩ (by kernel_rfl) ⟨rfl, rfl, trivial⟩ (by kernel_rfl) rfl rfl rfl (h_st tok rfl rfl rfl rfl rfl rfl wh54 eh54) ?_
     refine sim_end wf ⟨trivial, trivial, trivial, trivial, trivial, trivial, trivial, trivial, trivial, trivial, trivial, trivial, trivial, trivial, trivial, trivial, trivial⟩ (by kernel_rfl) ?_
     clear wf P_0 P_1 P_10 P_11 P_12 P_13 P_15 P_16 P_18 P_19 P_2 P_3 P_5 P_6 P_7 P_8
     exact x_join () H ⟨rfl, rfl, trivial⟩
 ·
  refine w_gif (d := 10) H rfl (fun H => ?_) (fun H => ?_)
  ·
   iterate 6 refine w_skip rfl rfl ?_
   refine wP tok ?_
   exact w_jn true H ⟨rfl, rfl, trivial⟩
  ·
   refine wP tok ?_
   refine w_y (y_nil' rfl rfl ha1) rfl rfl ?_
   refine wP tok ?_
   obtain ⟨v55, hv55, H⟩ := H
   refine w_y (y_ld tok rfl rfl rfl rfl hv55) rfl rfl ?_
   refine w_call vote_Ballot_Won_ok (vote_Ballot_Won_ref _ _ _ H) rfl rfl rfl rfl ?_
   rintro _ h57 ⟨r56, rfl, H⟩
   iterate 2 refine wP tok ?_
   exact w_jn (!r56) H ⟨rfl, rfl, trivial⟩

theorem raft_Raft_campaign_1_ok : CallOk Go.Proofs.Try.prog 67 := ⟨_, Go.Proofs.Try.func67, by kernel_rfl, by kernel_rfl⟩
theorem raft_Raft_campaign_1_ref (p0 : Int) (p1 : Addr) (p2 : Addr) (p3 : Addr) (k : (S_api_Msg) → Heap → Prop) (h : Heap) (H : raft_Raft_campaign_1 p0 p1 p2 p3 k h) : CallsH Go.Proofs.Try.prog 67 #[.int .i64 p0, .pointer (some p1), .pointer (some p2), .pointer (some p3)] h (fun v h' => ∃ r : S_api_Msg, v = .agg (S_api_Msg.cs r).toArray ∧ k r h') := by
 refine f_enter (N := 13) Go.Proofs.Try.func67 rfl rfl rfl (fun w0 => ?_)
 unfold raft_Raft_campaign_1 at H
 refine c_weak [(0, .int .i64 p0), (1, .pointer (some p1)), (2, .pointer (some p2)), (3, .pointer (some p3))] ⟨rfl, rfl, rfl, rfl, trivial⟩ ?_
 refine c_seq (c_region ?_)
 obtain ⟨b1, h2, eb1, eh2, H⟩ := H
 refine w_h (h_alloc tok rfl rfl eb1 eh2) rfl rfl ?_
 refine w_end (x_seq (c_seq ?_))
 refine c_sim [(1, .pointer (some p1)), (2, .pointer (some p2)), (3, .pointer (some p3)), (5, .pointer (some (⟨b1, 0, none⟩ : Addr)))] (by kernel_rfl) (by kernel_rfl) ⟨rfl, rfl, rfl, rfl, trivial⟩ (fun wf => ?_)
 obtain ⟨v3, hv3, H⟩ := H
 refine sL 0 [(1, .pointer (some p1))] (some 6) wf ⟨rfl, trivial⟩ (pf_y rfl rfl rfl (y_ld tok rfl rfl rfl rfl hv3)) (fun P_0 => ?_)
 obtain ⟨a4, ha4, H⟩ := H
 refine sP 1 [(6, .pointer v3)] (some 7) wf ⟨rfl, trivial⟩ (fun _ => pf_y rfl rfl rfl (y_nil' rfl rfl ha4)) (fun P_1 => ?_)
 refine sQ 2 [(7, .pointer (some a4))] (some 8) tok wf ⟨rfl, trivial⟩ (fun P_2 => ?_)
 obtain ⟨v5, hv5, H⟩ := H
 refine sL 3 [(8, .pointer (some (a4.add 2)))] (some 9) wf ⟨rfl, trivial⟩ (pf_y rfl rfl rfl (y_ld tok rfl rfl rfl rfl hv5)) (fun P_3 => ?_)
 obtain ⟨v6, hv6, H⟩ := H
 refine sL 4 [(2, .pointer (some p2))] (some 10) wf ⟨rfl, trivial⟩ (pf_y rfl rfl rfl (y_ld tok rfl rfl rfl rfl hv6)) (fun P_4 => ?_)
 obtain ⟨v7, hv7, H⟩ := H
 refine sL 5 [(3, .pointer (some p3))] (some 11) wf ⟨rfl, trivial⟩ (pf_y rfl rfl rfl (y_ld tok rfl rfl rfl rfl hv7)) (fun P_5 => ?_)
 refine sP 6 [(9, .int .u64 v5), (10, .int .u64 v6), (11, .int .u64 v7)] (some 12) wf ⟨rfl, rfl, rfl, trivial⟩ (fun _ => pf_y rfl rfl rfl (y_build tok rfl rfl rfl rfl rfl)) (fun P_6 => ?_)
 obtain ⟨h8, wh8, eh8, H⟩ := H
 refine sim_h 7 [0, 1, 2, 3, 4, 5, 6] [0, 1, 2, 3, 4, 5, 6] (ei := [(5, .pointer (some (⟨b1, 0, none⟩ : Addr))), (12, .agg (S_api_Msg.cs (⟨1, v5, v6, v7, 0, false, (⟨none, 0, 0⟩ : Slc), (⟨none, 0, 0⟩ : Slc)⟩ : S_api_Msg)).toArray)]) wf ⟨P_6 _, P_5, P_4, P_3, P_2 _, P_1 _, P_0, trivial⟩ (by kernel_rfl) ⟨rfl, rfl, trivial⟩ (by kernel_rfl) rfl rfl rfl (h_sts tok rfl rfl rfl rfl rfl (oneC (by kernel_rfl)) wh8 eh8) ?_
 refine sim_end wf ⟨trivial, trivial, trivial, trivial, trivial, trivial, trivial, trivial⟩ (by kernel_rfl) ?_
 clear wf P_0 P_1 P_2 P_3 P_4 P_5 P_6
 refine x_seq ?_
 refine c_weak [(5, .pointer (some (⟨b1, 0, none⟩ : Addr)))] ⟨rfl, trivial⟩ ?_
 refine c_ret ?_
 obtain ⟨v9, hv9, H⟩ := H
 exact x_retc tok _ rfl [.agg (S_api_Msg.cs v9).toArray] ⟨⟨_, _, rfl, rfl, .inr ⟨rfl, _, rfl, rfl, hv9⟩⟩, trivial⟩ ⟨v9, rfl, H⟩

theorem raft_Raft_others__raft_Raft_campaign_1_ok : CallOk Go.Proofs.Try.prog 41 := ⟨_, Go.Proofs.Try.func41, by kernel_rfl, by kernel_rfl⟩
theorem raft_Raft_others__raft_Raft_campaign_1_ref (p0 : Option Addr) (p1c0 : Addr) (p1c1 : Addr) (p1c2 : Addr) (k : (Slc) → Heap → Prop) (h : Heap) (H : raft_Raft_others__raft_Raft_campaign_1 p0 p1c0 p1c1 p1c2 k h) : CallsH Go.Proofs.Try.prog 41 #[.pointer p0, (Value.func (.func 67) #[] #[.pointer (some p1c0), .pointer (some p1c1), .pointer (some p1c2)])] h (fun v h' => ∃ r : Slc, v = Slc.v r ∧ k r h') := by
 refine f_enter (N := 30) Go.Proofs.Try.func41 rfl rfl rfl (fun w0 => ?_)
 unfold raft_Raft_others__raft_Raft_campaign_1 at H
 refine c_weak [(0, .pointer p0), (1, (Value.func (.func 67) #[] #[.pointer (some p1c0), .pointer (some p1c1), .pointer (some p1c2)]))] ⟨rfl, rfl, trivial⟩ ?_
 refine c_seq (c_region ?_)
 refine wP tok ?_
 refine w_end (x_seq ?_)
 refine c_seq (c_region ?_)
 refine wP tok ?_
 refine w_end (x_seq ?_)
 refine c_seq (c_seq (c_region ?_))
 refine wP tok ?_
 obtain ⟨a1, ha1, H⟩ := H
 refine w_y (y_nil' rfl rfl ha1) rfl rfl ?_
 refine wP tok ?_
 obtain ⟨v2, hv2, H⟩ := H
 refine w_y (y_ld tok rfl rfl rfl rfl hv2) rfl rfl ?_
 refine wP tok ?_
 refine w_end (x_seq (c_block ?_))
 obtain ⟨I1, μ1, H0, HI⟩ := H
 refine c_loop (σ := Slc × Int) (fun (s : Slc × Int) => [(5, Slc.v s.1), (11, .int .i64 s.2), (0, .pointer p0), (1, (Value.func (.func 67) #[] #[.pointer (some p1c0), .pointer (some p1c1), .pointer (some p1c2)])), (10, .int .i64 v2)]) I1 μ1 ((⟨none, 0, 0⟩ : Slc), 0) H0 ⟨rfl, rfl, rfl, rfl, rfl, trivial⟩ ?_
 rintro ⟨t5_1, t11_1⟩ h_1 H
 replace H := HI t5_1 t11_1 h_1 H
 unfold raft_Raft_others__raft_Raft_campaign_1_l1b at H
 refine c_weak [(5, Slc.v t5_1), (11, .int .i64 t11_1), (0, .pointer p0), (1, (Value.func (.func 67) #[] #[.pointer (some p1c0), .pointer (some p1c1), .pointer (some p1c2)])), (10, .int .i64 v2)] ⟨rfl, rfl, rfl, rfl, rfl, trivial⟩ ?_
 refine c_seq (c_region ?_)
 refine wP tok ?_
 refine w_end (x_seq (c_seq ?_))
 refine c_if H rfl (fun H => ?_) (fun H => ?_)
 ·
  refine c_skip (x_seq ?_)
  refine c_seqJ (α := Slc) (fun (s : Slc) => [(5, Slc.v s), (0, .pointer p0), (1, (Value.func (.func 67) #[] #[.pointer (some p1c0), .pointer (some p1c1), .pointer (some p1c2)])), (10, .int .i64 v2), (11, .int .i64 t11_1)]) (fun (s : Slc) h => raft_Raft_others__raft_Raft_campaign_1_j2 p0 p1c0 p1c1 p1c2 v2 t11_1 s k (fun s h' => I1 s h' ∧ μ1 s h' < μ1 (t5_1, t11_1) h_1) h) ?_ ?_
  ·
   rintro t5_2 h_2 H
   replace H : raft_Raft_others__raft_Raft_campaign_1_j2 p0 p1c0 p1c1 p1c2 v2 t11_1 t5_2 k (fun s h' => I1 s h' ∧ μ1 s h' < μ1 (t5_1, t11_1) h_1) h_2 := H
   unfold raft_Raft_others__raft_Raft_campaign_1_j2 at H
   refine c_weak [(5, Slc.v t5_2), (0, .pointer p0), (1, (Value.func (.func 67) #[] #[.pointer (some p1c0), .pointer (some p1c1), .pointer (some p1c2)])), (10, .int .i64 v2), (11, .int .i64 t11_1)] ⟨rfl, rfl, rfl, rfl, rfl, trivial⟩ ?_
   refine c_region ?_
   iterate 2 refine wP tok ?_
   refine w_end ?_
   exact x_join (t5_2, (IntKind.i64.wrap (t11_1 + 1))) H ⟨rfl, rfl, rfl, rfl, rfl, trivial⟩
  ·
   refine c_block (c_seq (c_region ?_))
   iterate 2 refine wP tok ?_
   refine w_end (x_seq ?_)
   refine c_seq (c_region ?_)
   iterate 2 refine wP tok ?_
   obtain ⟨a3, ha3, H⟩ := H
   refine w_y (y_nil' rfl rfl ha3) rfl rfl ?_
   refine wP tok ?_
   obtain ⟨v4, hv4, H⟩ := H
   refine w_y (y_ld tok rfl rfl rfl rfl hv4) rfl rfl ?_
   refine wP tok ?_
   refine w_end (x_seq ?_)
   refine c_weak [(5, Slc.v t5_1), (11, .int .i64 t11_1), (0, .pointer p0), (1, (Value.func (.func 67) #[] #[.pointer (some p1c0), .pointer (some p1c1), .pointer (some p1c2)])), (10, .int .i64 v2), (6, .int .i64 t11_1), (19, .bool (t11_1 != v4))] ⟨rfl, rfl, rfl, rfl, rfl, rfl, rfl, trivial⟩ ?_
   refine c_if H rfl (fun H => ?_) (fun H => ?_)
   ·
    refine c_region ?_
    iterate 4 refine wP tok ?_
    refine w_callv (vs := [.int .i64 t11_1]) (cap := [.pointer (some p1c0), .pointer (some p1c1), .pointer (some p1c2)]) raft_Raft_campaign_1_ok (raft_Raft_campaign_1_ref _ _ _ _ _ _ H) rfl rfl rfl rfl rfl ?_
    rintro _ h6 ⟨r5, rfl, H⟩
    refine w_y (y_build tok rfl rfl rfl rfl rfl) rfl rfl ?_
    obtain ⟨b7, h8, eb7, eh8, H⟩ := H
    refine w_h (h_bs tok rfl rfl rfl rfl rfl rfl rfl eb7 eh8) rfl rfl ?_
    refine w_a (a_app (s := t5_1) (r := (⟨some ⟨b7, 0, none⟩, 1, 1⟩ : Slc)) tok rfl rfl rfl rfl rfl (slcAt_push eb7 eh8) H) rfl rfl ?_
    rintro _ h10 ⟨s9, rfl, H⟩
    refine wP tok ?_
    refine w_end ?_
    refine x_blk ?_
    exact x_join s9 H ⟨rfl, rfl, rfl, rfl, rfl, trivial⟩
   ·
    refine c_skip ?_
    refine x_blk ?_
    exact x_join t5_1 H ⟨rfl, rfl, rfl, rfl, rfl, trivial⟩
 ·
  refine c_exit ?_
  refine x_te (x_te ?_)
  refine x_bh ?_
  refine x_seq (c_seq (c_region ?_))
  iterate 2 refine wP tok ?_
  refine w_end (x_seq ?_)
  refine c_weak [(4, Slc.v t5_1)] ⟨rfl, trivial⟩ ?_
  refine c_ret ?_
  exact x_ret _ rfl _ rfl ⟨t5_1, rfl, H⟩

theorem raft_Raft_campaign_ok : CallOk Go.Proofs.Try.prog 44 := ⟨_, Go.Proofs.Try.func44, by kernel_rfl, by kernel_rfl⟩
theorem raft_Raft_campaign_ref (p0 : Option Addr) (k : (Slc) → Heap → Prop) (h : Heap) (H : raft_Raft_campaign p0 k h) : CallsH Go.Proofs.Try.prog 44 #[.pointer p0] h (fun v h' => ∃ r : Slc, v = Slc.v r ∧ k r h') := by
 refine f_enter (N := 69) Go.Proofs.Try.func44 rfl rfl rfl (fun w0 => ?_)
 unfold raft_Raft_campaign at H
 refine c_weak [(0, .pointer p0)] ⟨rfl, trivial⟩ ?_
 refine c_seq (c_region ?_)
 obtain ⟨b1, h2, eb1, eh2, H⟩ := H
 refine w_h (h_box rfl rfl eb1 eh2) rfl rfl ?_
 refine wP tok ?_
 refine w_end (x_seq ?_)
 refine c_seq (c_seq (c_region ?_))
 obtain ⟨v3, hv3, H⟩ := H
 refine w_y (y_ld tok rfl rfl rfl rfl hv3) rfl rfl ?_
 obtain ⟨a4, ha4, H⟩ := H
 refine w_y (y_nil' rfl rfl ha4) rfl rfl ?_
 refine wP tok ?_
 obtain ⟨v5, hv5, H⟩ := H
 refine w_y (y_ld tok rfl rfl rfl rfl hv5) rfl rfl ?_
 refine wP tok ?_
 refine w_end (x_seq ?_)
 refine c_if H rfl (fun H => ?_) (fun H => ?_)
 ·
  refine c_seq (c_region ?_)
  refine wP tok ?_
  refine w_end (x_seq ?_)
  refine c_weak [(2, Slc.v (⟨none, 0, 0⟩ : Slc))] ⟨rfl, trivial⟩ ?_
  refine c_ret (x_tr ?_)
  exact x_ret _ rfl _ rfl ⟨(⟨none, 0, 0⟩ : Slc), rfl, H⟩
 ·
  refine c_skip (x_seq ?_)
  refine c_weak [(1, .pointer (some (⟨b1, 0, none⟩ : Addr)))] ⟨rfl, trivial⟩ ?_
  refine c_seq (c_region ?_)
  obtain ⟨v6, hv6, H⟩ := H
  refine w_y (y_ld tok rfl rfl rfl rfl hv6) rfl rfl ?_
  obtain ⟨a7, ha7, H⟩ := H
  refine w_y (y_nil' rfl rfl ha7) rfl rfl ?_
  refine wP tok ?_
  obtain ⟨v8, hv8, H⟩ := H
  refine w_y (y_ld tok rfl rfl rfl rfl hv8) rfl rfl ?_
  refine wP tok ?_
  refine w_y (y_nil' rfl rfl ha7) rfl rfl ?_
  refine wP tok ?_
  obtain ⟨h9, wh9, eh9, H⟩ := H
  refine w_h (h_st tok rfl rfl rfl rfl rfl rfl wh9 eh9) rfl rfl ?_
  refine w_end (x_seq ?_)
  refine c_weak [(1, .pointer (some (⟨b1, 0, none⟩ : Addr)))] ⟨rfl, trivial⟩ ?_
  refine c_seq ?_
  refine c_sim [(1, .pointer (some (⟨b1, 0, none⟩ : Addr)))] (by kernel_rfl) (by kernel_rfl) ⟨rfl, trivial⟩ (fun wf => ?_)
  obtain ⟨v10, hv10, H⟩ := H
  refine sL 0 [(1, .pointer (some (⟨b1, 0, none⟩ : Addr)))] (some 18) wf ⟨rfl, trivial⟩ (pf_y rfl rfl rfl (y_ld tok rfl rfl rfl rfl hv10)) (fun P_0 => ?_)
  obtain ⟨v11, hv11, H⟩ := H
  refine sL 1 [(1, .pointer (some (⟨b1, 0, none⟩ : Addr)))] (some 19) wf ⟨rfl, trivial⟩ (pf_y rfl rfl rfl (y_ld tok rfl rfl rfl rfl hv11)) (fun P_1 => ?_)
  obtain ⟨v12, hv12, H⟩ := H
  refine sL 2 [(1, .pointer (some (⟨b1, 0, none⟩ : Addr)))] (some 20) wf ⟨rfl, trivial⟩ (pf_y rfl rfl rfl (y_ld tok rfl rfl rfl rfl hv12)) (fun P_2 => ?_)
  obtain ⟨v13, hv13, H⟩ := H
  refine sL 3 [(1, .pointer (some (⟨b1, 0, none⟩ : Addr)))] (some 21) wf ⟨rfl, trivial⟩ (pf_y rfl rfl rfl (y_ld tok rfl rfl rfl rfl hv13)) (fun P_3 => ?_)
  obtain ⟨v14, hv14, H⟩ := H
  refine sL 4 [(1, .pointer (some (⟨b1, 0, none⟩ : Addr)))] (some 22) wf ⟨rfl, trivial⟩ (pf_y rfl rfl rfl (y_ld tok rfl rfl rfl rfl hv14)) (fun P_4 => ?_)
  obtain ⟨a15, ha15, H⟩ := H
  refine sP 5 [(22, .pointer v14)] (some 23) wf ⟨rfl, trivial⟩ (fun _ => pf_y rfl rfl rfl (y_nil' rfl rfl ha15)) (fun P_5 => ?_)
  refine sQ 6 [(23, .pointer (some a15))] (some 24) tok wf ⟨rfl, trivial⟩ (fun P_6 => ?_)
  obtain ⟨v16, hv16, H⟩ := H
  refine sL 7 [(24, .pointer (some a15))] (some 25) wf ⟨rfl, trivial⟩ (pf_y rfl rfl rfl (y_ld tok rfl rfl rfl rfl hv16)) (fun P_7 => ?_)
  refine sQ 8 [(25, .int .i64 v16)] (some 26) tok wf ⟨rfl, trivial⟩ (fun P_8 => ?_)
  obtain ⟨a17, ha17, H⟩ := H
  refine sP 9 [(18, .pointer v10)] (some 27) wf ⟨rfl, trivial⟩ (fun _ => pf_y rfl rfl rfl (y_nil' rfl rfl ha17)) (fun P_9 => ?_)
  refine sQ 10 [(27, .pointer (some a17))] (some 28) tok wf ⟨rfl, trivial⟩ (fun P_10 => ?_)
  obtain ⟨h18, wh18, eh18, H⟩ := H
  refine sim_h 11 [0, 4, 5, 6, 7, 9, 10] [0, 4, 5, 6, 7, 9, 10] (ei := [(28, .pointer (some (a17.add 7)))]) wf ⟨P_10 _, P_9 _, P_8 _, P_7, P_6 _, P_5 _, P_4, P_3, P_2, P_1, P_0, trivial⟩ (by kernel_rfl) ⟨rfl, trivial⟩ (by kernel_rfl) rfl rfl rfl (h_st tok rfl rfl rfl rfl rfl rfl wh18 eh18) ?_
  obtain ⟨hy19, hy20, hy21, H⟩ := H
  refine sim_re (x := ⟨3, .pointer v13, [(1, .pointer (some (⟨b1, 0, none⟩ : Addr)))]⟩) (pf_y rfl rfl rfl (y_ld tok rfl rfl rfl rfl hy19)) (fun P_3 => ?_)
  refine sim_re (x := ⟨2, .pointer v12, [(1, .pointer (some (⟨b1, 0, none⟩ : Addr)))]⟩) (pf_y rfl rfl rfl (y_ld tok rfl rfl rfl rfl hy20)) (fun P_2 => ?_)
  refine sim_re (x := ⟨1, .pointer v11, [(1, .pointer (some (⟨b1, 0, none⟩ : Addr)))]⟩) (pf_y rfl rfl rfl (y_ld tok rfl rfl rfl rfl hy21)) (fun P_1 => ?_)
  obtain ⟨a22, ha22, H⟩ := H
  refine sP 12 [(19, .pointer v11)] (some 29) wf ⟨rfl, trivial⟩ (fun _ => pf_y rfl rfl rfl (y_nil' rfl rfl ha22)) (fun P_12 => ?_)
  refine sQ 13 [(29, .pointer (some a22))] (some 30) tok wf ⟨rfl, trivial⟩ (fun P_13 => ?_)
  obtain ⟨h23, wh23, eh23, H⟩ := H
  refine sim_h 14 [0, 1, 4, 5, 6, 7, 9, 10, 11, 12, 13] [0, 1, 4, 5, 6, 7, 9, 10, 12, 13] (ei := [(30, .pointer (some (a22.add 8)))]) wf ⟨P_13 _, P_12 _, trivial, trivial, P_8 _, trivial, trivial, trivial, trivial, P_3, P_2, P_1, trivial, trivial⟩ (by kernel_rfl) ⟨rfl, trivial⟩ (by kernel_rfl) rfl rfl rfl (h_st tok rfl rfl rfl rfl rfl rfl wh23 eh23) ?_
  obtain ⟨hy24, hy25, H⟩ := H
  refine sim_re (x := ⟨3, .pointer v13, [(1, .pointer (some (⟨b1, 0, none⟩ : Addr)))]⟩) (pf_y rfl rfl rfl (y_ld tok rfl rfl rfl rfl hy24)) (fun P_3 => ?_)
  refine sim_re (x := ⟨2, .pointer v12, [(1, .pointer (some (⟨b1, 0, none⟩ : Addr)))]⟩) (pf_y rfl rfl rfl (y_ld tok rfl rfl rfl rfl hy25)) (fun P_2 => ?_)
  obtain ⟨a26, ha26, H⟩ := H
  refine sP 15 [(20, .pointer v12)] (some 31) wf ⟨rfl, trivial⟩ (fun _ => pf_y rfl rfl rfl (y_nil' rfl rfl ha26)) (fun P_15 => ?_)
  refine sQ 16 [(31, .pointer (some a26))] (some 32) tok wf ⟨rfl, trivial⟩ (fun P_16 => ?_)
  obtain ⟨h27, wh27, eh27, H⟩ := H
  refine sim_h 17 [0, 1, 2, 4, 5, 6, 7, 9, 10, 11, 12, 13, 14, 15, 16] [0, 1, 2, 4, 5, 6, 7, 9, 10, 12, 13, 15, 16] (ei := [(32, .pointer (some (a26.add 9)))]) wf ⟨P_16 _, P_15 _, trivial, trivial, trivial, trivial, P_8 _, trivial, trivial, trivial, trivial, P_3, P_2, trivial, trivial, trivial⟩ (by kernel_rfl) ⟨rfl, trivial⟩ (by kernel_rfl) rfl rfl rfl (h_st tok rfl rfl rfl rfl rfl rfl wh27 eh27) ?_
  obtain ⟨hy28, H⟩ := H
  refine sim_re (x := ⟨3, .pointer v13, [(1, .pointer (some (⟨b1, 0, none⟩ : Addr)))]⟩) (pf_y rfl rfl rfl (y_ld tok rfl rfl rfl rfl hy28)) (fun P_3 => ?_)
  obtain ⟨a29, ha29, H⟩ := H
  refine sP 18 [(21, .pointer v13)] (some 33) wf ⟨rfl, trivial⟩ (fun _ => pf_y rfl rfl rfl (y_nil' rfl rfl ha29)) (fun P_18 => ?_)
  refine sQ 19 [(33, .pointer (some a29))] (some 34) tok wf ⟨rfl, trivial⟩ (fun P_19 => ?_)
  obtain ⟨h30, wh30, eh30, H⟩ := H
  refine sim_h 20 [0, 1, 2, 3, 4, 5, 6, 7, 8, 9, 10, 11, 12, 13, 14, 15, 16, 17, 18, 19] [0, 1, 2, 3, 4, 5, 6, 7, 8, 9, 10, 12, 13, 15, 16, 18, 19] (ei := [(26, .int .i64 (IntKind.i64.wrap (v16 + 1))), (34, .pointer (some (a29.add 3)))]) wf ⟨P_19 _, P_18 _, trivial, trivial, trivial, trivial, trivial, trivial, P_8 _, trivial, trivial, trivial, trivial, P_3, trivial, trivial, trivial, trivial⟩ (by kernel_rfl) ⟨rfl, rfl, trivial⟩ (by kernel_rfl) rfl rfl rfl (h_st tok rfl rfl rfl rfl rfl rfl wh30 eh30) ?_
  refine sim_end wf ⟨trivial, trivial, trivial, trivial, trivial, trivial, trivial, trivial, trivial, trivial, trivial, trivial, trivial, trivial, trivial, trivial, trivial, trivial⟩ (by kernel_rfl) ?_
  clear wf P_0 P_1 P_10 P_12 P_13 P_15 P_16 P_18 P_19 P_2 P_3 P_4 P_5 P_6 P_7 P_8 P_9
  refine x_seq ?_
  refine c_weak [(1, .pointer (some (⟨b1, 0, none⟩ : Addr)))] ⟨rfl, trivial⟩ ?_
  refine c_seq (c_region ?_)
  obtain ⟨v31, hv31, H⟩ := H
  refine w_y (y_ld tok rfl rfl rfl rfl hv31) rfl rfl ?_
  refine w_call raft_Raft_keepTerm_ok (raft_Raft_keepTerm_ref _ _ _ H) rfl rfl rfl rfl ?_
  rintro _ h33 ⟨r32, rfl, H⟩
  refine w_end (x_seq (c_seq ?_))
  refine c_sim [(1, .pointer (some (⟨b1, 0, none⟩ : Addr)))] (by kernel_rfl) (by kernel_rfl) ⟨rfl, trivial⟩ (fun wf => ?_)
  obtain ⟨v34, hv34, H⟩ := H
  refine sL 0 [(1, .pointer (some (⟨b1, 0, none⟩ : Addr)))] (some 37) wf ⟨rfl, trivial⟩ (pf_y rfl rfl rfl (y_ld tok rfl rfl rfl rfl hv34)) (fun P_0 => ?_)
  obtain ⟨v35, hv35, H⟩ := H
  refine sL 1 [(1, .pointer (some (⟨b1, 0, none⟩ : Addr)))] (some 38) wf ⟨rfl, trivial⟩ (pf_y rfl rfl rfl (y_ld tok rfl rfl rfl rfl hv35)) (fun P_1 => ?_)
  obtain ⟨a36, ha36, H⟩ := H
  refine sP 2 [(38, .pointer v35)] (some 39) wf ⟨rfl, trivial⟩ (fun _ => pf_y rfl rfl rfl (y_nil' rfl rfl ha36)) (fun P_2 => ?_)
  refine sQ 3 [(39, .pointer (some a36))] (some 40) tok wf ⟨rfl, trivial⟩ (fun P_3 => ?_)
  obtain ⟨v37, hv37, H⟩ := H
  refine sL 4 [(40, .pointer (some (a36.add 1)))] (some 41) wf ⟨rfl, trivial⟩ (pf_y rfl rfl rfl (y_ld tok rfl rfl rfl rfl hv37)) (fun P_4 => ?_)
  refine sim_c 5 [1, 2, 3, 4] [1, 2, 3, 4] (ei := [(41, .int .i64 v37)]) vote_New_ok (vote_New_ref _ _ _ H) wf ⟨P_4, P_3 _, P_2 _, P_1, P_0, trivial⟩ (by kernel_rfl) ⟨rfl, trivial⟩ (by kernel_rfl) rfl rfl rfl rfl rfl ?_
  rintro _ h39 ⟨r38, rfl, H⟩
  obtain ⟨hy40, H⟩ := H
  refine sim_re (x := ⟨0, .pointer v34, [(1, .pointer (some (⟨b1, 0, none⟩ : Addr)))]⟩) (pf_y rfl rfl rfl (y_ld tok rfl rfl rfl rfl hy40)) (fun P_0 => ?_)
  obtain ⟨a41, ha41, H⟩ := H
  refine sP 6 [(37, .pointer v34)] (some 43) wf ⟨rfl, trivial⟩ (fun _ => pf_y rfl rfl rfl (y_nil' rfl rfl ha41)) (fun P_6 => ?_)
  refine sQ 7 [(43, .pointer (some a41))] (some 44) tok wf ⟨rfl, trivial⟩ (fun P_7 => ?_)
  obtain ⟨h42, wh42, eh42, H⟩ := H
  refine sim_h 8 [0, 1, 2, 3, 4, 5, 6, 7] [0, 1, 2, 3, 4, 6, 7] (ei := [(42, .pointer r38), (44, .pointer (some (a41.add 10)))]) wf ⟨P_7 _, P_6 _, trivial, trivial, trivial, trivial, P_0, trivial⟩ (by kernel_rfl) ⟨rfl, rfl, trivial⟩ (by kernel_rfl) rfl rfl rfl (h_st tok rfl rfl rfl rfl rfl rfl wh42 eh42) ?_
  refine sim_end wf ⟨trivial, trivial, trivial, trivial, trivial, trivial, trivial, trivial⟩ (by kernel_rfl) ?_
  clear wf P_0 P_1 P_2 P_3 P_4 P_6 P_7
  refine x_seq ?_
  refine c_weak [(1, .pointer (some (⟨b1, 0, none⟩ : Addr)))] ⟨rfl, trivial⟩ ?_
  refine c_seq ?_
  refine c_sim [(1, .pointer (some (⟨b1, 0, none⟩ : Addr)))] (by kernel_rfl) (by kernel_rfl) ⟨rfl, trivial⟩ (fun wf => ?_)
  obtain ⟨v43, hv43, H⟩ := H
  refine sL 0 [(1, .pointer (some (⟨b1, 0, none⟩ : Addr)))] (some 45) wf ⟨rfl, trivial⟩ (pf_y rfl rfl rfl (y_ld tok rfl rfl rfl rfl hv43)) (fun P_0 => ?_)
  obtain ⟨a44, ha44, H⟩ := H
  refine sP 1 [(45, .pointer v43)] (some 46) wf ⟨rfl, trivial⟩ (fun _ => pf_y rfl rfl rfl (y_nil' rfl rfl ha44)) (fun P_1 => ?_)
  refine sQ 2 [(46, .pointer (some a44))] (some 47) tok wf ⟨rfl, trivial⟩ (fun P_2 => ?_)
  obtain ⟨v45, hv45, H⟩ := H
  refine sL 3 [(47, .pointer (some (a44.add 10)))] (some 48) wf ⟨rfl, trivial⟩ (pf_y rfl rfl rfl (y_ld tok rfl rfl rfl rfl hv45)) (fun P_3 => ?_)
  obtain ⟨v46, hv46, H⟩ := H
  refine sL 4 [(1, .pointer (some (⟨b1, 0, none⟩ : Addr)))] (some 49) wf ⟨rfl, trivial⟩ (pf_y rfl rfl rfl (y_ld tok rfl rfl rfl rfl hv46)) (fun P_4 => ?_)
  obtain ⟨a47, ha47, H⟩ := H
  refine sP 5 [(49, .pointer v46)] (some 50) wf ⟨rfl, trivial⟩ (fun _ => pf_y rfl rfl rfl (y_nil' rfl rfl ha47)) (fun P_5 => ?_)
  refine sQ 6 [(50, .pointer (some a47))] (some 51) tok wf ⟨rfl, trivial⟩ (fun P_6 => ?_)
  obtain ⟨v48, hv48, H⟩ := H
  refine sL 7 [(51, .pointer (some a47))] (some 52) wf ⟨rfl, trivial⟩ (pf_y rfl rfl rfl (y_ld tok rfl rfl rfl rfl hv48)) (fun P_7 => ?_)
  refine sim_c 8 [0, 1, 2, 3, 4, 5, 6, 7] [0, 1, 2, 3, 4, 5, 6, 7] (ei := [(48, .pointer v45), (52, .int .i64 v48)]) vote_Ballot_Yes_ok (vote_Ballot_Yes_ref _ _ _ _ H) wf ⟨P_7, P_6 _, P_5 _, P_4, P_3, P_2 _, P_1 _, P_0, trivial⟩ (by kernel_rfl) ⟨rfl, rfl, trivial⟩ (by kernel_rfl) rfl rfl rfl rfl rfl ?_
  rintro _ h50 ⟨r49, rfl, H⟩
  refine sim_end wf ⟨trivial, trivial, trivial, trivial, trivial, trivial, trivial, trivial, trivial⟩ (by kernel_rfl) ?_
  clear wf P_0 P_1 P_2 P_3 P_4 P_5 P_6 P_7
  refine x_seq ?_
  refine c_weak [(1, .pointer (some (⟨b1, 0, none⟩ : Addr)))] ⟨rfl, trivial⟩ ?_
  refine c_seq (c_region ?_)
  obtain ⟨v51, hv51, H⟩ := H
  refine w_y (y_ld tok rfl rfl rfl rfl hv51) rfl rfl ?_
  obtain ⟨a52, ha52, H⟩ := H
  refine w_y (y_nil' rfl rfl ha52) rfl rfl ?_
  refine wP tok ?_
  obtain ⟨v53, hv53, H⟩ := H
  refine w_y (y_ld tok rfl rfl rfl rfl hv53) rfl rfl ?_
  refine w_call rlog_Log_Last_ok (rlog_Log_Last_ref _ _ _ H) rfl rfl rfl rfl ?_
  rintro _ h55 ⟨r54, rfl, H⟩
  iterate 3 refine wP tok ?_
  obtain ⟨b56, h57, eb56, eh57, H⟩ := H
  refine w_h (h_alloc tok rfl rfl eb56 eh57) rfl rfl ?_
  obtain ⟨b58, h59, eb58, eh59, H⟩ := H
  refine w_h (h_alloc tok rfl rfl eb58 eh59) rfl rfl ?_
  obtain ⟨h60, wh60, eh60, H⟩ := H
  refine w_h (h_st tok rfl rfl rfl rfl rfl rfl wh60 eh60) rfl rfl ?_
  obtain ⟨h61, wh61, eh61, H⟩ := H
  refine w_h (h_st tok rfl rfl rfl rfl rfl rfl wh61 eh61) rfl rfl ?_
  refine w_end (x_seq ?_)
  refine c_weak [(1, .pointer (some (⟨b1, 0, none⟩ : Addr))), (3, .pointer (some (⟨b56, 0, none⟩ : Addr))), (4, .pointer (some (⟨b58, 0, none⟩ : Addr)))] ⟨rfl, rfl, rfl, trivial⟩ ?_
  refine c_seq (c_region ?_)
  obtain ⟨v62, hv62, H⟩ := H
  refine w_y (y_ld tok rfl rfl rfl rfl hv62) rfl rfl ?_
  refine w_y (y_mkf rfl rfl) rfl rfl ?_
  refine w_call raft_Raft_others__raft_Raft_campaign_1_ok (raft_Raft_others__raft_Raft_campaign_1_ref _ _ _ _ _ _ H) rfl rfl rfl rfl ?_
  rintro _ h64 ⟨r63, rfl, H⟩
  refine wP tok ?_
  refine w_end (x_seq ?_)
  refine c_seq (c_region ?_)
  refine wP tok ?_
  obtain ⟨v65, hv65, H⟩ := H
  refine w_y (y_ld tok rfl rfl rfl rfl hv65) rfl rfl ?_
  refine w_call raft_Raft_win_ok (raft_Raft_win_ref _ _ _ H) rfl rfl rfl rfl ?_
  rintro _ h67 ⟨r66, rfl, H⟩
  obtain ⟨l70, hl70, H⟩ := H
  refine w_a (a_app (s := r63) (r := r66) tok rfl rfl rfl rfl rfl hl70 H) rfl rfl ?_
  rintro _ h69 ⟨s68, rfl, H⟩
  refine wP tok ?_
  refine w_end (x_seq ?_)
  refine c_weak [(2, Slc.v s68)] ⟨rfl, trivial⟩ ?_
  refine c_ret ?_
  exact x_ret _ rfl _ rfl ⟨s68, rfl, H⟩

theorem raft_Raft_Tick_ok : CallOk Go.Proofs.Try.prog 14 := ⟨_, Go.Proofs.Try.func14, by kernel_rfl, by kernel_rfl⟩
theorem raft_Raft_Tick_ref (p0 : Option Addr) (k : (Slc) → Heap → Prop) (h : Heap) (H : raft_Raft_Tick p0 k h) : CallsH Go.Proofs.Try.prog 14 #[.pointer p0] h (fun v h' => ∃ r : Slc, v = Slc.v r ∧ k r h') := by
 refine f_enter (N := 47) Go.Proofs.Try.func14 rfl rfl rfl (fun w0 => ?_)
 unfold raft_Raft_Tick at H
 refine c_weak [(0, .pointer p0)] ⟨rfl, trivial⟩ ?_
 refine c_seq (c_region ?_)
 refine wP tok ?_
 refine w_end (x_seq ?_)
 refine c_seq (c_seq (c_region ?_))
 iterate 2 refine wP tok ?_
 refine w_end (x_seq ?_)
 refine c_if H rfl (fun H => ?_) (fun H => ?_)
 ·
  refine c_seq (c_region ?_)
  refine wP tok ?_
  refine w_end (x_seq ?_)
  refine c_ret (x_tr ?_)
  exact x_ret _ rfl _ rfl ⟨(⟨none, 0, 0⟩ : Slc), rfl, H⟩
 ·
  refine c_skip (x_seq ?_)
  refine c_seq (c_region ?_)
  refine wP tok ?_
  obtain ⟨a1, ha1, H⟩ := H
  refine w_y (y_nil' rfl rfl ha1) rfl rfl ?_
  refine wP tok ?_
  obtain ⟨v2, hv2, H⟩ := H
  refine w_y (y_ld tok rfl rfl rfl rfl hv2) rfl rfl ?_
  refine wP tok ?_
  refine w_y (y_nil' rfl rfl ha1) rfl rfl ?_
  refine wP tok ?_
  obtain ⟨h3, wh3, eh3, H⟩ := H
  refine w_h (h_st tok rfl rfl rfl rfl rfl rfl wh3 eh3) rfl rfl ?_
  refine w_end (x_seq ?_)
  refine c_weak [(0, .pointer p0)] ⟨rfl, trivial⟩ ?_
  refine c_seq (c_block ?_)
  refine c_seq (c_region ?_)
  refine wP tok ?_
  refine w_y (y_nil' rfl rfl ha1) rfl rfl ?_
  refine wP tok ?_
  obtain ⟨v4, hv4, H⟩ := H
  refine w_y (y_ld tok rfl rfl rfl rfl hv4) rfl rfl ?_
  iterate 2 refine wP tok ?_
  refine w_cut 7 (α := Bool) (fun (s : Bool) => [(25, .bool s), (0, .pointer p0)]) (fun (s : Bool) h => raft_Raft_Tick_g1 p0 s k h) ?_ ?_
  ·
   rintro t25_1 h_1 H
   replace H : raft_Raft_Tick_g1 p0 t25_1 k h_1 := H
   unfold raft_Raft_Tick_g1 at H
   refine w_weak [(25, .bool t25_1), (0, .pointer p0)] ⟨rfl, rfl, trivial⟩ ?_
   refine wP tok ?_
   refine w_end (x_seq ?_)
   refine c_if H rfl (fun H => ?_) (fun H => ?_)
   ·
    refine c_seq (c_region ?_)
    iterate 2 refine wP tok ?_
    refine w_y (y_mkff rfl rfl rfl) rfl rfl ?_
    refine w_call raft_Raft_others__raft_Raft_due_ok (raft_Raft_others__raft_Raft_due_ref _ _ _ _ H) rfl rfl rfl rfl ?_
    rintro _ h6 ⟨r5, rfl, H⟩
    refine wP tok ?_
    refine w_end (x_seq ?_)
    refine c_weak [(2, Slc.v r5)] ⟨rfl, trivial⟩ ?_
    refine c_ret ?_
    refine x_br ?_
    refine x_tr ?_
    exact x_ret _ rfl _ rfl ⟨r5, rfl, H⟩
   ·
    refine c_seqJ (α := Bool) (fun (s : Bool) => [(30, .bool s), (0, .pointer p0)]) (fun (s : Bool) h => raft_Raft_Tick_j2 p0 s k h) ?_ ?_
    ·
     rintro t30_2 h_2 H
     replace H : raft_Raft_Tick_j2 p0 t30_2 k h_2 := H
     unfold raft_Raft_Tick_j2 at H
     refine c_weak [(30, .bool t30_2), (0, .pointer p0)] ⟨rfl, rfl, trivial⟩ ?_
     refine c_if H rfl (fun H => ?_) (fun H => ?_)
     ·
      refine c_seq (c_region ?_)
      refine wP tok ?_
      refine w_call raft_Raft_campaign_ok (raft_Raft_campaign_ref _ _ _ H) rfl rfl rfl rfl ?_
      rintro _ h8 ⟨r7, rfl, H⟩
      refine wP tok ?_
      refine w_end (x_seq (c_ret ?_))
      refine x_br ?_
      refine x_tr ?_
      exact x_ret _ rfl _ rfl ⟨r7, rfl, H⟩
     ·
      refine c_skip ?_
      refine x_blk ?_
      refine x_seq (c_seq (c_region ?_))
      refine wP tok ?_
      refine w_end (x_seq (c_ret ?_))
      exact x_ret _ rfl _ rfl ⟨(⟨none, 0, 0⟩ : Slc), rfl, H⟩
    ·
     refine c_sim [(0, .pointer p0)] (by kernel_rfl) (by kernel_rfl) ⟨rfl, trivial⟩ (fun wf => ?_)
     refine sQ 0 [(0, .pointer p0)] (some 31) tok wf ⟨rfl, trivial⟩ (fun P_0 => ?_)
     obtain ⟨a9, ha9, H⟩ := H
     refine sP 1 [(31, .pointer p0)] (some 32) wf ⟨rfl, trivial⟩ (fun _ => pf_y rfl rfl rfl (y_nil' rfl rfl ha9)) (fun P_1 => ?_)
     refine sQ 2 [(32, .pointer (some a9))] (some 33) tok wf ⟨rfl, trivial⟩ (fun P_2 => ?_)
     obtain ⟨v10, hv10, H⟩ := H
     refine sL 3 [(33, .pointer (some (a9.add 7)))] (some 34) wf ⟨rfl, trivial⟩ (pf_y rfl rfl rfl (y_ld tok rfl rfl rfl rfl hv10)) (fun P_3 => ?_)
     refine sQ 4 [(34, .int .i64 v10)] (some 35) tok wf ⟨rfl, trivial⟩ (fun P_4 => ?_)
     refine sQ 5 [(35, .bool (v10 != 2))] (some 36) tok wf ⟨rfl, trivial⟩ (fun P_5 => ?_)
     refine sim_gif 36 H rfl (fun hb H => ?_) (fun hb H => ?_)
     ·
      refine sQ 6 [(0, .pointer p0), (36, .bool true)] (some 37) tok wf ⟨rfl, rfl, trivial⟩ (fun P_6 => ?_)
      refine sP 7 [(36, .bool true), (37, .pointer p0)] (some 38) wf ⟨rfl, rfl, trivial⟩ (fun _ => pf_y rfl rfl rfl (y_nil' rfl rfl ha9)) (fun P_7 => ?_)
      refine sQ 8 [(36, .bool true), (38, .pointer (some a9))] (some 39) tok wf ⟨rfl, rfl, trivial⟩ (fun P_8 => ?_)
      obtain ⟨v11, hv11, H⟩ := H
      refine sL 9 [(36, .bool true), (39, .pointer (some (a9.add 9)))] (some 40) wf ⟨rfl, rfl, trivial⟩ (pf_y rfl rfl rfl (y_ld tok rfl rfl rfl rfl hv11)) (fun P_9 => ?_)
      refine sQ 10 [(0, .pointer p0), (36, .bool true)] (some 41) tok wf ⟨rfl, rfl, trivial⟩ (fun P_10 => ?_)
      refine sim_c 11 [0, 1, 2, 3, 4, 5, 10] [0, 1, 2, 3, 4, 5, 10] (ei := [(36, .bool true), (41, .pointer p0)]) raft_Raft_patience_ok (raft_Raft_patience_ref _ _ _ H) wf ⟨P_10 _, P_9, P_8 _, P_7 _, P_6 _, P_5 _, P_4 _, P_3, P_2 _, P_1 _, P_0 _, trivial⟩ (by kernel_rfl) ⟨rfl, rfl, trivial⟩ (by kernel_rfl) rfl rfl rfl rfl rfl ?_
      rintro _ h13 ⟨r12, rfl, H⟩
      obtain ⟨hy14, H⟩ := H
      refine sim_re (x := ⟨9, .int .i64 v11, [(36, .bool true), (39, .pointer (some (a9.add 9)))]⟩) (pf_y rfl rfl rfl (y_ld tok rfl rfl rfl rfl hy14)) (fun P_9 => ?_)
      refine sQ 12 [(36, .bool true), (40, .int .i64 v11), (42, .int .i64 r12)] (some 43) tok wf ⟨rfl, rfl, rfl, trivial⟩ (fun P_12 => ?_)
      refine sQ 13 [(36, .bool true), (43, .bool (decide (v11 ≥ r12)))] (some 44) tok wf ⟨rfl, rfl, trivial⟩ (fun P_13 => ?_)
      refine sQ 14 [(44, .bool (decide (v11 ≥ r12)))] (some 30) tok wf ⟨rfl, trivial⟩ (fun P_14 => ?_)
      refine sim_end wf ⟨P_14 _, P_13 _, P_12 _, trivial, P_9, P_8 _, P_7 _, P_6 _, trivial, trivial, trivial, trivial, trivial, trivial, trivial⟩ (by kernel_rfl) ?_
      clear wf P_0 P_1 P_10 P_12 P_13 P_14 P_2 P_3 P_4 P_5 P_6 P_7 P_8 P_9
      exact x_join (decide (v11 ≥ r12)) H ⟨rfl, rfl, trivial⟩
     ·
      refine sim_p 6 (v := undef) (ei := [(0, .pointer p0), (36, .bool false)]) (d := (some 37)) wf (by kernel_rfl) ⟨rfl, rfl, trivial⟩ (by kernel_rfl) (by kernel_rfl) (fun _ => pf_s rfl rfl rfl) (fun P_6 => ?_)
      refine sim_p 7 (v := undef) (ei := [(36, .bool false), (37, undef)]) (d := (some 38)) wf (by kernel_rfl) ⟨rfl, rfl, trivial⟩ (by kernel_rfl) (by kernel_rfl) (fun _ => pf_s rfl rfl rfl) (fun P_7 => ?_)
      refine sim_p 8 (v := undef) (ei := [(36, .bool false), (38, undef)]) (d := (some 39)) wf (by kernel_rfl) ⟨rfl, rfl, trivial⟩ (by kernel_rfl) (by kernel_rfl) (fun _ => pf_s rfl rfl rfl) (fun P_8 => ?_)
      refine sim_p 9 (v := undef) (ei := [(36, .bool false), (39, undef)]) (d := (some 40)) wf (by kernel_rfl) ⟨rfl, rfl, trivial⟩ (by kernel_rfl) (by kernel_rfl) (fun _ => pf_s rfl rfl rfl) (fun P_9 => ?_)
      refine sim_p 10 (v := undef) (ei := [(0, .pointer p0), (36, .bool false)]) (d := (some 41)) wf (by kernel_rfl) ⟨rfl, rfl, trivial⟩ (by kernel_rfl) (by kernel_rfl) (fun _ => pf_s rfl rfl rfl) (fun P_10 => ?_)
      refine sim_p 11 (v := undef) (ei := [(36, .bool false), (41, undef)]) (d := (some 42)) wf (by kernel_rfl) ⟨rfl, rfl, trivial⟩ (by kernel_rfl) (by kernel_rfl) (fun _ => pf_s rfl rfl rfl) (fun P_11 => ?_)
      refine sim_p 12 (v := undef) (ei := [(36, .bool false), (40, undef), (42, undef)]) (d := (some 43)) wf (by kernel_rfl) ⟨rfl, rfl, rfl, trivial⟩ (by kernel_rfl) (by kernel_rfl) (fun _ => pf_s rfl rfl rfl) (fun P_12 => ?_)
      refine sQ 13 [(36, .bool false), (43, undef)] (some 44) tok wf ⟨rfl, rfl, trivial⟩ (fun P_13 => ?_)
      refine sQ 14 [(44, .bool false)] (some 30) tok wf ⟨rfl, trivial⟩ (fun P_14 => ?_)
      refine sim_end wf ⟨P_14 _, P_13 _, P_12 _, P_11 _, P_10 _, P_9 _, P_8 _, P_7 _, P_6 _, P_5 _, P_4 _, P_3, P_2 _, P_1 _, P_0 _, trivial⟩ (by kernel_rfl) ?_
      clear wf P_0 P_1 P_10 P_11 P_12 P_13 P_14 P_2 P_3 P_4 P_5 P_6 P_7 P_8 P_9
      exact x_join false H ⟨rfl, rfl, trivial⟩
  ·
   refine w_gif (d := 18) H rfl (fun H => ?_) (fun H => ?_)
   ·
    refine wP tok ?_
    refine w_y (y_nil' rfl rfl ha1) rfl rfl ?_
    refine wP tok ?_
    obtain ⟨v15, hv15, H⟩ := H
    refine w_y (y_ld tok rfl rfl rfl rfl hv15) rfl rfl ?_
    iterate 3 refine wP tok ?_
    exact w_jn ((Int.tmod v15 3) == 0) H ⟨rfl, rfl, trivial⟩
   ·
    iterate 6 refine w_skip rfl rfl ?_
    refine wP tok ?_
    exact w_jn false H ⟨rfl, rfl, trivial⟩

theorem raft_Raft_Propose_ok : CallOk Go.Proofs.Try.prog 23 := ⟨_, Go.Proofs.Try.func23, by kernel_rfl, by kernel_rfl⟩
theorem raft_Raft_Propose_ref (p0 : Option Addr) (p1 : Slc) (k : (Int × Int) → Heap → Prop) (h : Heap) (H : raft_Raft_Propose p0 p1 k h) : CallsH Go.Proofs.Try.prog 23 #[.pointer p0, Slc.v p1] h (fun v h' => ∃ r : Int × Int, v = .tuple #[.int .u64 r.1, .int .i64 r.2] ∧ k r h') := by
 refine f_enter (N := 20) Go.Proofs.Try.func23 rfl rfl rfl (fun w0 => ?_)
 unfold raft_Raft_Propose at H
 refine c_weak [(0, .pointer p0), (1, Slc.v p1)] ⟨rfl, rfl, trivial⟩ ?_
 refine c_seq (c_region ?_)
 iterate 2 refine wP tok ?_
 refine w_end (x_seq ?_)
 refine c_seq (c_seq (c_region ?_))
 iterate 3 refine wP tok ?_
 refine w_cut 6 (α := Bool) (fun (s : Bool) => [(14, .bool s), (0, .pointer p0), (1, Slc.v p1)]) (fun (s : Bool) h => raft_Raft_Propose_g1 p0 p1 s k h) ?_ ?_
 ·
  rintro t14_1 h_1 H
  replace H : raft_Raft_Propose_g1 p0 p1 t14_1 k h_1 := H
  unfold raft_Raft_Propose_g1 at H
  refine w_weak [(14, .bool t14_1), (0, .pointer p0), (1, Slc.v p1)] ⟨rfl, rfl, rfl, trivial⟩ ?_
  refine w_end (x_seq ?_)
  refine c_if H rfl (fun H => ?_) (fun H => ?_)
  ·
   refine c_seq (c_region ?_)
   iterate 2 refine wP tok ?_
   refine w_end (x_seq ?_)
   refine c_ret (x_tr ?_)
   exact x_ret _ rfl _ rfl ⟨(0, 18), rfl, H⟩
  ·
   refine c_skip (x_seq ?_)
   refine c_seq (c_region ?_)
   iterate 2 refine wP tok ?_
   refine w_call raft_Raft_put_ok (raft_Raft_put_ref _ _ _ _ H) rfl rfl rfl rfl ?_
   rintro _ h2 ⟨r1, rfl, H⟩
   iterate 4 refine wP tok ?_
   refine w_end (x_seq ?_)
   refine c_weak [(4, .int .u64 r1.1), (5, .int .i64 r1.2)] ⟨rfl, rfl, trivial⟩ ?_
   refine c_ret ?_
   exact x_ret _ rfl _ rfl ⟨(r1.1, r1.2), rfl, H⟩
 ·
  refine w_gif (d := 8) H rfl (fun H => ?_) (fun H => ?_)
  ·
   iterate 5 refine w_skip rfl rfl ?_
   refine wP tok ?_
   exact w_jn true H ⟨rfl, rfl, rfl, trivial⟩
  ·
   refine wP tok ?_
   obtain ⟨a3, ha3, H⟩ := H
   refine w_y (y_nil' rfl rfl ha3) rfl rfl ?_
   refine wP tok ?_
   obtain ⟨v4, hv4, H⟩ := H
   refine w_y (y_ld tok rfl rfl rfl rfl hv4) rfl rfl ?_
   iterate 2 refine wP tok ?_
   exact w_jn (v4 != 2) H ⟨rfl, rfl, rfl, trivial⟩

theorem raft_Raft_Committed_ok : CallOk Go.Proofs.Try.prog 18 := ⟨_, Go.Proofs.Try.func18, by kernel_rfl, by kernel_rfl⟩
theorem raft_Raft_Committed_ref (p0 : Option Addr) (k : (Int) → Heap → Prop) (h : Heap) (H : raft_Raft_Committed p0 k h) : CallsH Go.Proofs.Try.prog 18 #[.pointer p0] h (fun v h' => ∃ r : Int, v = .int .u64 r ∧ k r h') := by
 refine f_enter (N := 9) Go.Proofs.Try.func18 rfl rfl rfl (fun w0 => ?_)
 unfold raft_Raft_Committed at H
 refine c_weak [(0, .pointer p0)] ⟨rfl, trivial⟩ ?_
 refine c_seq (c_region ?_)
 refine wP tok ?_
 refine w_end (x_seq ?_)
 refine c_seq (c_seq (c_region ?_))
 iterate 2 refine wP tok ?_
 refine w_end (x_seq ?_)
 refine c_if H rfl (fun H => ?_) (fun H => ?_)
 ·
  refine c_seq (c_region ?_)
  refine wP tok ?_
  refine w_end (x_seq ?_)
  refine c_ret (x_tr ?_)
  exact x_ret _ rfl _ rfl ⟨0, rfl, H⟩
 ·
  refine c_skip (x_seq ?_)
  refine c_seq (c_region ?_)
  refine wP tok ?_
  obtain ⟨a1, ha1, H⟩ := H
  refine w_y (y_nil' rfl rfl ha1) rfl rfl ?_
  refine wP tok ?_
  obtain ⟨v2, hv2, H⟩ := H
  refine w_y (y_ld tok rfl rfl rfl rfl hv2) rfl rfl ?_
  refine wP tok ?_
  refine w_end (x_seq ?_)
  refine c_weak [(2, .int .u64 v2)] ⟨rfl, trivial⟩ ?_
  refine c_ret ?_
  exact x_ret _ rfl _ rfl ⟨v2, rfl, H⟩

theorem raft_Raft_Entry_ok : CallOk Go.Proofs.Try.prog 25 := ⟨_, Go.Proofs.Try.func25, by kernel_rfl, by kernel_rfl⟩
theorem raft_Raft_Entry_ref (p0 : Option Addr) (p1 : Int) (k : (S_api_Entry × Int) → Heap → Prop) (h : Heap) (H : raft_Raft_Entry p0 p1 k h) : CallsH Go.Proofs.Try.prog 25 #[.pointer p0, .int .u64 p1] h (fun v h' => ∃ r : S_api_Entry × Int, v = .tuple #[.agg (S_api_Entry.cs r.1).toArray, .int .i64 r.2] ∧ k r h') := by
 refine f_enter (N := 46) Go.Proofs.Try.func25 rfl rfl rfl (fun w0 => ?_)
 unfold raft_Raft_Entry at H
 refine c_weak [(0, .pointer p0), (1, .int .u64 p1)] ⟨rfl, rfl, trivial⟩ ?_
 refine c_seq (c_region ?_)
 obtain ⟨b1, h2, eb1, eh2, H⟩ := H
 refine w_h (h_alloc tok rfl rfl eb1 eh2) rfl rfl ?_
 refine wP tok ?_
 refine w_end (x_seq ?_)
 refine c_seq (c_seq (c_region ?_))
 iterate 2 refine wP tok ?_
 refine w_end (x_seq ?_)
 refine c_if H rfl (fun H => ?_) (fun H => ?_)
 ·
  refine c_seq (c_region ?_)
  refine w_y (y_build tok rfl rfl rfl rfl rfl) rfl rfl ?_
  obtain ⟨h3, wh3, eh3, H⟩ := H
  refine w_h (h_sts tok rfl rfl rfl rfl rfl (oneC (by kernel_rfl)) wh3 eh3) rfl rfl ?_
  refine wP tok ?_
  refine w_end (x_seq ?_)
  refine c_ret (x_tr ?_)
  obtain ⟨v4, hv4, H⟩ := H
  exact x_retc tok _ rfl [.agg (S_api_Entry.cs v4).toArray, .int .i64 6] ⟨⟨_, _, rfl, rfl, .inr ⟨rfl, _, rfl, rfl, hv4⟩⟩, rfl, trivial⟩ ⟨(v4, 6), rfl, H⟩
 ·
  refine c_skip (x_seq ?_)
  refine c_seq (c_seq (c_region ?_))
  refine wP tok ?_
  obtain ⟨a5, ha5, H⟩ := H
  refine w_y (y_nil' rfl rfl ha5) rfl rfl ?_
  refine wP tok ?_
  obtain ⟨v6, hv6, H⟩ := H
  refine w_y (y_ld tok rfl rfl rfl rfl hv6) rfl rfl ?_
  refine wP tok ?_
  refine w_call rlog_Log_Term_ok (rlog_Log_Term_ref _ _ _ _ H) rfl rfl rfl rfl ?_
  rintro _ h8 ⟨r7, rfl, H⟩
  iterate 5 refine wP tok ?_
  refine w_end (x_seq ?_)
  refine c_weak [(0, .pointer p0), (1, .int .u64 p1), (4, .pointer (some (⟨b1, 0, none⟩ : Addr))), (7, .int .i64 r7.2)] ⟨rfl, rfl, rfl, rfl, trivial⟩ ?_
  refine c_seq (c_region ?_)
  iterate 2 refine wP tok ?_
  refine w_end (x_seq ?_)
  refine c_if H rfl (fun H => ?_) (fun H => ?_)
  ·
   refine c_seq (c_region ?_)
   refine w_y (y_build tok rfl rfl rfl rfl rfl) rfl rfl ?_
   refine wP tok ?_
   obtain ⟨h9, wh9, eh9, H⟩ := H
   refine w_h (h_sts tok rfl rfl rfl rfl rfl (oneC (by kernel_rfl)) wh9 eh9) rfl rfl ?_
   refine wP tok ?_
   refine w_end (x_seq ?_)
   refine c_weak [(4, .pointer (some (⟨b1, 0, none⟩ : Addr))), (5, .int .i64 r7.2)] ⟨rfl, rfl, trivial⟩ ?_
   refine c_ret (x_tr ?_)
   obtain ⟨v10, hv10, H⟩ := H
   exact x_retc tok _ rfl [.agg (S_api_Entry.cs v10).toArray, .int .i64 r7.2] ⟨⟨_, _, rfl, rfl, .inr ⟨rfl, _, rfl, rfl, hv10⟩⟩, rfl, trivial⟩ ⟨(v10, r7.2), rfl, H⟩
  ·
   refine c_skip (x_seq ?_)
   refine c_seq (c_region ?_)
   refine wP tok ?_
   refine w_y (y_nil' rfl rfl ha5) rfl rfl ?_
   refine wP tok ?_
   obtain ⟨v11, hv11, H⟩ := H
   refine w_y (y_ld tok rfl rfl rfl rfl hv11) rfl rfl ?_
   refine wP tok ?_
   refine w_call rlog_Log_From_ok (rlog_Log_From_ref _ _ _ _ _ H) rfl rfl rfl rfl ?_
   rintro _ h13 ⟨r12, rfl, H⟩
   iterate 5 refine wP tok ?_
   refine w_end (x_seq ?_)
   refine c_weak [(4, .pointer (some (⟨b1, 0, none⟩ : Addr))), (8, Slc.v r12.1), (9, .int .i64 r12.2)] ⟨rfl, rfl, rfl, trivial⟩ ?_
   refine c_seq (c_seq (c_region ?_))
   iterate 3 refine wP tok ?_
   refine w_cutU 4 [(41, .bool ((r12.2 != 0) || ((r12.1.len : Int) == 0))), (4, .pointer (some (⟨b1, 0, none⟩ : Addr))), (8, Slc.v r12.1)] ?_ ?_
   ·
    refine w_end (x_seq ?_)
    refine c_if H rfl (fun H => ?_) (fun H => ?_)
    ·
     refine c_seq (c_region ?_)
     refine w_y (y_build tok rfl rfl rfl rfl rfl) rfl rfl ?_
     obtain ⟨h14, wh14, eh14, H⟩ := H
     refine w_h (h_sts tok rfl rfl rfl rfl rfl (oneC (by kernel_rfl)) wh14 eh14) rfl rfl ?_
     refine wP tok ?_
     refine w_end (x_seq ?_)
     refine c_ret (x_tr ?_)
     obtain ⟨v15, hv15, H⟩ := H
     exact x_retc tok _ rfl [.agg (S_api_Entry.cs v15).toArray, .int .i64 13] ⟨⟨_, _, rfl, rfl, .inr ⟨rfl, _, rfl, rfl, hv15⟩⟩, rfl, trivial⟩ ⟨(v15, 13), rfl, H⟩
    ·
     refine c_skip (x_seq ?_)
     refine c_seq (c_region ?_)
     refine wP tok ?_
     obtain ⟨a16, ha16, la16, ua16, H⟩ := H
     refine w_y (y_ixa' tok rfl rfl ha16 rfl rfl rfl la16 ua16) rfl rfl ?_
     obtain ⟨v17, hv17, H⟩ := H
     refine w_y (y_lda tok rfl rfl rfl rfl rfl hv17) rfl rfl ?_
     obtain ⟨h18, wh18, eh18, H⟩ := H
     refine w_h (h_sts tok rfl rfl rfl rfl rfl (oneC (by kernel_rfl)) wh18 eh18) rfl rfl ?_
     refine wP tok ?_
     refine w_end (x_seq (c_ret ?_))
     obtain ⟨v19, hv19, H⟩ := H
     exact x_retc tok _ rfl [.agg (S_api_Entry.cs v19).toArray, .int .i64 0] ⟨⟨_, _, rfl, rfl, .inr ⟨rfl, _, rfl, rfl, hv19⟩⟩, rfl, trivial⟩ ⟨(v19, 0), rfl, H⟩
   ·
    refine w_gs (d := 37) rfl (fun hb => ?_) (fun hb => ?_)
    ·
     iterate 3 refine w_skip rfl rfl ?_
     refine wP tok ?_
     refine w_jn () rfl ⟨?_, rfl, rfl, trivial⟩
     exact congrArg (fun b => some (Value.bool b)) (or_t hb)
    ·
     iterate 4 refine wP tok ?_
     refine w_jn () rfl ⟨?_, rfl, rfl, trivial⟩
     exact congrArg (fun b => some (Value.bool b)) (or_f hb)

theorem raft_Raft_Leads_ok : CallOk Go.Proofs.Try.prog 22 := ⟨_, Go.Proofs.Try.func22, by kernel_rfl, by kernel_rfl⟩
theorem raft_Raft_Leads_ref (p0 : Option Addr) (k : (Bool) → Heap → Prop) (h : Heap) (H : raft_Raft_Leads p0 k h) : CallsH Go.Proofs.Try.prog 22 #[.pointer p0] h (fun v h' => ∃ r : Bool, v = .bool r ∧ k r h') := by
 refine f_enter (N := 12) Go.Proofs.Try.func22 rfl rfl rfl (fun w0 => ?_)
 unfold raft_Raft_Leads at H
 refine c_weak [(0, .pointer p0)] ⟨rfl, trivial⟩ ?_
 refine c_seq (c_region ?_)
 refine wP tok ?_
 refine w_end (x_seq ?_)
 refine c_seq (c_region ?_)
 iterate 3 refine wP tok ?_
 refine w_cut 6 (α := Bool) (fun (s : Bool) => [(11, .bool s)]) (fun (s : Bool) h => raft_Raft_Leads_g1 s k h) ?_ ?_
 ·
  rintro t11_1 h_1 H
  replace H : raft_Raft_Leads_g1 t11_1 k h_1 := H
  unfold raft_Raft_Leads_g1 at H
  refine w_weak [(11, .bool t11_1)] ⟨rfl, trivial⟩ ?_
  refine wP tok ?_
  refine w_end (x_seq (c_ret ?_))
  exact x_ret _ rfl _ rfl ⟨t11_1, rfl, H⟩
 ·
  refine w_gif (d := 5) H rfl (fun H => ?_) (fun H => ?_)
  ·
   refine wP tok ?_
   obtain ⟨a1, ha1, H⟩ := H
   refine w_y (y_nil' rfl rfl ha1) rfl rfl ?_
   refine wP tok ?_
   obtain ⟨v2, hv2, H⟩ := H
   refine w_y (y_ld tok rfl rfl rfl rfl hv2) rfl rfl ?_
   iterate 2 refine wP tok ?_
   exact w_jn (v2 == 2) H ⟨rfl, trivial⟩
  ·
   iterate 5 refine w_skip rfl rfl ?_
   refine wP tok ?_
   exact w_jn false H ⟨rfl, trivial⟩

theorem raft_Raft_Leader_ok : CallOk Go.Proofs.Try.prog 16 := ⟨_, Go.Proofs.Try.func16, by kernel_rfl, by kernel_rfl⟩
theorem raft_Raft_Leader_ref (p0 : Option Addr) (k : (Int) → Heap → Prop) (h : Heap) (H : raft_Raft_Leader p0 k h) : CallsH Go.Proofs.Try.prog 16 #[.pointer p0] h (fun v h' => ∃ r : Int, v = .int .i64 r ∧ k r h') := by
 refine f_enter (N := 9) Go.Proofs.Try.func16 rfl rfl rfl (fun w0 => ?_)
 unfold raft_Raft_Leader at H
 refine c_weak [(0, .pointer p0)] ⟨rfl, trivial⟩ ?_
 refine c_seq (c_region ?_)
 refine wP tok ?_
 refine w_end (x_seq ?_)
 refine c_seq (c_seq (c_region ?_))
 iterate 2 refine wP tok ?_
 refine w_end (x_seq ?_)
 refine c_if H rfl (fun H => ?_) (fun H => ?_)
 ·
  refine c_seq (c_region ?_)
  obtain ⟨x1, ex1, H⟩ := H
  refine w_pe tok rfl (congrArg (fun z => (.int .i64 z : Value)) ex1) rfl rfl ?_
  refine w_end (x_seq ?_)
  refine c_ret (x_tr ?_)
  exact x_ret _ rfl _ rfl ⟨x1, rfl, H⟩
 ·
  refine c_skip (x_seq ?_)
  refine c_seq (c_region ?_)
  refine wP tok ?_
  obtain ⟨a2, ha2, H⟩ := H
  refine w_y (y_nil' rfl rfl ha2) rfl rfl ?_
  refine wP tok ?_
  obtain ⟨v3, hv3, H⟩ := H
  refine w_y (y_ld tok rfl rfl rfl rfl hv3) rfl rfl ?_
  refine wP tok ?_
  refine w_end (x_seq ?_)
  refine c_weak [(2, .int .i64 v3)] ⟨rfl, trivial⟩ ?_
  refine c_ret ?_
  exact x_ret _ rfl _ rfl ⟨v3, rfl, H⟩

theorem raft_Raft_Term_ok : CallOk Go.Proofs.Try.prog 17 := ⟨_, Go.Proofs.Try.func17, by kernel_rfl, by kernel_rfl⟩
theorem raft_Raft_Term_ref (p0 : Option Addr) (k : (Int) → Heap → Prop) (h : Heap) (H : raft_Raft_Term p0 k h) : CallsH Go.Proofs.Try.prog 17 #[.pointer p0] h (fun v h' => ∃ r : Int, v = .int .u64 r ∧ k r h') := by
 refine f_enter (N := 9) Go.Proofs.Try.func17 rfl rfl rfl (fun w0 => ?_)
 unfold raft_Raft_Term at H
 refine c_weak [(0, .pointer p0)] ⟨rfl, trivial⟩ ?_
 refine c_seq (c_region ?_)
 refine wP tok ?_
 refine w_end (x_seq ?_)
 refine c_seq (c_seq (c_region ?_))
 iterate 2 refine wP tok ?_
 refine w_end (x_seq ?_)
 refine c_if H rfl (fun H => ?_) (fun H => ?_)
 ·
  refine c_seq (c_region ?_)
  refine wP tok ?_
  refine w_end (x_seq ?_)
  refine c_ret (x_tr ?_)
  exact x_ret _ rfl _ rfl ⟨0, rfl, H⟩
 ·
  refine c_skip (x_seq ?_)
  refine c_seq (c_region ?_)
  refine wP tok ?_
  obtain ⟨a1, ha1, H⟩ := H
  refine w_y (y_nil' rfl rfl ha1) rfl rfl ?_
  refine wP tok ?_
  obtain ⟨v2, hv2, H⟩ := H
  refine w_y (y_ld tok rfl rfl rfl rfl hv2) rfl rfl ?_
  refine wP tok ?_
  refine w_end (x_seq ?_)
  refine c_weak [(2, .int .u64 v2)] ⟨rfl, trivial⟩ ?_
  refine c_ret ?_
  exact x_ret _ rfl _ rfl ⟨v2, rfl, H⟩
end Go.Q.Yh

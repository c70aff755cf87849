/- A part of the proof of statements of this seat: lemmas, no statement of their own. -/
import Derived.Test.YthjafnfadiijgaaYhTab
import Derived.Test.YthjafnfadiijgaaYhRs
-- squeezed
set_option linter.unusedVariables false
set_option maxRecDepth 100000
set_option maxHeartbeats 1000000
namespace Go.Q.Yh
/-- (*quaestor raft.Raft).answer -/
def raft_Raft_answer (p0 : Option Addr) (p1 : Int) (p2 : Int) (p3 : Bool) (p4 : Int) (k : (Slc) → Heap → Prop) (h : Heap) : Prop :=
 ∃ a1 : Addr, p0 = some a1 ∧ (∃ v2 : Int, cellH h (a1.add 2) = some (.int .u64 v2) ∧ (∃ (b3 : Nat) (h4 : Heap), b3 = h.size ∧ h4 = h.push (.cells ((S_api_Mail.cs (⟨p1, (⟨p2, v2, p4, 0, 0, p3, (⟨none, 0, 0⟩ : Slc), (⟨none, 0, 0⟩ : Slc)⟩ : S_api_Msg)⟩ : S_api_Mail))).toArray 45) ∧ (k (⟨some ⟨b3, 0, none⟩, 1, 1⟩ : Slc) h4)))

/-- (*quaestor raft.Raft).voted -/
def raft_Raft_voted_j2 (t0_2 : Option Addr) (t1_2 : Int) (t7_2 : Bool) (k : (Slc) → Heap → Prop) (h_2 : Heap) : Prop :=
 raft_Raft_answer t0_2 t1_2 2 t7_2 0 (fun (r3 : Slc) h4 => k r3 h4) h_2
def raft_Raft_voted_j3 (t0_3 : Option Addr) (t1_3 : Int) (t7_3 : Bool) (k : (Slc) → Heap → Prop) (h_3 : Heap) : Prop :=
 ∃ a5 : Addr, t0_3 = some a5 ∧ (∃ h6 : Heap, WrH h_3 (a5.add 9) ∧ h6 = setH h_3 (a5.add 9) (.int .i64 0) ∧ (raft_Raft_voted_j2 t0_3 t1_3 t7_3 k h6))
def raft_Raft_voted_j1 (t0_1 : Option Addr) (t1_1 : Int) (t7_1 : Bool) (k : (Slc) → Heap → Prop) (h_1 : Heap) : Prop :=
 if t7_1 then (∃ a7 : Addr, t0_1 = some a7 ∧ (∃ v8 : Int, cellH h_1 (a7.add 3) = some (.int .i64 v8) ∧ (if (v8 == 0) then (∃ h9 : Heap, WrH h_1 (a7.add 3) ∧ h9 = setH h_1 (a7.add 3) (.int .i64 (IntKind.i64.wrap (t1_1 + 1))) ∧ (raft_Raft_keepTerm t0_1 (fun (r10 : Unit) h11 => raft_Raft_voted_j3 t0_1 t1_1 t7_1 k h11) h9)) else (raft_Raft_voted_j3 t0_1 t1_1 t7_1 k h_1)))) else (raft_Raft_voted_j2 t0_1 t1_1 t7_1 k h_1)
def raft_Raft_voted (p0 : Option Addr) (p1 : Int) (p2 : S_api_Msg) (k : (Slc) → Heap → Prop) (h : Heap) : Prop :=
 ∃ (b1 : Nat) (h2 : Heap), b1 = h.size ∧ h2 = h.push (.cells (S_api_Msg.cs p2).toArray 26) ∧ (∃ a12 : Addr, p0 = some a12 ∧ (∃ v13 : Int, cellH h2 (a12.add 3) = some (.int .i64 v13) ∧ (if (v13 == 0) then (if true then (∃ v14 : Option Addr, cellH h2 (a12.add 4) = some (.pointer v14) ∧ (∃ v15 : Int, cellH h2 ((⟨b1, 0, none⟩ : Addr).add 2) = some (.int .u64 v15) ∧ (∃ v16 : Int, cellH h2 ((⟨b1, 0, none⟩ : Addr).add 3) = some (.int .u64 v16) ∧ (rlog_Log_Newer v14 v15 v16 (fun (r17 : Bool) h18 => raft_Raft_voted_j1 p0 p1 r17 k h18) h2)))) else (raft_Raft_voted_j1 p0 p1 false k h2)) else (∃ v19 : Int, cellH h2 (a12.add 3) = some (.int .i64 v19) ∧ (if (v19 == (IntKind.i64.wrap (p1 + 1))) then (∃ v20 : Option Addr, cellH h2 (a12.add 4) = some (.pointer v20) ∧ (∃ v21 : Int, cellH h2 ((⟨b1, 0, none⟩ : Addr).add 2) = some (.int .u64 v21) ∧ (∃ v22 : Int, cellH h2 ((⟨b1, 0, none⟩ : Addr).add 3) = some (.int .u64 v22) ∧ (rlog_Log_Newer v20 v21 v22 (fun (r23 : Bool) h24 => raft_Raft_voted_j1 p0 p1 r23 k h24) h2)))) else (raft_Raft_voted_j1 p0 p1 false k h2))))))

/-- (*quaestor raft.Raft).fresh -/
def raft_Raft_fresh_j3 (t3_3 : Addr) (t4_3 : Addr) (t7_3 : Int) (t9_3 : Int) (t10_3 : Int) (k : (S_api_Keep) → Heap → Prop) (nx1 : (Int) → Heap → Prop) (h_3 : Heap) : Prop :=
 ∃ v21 : Slc, cellH h_3 (t3_3.add 6) = some (Slc.v v21) ∧ (∃ s22 : Slc, (0 : Int) ≤ t7_3 ∧ (t7_3 : Int) ≤ (v21.len : Int) ∧ ((v21.len : Int) : Int) ≤ (v21.cap : Int) ∧ (v21.cap : Int) ≤ (v21.cap : Int) ∧ s22 = subS v21 2 t7_3.toNat (v21.len : Int).toNat (v21.cap : Int).toNat ∧ (rlog_New 0 0 s22 (fun (r23 : Option Addr) h24 => rlog_Log_Entries r23 (fun (r25 : Slc) h26 => ∃ h27 : Heap, WrsAt h26 t4_3 6 ∧ h27 = setsH h26 t4_3 0 (S_api_Keep.cs (⟨2, t10_3, 0, (IntKind.u64.wrap (t9_3 - 1)), r25, (⟨none, 0, 0⟩ : Slc)⟩ : S_api_Keep)) ∧ (∃ v28 : S_api_Keep, CellsAt h27 t4_3 (S_api_Keep.cs v28) ∧ k v28 h27)) h24) h_3))
def raft_Raft_fresh_j2 (t0_2 : Option Addr) (t3_2 : Addr) (t4_2 : Addr) (t5_2 : Int) (t7_2 : Int) (t9_2 : Int) (t22_2 : Slc) (t23_2 : Int) (t24_2 : Int) (t47_2 : Bool) (k : (S_api_Keep) → Heap → Prop) (nx1 : (Int) → Heap → Prop) (h_2 : Heap) : Prop :=
 if t47_2 then (nx1 (IntKind.i64.wrap (t24_2 + 1)) h_2) else (∃ a17 : Addr, t0_2 = some a17 ∧ (∃ v18 : Option Addr, cellH h_2 (a17.add 4) = some (.pointer v18) ∧ (rlog_Log_Term v18 (IntKind.u64.wrap (t9_2 - 1)) (fun (r19 : Int × Int) h20 => if ((decide (t7_2 > 0)) && (decide ((IntKind.u64.wrap (t9_2 - 1)) > t5_2))) then (∃ v29 : Slc, cellH h20 (t3_2.add 6) = some (Slc.v v29) ∧ (∃ a30 : Addr, v29.a = some a30 ∧ (0 : Int) ≤ (IntKind.i64.wrap (t7_2 - 1)) ∧ (IntKind.i64.wrap (t7_2 - 1)) < (v29.len : Int) ∧ (∃ v31 : Int, cellH h20 (a30.add ((IntKind.i64.wrap (t7_2 - 1)).toNat * 2)) = some (.int .u64 v31) ∧ (raft_Raft_fresh_j3 t3_2 t4_2 t7_2 t9_2 v31 k nx1 h20)))) else (raft_Raft_fresh_j3 t3_2 t4_2 t7_2 t9_2 r19.1 k nx1 h20)) h_2)))
def raft_Raft_fresh_l1b (t0_1 : Option Addr) (t3_1 : Addr) (t4_1 : Addr) (t5_1 : Int) (t22_1 : Slc) (t23_1 : Int) (t24_1 : Int) (k : (S_api_Keep) → Heap → Prop) (nx1 : (Int) → Heap → Prop) (h_1 : Heap) : Prop :=
 if (decide (t24_1 < t23_1)) then (∃ a10 : Addr, t22_1.a = some a10 ∧ (0 : Int) ≤ t24_1 ∧ t24_1 < (t22_1.len : Int) ∧ (∃ v11 : S_api_Entry, CellsAt h_1 (a10.add (t24_1.toNat * 2)) (S_api_Entry.cs v11) ∧ (∃ (b12 : Nat) (h13 : Heap), b12 = h_1.size ∧ h13 = h_1.push (.cells (S_api_Entry.cs (⟨0, (⟨none, 0, 0⟩ : Slc)⟩ : S_api_Entry)).toArray 65) ∧ (∃ h14 : Heap, WrsAt h13 (⟨b12, 0, none⟩ : Addr) 2 ∧ h14 = setsH h13 (⟨b12, 0, none⟩ : Addr) 0 (S_api_Entry.cs v11) ∧ (∃ v15 : Int, cellH h14 (t3_1.add 2) = some (.int .u64 v15) ∧ (∃ x16 : Int, x16 = (IntKind.u64.wrap ((IntKind.u64.wrap (v15 + (IntKind.u64.wrap t24_1))) + 1)) ∧ (if (decide (x16 ≤ t5_1)) then (raft_Raft_fresh_j2 t0_1 t3_1 t4_1 t5_1 t24_1 x16 t22_1 t23_1 t24_1 true k nx1 h14) else (∃ a32 : Addr, t0_1 = some a32 ∧ (∃ v33 : Option Addr, cellH h14 (a32.add 4) = some (.pointer v33) ∧ (∃ v34 : Int, cellH h14 (⟨b12, 0, none⟩ : Addr) = some (.int .u64 v34) ∧ (rlog_Log_Match v33 x16 v34 (fun (r35 : Bool) h36 => raft_Raft_fresh_j2 t0_1 t3_1 t4_1 t5_1 t24_1 x16 t22_1 t23_1 t24_1 r35 k nx1 h36) h14))))))))))) else (∃ h37 : Heap, WrsAt h_1 t4_1 6 ∧ h37 = setsH h_1 t4_1 0 (S_api_Keep.cs (⟨0, 0, 0, 0, (⟨none, 0, 0⟩ : Slc), (⟨none, 0, 0⟩ : Slc)⟩ : S_api_Keep)) ∧ (∃ v38 : S_api_Keep, CellsAt h37 t4_1 (S_api_Keep.cs v38) ∧ k v38 h37))
def raft_Raft_fresh_l1 (t0_1 : Option Addr) (t3_1 : Addr) (t4_1 : Addr) (t5_1 : Int) (t22_1 : Slc) (t23_1 : Int) (i24 : Int) (k : (S_api_Keep) → Heap → Prop) (h : Heap) : Prop :=
 ∃ (I : Int → Heap → Prop) (μ : Int → Heap → Nat), I i24 h ∧ ∀ (t24_1 : Int) (h : Heap), I t24_1 h → raft_Raft_fresh_l1b t0_1 t3_1 t4_1 t5_1 t22_1 t23_1 t24_1 k (fun s h' => I s h' ∧ μ s h' < μ t24_1 h) h
def raft_Raft_fresh (p0 : Option Addr) (p1 : S_api_Msg) (k : (S_api_Keep) → Heap → Prop) (h : Heap) : Prop :=
 ∃ (b1 : Nat) (h2 : Heap), b1 = h.size ∧ h2 = h.push (.cells (S_api_Msg.cs p1).toArray 26) ∧ (∃ (b3 : Nat) (h4 : Heap), b3 = h2.size ∧ h4 = h2.push (.cells (S_api_Keep.cs (⟨0, 0, 0, 0, (⟨none, 0, 0⟩ : Slc), (⟨none, 0, 0⟩ : Slc)⟩ : S_api_Keep)).toArray 107) ∧ (∃ a5 : Addr, p0 = some a5 ∧ (∃ v6 : Option Addr, cellH h4 (a5.add 4) = some (.pointer v6) ∧ (rlog_Log_Base v6 (fun (r7 : Int × Int) h8 => ∃ v9 : Slc, cellH h8 ((⟨b1, 0, none⟩ : Addr).add 6) = some (Slc.v v9) ∧ (raft_Raft_fresh_l1 p0 (⟨b1, 0, none⟩ : Addr) (⟨b3, 0, none⟩ : Addr) r7.1 v9 (v9.len : Int) 0 k h8)) h4))))

/-- (*quaestor raft.Raft).append -/
def raft_Raft_append_j1 (t0_1 : Option Addr) (t1_1 : Int) (t5_1 : Addr) (t8_1 : Int) (k : (Slc) → Heap → Prop) (h_1 : Heap) : Prop :=
 ∃ a26 : Addr, t0_1 = some a26 ∧ (∃ v27 : Int, cellH h_1 (a26.add 6) = some (.int .u64 v27) ∧ (∃ v28 : Int, cellH h_1 (t5_1.add 4) = some (.int .u64 v28) ∧ (∃ h29 : Heap, WrH h_1 (a26.add 6) ∧ h29 = setH h_1 (a26.add 6) (.int .u64 (if (if t8_1 < v28 then t8_1 else v28) > v27 then (if t8_1 < v28 then t8_1 else v28) else v27)) ∧ (raft_Raft_answer t0_1 t1_1 4 true t8_1 (fun (r30 : Slc) h31 => k r30 h31) h29))))
def raft_Raft_append (p0 : Option Addr) (p1 : Int) (p2 : S_api_Msg) (k : (Slc) → Heap → Prop) (h : Heap) : Prop :=
 ∃ (b1 : Nat) (h2 : Heap), b1 = h.size ∧ h2 = h.push (.cells (S_api_Msg.cs p2).toArray 26) ∧ (∃ v3 : Int, cellH h2 ((⟨b1, 0, none⟩ : Addr).add 1) = some (.int .u64 v3) ∧ (raft_Raft_follow p0 v3 p1 (fun (r4 : Unit) h5 => ∃ a6 : Addr, p0 = some a6 ∧ (∃ h7 : Heap, WrH h5 (a6.add 9) ∧ h7 = setH h5 (a6.add 9) (.int .i64 0) ∧ (∃ v8 : S_api_Msg, CellsAt h7 (⟨b1, 0, none⟩ : Addr) (S_api_Msg.cs v8) ∧ (raft_Raft_fresh p0 v8 (fun (r9 : S_api_Keep) h10 => ∃ (b11 : Nat) (h12 : Heap), b11 = h10.size ∧ h12 = h10.push (.cells (S_api_Keep.cs (⟨0, 0, 0, 0, (⟨none, 0, 0⟩ : Slc), (⟨none, 0, 0⟩ : Slc)⟩ : S_api_Keep)).toArray 107) ∧ (∃ h13 : Heap, WrsAt h12 (⟨b11, 0, none⟩ : Addr) 6 ∧ h13 = setsH h12 (⟨b11, 0, none⟩ : Addr) 0 (S_api_Keep.cs r9) ∧ (∃ v14 : Option Addr, cellH h13 (a6.add 4) = some (.pointer v14) ∧ (∃ v15 : Int, cellH h13 ((⟨b1, 0, none⟩ : Addr).add 2) = some (.int .u64 v15) ∧ (∃ v16 : Int, cellH h13 ((⟨b1, 0, none⟩ : Addr).add 3) = some (.int .u64 v16) ∧ (∃ v17 : Slc, cellH h13 ((⟨b1, 0, none⟩ : Addr).add 6) = some (Slc.v v17) ∧ (rlog_Log_Append v14 v15 v16 v17 (fun (r18 : Int × Int) h19 => if (r18.2 != 0) then (∃ v20 : Option Addr, cellH h19 (a6.add 4) = some (.pointer v20) ∧ (rlog_Log_Last v20 (fun (r21 : Int × Int) h22 => ∃ v23 : Int, cellH h22 ((⟨b1, 0, none⟩ : Addr).add 2) = some (.int .u64 v23) ∧ (raft_Raft_answer p0 p1 4 false (if (IntKind.u64.wrap ((if 1 > v23 then 1 else v23) - 1)) < r21.1 then (IntKind.u64.wrap ((if 1 > v23 then 1 else v23) - 1)) else r21.1) (fun (r24 : Slc) h25 => k r24 h25) h22)) h19)) else (∃ v32 : Slc, cellH h19 ((⟨b11, 0, none⟩ : Addr).add 4) = some (Slc.v v32) ∧ (if (decide ((v32.len : Int) > 0)) then (∃ v33 : Slc, cellH h19 (a6.add 13) = some (Slc.v v33) ∧ (∃ v34 : S_api_Keep, CellsAt h19 (⟨b11, 0, none⟩ : Addr) (S_api_Keep.cs v34) ∧ (∃ (b35 : Nat) (h36 : Heap), b35 = h19.size ∧ h36 = h19.push (.cells ((S_api_Keep.cs v34)).toArray 107) ∧ (cellH h36 (a6.add 13) = some (Slc.v v33) ∧ (App 107 6 80 [.int .i64 0, .int .u64 0, .int .i64 0, .int .u64 0, .slice none 0 0, .slice none 0 0] h36 v33 1 ((S_api_Keep.cs v34)) (fun s38 h39 => ∃ h40 : Heap, WrH h39 (a6.add 13) ∧ h40 = setH h39 (a6.add 13) (Slc.v s38) ∧ (raft_Raft_append_j1 p0 p1 (⟨b1, 0, none⟩ : Addr) r18.1 k h40))))))) else (raft_Raft_append_j1 p0 p1 (⟨b1, 0, none⟩ : Addr) r18.1 k h19)))) h13))))))) h7)))) h2))

/-- (*quaestor raft.Raft).base -/
def raft_Raft_base_j1 (t0_1 : Option Addr) (t1_1 : Int) (t2_1 : Int) (t3_1 : Slc) (k : (Unit) → Heap → Prop) (h_1 : Heap) : Prop :=
 slices_Clone_byte_byte t3_1 (fun (r1 : Slc) h2 => ∃ a3 : Addr, t0_1 = some a3 ∧ (∃ h4 : Heap, WrH h2 (a3.add 5) ∧ h4 = setH h2 (a3.add 5) (Slc.v r1) ∧ (∃ v5 : Slc, cellH h4 (a3.add 13) = some (Slc.v v5) ∧ (slices_Clone_byte_byte t3_1 (fun (r6 : Slc) h7 => cellH h7 (a3.add 13) = some (Slc.v v5) ∧ (∃ (b9 : Nat) (h10 : Heap), b9 = h7.size ∧ h10 = h7.push (.cells ((S_api_Keep.cs (⟨3, t2_1, 0, t1_1, (⟨none, 0, 0⟩ : Slc), r6⟩ : S_api_Keep))).toArray 107) ∧ (cellH h10 (a3.add 13) = some (Slc.v v5) ∧ (App 107 6 80 [.int .i64 0, .int .u64 0, .int .i64 0, .int .u64 0, .slice none 0 0, .slice none 0 0] h10 v5 1 ((S_api_Keep.cs (⟨3, t2_1, 0, t1_1, (⟨none, 0, 0⟩ : Slc), r6⟩ : S_api_Keep))) (fun s12 h13 => ∃ h14 : Heap, WrH h13 (a3.add 13) ∧ h14 = setH h13 (a3.add 13) (Slc.v s12) ∧ (k () h14)))))) h4)))) h_1
def raft_Raft_base (p0 : Option Addr) (p1 : Int) (p2 : Int) (p3 : Slc) (k : (Unit) → Heap → Prop) (h : Heap) : Prop :=
 ∃ a15 : Addr, p0 = some a15 ∧ (∃ v16 : Option Addr, cellH h (a15.add 4) = some (.pointer v16) ∧ (rlog_Log_Match v16 p1 p2 (fun (r17 : Bool) h18 => if r17 then (∃ v19 : Option Addr, cellH h18 (a15.add 4) = some (.pointer v19) ∧ (rlog_Log_Cut v19 p1 (fun (r20 : Int) h21 => raft_Raft_base_j1 p0 p1 p2 p3 k h21) h18)) else (rlog_New p1 p2 (⟨none, 0, 0⟩ : Slc) (fun (r22 : Option Addr) h23 => ∃ h24 : Heap, WrH h23 (a15.add 4) ∧ h24 = setH h23 (a15.add 4) (.pointer r22) ∧ (raft_Raft_base_j1 p0 p1 p2 p3 k h24)) h18)) h))

/-- (*quaestor raft.Raft).snapshot -/
def raft_Raft_snapshot_j1 (t0_1 : Option Addr) (t1_1 : Int) (k : (Slc) → Heap → Prop) (h_1 : Heap) : Prop :=
 ∃ a8 : Addr, t0_1 = some a8 ∧ (∃ v9 : Int, cellH h_1 (a8.add 6) = some (.int .u64 v9) ∧ (raft_Raft_answer t0_1 t1_1 4 true v9 (fun (r10 : Slc) h11 => k r10 h11) h_1))
def raft_Raft_snapshot (p0 : Option Addr) (p1 : Int) (p2 : S_api_Msg) (k : (Slc) → Heap → Prop) (h : Heap) : Prop :=
 ∃ (b1 : Nat) (h2 : Heap), b1 = h.size ∧ h2 = h.push (.cells (S_api_Msg.cs p2).toArray 26) ∧ (∃ v3 : Int, cellH h2 ((⟨b1, 0, none⟩ : Addr).add 1) = some (.int .u64 v3) ∧ (raft_Raft_follow p0 v3 p1 (fun (r4 : Unit) h5 => ∃ a6 : Addr, p0 = some a6 ∧ (∃ h7 : Heap, WrH h5 (a6.add 9) ∧ h7 = setH h5 (a6.add 9) (.int .i64 0) ∧ (∃ v12 : Int, cellH h7 ((⟨b1, 0, none⟩ : Addr).add 2) = some (.int .u64 v12) ∧ (∃ v13 : Int, cellH h7 (a6.add 6) = some (.int .u64 v13) ∧ (if (decide (v12 > v13)) then (∃ v14 : Int, cellH h7 ((⟨b1, 0, none⟩ : Addr).add 2) = some (.int .u64 v14) ∧ (∃ v15 : Int, cellH h7 ((⟨b1, 0, none⟩ : Addr).add 3) = some (.int .u64 v15) ∧ (∃ v16 : Slc, cellH h7 ((⟨b1, 0, none⟩ : Addr).add 7) = some (Slc.v v16) ∧ (raft_Raft_base p0 v14 v15 v16 (fun (r17 : Unit) h18 => ∃ v19 : Int, cellH h18 ((⟨b1, 0, none⟩ : Addr).add 2) = some (.int .u64 v19) ∧ (∃ h20 : Heap, WrH h18 (a6.add 6) ∧ h20 = setH h18 (a6.add 6) (.int .u64 v19) ∧ (raft_Raft_snapshot_j1 p0 p1 k h20))) h7)))) else (raft_Raft_snapshot_j1 p0 p1 k h7)))))) h2))

/-- (*quaestor raft.Raft).appended -/
def raft_Raft_appended (p0 : Option Addr) (p1 : Int) (p2 : S_api_Msg) (k : (Slc) → Heap → Prop) (h : Heap) : Prop :=
 ∃ (b1 : Nat) (h2 : Heap), b1 = h.size ∧ h2 = h.push (.cells (S_api_Msg.cs p2).toArray 26) ∧ (∃ a3 : Addr, p0 = some a3 ∧ (∃ v4 : Int, cellH h2 (a3.add 7) = some (.int .i64 v4) ∧ (if (v4 != 2) then (k (⟨none, 0, 0⟩ : Slc) h2) else (∃ v5 : Bool, cellH h2 ((⟨b1, 0, none⟩ : Addr).add 5) = some (.bool v5) ∧ (if (!v5) then (∃ v6 : Slc, cellH h2 (a3.add 11) = some (Slc.v v6) ∧ (∃ v7 : Slc, cellH h2 (a3.add 11) = some (Slc.v v7) ∧ (∃ a8 : Addr, v7.a = some a8 ∧ (0 : Int) ≤ p1 ∧ p1 < (v7.len : Int) ∧ (∃ v9 : Int, cellH h2 (a8.add (p1.toNat * 1)) = some (.int .u64 v9) ∧ (∃ v10 : Int, cellH h2 ((⟨b1, 0, none⟩ : Addr).add 2) = some (.int .u64 v10) ∧ (∃ a11 : Addr, v6.a = some a11 ∧ (0 : Int) ≤ p1 ∧ p1 < (v6.len : Int) ∧ (∃ h12 : Heap, WrH h2 (a11.add (p1.toNat * 1)) ∧ h12 = setH h2 (a11.add (p1.toNat * 1)) (.int .u64 (if (if (IntKind.u64.wrap (v10 + 1)) < (IntKind.u64.wrap (v9 - 1)) then (IntKind.u64.wrap (v10 + 1)) else (IntKind.u64.wrap (v9 - 1))) > 1 then (if (IntKind.u64.wrap (v10 + 1)) < (IntKind.u64.wrap (v9 - 1)) then (IntKind.u64.wrap (v10 + 1)) else (IntKind.u64.wrap (v9 - 1))) else 1)) ∧ (raft_Raft_due p0 p1 (fun (r13 : S_api_Msg) h14 => ∃ (b15 : Nat) (h16 : Heap), b15 = h14.size ∧ h16 = h14.push (.cells ((S_api_Mail.cs (⟨p1, r13⟩ : S_api_Mail))).toArray 45) ∧ (k (⟨some ⟨b15, 0, none⟩, 1, 1⟩ : Slc) h16)) h12)))))))) else (∃ v17 : Option Addr, cellH h2 (a3.add 4) = some (.pointer v17) ∧ (rlog_Log_Last v17 (fun (r18 : Int × Int) h19 => ∃ v20 : Int, cellH h19 ((⟨b1, 0, none⟩ : Addr).add 2) = some (.int .u64 v20) ∧ (if (decide (v20 > r18.1)) then (k (⟨none, 0, 0⟩ : Slc) h19) else (∃ v21 : Slc, cellH h19 (a3.add 12) = some (Slc.v v21) ∧ (∃ v22 : Slc, cellH h19 (a3.add 12) = some (Slc.v v22) ∧ (∃ a23 : Addr, v22.a = some a23 ∧ (0 : Int) ≤ p1 ∧ p1 < (v22.len : Int) ∧ (∃ v24 : Int, cellH h19 (a23.add (p1.toNat * 1)) = some (.int .u64 v24) ∧ (∃ v25 : Int, cellH h19 ((⟨b1, 0, none⟩ : Addr).add 2) = some (.int .u64 v25) ∧ (∃ a26 : Addr, v21.a = some a26 ∧ (0 : Int) ≤ p1 ∧ p1 < (v21.len : Int) ∧ (∃ h27 : Heap, WrH h19 (a26.add (p1.toNat * 1)) ∧ h27 = setH h19 (a26.add (p1.toNat * 1)) (.int .u64 (if v25 > v24 then v25 else v24)) ∧ (∃ v28 : Slc, cellH h27 (a3.add 11) = some (Slc.v v28) ∧ (∃ v29 : Slc, cellH h27 (a3.add 11) = some (Slc.v v29) ∧ (∃ a30 : Addr, v29.a = some a30 ∧ (0 : Int) ≤ p1 ∧ p1 < (v29.len : Int) ∧ (∃ v31 : Int, cellH h27 (a30.add (p1.toNat * 1)) = some (.int .u64 v31) ∧ (∃ v32 : Int, cellH h27 ((⟨b1, 0, none⟩ : Addr).add 2) = some (.int .u64 v32) ∧ (∃ a33 : Addr, v28.a = some a33 ∧ (0 : Int) ≤ p1 ∧ p1 < (v28.len : Int) ∧ (∃ h34 : Heap, WrH h27 (a33.add (p1.toNat * 1)) ∧ h34 = setH h27 (a33.add (p1.toNat * 1)) (.int .u64 (if (IntKind.u64.wrap (v32 + 1)) > v31 then (IntKind.u64.wrap (v32 + 1)) else v31)) ∧ (raft_Raft_settle p0 (fun (r35 : Unit) h36 => ∃ v37 : Slc, cellH h36 (a3.add 11) = some (Slc.v v37) ∧ (∃ a38 : Addr, v37.a = some a38 ∧ (0 : Int) ≤ p1 ∧ p1 < (v37.len : Int) ∧ (∃ v39 : Int, cellH h36 (a38.add (p1.toNat * 1)) = some (.int .u64 v39) ∧ (if (decide (v39 ≤ r18.1)) then (raft_Raft_due p0 p1 (fun (r40 : S_api_Msg) h41 => ∃ (b42 : Nat) (h43 : Heap), b42 = h41.size ∧ h43 = h41.push (.cells ((S_api_Mail.cs (⟨p1, r40⟩ : S_api_Mail))).toArray 45) ∧ (k (⟨some ⟨b42, 0, none⟩, 1, 1⟩ : Slc) h43)) h36) else (k (⟨none, 0, 0⟩ : Slc) h36))))) h34))))))))))))))))) h2)))))))

/-- (*quaestor raft.Raft).late -/
def raft_Raft_late_j1 (t0_1 : Option Addr) (t1_1 : Int) (t14_1 : Bool) (k : (Slc) → Heap → Prop) (h_1 : Heap) : Prop :=
 if t14_1 then (raft_Raft_answer t0_1 t1_1 4 false 0 (fun (r6 : Slc) h7 => k r6 h7) h_1) else (k (⟨none, 0, 0⟩ : Slc) h_1)
def raft_Raft_late (p0 : Option Addr) (p1 : Int) (p2 : S_api_Msg) (k : (Slc) → Heap → Prop) (h : Heap) : Prop :=
 ∃ (b1 : Nat) (h2 : Heap), b1 = h.size ∧ h2 = h.push (.cells (S_api_Msg.cs p2).toArray 26) ∧ (∃ v3 : Int, cellH h2 (⟨b1, 0, none⟩ : Addr) = some (.int .i64 v3) ∧ (if (v3 == 1) then (raft_Raft_answer p0 p1 2 false 0 (fun (r4 : Slc) h5 => k r4 h5) h2) else (if (v3 == 3) then (raft_Raft_late_j1 p0 p1 (v3 == 3) k h2) else (raft_Raft_late_j1 p0 p1 (v3 == 5) k h2))))

/-- (*quaestor raft.Raft).Take -/
def raft_Raft_Take_j2 (t0_2 : Option Addr) (k : (Slc) → Heap → Prop) (h_2 : Heap) : Prop :=
 raft_Raft_win t0_2 (fun (r7 : Slc) h8 => k r7 h8) h_2
def raft_Raft_Take_g3 (t0_3 : Option Addr) (t1_3 : Int) (t82_3 : Bool) (k : (Slc) → Heap → Prop) (h_3 : Heap) : Prop :=
 if t82_3 then (∃ a11 : Addr, t0_3 = some a11 ∧ (∃ v12 : Option Addr, cellH h_3 (a11.add 10) = some (.pointer v12) ∧ (vote_Ballot_Yes v12 t1_3 (fun (r13 : Bool) h14 => raft_Raft_Take_j2 t0_3 k h14) h_3))) else (raft_Raft_Take_j2 t0_3 k h_3)
def raft_Raft_Take_j1 (t0_1 : Option Addr) (t1_1 : Int) (t5_1 : Addr) (k : (Slc) → Heap → Prop) (h_1 : Heap) : Prop :=
 ∃ v3 : Int, cellH h_1 t5_1 = some (.int .i64 v3) ∧ (if (v3 == 1) then (∃ v4 : S_api_Msg, CellsAt h_1 t5_1 (S_api_Msg.cs v4) ∧ (raft_Raft_voted t0_1 t1_1 v4 (fun (r5 : Slc) h6 => k r5 h6) h_1)) else (if (v3 == 2) then (∃ a9 : Addr, t0_1 = some a9 ∧ (∃ v10 : Int, cellH h_1 (a9.add 7) = some (.int .i64 v10) ∧ (if (v10 == 1) then (∃ v15 : Bool, cellH h_1 (t5_1.add 5) = some (.bool v15) ∧ (raft_Raft_Take_g3 t0_1 t1_1 v15 k h_1)) else (raft_Raft_Take_g3 t0_1 t1_1 false k h_1)))) else (if (v3 == 3) then (∃ v16 : S_api_Msg, CellsAt h_1 t5_1 (S_api_Msg.cs v16) ∧ (raft_Raft_append t0_1 t1_1 v16 (fun (r17 : Slc) h18 => k r17 h18) h_1)) else (if (v3 == 4) then (∃ v19 : S_api_Msg, CellsAt h_1 t5_1 (S_api_Msg.cs v19) ∧ (raft_Raft_appended t0_1 t1_1 v19 (fun (r20 : Slc) h21 => k r20 h21) h_1)) else (∃ v22 : S_api_Msg, CellsAt h_1 t5_1 (S_api_Msg.cs v22) ∧ (raft_Raft_snapshot t0_1 t1_1 v22 (fun (r23 : Slc) h24 => k r23 h24) h_1))))))
def raft_Raft_Take_g7 (t0_7 : Option Addr) (t1_7 : Int) (t5_7 : Addr) (t39_7 : Bool) (k : (Slc) → Heap → Prop) (h_7 : Heap) : Prop :=
 if t39_7 then (k (⟨none, 0, 0⟩ : Slc) h_7) else (∃ v25 : Int, cellH h_7 (t5_7.add 1) = some (.int .u64 v25) ∧ (∃ a26 : Addr, t0_7 = some a26 ∧ (∃ v27 : Int, cellH h_7 (a26.add 2) = some (.int .u64 v27) ∧ (if (decide (v25 < v27)) then (∃ v28 : S_api_Msg, CellsAt h_7 t5_7 (S_api_Msg.cs v28) ∧ (raft_Raft_late t0_7 t1_7 v28 (fun (r29 : Slc) h30 => k r29 h30) h_7)) else (∃ v31 : Int, cellH h_7 (t5_7.add 1) = some (.int .u64 v31) ∧ (∃ v32 : Int, cellH h_7 (a26.add 2) = some (.int .u64 v32) ∧ (if (decide (v31 > v32)) then (∃ v33 : Int, cellH h_7 (t5_7.add 1) = some (.int .u64 v33) ∧ (raft_Raft_follow t0_7 v33 (-1) (fun (r34 : Unit) h35 => raft_Raft_Take_j1 t0_7 t1_7 t5_7 k h35) h_7)) else (raft_Raft_Take_j1 t0_7 t1_7 t5_7 k h_7))))))))
def raft_Raft_Take_g6 (t0_6 : Option Addr) (t1_6 : Int) (t5_6 : Addr) (t34_6 : Bool) (k : (Slc) → Heap → Prop) (h_6 : Heap) : Prop :=
 if t34_6 then (raft_Raft_Take_g7 t0_6 t1_6 t5_6 true k h_6) else (∃ v36 : Int, cellH h_6 t5_6 = some (.int .i64 v36) ∧ (raft_Raft_Take_g7 t0_6 t1_6 t5_6 (decide (v36 > 5)) k h_6))
def raft_Raft_Take_g5 (t0_5 : Option Addr) (t1_5 : Int) (t5_5 : Addr) (t29_5 : Bool) (k : (Slc) → Heap → Prop) (h_5 : Heap) : Prop :=
 if t29_5 then (raft_Raft_Take_g6 t0_5 t1_5 t5_5 true k h_5) else (∃ v37 : Int, cellH h_5 t5_5 = some (.int .i64 v37) ∧ (raft_Raft_Take_g6 t0_5 t1_5 t5_5 (decide (v37 < 1)) k h_5))
def raft_Raft_Take_g4 (t0_4 : Option Addr) (t1_4 : Int) (t5_4 : Addr) (t21_4 : Bool) (k : (Slc) → Heap → Prop) (h_4 : Heap) : Prop :=
 if t21_4 then (raft_Raft_Take_g5 t0_4 t1_4 t5_4 true k h_4) else (∃ a38 : Addr, t0_4 = some a38 ∧ (∃ v39 : Int, cellH h_4 a38 = some (.int .i64 v39) ∧ (raft_Raft_Take_g5 t0_4 t1_4 t5_4 (t1_4 == v39) k h_4)))
def raft_Raft_Take (p0 : Option Addr) (p1 : Int) (p2 : S_api_Msg) (k : (Slc) → Heap → Prop) (h : Heap) : Prop :=
 ∃ (b1 : Nat) (h2 : Heap), b1 = h.size ∧ h2 = h.push (.cells (S_api_Msg.cs p2).toArray 26) ∧ (if ((p0.isNone) || (decide (p1 < 0))) then (raft_Raft_Take_g4 p0 p1 (⟨b1, 0, none⟩ : Addr) true k h2) else (∃ a40 : Addr, p0 = some a40 ∧ (∃ v41 : Int, cellH h2 (a40.add 1) = some (.int .i64 v41) ∧ (raft_Raft_Take_g4 p0 p1 (⟨b1, 0, none⟩ : Addr) (decide (p1 ≥ v41)) k h2))))

/-- (*quaestor raft.Raft).Cut -/
def raft_Raft_Cut (p0 : Option Addr) (p1 : Int) (p2 : Slc) (k : (Int) → Heap → Prop) (h : Heap) : Prop :=
 if (p0.isNone) then (k 6 h) else (∃ a1 : Addr, p0 = some a1 ∧ (∃ v2 : Int, cellH h (a1.add 6) = some (.int .u64 v2) ∧ (if (decide (p1 > v2)) then (k 14 h) else (∃ v3 : Option Addr, cellH h (a1.add 4) = some (.pointer v3) ∧ (rlog_Log_Term v3 p1 (fun (r4 : Int × Int) h5 => if (r4.2 != 0) then (k r4.2 h5) else (raft_Raft_base p0 p1 r4.1 p2 (fun (r6 : Unit) h7 => k 0 h7) h5)) h)))))

/-- (*quaestor raft.Raft).Base -/
def raft_Raft_Base (p0 : Option Addr) (k : (Int × Slc) → Heap → Prop) (h : Heap) : Prop :=
 if (p0.isNone) then (k (0, (⟨none, 0, 0⟩ : Slc)) h) else (∃ a1 : Addr, p0 = some a1 ∧ (∃ v2 : Option Addr, cellH h (a1.add 4) = some (.pointer v2) ∧ (rlog_Log_Base v2 (fun (r3 : Int × Int) h4 => ∃ v5 : Slc, cellH h4 (a1.add 5) = some (Slc.v v5) ∧ (slices_Clone_byte_byte v5 (fun (r6 : Slc) h7 => k (r3.1, r6) h7) h4)) h)))

theorem raft_Raft_answer_ok : CallOk Go.Proofs.Try.prog 68 := ⟨_, Go.Proofs.Try.func68, by kernel_rfl, by kernel_rfl⟩
theorem raft_Raft_answer_ref (p0 : Option Addr) (p1 : Int) (p2 : Int) (p3 : Bool) (p4 : Int) (k : (Slc) → Heap → Prop) (h : Heap) (H : raft_Raft_answer p0 p1 p2 p3 p4 k h) : CallsH Go.Proofs.Try.prog 68 #[.pointer p0, .int .i64 p1, .int .i64 p2, .bool p3, .int .u64 p4] h (fun v h' => ∃ r : Slc, v = Slc.v r ∧ k r h') := by
 refine f_enter (N := 22) Go.Proofs.Try.func68 rfl rfl rfl (fun w0 => ?_)
 unfold raft_Raft_answer at H
 refine c_weak [(0, .pointer p0), (1, .int .i64 p1), (2, .int .i64 p2), (3, .bool p3), (4, .int .u64 p4)] ⟨rfl, rfl, rfl, rfl, rfl, trivial⟩ ?_
 refine c_seq (c_region ?_)
 refine wP tok ?_
 refine w_end (x_seq ?_)
 refine c_seq (c_region ?_)
 iterate 3 refine wP tok ?_
 obtain ⟨a1, ha1, H⟩ := H
 refine w_y (y_nil' rfl rfl ha1) rfl rfl ?_
 refine wP tok ?_
 obtain ⟨v2, hv2, H⟩ := H
 refine w_y (y_ld tok rfl rfl rfl rfl hv2) rfl rfl ?_
 iterate 2 refine wP tok ?_
 refine w_y (y_build tok rfl rfl rfl rfl rfl) rfl rfl ?_
 refine w_y (y_build tok rfl rfl rfl rfl rfl) rfl rfl ?_
 obtain ⟨b3, h4, eb3, eh4, H⟩ := H
 refine w_h (h_bs tok rfl rfl rfl rfl rfl rfl rfl eb3 eh4) rfl rfl ?_
 refine wP tok ?_
 refine w_end (x_seq ?_)
 refine c_weak [(10, Slc.v (⟨some ⟨b3, 0, none⟩, 1, 1⟩ : Slc))] ⟨rfl, trivial⟩ ?_
 refine c_ret ?_
 exact x_ret _ rfl _ rfl ⟨(⟨some ⟨b3, 0, none⟩, 1, 1⟩ : Slc), rfl, H⟩

theorem raft_Raft_voted_ok : CallOk Go.Proofs.Try.prog 47 := ⟨_, Go.Proofs.Try.func47, by kernel_rfl, by kernel_rfl⟩
theorem raft_Raft_voted_ref (p0 : Option Addr) (p1 : Int) (p2 : S_api_Msg) (k : (Slc) → Heap → Prop) (h : Heap) (H : raft_Raft_voted p0 p1 p2 k h) : CallsH Go.Proofs.Try.prog 47 #[.pointer p0, .int .i64 p1, .agg (S_api_Msg.cs p2).toArray] h (fun v h' => ∃ r : Slc, v = Slc.v r ∧ k r h') := by
 refine f_enter (N := 53) Go.Proofs.Try.func47 rfl rfl rfl (fun w0 => ?_)
 unfold raft_Raft_voted at H
 refine c_weak [(0, .pointer p0), (1, .int .i64 p1), (2, .agg (S_api_Msg.cs p2).toArray)] ⟨rfl, rfl, rfl, trivial⟩ ?_
 refine c_seq (c_region ?_)
 obtain ⟨b1, h2, eb1, eh2, H⟩ := H
 refine w_h (h_box rfl rfl eb1 eh2) rfl rfl ?_
 refine wP tok ?_
 refine w_end (x_seq ?_)
 refine c_seqJ (α := Bool) (fun (s : Bool) => [(7, .bool s), (0, .pointer p0), (1, .int .i64 p1)]) (fun (s : Bool) h => raft_Raft_voted_j1 p0 p1 s k h) ?_ ?_
 ·
  rintro t7_1 h_1 H
  replace H : raft_Raft_voted_j1 p0 p1 t7_1 k h_1 := H
  unfold raft_Raft_voted_j1 at H
  refine c_weak [(7, .bool t7_1), (0, .pointer p0), (1, .int .i64 p1)] ⟨rfl, rfl, rfl, trivial⟩ ?_
  refine c_seqJ (α := Unit) (fun (s : Unit) => [(0, .pointer p0), (1, .int .i64 p1), (7, .bool t7_1)]) (fun (s : Unit) h => raft_Raft_voted_j2 p0 p1 t7_1 k h) ?_ ?_
  ·
   rintro _ h_2 H
   replace H : raft_Raft_voted_j2 p0 p1 t7_1 k h_2 := H
   unfold raft_Raft_voted_j2 at H
   refine c_weak [(0, .pointer p0), (1, .int .i64 p1), (7, .bool t7_1)] ⟨rfl, rfl, rfl, trivial⟩ ?_
   refine c_seq (c_region ?_)
   iterate 3 refine wP tok ?_
   refine w_call raft_Raft_answer_ok (raft_Raft_answer_ref _ _ _ _ _ _ _ H) rfl rfl rfl rfl ?_
   rintro _ h4 ⟨r3, rfl, H⟩
   refine wP tok ?_
   refine w_end (x_seq ?_)
   refine c_weak [(6, Slc.v r3)] ⟨rfl, trivial⟩ ?_
   refine c_ret ?_
   exact x_ret _ rfl _ rfl ⟨r3, rfl, H⟩
  ·
   refine c_seq (c_region ?_)
   refine wP tok ?_
   refine w_end (x_seq ?_)
   refine c_if H rfl (fun H => ?_) (fun H => ?_)
   ·
    refine c_seqJ (α := Unit) (fun (s : Unit) => [(0, .pointer p0), (1, .int .i64 p1), (7, .bool t7_1)]) (fun (s : Unit) h => raft_Raft_voted_j3 p0 p1 t7_1 k h) ?_ ?_
    ·
     rintro _ h_3 H
     replace H : raft_Raft_voted_j3 p0 p1 t7_1 k h_3 := H
     unfold raft_Raft_voted_j3 at H
     refine c_weak [(0, .pointer p0), (1, .int .i64 p1), (7, .bool t7_1)] ⟨rfl, rfl, rfl, trivial⟩ ?_
     refine c_region ?_
     refine wP tok ?_
     obtain ⟨a5, ha5, H⟩ := H
     refine w_y (y_nil' rfl rfl ha5) rfl rfl ?_
     refine wP tok ?_
     obtain ⟨h6, wh6, eh6, H⟩ := H
     refine w_h (h_st tok rfl rfl rfl rfl rfl rfl wh6 eh6) rfl rfl ?_
     refine w_end ?_
     exact x_join () H ⟨rfl, rfl, rfl, trivial⟩
    ·
     refine c_seq (c_region ?_)
     refine wP tok ?_
     obtain ⟨a7, ha7, H⟩ := H
     refine w_y (y_nil' rfl rfl ha7) rfl rfl ?_
     refine wP tok ?_
     obtain ⟨v8, hv8, H⟩ := H
     refine w_y (y_ld tok rfl rfl rfl rfl hv8) rfl rfl ?_
     refine wP tok ?_
     refine w_end (x_seq ?_)
     refine c_if H rfl (fun H => ?_) (fun H => ?_)
     ·
      refine c_seq (c_region ?_)
      iterate 3 refine wP tok ?_
      refine w_y (y_nil' rfl rfl ha7) rfl rfl ?_
      refine wP tok ?_
      obtain ⟨h9, wh9, eh9, H⟩ := H
      refine w_h (h_st tok rfl rfl rfl rfl rfl rfl wh9 eh9) rfl rfl ?_
      refine w_end (x_seq ?_)
      refine c_weak [(7, .bool t7_1), (0, .pointer p0), (1, .int .i64 p1)] ⟨rfl, rfl, rfl, trivial⟩ ?_
      refine c_region ?_
      refine wP tok ?_
      refine w_call raft_Raft_keepTerm_ok (raft_Raft_keepTerm_ref _ _ _ H) rfl rfl rfl rfl ?_
      rintro _ h11 ⟨r10, rfl, H⟩
      refine w_end ?_
      exact x_join () H ⟨rfl, rfl, rfl, trivial⟩
     ·
      refine c_skip ?_
      exact x_join () H ⟨rfl, rfl, rfl, trivial⟩
   ·
    refine c_skip ?_
    exact x_join () H ⟨rfl, rfl, rfl, trivial⟩
 ·
  refine c_sim [(0, .pointer p0), (1, .int .i64 p1), (5, .pointer (some (⟨b1, 0, none⟩ : Addr)))] (by kernel_rfl) (by kernel_rfl) ⟨rfl, rfl, rfl, trivial⟩ (fun wf => ?_)
  refine sQ 0 [(0, .pointer p0)] (some 8) tok wf ⟨rfl, trivial⟩ (fun P_0 => ?_)
  obtain ⟨a12, ha12, H⟩ := H
  refine sP 1 [(8, .pointer p0)] (some 9) wf ⟨rfl, trivial⟩ (fun _ => pf_y rfl rfl rfl (y_nil' rfl rfl ha12)) (fun P_1 => ?_)
  refine sQ 2 [(9, .pointer (some a12))] (some 10) tok wf ⟨rfl, trivial⟩ (fun P_2 => ?_)
  obtain ⟨v13, hv13, H⟩ := H
  refine sL 3 [(10, .pointer (some (a12.add 3)))] (some 11) wf ⟨rfl, trivial⟩ (pf_y rfl rfl rfl (y_ld tok rfl rfl rfl rfl hv13)) (fun P_3 => ?_)
  refine sQ 4 [(11, .int .i64 v13)] (some 12) tok wf ⟨rfl, trivial⟩ (fun P_4 => ?_)
  refine sQ 5 [(12, .bool (v13 == 0))] (some 13) tok wf ⟨rfl, trivial⟩ (fun P_5 => ?_)
  refine sim_gif 13 H rfl (fun hb H => ?_) (fun hb H => ?_)
  ·
   refine sim_p 6 (v := undef) (ei := [(0, .pointer p0), (13, .bool true)]) (d := (some 14)) wf (by kernel_rfl) ⟨rfl, rfl, trivial⟩ (by kernel_rfl) (by kernel_rfl) (fun _ => pf_s rfl rfl rfl) (fun P_6 => ?_)
   refine sim_p 7 (v := undef) (ei := [(13, .bool true), (14, undef)]) (d := (some 15)) wf (by kernel_rfl) ⟨rfl, rfl, trivial⟩ (by kernel_rfl) (by kernel_rfl) (fun _ => pf_s rfl rfl rfl) (fun P_7 => ?_)
   refine sim_p 8 (v := undef) (ei := [(13, .bool true), (15, undef)]) (d := (some 16)) wf (by kernel_rfl) ⟨rfl, rfl, trivial⟩ (by kernel_rfl) (by kernel_rfl) (fun _ => pf_s rfl rfl rfl) (fun P_8 => ?_)
   refine sim_p 9 (v := undef) (ei := [(13, .bool true), (16, undef)]) (d := (some 17)) wf (by kernel_rfl) ⟨rfl, rfl, trivial⟩ (by kernel_rfl) (by kernel_rfl) (fun _ => pf_s rfl rfl rfl) (fun P_9 => ?_)
   refine sim_p 10 (v := undef) (ei := [(1, .int .i64 p1), (13, .bool true)]) (d := (some 18)) wf (by kernel_rfl) ⟨rfl, rfl, trivial⟩ (by kernel_rfl) (by kernel_rfl) (fun _ => pf_s rfl rfl rfl) (fun P_10 => ?_)
   refine sim_p 11 (v := undef) (ei := [(13, .bool true), (18, undef)]) (d := (some 19)) wf (by kernel_rfl) ⟨rfl, rfl, trivial⟩ (by kernel_rfl) (by kernel_rfl) (fun _ => pf_s rfl rfl rfl) (fun P_11 => ?_)
   refine sim_p 12 (v := undef) (ei := [(13, .bool true), (17, undef), (19, undef)]) (d := (some 20)) wf (by kernel_rfl) ⟨rfl, rfl, rfl, trivial⟩ (by kernel_rfl) (by kernel_rfl) (fun _ => pf_s rfl rfl rfl) (fun P_12 => ?_)
   refine sQ 13 [(13, .bool true), (20, undef)] (some 21) tok wf ⟨rfl, rfl, trivial⟩ (fun P_13 => ?_)
   refine sQ 14 [(21, .bool true)] (some 22) tok wf ⟨rfl, trivial⟩ (fun P_14 => ?_)
   refine sim_gif 22 H rfl (fun hb H => ?_) (fun hb H => ?_)
   ·
    refine sQ 15 [(0, .pointer p0), (22, .bool true)] (some 23) tok wf ⟨rfl, rfl, trivial⟩ (fun P_15 => ?_)
    refine sP 16 [(22, .bool true), (23, .pointer p0)] (some 24) wf ⟨rfl, rfl, trivial⟩ (fun _ => pf_y rfl rfl rfl (y_nil' rfl rfl ha12)) (fun P_16 => ?_)
    refine sQ 17 [(22, .bool true), (24, .pointer (some a12))] (some 25) tok wf ⟨rfl, rfl, trivial⟩ (fun P_17 => ?_)
    obtain ⟨v14, hv14, H⟩ := H
    refine sL 18 [(22, .bool true), (25, .pointer (some (a12.add 4)))] (some 26) wf ⟨rfl, rfl, trivial⟩ (pf_y rfl rfl rfl (y_ld tok rfl rfl rfl rfl hv14)) (fun P_18 => ?_)
    refine sQ 19 [(5, .pointer (some (⟨b1, 0, none⟩ : Addr))), (22, .bool true)] (some 27) tok wf ⟨rfl, rfl, trivial⟩ (fun P_19 => ?_)
    obtain ⟨v15, hv15, H⟩ := H
    refine sL 20 [(22, .bool true), (27, .pointer (some ((⟨b1, 0, none⟩ : Addr).add 2)))] (some 28) wf ⟨rfl, rfl, trivial⟩ (pf_y rfl rfl rfl (y_ld tok rfl rfl rfl rfl hv15)) (fun P_20 => ?_)
    refine sQ 21 [(5, .pointer (some (⟨b1, 0, none⟩ : Addr))), (22, .bool true)] (some 29) tok wf ⟨rfl, rfl, trivial⟩ (fun P_21 => ?_)
    obtain ⟨v16, hv16, H⟩ := H
    refine sL 22 [(22, .bool true), (29, .pointer (some ((⟨b1, 0, none⟩ : Addr).add 3)))] (some 30) wf ⟨rfl, rfl, trivial⟩ (pf_y rfl rfl rfl (y_ld tok rfl rfl rfl rfl hv16)) (fun P_22 => ?_)
    refine sim_c 23 [0, 1, 2, 3, 4, 5, 6, 7, 8, 9, 10, 11, 12, 13, 14, 15, 16, 17, 18, 19, 20, 21, 22] [0, 1, 2, 3, 4, 5, 6, 7, 8, 9, 10, 11, 12, 13, 14, 15, 16, 17, 18, 19, 20, 21, 22] (ei := [(22, .bool true), (26, .pointer v14), (28, .int .u64 v15), (30, .int .u64 v16)]) rlog_Log_Newer_ok (rlog_Log_Newer_ref _ _ _ _ _ H) wf ⟨P_22, P_21 _, P_20, P_19 _, P_18, P_17 _, P_16 _, P_15 _, P_14 _, P_13 _, P_12 _, P_11 _, P_10 _, P_9 _, P_8 _, P_7 _, P_6 _, P_5 _, P_4 _, P_3, P_2 _, P_1 _, P_0 _, trivial⟩ (by kernel_rfl) ⟨rfl, rfl, rfl, rfl, trivial⟩ (by kernel_rfl) rfl rfl rfl rfl rfl ?_
    rintro _ h18 ⟨r17, rfl, H⟩
    refine sQ 24 [(22, .bool true), (31, .bool r17)] (some 32) tok wf ⟨rfl, rfl, trivial⟩ (fun P_24 => ?_)
    refine sQ 25 [(32, .bool r17)] (some 7) tok wf ⟨rfl, trivial⟩ (fun P_25 => ?_)
    refine sim_end wf ⟨P_25 _, P_24 _, trivial, trivial, trivial, trivial, trivial, trivial, trivial, trivial, trivial, trivial, trivial, trivial, trivial, trivial, trivial, trivial, trivial, trivial, trivial, trivial, trivial, trivial, trivial, trivial⟩ (by kernel_rfl) ?_
    clear wf P_0 P_1 P_10 P_11 P_12 P_13 P_14 P_15 P_16 P_17 P_18 P_19 P_2 P_20 P_21 P_22 P_24 P_25 P_3 P_4 P_5 P_6 P_7 P_8 P_9
    exact x_join r17 H ⟨rfl, rfl, rfl, trivial⟩
   ·
    refine sim_p 15 (v := undef) (ei := [(0, .pointer p0), (22, .bool false)]) (d := (some 23)) wf (by kernel_rfl) ⟨rfl, rfl, trivial⟩ (by kernel_rfl) (by kernel_rfl) (fun _ => pf_s rfl rfl rfl) (fun P_15 => ?_)
    refine sim_p 16 (v := undef) (ei := [(22, .bool false), (23, undef)]) (d := (some 24)) wf (by kernel_rfl) ⟨rfl, rfl, trivial⟩ (by kernel_rfl) (by kernel_rfl) (fun _ => pf_s rfl rfl rfl) (fun P_16 => ?_)
    refine sim_p 17 (v := undef) (ei := [(22, .bool false), (24, undef)]) (d := (some 25)) wf (by kernel_rfl) ⟨rfl, rfl, trivial⟩ (by kernel_rfl) (by kernel_rfl) (fun _ => pf_s rfl rfl rfl) (fun P_17 => ?_)
    refine sim_p 18 (v := undef) (ei := [(22, .bool false), (25, undef)]) (d := (some 26)) wf (by kernel_rfl) ⟨rfl, rfl, trivial⟩ (by kernel_rfl) (by kernel_rfl) (fun _ => pf_s rfl rfl rfl) (fun P_18 => ?_)
    refine sim_p 19 (v := undef) (ei := [(5, .pointer (some (⟨b1, 0, none⟩ : Addr))), (22, .bool false)]) (d := (some 27)) wf (by kernel_rfl) ⟨rfl, rfl, trivial⟩ (by kernel_rfl) (by kernel_rfl) (fun _ => pf_s rfl rfl rfl) (fun P_19 => ?_)
    refine sim_p 20 (v := undef) (ei := [(22, .bool false), (27, undef)]) (d := (some 28)) wf (by kernel_rfl) ⟨rfl, rfl, trivial⟩ (by kernel_rfl) (by kernel_rfl) (fun _ => pf_s rfl rfl rfl) (fun P_20 => ?_)
    refine sim_p 21 (v := undef) (ei := [(5, .pointer (some (⟨b1, 0, none⟩ : Addr))), (22, .bool false)]) (d := (some 29)) wf (by kernel_rfl) ⟨rfl, rfl, trivial⟩ (by kernel_rfl) (by kernel_rfl) (fun _ => pf_s rfl rfl rfl) (fun P_21 => ?_)
    refine sim_p 22 (v := undef) (ei := [(22, .bool false), (29, undef)]) (d := (some 30)) wf (by kernel_rfl) ⟨rfl, rfl, trivial⟩ (by kernel_rfl) (by kernel_rfl) (fun _ => pf_s rfl rfl rfl) (fun P_22 => ?_)
    refine sim_p 23 (v := undef) (ei := [(22, .bool false), (26, undef), (28, undef), (30, undef)]) (d := (some 31)) wf (by kernel_rfl) ⟨rfl, rfl, rfl, rfl, trivial⟩ (by kernel_rfl) (by kernel_rfl) (fun _ => pf_s rfl rfl rfl) (fun P_23 => ?_)
    refine sQ 24 [(22, .bool false), (31, undef)] (some 32) tok wf ⟨rfl, rfl, trivial⟩ (fun P_24 => ?_)
    refine sQ 25 [(32, .bool false)] (some 7) tok wf ⟨rfl, trivial⟩ (fun P_25 => ?_)
    refine sim_end wf ⟨P_25 _, P_24 _, P_23 _, P_22 _, P_21 _, P_20 _, P_19 _, P_18 _, P_17 _, P_16 _, P_15 _, P_14 _, P_13 _, P_12 _, P_11 _, P_10 _, P_9 _, P_8 _, P_7 _, P_6 _, P_5 _, P_4 _, P_3, P_2 _, P_1 _, P_0 _, trivial⟩ (by kernel_rfl) ?_
    clear wf P_0 P_1 P_10 P_11 P_12 P_13 P_14 P_15 P_16 P_17 P_18 P_19 P_2 P_20 P_21 P_22 P_23 P_24 P_25 P_3 P_4 P_5 P_6 P_7 P_8 P_9
    exact x_join false H ⟨rfl, rfl, rfl, trivial⟩
  ·
   refine sQ 6 [(0, .pointer p0), (13, .bool false)] (some 14) tok wf ⟨rfl, rfl, trivial⟩ (fun P_6 => ?_)
   refine sP 7 [(13, .bool false), (14, .pointer p0)] (some 15) wf ⟨rfl, rfl, trivial⟩ (fun _ => pf_y rfl rfl rfl (y_nil' rfl rfl ha12)) (fun P_7 => ?_)
   refine sQ 8 [(13, .bool false), (15, .pointer (some a12))] (some 16) tok wf ⟨rfl, rfl, trivial⟩ (fun P_8 => ?_)
   obtain ⟨v19, hv19, H⟩ := H
   refine sL 9 [(13, .bool false), (16, .pointer (some (a12.add 3)))] (some 17) wf ⟨rfl, rfl, trivial⟩ (pf_y rfl rfl rfl (y_ld tok rfl rfl rfl rfl hv19)) (fun P_9 => ?_)
   refine sQ 10 [(1, .int .i64 p1), (13, .bool false)] (some 18) tok wf ⟨rfl, rfl, trivial⟩ (fun P_10 => ?_)
   refine sQ 11 [(13, .bool false), (18, .int .i64 p1)] (some 19) tok wf ⟨rfl, rfl, trivial⟩ (fun P_11 => ?_)
   refine sQ 12 [(13, .bool false), (17, .int .i64 v19), (19, .int .i64 (IntKind.i64.wrap (p1 + 1)))] (some 20) tok wf ⟨rfl, rfl, rfl, trivial⟩ (fun P_12 => ?_)
   refine sQ 13 [(13, .bool false), (20, .bool (v19 == (IntKind.i64.wrap (p1 + 1))))] (some 21) tok wf ⟨rfl, rfl, trivial⟩ (fun P_13 => ?_)
   refine sQ 14 [(21, .bool (v19 == (IntKind.i64.wrap (p1 + 1))))] (some 22) tok wf ⟨rfl, trivial⟩ (fun P_14 => ?_)
   refine sim_gif 22 H rfl (fun hb H => ?_) (fun hb H => ?_)
   ·
    refine sQ 15 [(0, .pointer p0), (22, .bool true)] (some 23) tok wf ⟨rfl, rfl, trivial⟩ (fun P_15 => ?_)
    refine sP 16 [(22, .bool true), (23, .pointer p0)] (some 24) wf ⟨rfl, rfl, trivial⟩ (fun _ => pf_y rfl rfl rfl (y_nil' rfl rfl ha12)) (fun P_16 => ?_)
    refine sQ 17 [(22, .bool true), (24, .pointer (some a12))] (some 25) tok wf ⟨rfl, rfl, trivial⟩ (fun P_17 => ?_)
    obtain ⟨v20, hv20, H⟩ := H
    refine sL 18 [(22, .bool true), (25, .pointer (some (a12.add 4)))] (some 26) wf ⟨rfl, rfl, trivial⟩ (pf_y rfl rfl rfl (y_ld tok rfl rfl rfl rfl hv20)) (fun P_18 => ?_)
    refine sQ 19 [(5, .pointer (some (⟨b1, 0, none⟩ : Addr))), (22, .bool true)] (some 27) tok wf ⟨rfl, rfl, trivial⟩ (fun P_19 => ?_)
    obtain ⟨v21, hv21, H⟩ := H
    refine sL 20 [(22, .bool true), (27, .pointer (some ((⟨b1, 0, none⟩ : Addr).add 2)))] (some 28) wf ⟨rfl, rfl, trivial⟩ (pf_y rfl rfl rfl (y_ld tok rfl rfl rfl rfl hv21)) (fun P_20 => ?_)
    refine sQ 21 [(5, .pointer (some (⟨b1, 0, none⟩ : Addr))), (22, .bool true)] (some 29) tok wf ⟨rfl, rfl, trivial⟩ (fun P_21 => ?_)
    obtain ⟨v22, hv22, H⟩ := H
    refine sL 22 [(22, .bool true), (29, .pointer (some ((⟨b1, 0, none⟩ : Addr).add 3)))] (some 30) wf ⟨rfl, rfl, trivial⟩ (pf_y rfl rfl rfl (y_ld tok rfl rfl rfl rfl hv22)) (fun P_22 => ?_)
    refine sim_c 23 [0, 1, 2, 3, 4, 5, 6, 7, 8, 9, 10, 11, 12, 13, 14, 15, 16, 17, 18, 19, 20, 21, 22] [0, 1, 2, 3, 4, 5, 6, 7, 8, 9, 10, 11, 12, 13, 14, 15, 16, 17, 18, 19, 20, 21, 22] (ei := [(22, .bool true), (26, .pointer v20), (28, .int .u64 v21), (30, .int .u64 v22)]) rlog_Log_Newer_ok (rlog_Log_Newer_ref _ _ _ _ _ H) wf ⟨P_22, P_21 _, P_20, P_19 _, P_18, P_17 _, P_16 _, P_15 _, P_14 _, P_13 _, P_12 _, P_11 _, P_10 _, P_9, P_8 _, P_7 _, P_6 _, P_5 _, P_4 _, P_3, P_2 _, P_1 _, P_0 _, trivial⟩ (by kernel_rfl) ⟨rfl, rfl, rfl, rfl, trivial⟩ (by kernel_rfl) rfl rfl rfl rfl rfl ?_
    rintro _ h24 ⟨r23, rfl, H⟩
    refine sQ 24 [(22, .bool true), (31, .bool r23)] (some 32) tok wf ⟨rfl, rfl, trivial⟩ (fun P_24 => ?_)
    refine sQ 25 [(32, .bool r23)] (some 7) tok wf ⟨rfl, trivial⟩ (fun P_25 => ?_)
    refine sim_end wf ⟨P_25 _, P_24 _, trivial, trivial, trivial, trivial, trivial, trivial, trivial, trivial, trivial, trivial, trivial, trivial, trivial, trivial, trivial, trivial, trivial, trivial, trivial, trivial, trivial, trivial, trivial, trivial⟩ (by kernel_rfl) ?_
    clear wf P_0 P_1 P_10 P_11 P_12 P_13 P_14 P_15 P_16 P_17 P_18 P_19 P_2 P_20 P_21 P_22 P_24 P_25 P_3 P_4 P_5 P_6 P_7 P_8 P_9
    exact x_join r23 H ⟨rfl, rfl, rfl, trivial⟩
   ·
    refine sim_p 15 (v := undef) (ei := [(0, .pointer p0), (22, .bool false)]) (d := (some 23)) wf (by kernel_rfl) ⟨rfl, rfl, trivial⟩ (by kernel_rfl) (by kernel_rfl) (fun _ => pf_s rfl rfl rfl) (fun P_15 => ?_)
    refine sim_p 16 (v := undef) (ei := [(22, .bool false), (23, undef)]) (d := (some 24)) wf (by kernel_rfl) ⟨rfl, rfl, trivial⟩ (by kernel_rfl) (by kernel_rfl) (fun _ => pf_s rfl rfl rfl) (fun P_16 => ?_)
    refine sim_p 17 (v := undef) (ei := [(22, .bool false), (24, undef)]) (d := (some 25)) wf (by kernel_rfl) ⟨rfl, rfl, trivial⟩ (by kernel_rfl) (by kernel_rfl) (fun _ => pf_s rfl rfl rfl) (fun P_17 => ?_)
    refine sim_p 18 (v := undef) (ei := [(22, .bool false), (25, undef)]) (d := (some 26)) wf (by kernel_rfl) ⟨rfl, rfl, trivial⟩ (by kernel_rfl) (by kernel_rfl) (fun _ => pf_s rfl rfl rfl) (fun P_18 => ?_)
    refine sim_p 19 (v := undef) (ei := [(5, .pointer (some (⟨b1, 0, none⟩ : Addr))), (22, .bool false)]) (d := (some 27)) wf (by kernel_rfl) ⟨rfl, rfl, trivial⟩ (by kernel_rfl) (by kernel_rfl) (fun _ => pf_s rfl rfl rfl) (fun P_19 => ?_)
    refine sim_p 20 (v := undef) (ei := [(22, .bool false), (27, undef)]) (d := (some 28)) wf (by kernel_rfl) ⟨rfl, rfl, trivial⟩ (by kernel_rfl) (by kernel_rfl) (fun _ => pf_s rfl rfl rfl) (fun P_20 => ?_)
    refine sim_p 21 (v := undef) (ei := [(5, .pointer (some (⟨b1, 0, none⟩ : Addr))), (22, .bool false)]) (d := (some 29)) wf (by kernel_rfl) ⟨rfl, rfl, trivial⟩ (by kernel_rfl) (by kernel_rfl) (fun _ => pf_s rfl rfl rfl) (fun P_21 => ?_)
    refine sim_p 22 (v := undef) (ei := [(22, .bool false), (29, undef)]) (d := (some 30)) wf (by kernel_rfl) ⟨rfl, rfl, trivial⟩ (by kernel_rfl) (by kernel_rfl) (fun _ => pf_s rfl rfl rfl) (fun P_22 => ?_)
    refine sim_p 23 (v := undef) (ei := [(22, .bool false), (26, undef), (28, undef), (30, undef)]) (d := (some 31)) wf (by kernel_rfl) ⟨rfl, rfl, rfl, rfl, trivial⟩ (by kernel_rfl) (by kernel_rfl) (fun _ => pf_s rfl rfl rfl) (fun P_23 => ?_)
    refine sQ 24 [(22, .bool false), (31, undef)] (some 32) tok wf ⟨rfl, rfl, trivial⟩ (fun P_24 => ?_)
    refine sQ 25 [(32, .bool false)] (some 7) tok wf ⟨rfl, trivial⟩ (fun P_25 => ?_)
    refine sim_end wf ⟨P_25 _, P_24 _, P_23 _, P_22 _, P_21 _, P_20 _, P_19 _, P_18 _, P_17 _, P_16 _, P_15 _, P_14 _, P_13 _, P_12 _, P_11 _, P_10 _, P_9, P_8 _, P_7 _, P_6 _, P_5 _, P_4 _, P_3, P_2 _, P_1 _, P_0 _, trivial⟩ (by kernel_rfl) ?_
    clear wf P_0 P_1 P_10 P_11 P_12 P_13 P_14 P_15 P_16 P_17 P_18 P_19 P_2 P_20 P_21 P_22 P_23 P_24 P_25 P_3 P_4 P_5 P_6 P_7 P_8 P_9
    exact x_join false H ⟨rfl, rfl, rfl, trivial⟩

theorem raft_Raft_fresh_ok : CallOk Go.Proofs.Try.prog 72 := ⟨_, Go.Proofs.Try.func72, by kernel_rfl, by kernel_rfl⟩
theorem raft_Raft_fresh_ref (p0 : Option Addr) (p1 : S_api_Msg) (k : (S_api_Keep) → Heap → Prop) (h : Heap) (H : raft_Raft_fresh p0 p1 k h) : CallsH Go.Proofs.Try.prog 72 #[.pointer p0, .agg (S_api_Msg.cs p1).toArray] h (fun v h' => ∃ r : S_api_Keep, v = .agg (S_api_Keep.cs r).toArray ∧ k r h') := by
 refine f_enter (N := 86) Go.Proofs.Try.func72 rfl rfl rfl (fun w0 => ?_)
 unfold raft_Raft_fresh at H
 refine c_weak [(0, .pointer p0), (1, .agg (S_api_Msg.cs p1).toArray)] ⟨rfl, rfl, trivial⟩ ?_
 refine c_seq (c_region ?_)
 obtain ⟨b1, h2, eb1, eh2, H⟩ := H
 refine w_h (h_box rfl rfl eb1 eh2) rfl rfl ?_
 obtain ⟨b3, h4, eb3, eh4, H⟩ := H
 refine w_h (h_alloc tok rfl rfl eb3 eh4) rfl rfl ?_
 refine w_end (x_seq ?_)
 refine c_seq (c_region ?_)
 refine wP tok ?_
 obtain ⟨a5, ha5, H⟩ := H
 refine w_y (y_nil' rfl rfl ha5) rfl rfl ?_
 refine wP tok ?_
 obtain ⟨v6, hv6, H⟩ := H
 refine w_y (y_ld tok rfl rfl rfl rfl hv6) rfl rfl ?_
 refine w_call rlog_Log_Base_ok (rlog_Log_Base_ref _ _ _ H) rfl rfl rfl rfl ?_
 rintro _ h8 ⟨r7, rfl, H⟩
 iterate 5 refine wP tok ?_
 refine w_end (x_seq ?_)
 refine c_weak [(0, .pointer p0), (3, .pointer (some (⟨b1, 0, none⟩ : Addr))), (4, .pointer (some (⟨b3, 0, none⟩ : Addr))), (5, .int .u64 r7.1)] ⟨rfl, rfl, rfl, rfl, trivial⟩ ?_
 refine c_seq (c_seq (c_region ?_))
 refine wP tok ?_
 obtain ⟨v9, hv9, H⟩ := H
 refine w_y (y_ld tok rfl rfl rfl rfl hv9) rfl rfl ?_
 iterate 2 refine wP tok ?_
 refine w_end (x_seq (c_block ?_))
 obtain ⟨I1, μ1, H0, HI⟩ := H
 refine c_loop (σ := Int) (fun (s : Int) => [(24, .int .i64 s), (0, .pointer p0), (3, .pointer (some (⟨b1, 0, none⟩ : Addr))), (4, .pointer (some (⟨b3, 0, none⟩ : Addr))), (5, .int .u64 r7.1), (22, Slc.v v9), (23, .int .i64 (v9.len : Int))]) I1 μ1 0 H0 ⟨rfl, rfl, rfl, rfl, rfl, rfl, rfl, trivial⟩ ?_
 rintro t24_1 h_1 H
 replace H := HI t24_1 h_1 H
 unfold raft_Raft_fresh_l1b at H
 refine c_weak [(24, .int .i64 t24_1), (0, .pointer p0), (3, .pointer (some (⟨b1, 0, none⟩ : Addr))), (4, .pointer (some (⟨b3, 0, none⟩ : Addr))), (5, .int .u64 r7.1), (22, Slc.v v9), (23, .int .i64 (v9.len : Int))] ⟨rfl, rfl, rfl, rfl, rfl, rfl, rfl, trivial⟩ ?_
 refine c_seq (c_region ?_)
 refine wP tok ?_
 refine w_end (x_seq (c_seq ?_))
 refine c_if H rfl (fun H => ?_) (fun H => ?_)
 ·
  refine c_skip (x_seq ?_)
  refine c_seq (c_block ?_)
  refine c_seq (c_region ?_)
  refine wP tok ?_
  obtain ⟨a10, ha10, la10, ua10, H⟩ := H
  refine w_y (y_ixa' tok rfl rfl ha10 rfl rfl rfl la10 ua10) rfl rfl ?_
  obtain ⟨v11, hv11, H⟩ := H
  refine w_y (y_lda tok rfl rfl rfl rfl rfl hv11) rfl rfl ?_
  obtain ⟨b12, h13, eb12, eh13, H⟩ := H
  refine w_h (h_alloc tok rfl rfl eb12 eh13) rfl rfl ?_
  refine wP tok ?_
  obtain ⟨h14, wh14, eh14, H⟩ := H
  refine w_h (h_sts tok rfl rfl rfl rfl rfl (oneC (by kernel_rfl)) wh14 eh14) rfl rfl ?_
  refine w_end (x_seq ?_)
  refine c_seq (c_region ?_)
  refine wP tok ?_
  obtain ⟨v15, hv15, H⟩ := H
  refine w_y (y_ld tok rfl rfl rfl rfl hv15) rfl rfl ?_
  iterate 4 refine wP tok ?_
  obtain ⟨x16, ex16, H⟩ := H
  refine w_pe tok rfl (congrArg (fun z => (.int .u64 z : Value)) ex16) rfl rfl ?_
  refine w_end (x_seq ?_)
  refine c_weak [(24, .int .i64 t24_1), (0, .pointer p0), (3, .pointer (some (⟨b1, 0, none⟩ : Addr))), (4, .pointer (some (⟨b3, 0, none⟩ : Addr))), (5, .int .u64 r7.1), (22, Slc.v v9), (23, .int .i64 (v9.len : Int)), (8, .pointer (some (⟨b12, 0, none⟩ : Addr))), (7, .int .i64 t24_1), (9, .int .u64 x16)] ⟨rfl, rfl, rfl, rfl, rfl, rfl, rfl, rfl, rfl, rfl, trivial⟩ ?_
  refine c_seq ?_
  refine c_seqJ (α := Bool) (fun (s : Bool) => [(47, .bool s), (0, .pointer p0), (3, .pointer (some (⟨b1, 0, none⟩ : Addr))), (4, .pointer (some (⟨b3, 0, none⟩ : Addr))), (5, .int .u64 r7.1), (7, .int .i64 t24_1), (9, .int .u64 x16), (22, Slc.v v9), (23, .int .i64 (v9.len : Int)), (24, .int .i64 t24_1)]) (fun (s : Bool) h => raft_Raft_fresh_j2 p0 (⟨b1, 0, none⟩ : Addr) (⟨b3, 0, none⟩ : Addr) r7.1 t24_1 x16 v9 (v9.len : Int) t24_1 s k (fun s h' => I1 s h' ∧ μ1 s h' < μ1 t24_1 h_1) h) ?_ ?_
  ·
   rintro t47_2 h_2 H
   replace H : raft_Raft_fresh_j2 p0 (⟨b1, 0, none⟩ : Addr) (⟨b3, 0, none⟩ : Addr) r7.1 t24_1 x16 v9 (v9.len : Int) t24_1 t47_2 k (fun s h' => I1 s h' ∧ μ1 s h' < μ1 t24_1 h_1) h_2 := H
   unfold raft_Raft_fresh_j2 at H
   refine c_weak [(47, .bool t47_2), (0, .pointer p0), (3, .pointer (some (⟨b1, 0, none⟩ : Addr))), (4, .pointer (some (⟨b3, 0, none⟩ : Addr))), (5, .int .u64 r7.1), (7, .int .i64 t24_1), (9, .int .u64 x16), (22, Slc.v v9), (23, .int .i64 (v9.len : Int)), (24, .int .i64 t24_1)] ⟨rfl, rfl, rfl, rfl, rfl, rfl, rfl, rfl, rfl, rfl, trivial⟩ ?_
   refine c_if H rfl (fun H => ?_) (fun H => ?_)
   ·
    refine c_exit ?_
    refine x_te ?_
    refine x_bh ?_
    refine x_seq (c_region ?_)
    iterate 2 refine wP tok ?_
    refine w_end ?_
    exact x_join (IntKind.i64.wrap (t24_1 + 1)) H ⟨rfl, rfl, rfl, rfl, rfl, rfl, rfl, trivial⟩
   ·
    refine c_skip (x_seq ?_)
    refine c_seq (c_region ?_)
    refine wP tok ?_
    obtain ⟨a17, ha17, H⟩ := H
    refine w_y (y_nil' rfl rfl ha17) rfl rfl ?_
    refine wP tok ?_
    obtain ⟨v18, hv18, H⟩ := H
    refine w_y (y_ld tok rfl rfl rfl rfl hv18) rfl rfl ?_
    iterate 2 refine wP tok ?_
    refine w_call rlog_Log_Term_ok (rlog_Log_Term_ref _ _ _ _ H) rfl rfl rfl rfl ?_
    rintro _ h20 ⟨r19, rfl, H⟩
    iterate 5 refine wP tok ?_
    refine w_end (x_seq ?_)
    refine c_weak [(3, .pointer (some (⟨b1, 0, none⟩ : Addr))), (4, .pointer (some (⟨b3, 0, none⟩ : Addr))), (5, .int .u64 r7.1), (7, .int .i64 t24_1), (9, .int .u64 x16), (10, .int .u64 r19.1)] ⟨rfl, rfl, rfl, rfl, rfl, rfl, trivial⟩ ?_
    refine c_seqJ (α := Int) (fun (s : Int) => [(10, .int .u64 s), (3, .pointer (some (⟨b1, 0, none⟩ : Addr))), (4, .pointer (some (⟨b3, 0, none⟩ : Addr))), (7, .int .i64 t24_1), (9, .int .u64 x16)]) (fun (s : Int) h => raft_Raft_fresh_j3 (⟨b1, 0, none⟩ : Addr) (⟨b3, 0, none⟩ : Addr) t24_1 x16 s k (fun s h' => I1 s h' ∧ μ1 s h' < μ1 t24_1 h_1) h) ?_ ?_
    ·
     rintro t10_3 h_3 H
     replace H : raft_Raft_fresh_j3 (⟨b1, 0, none⟩ : Addr) (⟨b3, 0, none⟩ : Addr) t24_1 x16 t10_3 k (fun s h' => I1 s h' ∧ μ1 s h' < μ1 t24_1 h_1) h_3 := H
     unfold raft_Raft_fresh_j3 at H
     refine c_weak [(10, .int .u64 t10_3), (3, .pointer (some (⟨b1, 0, none⟩ : Addr))), (4, .pointer (some (⟨b3, 0, none⟩ : Addr))), (7, .int .i64 t24_1), (9, .int .u64 x16)] ⟨rfl, rfl, rfl, rfl, rfl, trivial⟩ ?_
     refine c_seq (c_region ?_)
     refine wP tok ?_
     obtain ⟨v21, hv21, H⟩ := H
     refine w_y (y_ld tok rfl rfl rfl rfl hv21) rfl rfl ?_
     refine wP tok ?_
     obtain ⟨s22, ps22, qs22, rs22, ts22, es22, H⟩ := H
     refine w_ye (y_sl (s := v21) (L := t24_1) (H := (v21.len : Int)) (M := (v21.cap : Int)) tok rfl rfl rfl rfl rfl rfl rfl (by simp) ps22 qs22 rs22 ts22) (congrArg Slc.v es22) rfl rfl ?_
     refine w_call rlog_New_ok (rlog_New_ref _ _ _ _ _ H) rfl rfl rfl rfl ?_
     rintro _ h24 ⟨r23, rfl, H⟩
     refine w_call rlog_Log_Entries_ok (rlog_Log_Entries_ref _ _ _ H) rfl rfl rfl rfl ?_
     rintro _ h26 ⟨r25, rfl, H⟩
     refine wP tok ?_
     refine w_end (x_seq ?_)
     refine c_weak [(10, .int .u64 t10_3), (4, .pointer (some (⟨b3, 0, none⟩ : Addr))), (9, .int .u64 x16), (12, Slc.v r25)] ⟨rfl, rfl, rfl, rfl, trivial⟩ ?_
     refine c_seq (c_region ?_)
     iterate 4 refine wP tok ?_
     refine w_y (y_build tok rfl rfl rfl rfl rfl) rfl rfl ?_
     obtain ⟨h27, wh27, eh27, H⟩ := H
     refine w_h (h_sts tok rfl rfl rfl rfl rfl (oneC (by kernel_rfl)) wh27 eh27) rfl rfl ?_
     refine w_end (x_seq ?_)
     refine c_weak [(4, .pointer (some (⟨b3, 0, none⟩ : Addr)))] ⟨rfl, trivial⟩ ?_
     refine c_ret ?_
     refine x_br ?_
     refine x_tr (x_tr ?_)
     refine x_br ?_
     refine x_tr ?_
     obtain ⟨v28, hv28, H⟩ := H
     exact x_retc tok _ rfl [.agg (S_api_Keep.cs v28).toArray] ⟨⟨_, _, rfl, rfl, .inr ⟨rfl, _, rfl, rfl, hv28⟩⟩, trivial⟩ ⟨v28, rfl, H⟩
    ·
     refine c_seq (c_region ?_)
     iterate 3 refine wP tok ?_
     refine w_cutU 5 [(65, .bool ((decide (t24_1 > 0)) && (decide ((IntKind.u64.wrap (x16 - 1)) > r7.1)))), (3, .pointer (some (⟨b1, 0, none⟩ : Addr))), (4, .pointer (some (⟨b3, 0, none⟩ : Addr))), (7, .int .i64 t24_1), (9, .int .u64 x16), (10, .int .u64 r19.1)] ?_ ?_
     ·
      refine w_end (x_seq ?_)
      refine c_if H rfl (fun H => ?_) (fun H => ?_)
      ·
       refine c_region ?_
       refine wP tok ?_
       obtain ⟨v29, hv29, H⟩ := H
       refine w_y (y_ld tok rfl rfl rfl rfl hv29) rfl rfl ?_
       iterate 2 refine wP tok ?_
       obtain ⟨a30, ha30, la30, ua30, H⟩ := H
       refine w_y (y_ixa' tok rfl rfl ha30 rfl rfl rfl la30 ua30) rfl rfl ?_
       refine wP tok ?_
       obtain ⟨v31, hv31, H⟩ := H
       refine w_y (y_ld tok rfl rfl rfl rfl hv31) rfl rfl ?_
       refine wP tok ?_
       refine w_end ?_
       exact x_join v31 H ⟨rfl, rfl, rfl, rfl, rfl, trivial⟩
      ·
       refine c_skip ?_
       exact x_join r19.1 H ⟨rfl, rfl, rfl, rfl, rfl, trivial⟩
     ·
      refine w_gs (d := 60) rfl (fun hb => ?_) (fun hb => ?_)
      ·
       iterate 5 refine wP tok ?_
       refine w_jn () rfl ⟨?_, rfl, rfl, rfl, rfl, rfl, trivial⟩
       exact congrArg (fun b => some (Value.bool b)) (and_t hb)
      ·
       iterate 4 refine w_skip rfl rfl ?_
       refine wP tok ?_
       refine w_jn () rfl ⟨?_, rfl, rfl, rfl, rfl, rfl, trivial⟩
       exact congrArg (fun b => some (Value.bool b)) (and_f hb)
  ·
   refine c_sim [(0, .pointer p0), (3, .pointer (some (⟨b1, 0, none⟩ : Addr))), (4, .pointer (some (⟨b3, 0, none⟩ : Addr))), (5, .int .u64 r7.1), (7, .int .i64 t24_1), (8, .pointer (some (⟨b12, 0, none⟩ : Addr))), (9, .int .u64 x16), (22, Slc.v v9), (23, .int .i64 (v9.len : Int)), (24, .int .i64 t24_1)] (by kernel_rfl) (by kernel_rfl) ⟨rfl, rfl, rfl, rfl, rfl, rfl, rfl, rfl, rfl, rfl, trivial⟩ (fun wf => ?_)
   refine sQ 0 [(9, .int .u64 x16)] (some 35) tok wf ⟨rfl, trivial⟩ (fun P_0 => ?_)
   refine sQ 1 [(5, .int .u64 r7.1)] (some 36) tok wf ⟨rfl, trivial⟩ (fun P_1 => ?_)
   refine sQ 2 [(35, .int .u64 x16), (36, .int .u64 r7.1)] (some 37) tok wf ⟨rfl, rfl, trivial⟩ (fun P_2 => ?_)
   refine sQ 3 [(37, .bool (decide (x16 ≤ r7.1)))] (some 38) tok wf ⟨rfl, trivial⟩ (fun P_3 => ?_)
   refine sim_gif 38 H rfl (fun hb H => ?_) (fun hb H => ?_)
   ·
    refine sim_p 4 (v := undef) (ei := [(0, .pointer p0), (38, .bool true)]) (d := (some 39)) wf (by kernel_rfl) ⟨rfl, rfl, trivial⟩ (by kernel_rfl) (by kernel_rfl) (fun _ => pf_s rfl rfl rfl) (fun P_4 => ?_)
    refine sim_p 5 (v := undef) (ei := [(38, .bool true), (39, undef)]) (d := (some 40)) wf (by kernel_rfl) ⟨rfl, rfl, trivial⟩ (by kernel_rfl) (by kernel_rfl) (fun _ => pf_s rfl rfl rfl) (fun P_5 => ?_)
    refine sim_p 6 (v := undef) (ei := [(38, .bool true), (40, undef)]) (d := (some 41)) wf (by kernel_rfl) ⟨rfl, rfl, trivial⟩ (by kernel_rfl) (by kernel_rfl) (fun _ => pf_s rfl rfl rfl) (fun P_6 => ?_)
    refine sim_p 7 (v := undef) (ei := [(38, .bool true), (41, undef)]) (d := (some 42)) wf (by kernel_rfl) ⟨rfl, rfl, trivial⟩ (by kernel_rfl) (by kernel_rfl) (fun _ => pf_s rfl rfl rfl) (fun P_7 => ?_)
    refine sim_p 8 (v := undef) (ei := [(9, .int .u64 x16), (38, .bool true)]) (d := (some 43)) wf (by kernel_rfl) ⟨rfl, rfl, trivial⟩ (by kernel_rfl) (by kernel_rfl) (fun _ => pf_s rfl rfl rfl) (fun P_8 => ?_)
    refine sim_p 9 (v := undef) (ei := [(8, .pointer (some (⟨b12, 0, none⟩ : Addr))), (38, .bool true)]) (d := (some 44)) wf (by kernel_rfl) ⟨rfl, rfl, trivial⟩ (by kernel_rfl) (by kernel_rfl) (fun _ => pf_s rfl rfl rfl) (fun P_9 => ?_)
    refine sim_p 10 (v := undef) (ei := [(38, .bool true), (44, undef)]) (d := (some 45)) wf (by kernel_rfl) ⟨rfl, rfl, trivial⟩ (by kernel_rfl) (by kernel_rfl) (fun _ => pf_s rfl rfl rfl) (fun P_10 => ?_)
    refine sim_p 11 (v := undef) (ei := [(38, .bool true), (42, undef), (43, undef), (45, undef)]) (d := (some 46)) wf (by kernel_rfl) ⟨rfl, rfl, rfl, rfl, trivial⟩ (by kernel_rfl) (by kernel_rfl) (fun _ => pf_s rfl rfl rfl) (fun P_11 => ?_)
    refine sQ 12 [(38, .bool true), (46, undef)] (some 47) tok wf ⟨rfl, rfl, trivial⟩ (fun P_12 => ?_)
    refine sim_end wf ⟨P_12 _, P_11 _, P_10 _, P_9 _, P_8 _, P_7 _, P_6 _, P_5 _, P_4 _, P_3 _, P_2 _, P_1 _, P_0 _, trivial⟩ (by kernel_rfl) ?_
    clear wf P_0 P_1 P_10 P_11 P_12 P_2 P_3 P_4 P_5 P_6 P_7 P_8 P_9
    exact x_join true H ⟨rfl, rfl, rfl, rfl, rfl, rfl, rfl, rfl, rfl, rfl, trivial⟩
   ·
    refine sQ 4 [(0, .pointer p0), (38, .bool false)] (some 39) tok wf ⟨rfl, rfl, trivial⟩ (fun P_4 => ?_)
    obtain ⟨a32, ha32, H⟩ := H
    refine sP 5 [(38, .bool false), (39, .pointer p0)] (some 40) wf ⟨rfl, rfl, trivial⟩ (fun _ => pf_y rfl rfl rfl (y_nil' rfl rfl ha32)) (fun P_5 => ?_)
    refine sQ 6 [(38, .bool false), (40, .pointer (some a32))] (some 41) tok wf ⟨rfl, rfl, trivial⟩ (fun P_6 => ?_)
    obtain ⟨v33, hv33, H⟩ := H
    refine sL 7 [(38, .bool false), (41, .pointer (some (a32.add 4)))] (some 42) wf ⟨rfl, rfl, trivial⟩ (pf_y rfl rfl rfl (y_ld tok rfl rfl rfl rfl hv33)) (fun P_7 => ?_)
    refine sQ 8 [(9, .int .u64 x16), (38, .bool false)] (some 43) tok wf ⟨rfl, rfl, trivial⟩ (fun P_8 => ?_)
    refine sQ 9 [(8, .pointer (some (⟨b12, 0, none⟩ : Addr))), (38, .bool false)] (some 44) tok wf ⟨rfl, rfl, trivial⟩ (fun P_9 => ?_)
    obtain ⟨v34, hv34, H⟩ := H
    refine sL 10 [(38, .bool false), (44, .pointer (some (⟨b12, 0, none⟩ : Addr)))] (some 45) wf ⟨rfl, rfl, trivial⟩ (pf_y rfl rfl rfl (y_ld tok rfl rfl rfl rfl hv34)) (fun P_10 => ?_)
    refine sim_c 11 [0, 1, 2, 3, 4, 5, 6, 7, 8, 9, 10] [0, 1, 2, 3, 4, 5, 6, 7, 8, 9, 10] (ei := [(38, .bool false), (42, .pointer v33), (43, .int .u64 x16), (45, .int .u64 v34)]) rlog_Log_Match_ok (rlog_Log_Match_ref _ _ _ _ _ H) wf ⟨P_10, P_9 _, P_8 _, P_7, P_6 _, P_5 _, P_4 _, P_3 _, P_2 _, P_1 _, P_0 _, trivial⟩ (by kernel_rfl) ⟨rfl, rfl, rfl, rfl, trivial⟩ (by kernel_rfl) rfl rfl rfl rfl rfl ?_
    rintro _ h36 ⟨r35, rfl, H⟩
    refine sQ 12 [(38, .bool false), (46, .bool r35)] (some 47) tok wf ⟨rfl, rfl, trivial⟩ (fun P_12 => ?_)
    refine sim_end wf ⟨P_12 _, trivial, trivial, trivial, trivial, trivial, trivial, trivial, trivial, trivial, trivial, trivial, trivial⟩ (by kernel_rfl) ?_
    clear wf P_0 P_1 P_10 P_12 P_2 P_3 P_4 P_5 P_6 P_7 P_8 P_9
    exact x_join r35 H ⟨rfl, rfl, rfl, rfl, rfl, rfl, rfl, rfl, rfl, rfl, trivial⟩
 ·
  refine c_exit ?_
  refine x_te (x_te ?_)
  refine x_bh ?_
  refine x_seq ?_
  refine c_weak [(4, .pointer (some (⟨b3, 0, none⟩ : Addr)))] ⟨rfl, trivial⟩ ?_
  refine c_seq (c_region ?_)
  refine w_y (y_build tok rfl rfl rfl rfl rfl) rfl rfl ?_
  obtain ⟨h37, wh37, eh37, H⟩ := H
  refine w_h (h_sts tok rfl rfl rfl rfl rfl (oneC (by kernel_rfl)) wh37 eh37) rfl rfl ?_
  refine w_end (x_seq (c_ret ?_))
  obtain ⟨v38, hv38, H⟩ := H
  exact x_retc tok _ rfl [.agg (S_api_Keep.cs v38).toArray] ⟨⟨_, _, rfl, rfl, .inr ⟨rfl, _, rfl, rfl, hv38⟩⟩, trivial⟩ ⟨v38, rfl, H⟩

theorem raft_Raft_append_ok : CallOk Go.Proofs.Try.prog 50 := ⟨_, Go.Proofs.Try.func50, by kernel_rfl, by kernel_rfl⟩
theorem raft_Raft_append_ref (p0 : Option Addr) (p1 : Int) (p2 : S_api_Msg) (k : (Slc) → Heap → Prop) (h : Heap) (H : raft_Raft_append p0 p1 p2 k h) : CallsH Go.Proofs.Try.prog 50 #[.pointer p0, .int .i64 p1, .agg (S_api_Msg.cs p2).toArray] h (fun v h' => ∃ r : Slc, v = Slc.v r ∧ k r h') := by
 refine f_enter (N := 86) Go.Proofs.Try.func50 rfl rfl rfl (fun w0 => ?_)
 unfold raft_Raft_append at H
 refine c_weak [(0, .pointer p0), (1, .int .i64 p1), (2, .agg (S_api_Msg.cs p2).toArray)] ⟨rfl, rfl, rfl, trivial⟩ ?_
 refine c_seq (c_region ?_)
 obtain ⟨b1, h2, eb1, eh2, H⟩ := H
 refine w_h (h_box rfl rfl eb1 eh2) rfl rfl ?_
 refine wP tok ?_
 refine w_end (x_seq ?_)
 refine c_seq (c_region ?_)
 iterate 2 refine wP tok ?_
 obtain ⟨v3, hv3, H⟩ := H
 refine w_y (y_ld tok rfl rfl rfl rfl hv3) rfl rfl ?_
 refine wP tok ?_
 refine w_call raft_Raft_follow_ok (raft_Raft_follow_ref _ _ _ _ _ H) rfl rfl rfl rfl ?_
 rintro _ h5 ⟨r4, rfl, H⟩
 refine w_end (x_seq ?_)
 refine c_weak [(0, .pointer p0), (1, .int .i64 p1), (5, .pointer (some (⟨b1, 0, none⟩ : Addr)))] ⟨rfl, rfl, rfl, trivial⟩ ?_
 refine c_seq (c_region ?_)
 refine wP tok ?_
 obtain ⟨a6, ha6, H⟩ := H
 refine w_y (y_nil' rfl rfl ha6) rfl rfl ?_
 refine wP tok ?_
 obtain ⟨h7, wh7, eh7, H⟩ := H
 refine w_h (h_st tok rfl rfl rfl rfl rfl rfl wh7 eh7) rfl rfl ?_
 refine w_end (x_seq ?_)
 refine c_seq (c_region ?_)
 refine wP tok ?_
 obtain ⟨v8, hv8, H⟩ := H
 refine w_y (y_lda tok rfl rfl rfl rfl rfl hv8) rfl rfl ?_
 refine w_call raft_Raft_fresh_ok (raft_Raft_fresh_ref _ _ _ _ H) rfl rfl rfl rfl ?_
 rintro _ h10 ⟨r9, rfl, H⟩
 obtain ⟨b11, h12, eb11, eh12, H⟩ := H
 refine w_h (h_alloc tok rfl rfl eb11 eh12) rfl rfl ?_
 obtain ⟨h13, wh13, eh13, H⟩ := H
 refine w_h (h_sts tok rfl rfl rfl rfl rfl (oneC (by kernel_rfl)) wh13 eh13) rfl rfl ?_
 refine w_end (x_seq (c_seq ?_))
 refine c_sim [(0, .pointer p0), (1, .int .i64 p1), (5, .pointer (some (⟨b1, 0, none⟩ : Addr))), (7, .pointer (some (⟨b11, 0, none⟩ : Addr)))] (by kernel_rfl) (by kernel_rfl) ⟨rfl, rfl, rfl, rfl, trivial⟩ (fun wf => ?_)
 refine sQ 0 [(0, .pointer p0)] (some 24) tok wf ⟨rfl, trivial⟩ (fun P_0 => ?_)
 refine sP 1 [(24, .pointer p0)] (some 25) wf ⟨rfl, trivial⟩ (fun _ => pf_y rfl rfl rfl (y_nil' rfl rfl ha6)) (fun P_1 => ?_)
 refine sQ 2 [(25, .pointer (some a6))] (some 26) tok wf ⟨rfl, trivial⟩ (fun P_2 => ?_)
 obtain ⟨v14, hv14, H⟩ := H
 refine sL 3 [(26, .pointer (some (a6.add 4)))] (some 27) wf ⟨rfl, trivial⟩ (pf_y rfl rfl rfl (y_ld tok rfl rfl rfl rfl hv14)) (fun P_3 => ?_)
 refine sQ 4 [(5, .pointer (some (⟨b1, 0, none⟩ : Addr)))] (some 28) tok wf ⟨rfl, trivial⟩ (fun P_4 => ?_)
 obtain ⟨v15, hv15, H⟩ := H
 refine sL 5 [(28, .pointer (some ((⟨b1, 0, none⟩ : Addr).add 2)))] (some 29) wf ⟨rfl, trivial⟩ (pf_y rfl rfl rfl (y_ld tok rfl rfl rfl rfl hv15)) (fun P_5 => ?_)
 refine sQ 6 [(5, .pointer (some (⟨b1, 0, none⟩ : Addr)))] (some 30) tok wf ⟨rfl, trivial⟩ (fun P_6 => ?_)
 obtain ⟨v16, hv16, H⟩ := H
 refine sL 7 [(30, .pointer (some ((⟨b1, 0, none⟩ : Addr).add 3)))] (some 31) wf ⟨rfl, trivial⟩ (pf_y rfl rfl rfl (y_ld tok rfl rfl rfl rfl hv16)) (fun P_7 => ?_)
 refine sQ 8 [(5, .pointer (some (⟨b1, 0, none⟩ : Addr)))] (some 32) tok wf ⟨rfl, trivial⟩ (fun P_8 => ?_)
 obtain ⟨v17, hv17, H⟩ := H
 refine sL 9 [(32, .pointer (some ((⟨b1, 0, none⟩ : Addr).add 6)))] (some 33) wf ⟨rfl, trivial⟩ (pf_y rfl rfl rfl (y_ld tok rfl rfl rfl rfl hv17)) (fun P_9 => ?_)
 refine sim_c 10 [0, 1, 2, 3, 4, 5, 6, 7, 8, 9] [0, 1, 2, 3, 4, 5, 6, 7, 8, 9] (ei := [(27, .pointer v14), (29, .int .u64 v15), (31, .int .u64 v16), (33, Slc.v v17)]) rlog_Log_Append_ok (rlog_Log_Append_ref _ _ _ _ _ _ H) wf ⟨P_9, P_8 _, P_7, P_6 _, P_5, P_4 _, P_3, P_2 _, P_1 _, P_0 _, trivial⟩ (by kernel_rfl) ⟨rfl, rfl, rfl, rfl, trivial⟩ (by kernel_rfl) rfl rfl rfl rfl rfl ?_
 rintro _ h19 ⟨r18, rfl, H⟩
 refine sQ 11 [(34, .tuple #[.int .u64 r18.1, .int .i64 r18.2])] (some 23) tok wf ⟨rfl, trivial⟩ (fun P_11 => ?_)
 refine sQ 12 [(23, .tuple #[.int .u64 r18.1, .int .i64 r18.2])] (some 35) tok wf ⟨rfl, trivial⟩ (fun P_12 => ?_)
 refine sQ 13 [(23, .tuple #[.int .u64 r18.1, .int .i64 r18.2])] (some 36) tok wf ⟨rfl, trivial⟩ (fun P_13 => ?_)
 refine sQ 14 [(35, .int .u64 r18.1)] (some 8) tok wf ⟨rfl, trivial⟩ (fun P_14 => ?_)
 refine sQ 15 [(36, .int .i64 r18.2)] (some 9) tok wf ⟨rfl, trivial⟩ (fun P_15 => ?_)
 refine sim_end wf ⟨P_15 _, P_14 _, P_13 _, P_12 _, P_11 _, trivial, trivial, trivial, trivial, trivial, trivial, trivial, trivial, trivial, trivial, trivial⟩ (by kernel_rfl) ?_
 clear wf P_0 P_1 P_11 P_12 P_13 P_14 P_15 P_2 P_3 P_4 P_5 P_6 P_7 P_8 P_9
 refine x_seq ?_
 refine c_weak [(0, .pointer p0), (1, .int .i64 p1), (5, .pointer (some (⟨b1, 0, none⟩ : Addr))), (7, .pointer (some (⟨b11, 0, none⟩ : Addr))), (8, .int .u64 r18.1), (9, .int .i64 r18.2)] ⟨rfl, rfl, rfl, rfl, rfl, rfl, trivial⟩ ?_
 refine c_seq (c_seq (c_region ?_))
 iterate 2 refine wP tok ?_
 refine w_end (x_seq ?_)
 refine c_if H rfl (fun H => ?_) (fun H => ?_)
 ·
  refine c_seq (c_region ?_)
  refine wP tok ?_
  refine w_y (y_nil' rfl rfl ha6) rfl rfl ?_
  refine wP tok ?_
  obtain ⟨v20, hv20, H⟩ := H
  refine w_y (y_ld tok rfl rfl rfl rfl hv20) rfl rfl ?_
  refine w_call rlog_Log_Last_ok (rlog_Log_Last_ref _ _ _ H) rfl rfl rfl rfl ?_
  rintro _ h22 ⟨r21, rfl, H⟩
  iterate 5 refine wP tok ?_
  refine w_end (x_seq ?_)
  refine c_weak [(0, .pointer p0), (1, .int .i64 p1), (5, .pointer (some (⟨b1, 0, none⟩ : Addr))), (10, .int .u64 r21.1)] ⟨rfl, rfl, rfl, rfl, trivial⟩ ?_
  refine c_seq (c_region ?_)
  iterate 4 refine wP tok ?_
  obtain ⟨v23, hv23, H⟩ := H
  refine w_y (y_ld tok rfl rfl rfl rfl hv23) rfl rfl ?_
  iterate 3 refine wP tok ?_
  refine w_call raft_Raft_answer_ok (raft_Raft_answer_ref _ _ _ _ _ _ _ H) rfl rfl rfl rfl ?_
  rintro _ h25 ⟨r24, rfl, H⟩
  refine wP tok ?_
  refine w_end (x_seq ?_)
  refine c_weak [(6, Slc.v r24)] ⟨rfl, trivial⟩ ?_
  refine c_ret (x_tr ?_)
  exact x_ret _ rfl _ rfl ⟨r24, rfl, H⟩
 ·
  refine c_skip (x_seq ?_)
  refine c_seqJ (α := Unit) (fun (s : Unit) => [(0, .pointer p0), (1, .int .i64 p1), (5, .pointer (some (⟨b1, 0, none⟩ : Addr))), (8, .int .u64 r18.1)]) (fun (s : Unit) h => raft_Raft_append_j1 p0 p1 (⟨b1, 0, none⟩ : Addr) r18.1 k h) ?_ ?_
  ·
   rintro _ h_1 H
   replace H : raft_Raft_append_j1 p0 p1 (⟨b1, 0, none⟩ : Addr) r18.1 k h_1 := H
   unfold raft_Raft_append_j1 at H
   refine c_weak [(0, .pointer p0), (1, .int .i64 p1), (5, .pointer (some (⟨b1, 0, none⟩ : Addr))), (8, .int .u64 r18.1)] ⟨rfl, rfl, rfl, rfl, trivial⟩ ?_
   refine c_seq ?_
   refine c_sim [(0, .pointer p0), (1, .int .i64 p1), (5, .pointer (some (⟨b1, 0, none⟩ : Addr))), (8, .int .u64 r18.1)] (by kernel_rfl) (by kernel_rfl) ⟨rfl, rfl, rfl, rfl, trivial⟩ (fun wf => ?_)
   refine sQ 0 [(0, .pointer p0)] (some 70) tok wf ⟨rfl, trivial⟩ (fun P_0 => ?_)
   refine sQ 1 [(0, .pointer p0)] (some 71) tok wf ⟨rfl, trivial⟩ (fun P_1 => ?_)
   obtain ⟨a26, ha26, H⟩ := H
   refine sP 2 [(71, .pointer p0)] (some 72) wf ⟨rfl, trivial⟩ (fun _ => pf_y rfl rfl rfl (y_nil' rfl rfl ha26)) (fun P_2 => ?_)
   refine sQ 3 [(72, .pointer (some a26))] (some 73) tok wf ⟨rfl, trivial⟩ (fun P_3 => ?_)
   obtain ⟨v27, hv27, H⟩ := H
   refine sL 4 [(73, .pointer (some (a26.add 6)))] (some 74) wf ⟨rfl, trivial⟩ (pf_y rfl rfl rfl (y_ld tok rfl rfl rfl rfl hv27)) (fun P_4 => ?_)
   refine sQ 5 [(5, .pointer (some (⟨b1, 0, none⟩ : Addr)))] (some 75) tok wf ⟨rfl, trivial⟩ (fun P_5 => ?_)
   obtain ⟨v28, hv28, H⟩ := H
   refine sL 6 [(75, .pointer (some ((⟨b1, 0, none⟩ : Addr).add 4)))] (some 76) wf ⟨rfl, trivial⟩ (pf_y rfl rfl rfl (y_ld tok rfl rfl rfl rfl hv28)) (fun P_6 => ?_)
   refine sQ 7 [(8, .int .u64 r18.1)] (some 77) tok wf ⟨rfl, trivial⟩ (fun P_7 => ?_)
   refine sQ 8 [(76, .int .u64 v28), (77, .int .u64 r18.1)] (some 78) tok wf ⟨rfl, rfl, trivial⟩ (fun P_8 => ?_)
   refine sQ 9 [(74, .int .u64 v27), (78, .int .u64 (if r18.1 < v28 then r18.1 else v28))] (some 79) tok wf ⟨rfl, rfl, trivial⟩ (fun P_9 => ?_)
   refine sP 10 [(70, .pointer p0)] (some 80) wf ⟨rfl, trivial⟩ (fun _ => pf_y rfl rfl rfl (y_nil' rfl rfl ha26)) (fun P_10 => ?_)
   refine sQ 11 [(80, .pointer (some a26))] (some 81) tok wf ⟨rfl, trivial⟩ (fun P_11 => ?_)
   obtain ⟨h29, wh29, eh29, H⟩ := H
   refine sim_h 12 [0, 1, 2, 3, 4, 5, 6, 7, 8, 9, 10, 11] [0, 1, 2, 3, 4, 5, 6, 7, 8, 9, 10, 11] (ei := [(79, .int .u64 (if (if r18.1 < v28 then r18.1 else v28) > v27 then (if r18.1 < v28 then r18.1 else v28) else v27)), (81, .pointer (some (a26.add 6)))]) wf ⟨P_11 _, P_10 _, P_9 _, P_8 _, P_7 _, P_6, P_5 _, P_4, P_3 _, P_2 _, P_1 _, P_0 _, trivial⟩ (by kernel_rfl) ⟨rfl, rfl, trivial⟩ (by kernel_rfl) rfl rfl rfl (h_st tok rfl rfl rfl rfl rfl rfl wh29 eh29) ?_
   refine sim_end wf ⟨trivial, trivial, trivial, trivial, trivial, trivial, trivial, trivial, trivial, trivial, trivial, trivial, trivial⟩ (by kernel_rfl) ?_
   clear wf P_0 P_1 P_10 P_11 P_2 P_3 P_4 P_5 P_6 P_7 P_8 P_9
   refine x_seq ?_
   refine c_weak [(0, .pointer p0), (1, .int .i64 p1), (8, .int .u64 r18.1)] ⟨rfl, rfl, rfl, trivial⟩ ?_
   refine c_seq (c_region ?_)
   iterate 3 refine wP tok ?_
   refine w_call raft_Raft_answer_ok (raft_Raft_answer_ref _ _ _ _ _ _ _ H) rfl rfl rfl rfl ?_
   rintro _ h31 ⟨r30, rfl, H⟩
   refine wP tok ?_
   refine w_end (x_seq ?_)
   refine c_weak [(6, Slc.v r30)] ⟨rfl, trivial⟩ ?_
   refine c_ret ?_
   exact x_ret _ rfl _ rfl ⟨r30, rfl, H⟩
  ·
   refine c_seq (c_region ?_)
   refine wP tok ?_
   obtain ⟨v32, hv32, H⟩ := H
   refine w_y (y_ld tok rfl rfl rfl rfl hv32) rfl rfl ?_
   iterate 2 refine wP tok ?_
   refine w_end (x_seq ?_)
   refine c_if H rfl (fun H => ?_) (fun H => ?_)
   ·
    refine c_sim [(0, .pointer p0), (1, .int .i64 p1), (5, .pointer (some (⟨b1, 0, none⟩ : Addr))), (7, .pointer (some (⟨b11, 0, none⟩ : Addr))), (8, .int .u64 r18.1)] (by kernel_rfl) (by kernel_rfl) ⟨rfl, rfl, rfl, rfl, rfl, trivial⟩ (fun wf => ?_)
    refine sQ 0 [(0, .pointer p0)] (some 60) tok wf ⟨rfl, trivial⟩ (fun P_0 => ?_)
    refine sQ 1 [(0, .pointer p0)] (some 61) tok wf ⟨rfl, trivial⟩ (fun P_1 => ?_)
    refine sP 2 [(61, .pointer p0)] (some 62) wf ⟨rfl, trivial⟩ (fun _ => pf_y rfl rfl rfl (y_nil' rfl rfl ha6)) (fun P_2 => ?_)
    refine sQ 3 [(62, .pointer (some a6))] (some 63) tok wf ⟨rfl, trivial⟩ (fun P_3 => ?_)
    obtain ⟨v33, hv33, H⟩ := H
    refine sL 4 [(63, .pointer (some (a6.add 13)))] (some 64) wf ⟨rfl, trivial⟩ (pf_y rfl rfl rfl (y_ld tok rfl rfl rfl rfl hv33)) (fun P_4 => ?_)
    obtain ⟨v34, hv34, H⟩ := H
    refine sL 5 [(7, .pointer (some (⟨b11, 0, none⟩ : Addr)))] (some 65) wf ⟨rfl, trivial⟩ (pf_y rfl rfl rfl (y_lda tok rfl rfl rfl rfl rfl hv34)) (fun P_5 => ?_)
    obtain ⟨b35, h36, eb35, eh36, H⟩ := H
    refine sim_h 6 [5] [5] (ei := [(65, .agg (S_api_Keep.cs v34).toArray)]) wf ⟨P_5, P_4, P_3 _, P_2 _, P_1 _, P_0 _, trivial⟩ (by kernel_rfl) ⟨rfl, trivial⟩ (by kernel_rfl) rfl rfl rfl (h_bs tok rfl rfl rfl rfl rfl rfl rfl eb35 eh36) ?_
    obtain ⟨hy37, H⟩ := H
    refine sim_re (x := ⟨4, Slc.v v33, [(63, .pointer (some (a6.add 13)))]⟩) (pf_y rfl rfl rfl (y_ld tok rfl rfl rfl rfl hy37)) (fun P_4 => ?_)
    refine sim_a 7 [1, 2, 3, 4, 5, 6] [1, 2, 3, 4, 5] (ei := [(64, Slc.v v33), (66, Slc.v (⟨some ⟨b35, 0, none⟩, 1, 1⟩ : Slc))]) wf ⟨trivial, P_4, P_3 _, P_2 _, P_1 _, P_0 _, trivial⟩ (by kernel_rfl) ⟨rfl, rfl, trivial⟩ (by kernel_rfl) rfl rfl rfl (a_app (s := v33) (r := (⟨some ⟨b35, 0, none⟩, 1, 1⟩ : Slc)) tok rfl rfl rfl rfl rfl (slcAt_push eb35 eh36) H) ?_
    rintro _ h39 ⟨s38, rfl, H⟩
    refine sP 8 [(60, .pointer p0)] (some 68) wf ⟨rfl, trivial⟩ (fun _ => pf_y rfl rfl rfl (y_nil' rfl rfl ha6)) (fun P_8 => ?_)
    refine sQ 9 [(68, .pointer (some a6))] (some 69) tok wf ⟨rfl, trivial⟩ (fun P_9 => ?_)
    obtain ⟨h40, wh40, eh40, H⟩ := H
    refine sim_h 10 [0, 1, 2, 3, 4, 5, 6, 7, 8, 9] [0, 1, 2, 3, 4, 5, 8, 9] (ei := [(67, Slc.v s38), (69, .pointer (some (a6.add 13)))]) wf ⟨P_9 _, P_8 _, trivial, trivial, trivial, trivial, trivial, P_0 _, trivial⟩ (by kernel_rfl) ⟨rfl, rfl, trivial⟩ (by kernel_rfl) rfl rfl rfl (h_st tok rfl rfl rfl rfl rfl rfl wh40 eh40) ?_
    refine sim_end wf ⟨trivial, trivial, trivial, trivial, trivial, trivial, trivial, trivial, trivial⟩ (by kernel_rfl) ?_
    clear wf P_0 P_1 P_2 P_3 P_4 P_5 P_8 P_9
    exact x_join () H ⟨rfl, rfl, rfl, rfl, trivial⟩
   ·
    refine c_skip ?_
    exact x_join () H ⟨rfl, rfl, rfl, rfl, trivial⟩

theorem raft_Raft_base_ok : CallOk Go.Proofs.Try.prog 75 := ⟨_, Go.Proofs.Try.func75, by kernel_rfl, by kernel_rfl⟩
theorem raft_Raft_base_ref (p0 : Option Addr) (p1 : Int) (p2 : Int) (p3 : Slc) (k : (Unit) → Heap → Prop) (h : Heap) (H : raft_Raft_base p0 p1 p2 p3 k h) : CallsH Go.Proofs.Try.prog 75 #[.pointer p0, .int .u64 p1, .int .u64 p2, Slc.v p3] h (fun v h' => ∃ r : Unit, v = .tuple #[] ∧ k r h') := by
 refine f_enter (N := 46) Go.Proofs.Try.func75 rfl rfl rfl (fun w0 => ?_)
 unfold raft_Raft_base at H
 refine c_weak [(0, .pointer p0), (1, .int .u64 p1), (2, .int .u64 p2), (3, Slc.v p3)] ⟨rfl, rfl, rfl, rfl, trivial⟩ ?_
 refine c_seqJ (α := Unit) (fun (s : Unit) => [(0, .pointer p0), (1, .int .u64 p1), (2, .int .u64 p2), (3, Slc.v p3)]) (fun (s : Unit) h => raft_Raft_base_j1 p0 p1 p2 p3 k h) ?_ ?_
 ·
  rintro _ h_1 H
  replace H : raft_Raft_base_j1 p0 p1 p2 p3 k h_1 := H
  unfold raft_Raft_base_j1 at H
  refine c_weak [(0, .pointer p0), (1, .int .u64 p1), (2, .int .u64 p2), (3, Slc.v p3)] ⟨rfl, rfl, rfl, rfl, trivial⟩ ?_
  refine c_seq (c_region ?_)
  iterate 2 refine wP tok ?_
  refine w_call slices_Clone_byte_byte_ok (slices_Clone_byte_byte_ref _ _ _ H) rfl rfl rfl rfl ?_
  rintro _ h2 ⟨r1, rfl, H⟩
  obtain ⟨a3, ha3, H⟩ := H
  refine w_y (y_nil' rfl rfl ha3) rfl rfl ?_
  refine wP tok ?_
  obtain ⟨h4, wh4, eh4, H⟩ := H
  refine w_h (h_st tok rfl rfl rfl rfl rfl rfl wh4 eh4) rfl rfl ?_
  refine w_end (x_seq ?_)
  refine c_sim [(0, .pointer p0), (1, .int .u64 p1), (2, .int .u64 p2), (3, Slc.v p3)] (by kernel_rfl) (by kernel_rfl) ⟨rfl, rfl, rfl, rfl, trivial⟩ (fun wf => ?_)
  refine sQ 0 [(0, .pointer p0)] (some 32) tok wf ⟨rfl, trivial⟩ (fun P_0 => ?_)
  refine sQ 1 [(0, .pointer p0)] (some 33) tok wf ⟨rfl, trivial⟩ (fun P_1 => ?_)
  refine sP 2 [(33, .pointer p0)] (some 34) wf ⟨rfl, trivial⟩ (fun _ => pf_y rfl rfl rfl (y_nil' rfl rfl ha3)) (fun P_2 => ?_)
  refine sQ 3 [(34, .pointer (some a3))] (some 35) tok wf ⟨rfl, trivial⟩ (fun P_3 => ?_)
  obtain ⟨v5, hv5, H⟩ := H
  refine sL 4 [(35, .pointer (some (a3.add 13)))] (some 36) wf ⟨rfl, trivial⟩ (pf_y rfl rfl rfl (y_ld tok rfl rfl rfl rfl hv5)) (fun P_4 => ?_)
  refine sQ 5 [(1, .int .u64 p1)] (some 37) tok wf ⟨rfl, trivial⟩ (fun P_5 => ?_)
  refine sQ 6 [(2, .int .u64 p2)] (some 38) tok wf ⟨rfl, trivial⟩ (fun P_6 => ?_)
  refine sQ 7 [(3, Slc.v p3)] (some 39) tok wf ⟨rfl, trivial⟩ (fun P_7 => ?_)
  refine sim_c 8 [7] [7] (ei := [(39, Slc.v p3)]) slices_Clone_byte_byte_ok (slices_Clone_byte_byte_ref _ _ _ H) wf ⟨P_7 _, P_6 _, P_5 _, P_4, P_3 _, P_2 _, P_1 _, P_0 _, trivial⟩ (by kernel_rfl) ⟨rfl, trivial⟩ (by kernel_rfl) rfl rfl rfl rfl rfl ?_
  rintro _ h7 ⟨r6, rfl, H⟩
  obtain ⟨hy8, H⟩ := H
  refine sim_re (x := ⟨4, Slc.v v5, [(35, .pointer (some (a3.add 13)))]⟩) (pf_y rfl rfl rfl (y_ld tok rfl rfl rfl rfl hy8)) (fun P_4 => ?_)
  refine sP 9 [(37, .int .u64 p1), (38, .int .u64 p2), (40, Slc.v r6)] (some 41) wf ⟨rfl, rfl, rfl, trivial⟩ (fun _ => pf_y rfl rfl rfl (y_build tok rfl rfl rfl rfl rfl)) (fun P_9 => ?_)
  obtain ⟨b9, h10, eb9, eh10, H⟩ := H
  refine sim_h 10 [5, 6, 7, 8, 9] [5, 6, 7, 9] (ei := [(41, .agg (S_api_Keep.cs (⟨3, p2, 0, p1, (⟨none, 0, 0⟩ : Slc), r6⟩ : S_api_Keep)).toArray)]) wf ⟨P_9 _, trivial, P_6 _, P_5 _, P_4, P_3 _, P_2 _, P_1 _, P_0 _, trivial⟩ (by kernel_rfl) ⟨rfl, trivial⟩ (by kernel_rfl) rfl rfl rfl (h_bs tok rfl rfl rfl rfl rfl rfl rfl eb9 eh10) ?_
  obtain ⟨hy11, H⟩ := H
  refine sim_re (x := ⟨4, Slc.v v5, [(35, .pointer (some (a3.add 13)))]⟩) (pf_y rfl rfl rfl (y_ld tok rfl rfl rfl rfl hy11)) (fun P_4 => ?_)
  refine sim_a 11 [1, 2, 3, 4, 5, 6, 7, 8, 9, 10] [1, 2, 3, 4, 5, 6, 7, 9] (ei := [(36, Slc.v v5), (42, Slc.v (⟨some ⟨b9, 0, none⟩, 1, 1⟩ : Slc))]) wf ⟨trivial, trivial, trivial, trivial, P_4, P_3 _, P_2 _, P_1 _, P_0 _, trivial⟩ (by kernel_rfl) ⟨rfl, rfl, trivial⟩ (by kernel_rfl) rfl rfl rfl (a_app (s := v5) (r := (⟨some ⟨b9, 0, none⟩, 1, 1⟩ : Slc)) tok rfl rfl rfl rfl rfl (slcAt_push eb9 eh10) H) ?_
  rintro _ h13 ⟨s12, rfl, H⟩
  refine sP 12 [(32, .pointer p0)] (some 44) wf ⟨rfl, trivial⟩ (fun _ => pf_y rfl rfl rfl (y_nil' rfl rfl ha3)) (fun P_12 => ?_)
  refine sQ 13 [(44, .pointer (some a3))] (some 45) tok wf ⟨rfl, trivial⟩ (fun P_13 => ?_)
  obtain ⟨h14, wh14, eh14, H⟩ := H
  refine sim_h 14 [0, 1, 2, 3, 4, 5, 6, 7, 8, 9, 10, 11, 12, 13] [0, 1, 2, 3, 4, 5, 6, 7, 9, 12, 13] (ei := [(43, Slc.v s12), (45, .pointer (some (a3.add 13)))]) wf ⟨P_13 _, P_12 _, trivial, trivial, trivial, trivial, trivial, trivial, trivial, trivial, P_0 _, trivial⟩ (by kernel_rfl) ⟨rfl, rfl, trivial⟩ (by kernel_rfl) rfl rfl rfl (h_st tok rfl rfl rfl rfl rfl rfl wh14 eh14) ?_
  refine sim_end wf ⟨trivial, trivial, trivial, trivial, trivial, trivial, trivial, trivial, trivial, trivial, trivial, trivial⟩ (by kernel_rfl) ?_
  clear wf P_0 P_1 P_12 P_13 P_2 P_3 P_4 P_5 P_6 P_7 P_9
  exact x_end _ rfl _ rfl ⟨(), rfl, H⟩
 ·
  refine c_seq (c_region ?_)
  refine wP tok ?_
  obtain ⟨a15, ha15, H⟩ := H
  refine w_y (y_nil' rfl rfl ha15) rfl rfl ?_
  refine wP tok ?_
  obtain ⟨v16, hv16, H⟩ := H
  refine w_y (y_ld tok rfl rfl rfl rfl hv16) rfl rfl ?_
  iterate 2 refine wP tok ?_
  refine w_call rlog_Log_Match_ok (rlog_Log_Match_ref _ _ _ _ _ H) rfl rfl rfl rfl ?_
  rintro _ h18 ⟨r17, rfl, H⟩
  refine w_end (x_seq ?_)
  refine c_if H rfl (fun H => ?_) (fun H => ?_)
  ·
   refine c_region ?_
   refine wP tok ?_
   refine w_y (y_nil' rfl rfl ha15) rfl rfl ?_
   refine wP tok ?_
   obtain ⟨v19, hv19, H⟩ := H
   refine w_y (y_ld tok rfl rfl rfl rfl hv19) rfl rfl ?_
   refine wP tok ?_
   refine w_call rlog_Log_Cut_ok (rlog_Log_Cut_ref _ _ _ _ H) rfl rfl rfl rfl ?_
   rintro _ h21 ⟨r20, rfl, H⟩
   refine w_end ?_
   exact x_join () H ⟨rfl, rfl, rfl, rfl, trivial⟩
  ·
   refine c_region ?_
   iterate 3 refine wP tok ?_
   refine w_call rlog_New_ok (rlog_New_ref _ _ _ _ _ H) rfl rfl rfl rfl ?_
   rintro _ h23 ⟨r22, rfl, H⟩
   refine w_y (y_nil' rfl rfl ha15) rfl rfl ?_
   refine wP tok ?_
   obtain ⟨h24, wh24, eh24, H⟩ := H
   refine w_h (h_st tok rfl rfl rfl rfl rfl rfl wh24 eh24) rfl rfl ?_
   refine w_end ?_
   exact x_join () H ⟨rfl, rfl, rfl, rfl, trivial⟩

theorem raft_Raft_snapshot_ok : CallOk Go.Proofs.Try.prog 52 := ⟨_, Go.Proofs.Try.func52, by kernel_rfl, by kernel_rfl⟩
theorem raft_Raft_snapshot_ref (p0 : Option Addr) (p1 : Int) (p2 : S_api_Msg) (k : (Slc) → Heap → Prop) (h : Heap) (H : raft_Raft_snapshot p0 p1 p2 k h) : CallsH Go.Proofs.Try.prog 52 #[.pointer p0, .int .i64 p1, .agg (S_api_Msg.cs p2).toArray] h (fun v h' => ∃ r : Slc, v = Slc.v r ∧ k r h') := by
 refine f_enter (N := 42) Go.Proofs.Try.func52 rfl rfl rfl (fun w0 => ?_)
 unfold raft_Raft_snapshot at H
 refine c_weak [(0, .pointer p0), (1, .int .i64 p1), (2, .agg (S_api_Msg.cs p2).toArray)] ⟨rfl, rfl, rfl, trivial⟩ ?_
 refine c_seq (c_region ?_)
 obtain ⟨b1, h2, eb1, eh2, H⟩ := H
 refine w_h (h_box rfl rfl eb1 eh2) rfl rfl ?_
 refine wP tok ?_
 refine w_end (x_seq ?_)
 refine c_seq (c_region ?_)
 iterate 2 refine wP tok ?_
 obtain ⟨v3, hv3, H⟩ := H
 refine w_y (y_ld tok rfl rfl rfl rfl hv3) rfl rfl ?_
 refine wP tok ?_
 refine w_call raft_Raft_follow_ok (raft_Raft_follow_ref _ _ _ _ _ H) rfl rfl rfl rfl ?_
 rintro _ h5 ⟨r4, rfl, H⟩
 refine w_end (x_seq ?_)
 refine c_weak [(0, .pointer p0), (1, .int .i64 p1), (5, .pointer (some (⟨b1, 0, none⟩ : Addr)))] ⟨rfl, rfl, rfl, trivial⟩ ?_
 refine c_seq (c_region ?_)
 refine wP tok ?_
 obtain ⟨a6, ha6, H⟩ := H
 refine w_y (y_nil' rfl rfl ha6) rfl rfl ?_
 refine wP tok ?_
 obtain ⟨h7, wh7, eh7, H⟩ := H
 refine w_h (h_st tok rfl rfl rfl rfl rfl rfl wh7 eh7) rfl rfl ?_
 refine w_end (x_seq ?_)
 refine c_seqJ (α := Unit) (fun (s : Unit) => [(0, .pointer p0), (1, .int .i64 p1)]) (fun (s : Unit) h => raft_Raft_snapshot_j1 p0 p1 k h) ?_ ?_
 ·
  rintro _ h_1 H
  replace H : raft_Raft_snapshot_j1 p0 p1 k h_1 := H
  unfold raft_Raft_snapshot_j1 at H
  refine c_weak [(0, .pointer p0), (1, .int .i64 p1)] ⟨rfl, rfl, trivial⟩ ?_
  refine c_seq (c_region ?_)
  iterate 3 refine wP tok ?_
  obtain ⟨a8, ha8, H⟩ := H
  refine w_y (y_nil' rfl rfl ha8) rfl rfl ?_
  refine wP tok ?_
  obtain ⟨v9, hv9, H⟩ := H
  refine w_y (y_ld tok rfl rfl rfl rfl hv9) rfl rfl ?_
  refine w_call raft_Raft_answer_ok (raft_Raft_answer_ref _ _ _ _ _ _ _ H) rfl rfl rfl rfl ?_
  rintro _ h11 ⟨r10, rfl, H⟩
  refine wP tok ?_
  refine w_end (x_seq ?_)
  refine c_weak [(6, Slc.v r10)] ⟨rfl, trivial⟩ ?_
  refine c_ret ?_
  exact x_ret _ rfl _ rfl ⟨r10, rfl, H⟩
 ·
  refine c_seq ?_
  refine c_draw (by kernel_rfl) (by kernel_rfl) ?_
  refine q_p tok rfl rfl rfl ?_
  obtain ⟨v12, hv12, H⟩ := H
  refine q_y (y_ld tok rfl rfl rfl rfl hv12) rfl rfl ?_
  refine q_p tok rfl rfl rfl ?_
  refine q_y (y_nil' rfl rfl ha6) rfl rfl ?_
  refine q_p tok rfl rfl rfl ?_
  obtain ⟨v13, hv13, H⟩ := H
  refine q_y (y_ld tok rfl rfl rfl rfl hv13) rfl rfl ?_
  refine q_p tok rfl rfl rfl ?_
  refine q_end ?_
  refine x_seq ?_
  refine c_weak [(0, .pointer p0), (1, .int .i64 p1), (5, .pointer (some (⟨b1, 0, none⟩ : Addr))), (21, .bool (decide (v12 > v13)))] ⟨rfl, rfl, rfl, rfl, trivial⟩ ?_
  refine c_if H rfl (fun H => ?_) (fun H => ?_)
  ·
   refine c_seq (c_region ?_)
   iterate 2 refine wP tok ?_
   obtain ⟨v14, hv14, H⟩ := H
   refine w_y (y_ld tok rfl rfl rfl rfl hv14) rfl rfl ?_
   refine wP tok ?_
   obtain ⟨v15, hv15, H⟩ := H
   refine w_y (y_ld tok rfl rfl rfl rfl hv15) rfl rfl ?_
   refine wP tok ?_
   obtain ⟨v16, hv16, H⟩ := H
   refine w_y (y_ld tok rfl rfl rfl rfl hv16) rfl rfl ?_
   refine w_call raft_Raft_base_ok (raft_Raft_base_ref _ _ _ _ _ _ H) rfl rfl rfl rfl ?_
   rintro _ h18 ⟨r17, rfl, H⟩
   refine w_end (x_seq ?_)
   refine c_weak [(0, .pointer p0), (1, .int .i64 p1), (5, .pointer (some (⟨b1, 0, none⟩ : Addr)))] ⟨rfl, rfl, rfl, trivial⟩ ?_
   refine c_region ?_
   iterate 2 refine wP tok ?_
   obtain ⟨v19, hv19, H⟩ := H
   refine w_y (y_ld tok rfl rfl rfl rfl hv19) rfl rfl ?_
   refine w_y (y_nil' rfl rfl ha6) rfl rfl ?_
   refine wP tok ?_
   obtain ⟨h20, wh20, eh20, H⟩ := H
   refine w_h (h_st tok rfl rfl rfl rfl rfl rfl wh20 eh20) rfl rfl ?_
   refine w_end ?_
   exact x_join () H ⟨rfl, rfl, trivial⟩
  ·
   refine c_skip ?_
   exact x_join () H ⟨rfl, rfl, trivial⟩

theorem raft_Raft_appended_ok : CallOk Go.Proofs.Try.prog 51 := ⟨_, Go.Proofs.Try.func51, by kernel_rfl, by kernel_rfl⟩
theorem raft_Raft_appended_ref (p0 : Option Addr) (p1 : Int) (p2 : S_api_Msg) (k : (Slc) → Heap → Prop) (h : Heap) (H : raft_Raft_appended p0 p1 p2 k h) : CallsH Go.Proofs.Try.prog 51 #[.pointer p0, .int .i64 p1, .agg (S_api_Msg.cs p2).toArray] h (fun v h' => ∃ r : Slc, v = Slc.v r ∧ k r h') := by
 refine f_enter (N := 104) Go.Proofs.Try.func51 rfl rfl rfl (fun w0 => ?_)
 unfold raft_Raft_appended at H
 refine c_weak [(0, .pointer p0), (1, .int .i64 p1), (2, .agg (S_api_Msg.cs p2).toArray)] ⟨rfl, rfl, rfl, trivial⟩ ?_
 refine c_seq (c_region ?_)
 obtain ⟨b1, h2, eb1, eh2, H⟩ := H
 refine w_h (h_box rfl rfl eb1 eh2) rfl rfl ?_
 refine wP tok ?_
 refine w_end (x_seq ?_)
 refine c_seq (c_seq (c_region ?_))
 refine wP tok ?_
 obtain ⟨a3, ha3, H⟩ := H
 refine w_y (y_nil' rfl rfl ha3) rfl rfl ?_
 refine wP tok ?_
 obtain ⟨v4, hv4, H⟩ := H
 refine w_y (y_ld tok rfl rfl rfl rfl hv4) rfl rfl ?_
 refine wP tok ?_
 refine w_end (x_seq ?_)
 refine c_if H rfl (fun H => ?_) (fun H => ?_)
 ·
  refine c_seq (c_region ?_)
  refine wP tok ?_
  refine w_end (x_seq ?_)
  refine c_weak [(6, Slc.v (⟨none, 0, 0⟩ : Slc))] ⟨rfl, trivial⟩ ?_
  refine c_ret (x_tr ?_)
  exact x_ret _ rfl _ rfl ⟨(⟨none, 0, 0⟩ : Slc), rfl, H⟩
 ·
  refine c_skip (x_seq ?_)
  refine c_weak [(0, .pointer p0), (1, .int .i64 p1), (5, .pointer (some (⟨b1, 0, none⟩ : Addr)))] ⟨rfl, rfl, rfl, trivial⟩ ?_
  refine c_seq (c_seq (c_region ?_))
  refine wP tok ?_
  obtain ⟨v5, hv5, H⟩ := H
  refine w_y (y_ld tok rfl rfl rfl rfl hv5) rfl rfl ?_
  refine wP tok ?_
  refine w_end (x_seq ?_)
  refine c_if H rfl (fun H => ?_) (fun H => ?_)
  ·
   refine c_seq ?_
   refine c_sim [(0, .pointer p0), (1, .int .i64 p1), (5, .pointer (some (⟨b1, 0, none⟩ : Addr)))] (by kernel_rfl) (by kernel_rfl) ⟨rfl, rfl, rfl, trivial⟩ (fun wf => ?_)
   refine sQ 0 [(0, .pointer p0)] (some 17) tok wf ⟨rfl, trivial⟩ (fun P_0 => ?_)
   refine sP 1 [(17, .pointer p0)] (some 18) wf ⟨rfl, trivial⟩ (fun _ => pf_y rfl rfl rfl (y_nil' rfl rfl ha3)) (fun P_1 => ?_)
   refine sQ 2 [(18, .pointer (some a3))] (some 19) tok wf ⟨rfl, trivial⟩ (fun P_2 => ?_)
   obtain ⟨v6, hv6, H⟩ := H
   refine sL 3 [(19, .pointer (some (a3.add 11)))] (some 20) wf ⟨rfl, trivial⟩ (pf_y rfl rfl rfl (y_ld tok rfl rfl rfl rfl hv6)) (fun P_3 => ?_)
   refine sQ 4 [(1, .int .i64 p1)] (some 21) tok wf ⟨rfl, trivial⟩ (fun P_4 => ?_)
   refine sQ 5 [(0, .pointer p0)] (some 22) tok wf ⟨rfl, trivial⟩ (fun P_5 => ?_)
   refine sP 6 [(22, .pointer p0)] (some 23) wf ⟨rfl, trivial⟩ (fun _ => pf_y rfl rfl rfl (y_nil' rfl rfl ha3)) (fun P_6 => ?_)
   refine sQ 7 [(23, .pointer (some a3))] (some 24) tok wf ⟨rfl, trivial⟩ (fun P_7 => ?_)
   obtain ⟨v7, hv7, H⟩ := H
   refine sL 8 [(24, .pointer (some (a3.add 11)))] (some 25) wf ⟨rfl, trivial⟩ (pf_y rfl rfl rfl (y_ld tok rfl rfl rfl rfl hv7)) (fun P_8 => ?_)
   refine sQ 9 [(1, .int .i64 p1)] (some 26) tok wf ⟨rfl, trivial⟩ (fun P_9 => ?_)
   obtain ⟨a8, ha8, la8, ua8, H⟩ := H
   refine sP 10 [(25, Slc.v v7), (26, .int .i64 p1)] (some 27) wf ⟨rfl, rfl, trivial⟩ (fun _ => pf_y rfl rfl rfl (y_ixa' tok rfl rfl ha8 rfl rfl rfl la8 ua8)) (fun P_10 => ?_)
   obtain ⟨v9, hv9, H⟩ := H
   refine sL 11 [(27, .pointer (some (a8.add (p1.toNat * 1))))] (some 28) wf ⟨rfl, trivial⟩ (pf_y rfl rfl rfl (y_ld tok rfl rfl rfl rfl hv9)) (fun P_11 => ?_)
   refine sQ 12 [(28, .int .u64 v9)] (some 29) tok wf ⟨rfl, trivial⟩ (fun P_12 => ?_)
   refine sQ 13 [(5, .pointer (some (⟨b1, 0, none⟩ : Addr)))] (some 30) tok wf ⟨rfl, trivial⟩ (fun P_13 => ?_)
   obtain ⟨v10, hv10, H⟩ := H
   refine sL 14 [(30, .pointer (some ((⟨b1, 0, none⟩ : Addr).add 2)))] (some 31) wf ⟨rfl, trivial⟩ (pf_y rfl rfl rfl (y_ld tok rfl rfl rfl rfl hv10)) (fun P_14 => ?_)
   refine sQ 15 [(31, .int .u64 v10)] (some 32) tok wf ⟨rfl, trivial⟩ (fun P_15 => ?_)
   refine sQ 16 [(29, .int .u64 (IntKind.u64.wrap (v9 - 1))), (32, .int .u64 (IntKind.u64.wrap (v10 + 1)))] (some 33) tok wf ⟨rfl, rfl, trivial⟩ (fun P_16 => ?_)
   refine sQ 17 [(33, .int .u64 (if (IntKind.u64.wrap (v10 + 1)) < (IntKind.u64.wrap (v9 - 1)) then (IntKind.u64.wrap (v10 + 1)) else (IntKind.u64.wrap (v9 - 1))))] (some 34) tok wf ⟨rfl, trivial⟩ (fun P_17 => ?_)
   obtain ⟨a11, ha11, la11, ua11, H⟩ := H
   refine sP 18 [(20, Slc.v v6), (21, .int .i64 p1)] (some 35) wf ⟨rfl, rfl, trivial⟩ (fun _ => pf_y rfl rfl rfl (y_ixa' tok rfl rfl ha11 rfl rfl rfl la11 ua11)) (fun P_18 => ?_)
   obtain ⟨h12, wh12, eh12, H⟩ := H
   refine sim_h 19 [0, 1, 2, 3, 4, 5, 6, 7, 8, 9, 10, 11, 12, 13, 14, 15, 16, 17, 18] [0, 1, 2, 3, 4, 5, 6, 7, 8, 9, 10, 11, 12, 13, 14, 15, 16, 17, 18] (ei := [(34, .int .u64 (if (if (IntKind.u64.wrap (v10 + 1)) < (IntKind.u64.wrap (v9 - 1)) then (IntKind.u64.wrap (v10 + 1)) else (IntKind.u64.wrap (v9 - 1))) > 1 then (if (IntKind.u64.wrap (v10 + 1)) < (IntKind.u64.wrap (v9 - 1)) then (IntKind.u64.wrap (v10 + 1)) else (IntKind.u64.wrap (v9 - 1))) else 1)), (35, .pointer (some (a11.add (p1.toNat * 1))))]) wf ⟨P_18 _, P_17 _, P_16 _, P_15 _, P_14, P_13 _, P_12 _, P_11, P_10 _, P_9 _, P_8, P_7 _, P_6 _, P_5 _, P_4 _, P_3, P_2 _, P_1 _, P_0 _, trivial⟩ (by kernel_rfl) ⟨rfl, rfl, trivial⟩ (by kernel_rfl) rfl rfl rfl (h_st tok rfl rfl rfl rfl rfl rfl wh12 eh12) ?_
   refine sim_end wf ⟨trivial, trivial, trivial, trivial, trivial, trivial, trivial, trivial, trivial, trivial, trivial, trivial, trivial, trivial, trivial, trivial, trivial, trivial, trivial, trivial⟩ (by kernel_rfl) ?_
   clear wf P_0 P_1 P_10 P_11 P_12 P_13 P_14 P_15 P_16 P_17 P_18 P_2 P_3 P_4 P_5 P_6 P_7 P_8 P_9
   refine x_seq ?_
   refine c_weak [(0, .pointer p0), (1, .int .i64 p1)] ⟨rfl, rfl, trivial⟩ ?_
   refine c_seq (c_region ?_)
   iterate 3 refine wP tok ?_
   refine w_call raft_Raft_due_ok (raft_Raft_due_ref _ _ _ _ H) rfl rfl rfl rfl ?_
   rintro _ h14 ⟨r13, rfl, H⟩
   refine w_y (y_build tok rfl rfl rfl rfl rfl) rfl rfl ?_
   obtain ⟨b15, h16, eb15, eh16, H⟩ := H
   refine w_h (h_bs tok rfl rfl rfl rfl rfl rfl rfl eb15 eh16) rfl rfl ?_
   refine wP tok ?_
   refine w_end (x_seq ?_)
   refine c_weak [(6, Slc.v (⟨some ⟨b15, 0, none⟩, 1, 1⟩ : Slc))] ⟨rfl, trivial⟩ ?_
   refine c_ret (x_tr ?_)
   exact x_ret _ rfl _ rfl ⟨(⟨some ⟨b15, 0, none⟩, 1, 1⟩ : Slc), rfl, H⟩
  ·
   refine c_skip (x_seq ?_)
   refine c_seq (c_region ?_)
   refine wP tok ?_
   refine w_y (y_nil' rfl rfl ha3) rfl rfl ?_
   refine wP tok ?_
   obtain ⟨v17, hv17, H⟩ := H
   refine w_y (y_ld tok rfl rfl rfl rfl hv17) rfl rfl ?_
   refine w_call rlog_Log_Last_ok (rlog_Log_Last_ref _ _ _ H) rfl rfl rfl rfl ?_
   rintro _ h19 ⟨r18, rfl, H⟩
   iterate 5 refine wP tok ?_
   refine w_end (x_seq ?_)
   refine c_weak [(0, .pointer p0), (1, .int .i64 p1), (5, .pointer (some (⟨b1, 0, none⟩ : Addr))), (7, .int .u64 r18.1)] ⟨rfl, rfl, rfl, rfl, trivial⟩ ?_
   refine c_seq (c_seq (c_region ?_))
   refine wP tok ?_
   obtain ⟨v20, hv20, H⟩ := H
   refine w_y (y_ld tok rfl rfl rfl rfl hv20) rfl rfl ?_
   iterate 2 refine wP tok ?_
   refine w_end (x_seq ?_)
   refine c_if H rfl (fun H => ?_) (fun H => ?_)
   ·
    refine c_seq (c_region ?_)
    refine wP tok ?_
    refine w_end (x_seq ?_)
    refine c_weak [(6, Slc.v (⟨none, 0, 0⟩ : Slc))] ⟨rfl, trivial⟩ ?_
    refine c_ret (x_tr ?_)
    exact x_ret _ rfl _ rfl ⟨(⟨none, 0, 0⟩ : Slc), rfl, H⟩
   ·
    refine c_skip (x_seq (c_seq ?_))
    refine c_sim [(0, .pointer p0), (1, .int .i64 p1), (5, .pointer (some (⟨b1, 0, none⟩ : Addr))), (7, .int .u64 r18.1)] (by kernel_rfl) (by kernel_rfl) ⟨rfl, rfl, rfl, rfl, trivial⟩ (fun wf => ?_)
    refine sQ 0 [(0, .pointer p0)] (some 54) tok wf ⟨rfl, trivial⟩ (fun P_0 => ?_)
    refine sP 1 [(54, .pointer p0)] (some 55) wf ⟨rfl, trivial⟩ (fun _ => pf_y rfl rfl rfl (y_nil' rfl rfl ha3)) (fun P_1 => ?_)
    refine sQ 2 [(55, .pointer (some a3))] (some 56) tok wf ⟨rfl, trivial⟩ (fun P_2 => ?_)
    obtain ⟨v21, hv21, H⟩ := H
    refine sL 3 [(56, .pointer (some (a3.add 12)))] (some 57) wf ⟨rfl, trivial⟩ (pf_y rfl rfl rfl (y_ld tok rfl rfl rfl rfl hv21)) (fun P_3 => ?_)
    refine sQ 4 [(1, .int .i64 p1)] (some 58) tok wf ⟨rfl, trivial⟩ (fun P_4 => ?_)
    refine sQ 5 [(0, .pointer p0)] (some 59) tok wf ⟨rfl, trivial⟩ (fun P_5 => ?_)
    refine sP 6 [(59, .pointer p0)] (some 60) wf ⟨rfl, trivial⟩ (fun _ => pf_y rfl rfl rfl (y_nil' rfl rfl ha3)) (fun P_6 => ?_)
    refine sQ 7 [(60, .pointer (some a3))] (some 61) tok wf ⟨rfl, trivial⟩ (fun P_7 => ?_)
    obtain ⟨v22, hv22, H⟩ := H
    refine sL 8 [(61, .pointer (some (a3.add 12)))] (some 62) wf ⟨rfl, trivial⟩ (pf_y rfl rfl rfl (y_ld tok rfl rfl rfl rfl hv22)) (fun P_8 => ?_)
    refine sQ 9 [(1, .int .i64 p1)] (some 63) tok wf ⟨rfl, trivial⟩ (fun P_9 => ?_)
    obtain ⟨a23, ha23, la23, ua23, H⟩ := H
    refine sP 10 [(62, Slc.v v22), (63, .int .i64 p1)] (some 64) wf ⟨rfl, rfl, trivial⟩ (fun _ => pf_y rfl rfl rfl (y_ixa' tok rfl rfl ha23 rfl rfl rfl la23 ua23)) (fun P_10 => ?_)
    obtain ⟨v24, hv24, H⟩ := H
    refine sL 11 [(64, .pointer (some (a23.add (p1.toNat * 1))))] (some 65) wf ⟨rfl, trivial⟩ (pf_y rfl rfl rfl (y_ld tok rfl rfl rfl rfl hv24)) (fun P_11 => ?_)
    refine sQ 12 [(5, .pointer (some (⟨b1, 0, none⟩ : Addr)))] (some 66) tok wf ⟨rfl, trivial⟩ (fun P_12 => ?_)
    obtain ⟨v25, hv25, H⟩ := H
    refine sL 13 [(66, .pointer (some ((⟨b1, 0, none⟩ : Addr).add 2)))] (some 67) wf ⟨rfl, trivial⟩ (pf_y rfl rfl rfl (y_ld tok rfl rfl rfl rfl hv25)) (fun P_13 => ?_)
    refine sQ 14 [(65, .int .u64 v24), (67, .int .u64 v25)] (some 68) tok wf ⟨rfl, rfl, trivial⟩ (fun P_14 => ?_)
    obtain ⟨a26, ha26, la26, ua26, H⟩ := H
    refine sP 15 [(57, Slc.v v21), (58, .int .i64 p1)] (some 69) wf ⟨rfl, rfl, trivial⟩ (fun _ => pf_y rfl rfl rfl (y_ixa' tok rfl rfl ha26 rfl rfl rfl la26 ua26)) (fun P_15 => ?_)
    obtain ⟨h27, wh27, eh27, H⟩ := H
    refine sim_h 16 [0, 1, 2, 3, 4, 5, 6, 7, 8, 9, 10, 11, 12, 13, 14, 15] [0, 1, 2, 3, 4, 5, 6, 7, 8, 9, 10, 11, 12, 13, 14, 15] (ei := [(68, .int .u64 (if v25 > v24 then v25 else v24)), (69, .pointer (some (a26.add (p1.toNat * 1))))]) wf ⟨P_15 _, P_14 _, P_13, P_12 _, P_11, P_10 _, P_9 _, P_8, P_7 _, P_6 _, P_5 _, P_4 _, P_3, P_2 _, P_1 _, P_0 _, trivial⟩ (by kernel_rfl) ⟨rfl, rfl, trivial⟩ (by kernel_rfl) rfl rfl rfl (h_st tok rfl rfl rfl rfl rfl rfl wh27 eh27) ?_
    refine sim_end wf ⟨trivial, trivial, trivial, trivial, trivial, trivial, trivial, trivial, trivial, trivial, trivial, trivial, trivial, trivial, trivial, trivial, trivial⟩ (by kernel_rfl) ?_
    clear wf P_0 P_1 P_10 P_11 P_12 P_13 P_14 P_15 P_2 P_3 P_4 P_5 P_6 P_7 P_8 P_9
    refine x_seq ?_
    refine c_weak [(0, .pointer p0), (1, .int .i64 p1), (5, .pointer (some (⟨b1, 0, none⟩ : Addr))), (7, .int .u64 r18.1)] ⟨rfl, rfl, rfl, rfl, trivial⟩ ?_
    refine c_seq ?_
    refine c_sim [(0, .pointer p0), (1, .int .i64 p1), (5, .pointer (some (⟨b1, 0, none⟩ : Addr))), (7, .int .u64 r18.1)] (by kernel_rfl) (by kernel_rfl) ⟨rfl, rfl, rfl, rfl, trivial⟩ (fun wf => ?_)
    refine sQ 0 [(0, .pointer p0)] (some 70) tok wf ⟨rfl, trivial⟩ (fun P_0 => ?_)
    refine sP 1 [(70, .pointer p0)] (some 71) wf ⟨rfl, trivial⟩ (fun _ => pf_y rfl rfl rfl (y_nil' rfl rfl ha3)) (fun P_1 => ?_)
    refine sQ 2 [(71, .pointer (some a3))] (some 72) tok wf ⟨rfl, trivial⟩ (fun P_2 => ?_)
    obtain ⟨v28, hv28, H⟩ := H
    refine sL 3 [(72, .pointer (some (a3.add 11)))] (some 73) wf ⟨rfl, trivial⟩ (pf_y rfl rfl rfl (y_ld tok rfl rfl rfl rfl hv28)) (fun P_3 => ?_)
    refine sQ 4 [(1, .int .i64 p1)] (some 74) tok wf ⟨rfl, trivial⟩ (fun P_4 => ?_)
    refine sQ 5 [(0, .pointer p0)] (some 75) tok wf ⟨rfl, trivial⟩ (fun P_5 => ?_)
    refine sP 6 [(75, .pointer p0)] (some 76) wf ⟨rfl, trivial⟩ (fun _ => pf_y rfl rfl rfl (y_nil' rfl rfl ha3)) (fun P_6 => ?_)
    refine sQ 7 [(76, .pointer (some a3))] (some 77) tok wf ⟨rfl, trivial⟩ (fun P_7 => ?_)
    obtain ⟨v29, hv29, H⟩ := H
    refine sL 8 [(77, .pointer (some (a3.add 11)))] (some 78) wf ⟨rfl, trivial⟩ (pf_y rfl rfl rfl (y_ld tok rfl rfl rfl rfl hv29)) (fun P_8 => ?_)
    refine sQ 9 [(1, .int .i64 p1)] (some 79) tok wf ⟨rfl, trivial⟩ (fun P_9 => ?_)
    obtain ⟨a30, ha30, la30, ua30, H⟩ := H
    refine sP 10 [(78, Slc.v v29), (79, .int .i64 p1)] (some 80) wf ⟨rfl, rfl, trivial⟩ (fun _ => pf_y rfl rfl rfl (y_ixa' tok rfl rfl ha30 rfl rfl rfl la30 ua30)) (fun P_10 => ?_)
    obtain ⟨v31, hv31, H⟩ := H
    refine sL 11 [(80, .pointer (some (a30.add (p1.toNat * 1))))] (some 81) wf ⟨rfl, trivial⟩ (pf_y rfl rfl rfl (y_ld tok rfl rfl rfl rfl hv31)) (fun P_11 => ?_)
    refine sQ 12 [(5, .pointer (some (⟨b1, 0, none⟩ : Addr)))] (some 82) tok wf ⟨rfl, trivial⟩ (fun P_12 => ?_)
    obtain ⟨v32, hv32, H⟩ := H
    refine sL 13 [(82, .pointer (some ((⟨b1, 0, none⟩ : Addr).add 2)))] (some 83) wf ⟨rfl, trivial⟩ (pf_y rfl rfl rfl (y_ld tok rfl rfl rfl rfl hv32)) (fun P_13 => ?_)
    refine sQ 14 [(83, .int .u64 v32)] (some 84) tok wf ⟨rfl, trivial⟩ (fun P_14 => ?_)
    refine sQ 15 [(81, .int .u64 v31), (84, .int .u64 (IntKind.u64.wrap (v32 + 1)))] (some 85) tok wf ⟨rfl, rfl, trivial⟩ (fun P_15 => ?_)
    obtain ⟨a33, ha33, la33, ua33, H⟩ := H
    refine sP 16 [(73, Slc.v v28), (74, .int .i64 p1)] (some 86) wf ⟨rfl, rfl, trivial⟩ (fun _ => pf_y rfl rfl rfl (y_ixa' tok rfl rfl ha33 rfl rfl rfl la33 ua33)) (fun P_16 => ?_)
    obtain ⟨h34, wh34, eh34, H⟩ := H
    refine sim_h 17 [0, 1, 2, 3, 4, 5, 6, 7, 8, 9, 10, 11, 12, 13, 14, 15, 16] [0, 1, 2, 3, 4, 5, 6, 7, 8, 9, 10, 11, 12, 13, 14, 15, 16] (ei := [(85, .int .u64 (if (IntKind.u64.wrap (v32 + 1)) > v31 then (IntKind.u64.wrap (v32 + 1)) else v31)), (86, .pointer (some (a33.add (p1.toNat * 1))))]) wf ⟨P_16 _, P_15 _, P_14 _, P_13, P_12 _, P_11, P_10 _, P_9 _, P_8, P_7 _, P_6 _, P_5 _, P_4 _, P_3, P_2 _, P_1 _, P_0 _, trivial⟩ (by kernel_rfl) ⟨rfl, rfl, trivial⟩ (by kernel_rfl) rfl rfl rfl (h_st tok rfl rfl rfl rfl rfl rfl wh34 eh34) ?_
    refine sim_end wf ⟨trivial, trivial, trivial, trivial, trivial, trivial, trivial, trivial, trivial, trivial, trivial, trivial, trivial, trivial, trivial, trivial, trivial, trivial⟩ (by kernel_rfl) ?_
    clear wf P_0 P_1 P_10 P_11 P_12 P_13 P_14 P_15 P_16 P_2 P_3 P_4 P_5 P_6 P_7 P_8 P_9
    refine x_seq ?_
    refine c_weak [(0, .pointer p0), (1, .int .i64 p1), (7, .int .u64 r18.1)] ⟨rfl, rfl, rfl, trivial⟩ ?_
    refine c_seq (c_region ?_)
    refine wP tok ?_
    refine w_call raft_Raft_settle_ok (raft_Raft_settle_ref _ _ _ H) rfl rfl rfl rfl ?_
    rintro _ h36 ⟨r35, rfl, H⟩
    refine w_end (x_seq ?_)
    refine c_seq (c_seq (c_region ?_))
    refine wP tok ?_
    refine w_y (y_nil' rfl rfl ha3) rfl rfl ?_
    refine wP tok ?_
    obtain ⟨v37, hv37, H⟩ := H
    refine w_y (y_ld tok rfl rfl rfl rfl hv37) rfl rfl ?_
    refine wP tok ?_
    obtain ⟨a38, ha38, la38, ua38, H⟩ := H
    refine w_y (y_ixa' tok rfl rfl ha38 rfl rfl rfl la38 ua38) rfl rfl ?_
    obtain ⟨v39, hv39, H⟩ := H
    refine w_y (y_ld tok rfl rfl rfl rfl hv39) rfl rfl ?_
    iterate 2 refine wP tok ?_
    refine w_end (x_seq ?_)
    refine c_weak [(0, .pointer p0), (1, .int .i64 p1), (97, .bool (decide (v39 ≤ r18.1)))] ⟨rfl, rfl, rfl, trivial⟩ ?_
    refine c_if H rfl (fun H => ?_) (fun H => ?_)
    ·
     refine c_seq (c_region ?_)
     iterate 3 refine wP tok ?_
     refine w_call raft_Raft_due_ok (raft_Raft_due_ref _ _ _ _ H) rfl rfl rfl rfl ?_
     rintro _ h41 ⟨r40, rfl, H⟩
     refine w_y (y_build tok rfl rfl rfl rfl rfl) rfl rfl ?_
     obtain ⟨b42, h43, eb42, eh43, H⟩ := H
     refine w_h (h_bs tok rfl rfl rfl rfl rfl rfl rfl eb42 eh43) rfl rfl ?_
     refine wP tok ?_
     refine w_end (x_seq ?_)
     refine c_weak [(6, Slc.v (⟨some ⟨b42, 0, none⟩, 1, 1⟩ : Slc))] ⟨rfl, trivial⟩ ?_
     refine c_ret (x_tr ?_)
     exact x_ret _ rfl _ rfl ⟨(⟨some ⟨b42, 0, none⟩, 1, 1⟩ : Slc), rfl, H⟩
    ·
     refine c_skip (x_seq ?_)
     refine c_seq (c_region ?_)
     refine wP tok ?_
     refine w_end (x_seq (c_ret ?_))
     exact x_ret _ rfl _ rfl ⟨(⟨none, 0, 0⟩ : Slc), rfl, H⟩

theorem raft_Raft_late_ok : CallOk Go.Proofs.Try.prog 45 := ⟨_, Go.Proofs.Try.func45, by kernel_rfl, by kernel_rfl⟩
theorem raft_Raft_late_ref (p0 : Option Addr) (p1 : Int) (p2 : S_api_Msg) (k : (Slc) → Heap → Prop) (h : Heap) (H : raft_Raft_late p0 p1 p2 k h) : CallsH Go.Proofs.Try.prog 45 #[.pointer p0, .int .i64 p1, .agg (S_api_Msg.cs p2).toArray] h (fun v h' => ∃ r : Slc, v = Slc.v r ∧ k r h') := by
 refine f_enter (N := 20) Go.Proofs.Try.func45 rfl rfl rfl (fun w0 => ?_)
 unfold raft_Raft_late at H
 refine c_weak [(0, .pointer p0), (1, .int .i64 p1), (2, .agg (S_api_Msg.cs p2).toArray)] ⟨rfl, rfl, rfl, trivial⟩ ?_
 refine c_seq (c_region ?_)
 obtain ⟨b1, h2, eb1, eh2, H⟩ := H
 refine w_h (h_box rfl rfl eb1 eh2) rfl rfl ?_
 refine wP tok ?_
 refine w_end (x_seq ?_)
 refine c_seq (c_seq (c_region ?_))
 refine wP tok ?_
 obtain ⟨v3, hv3, H⟩ := H
 refine w_y (y_ld tok rfl rfl rfl rfl hv3) rfl rfl ?_
 refine w_end (x_seq ?_)
 refine c_block (c_seq (c_region ?_))
 iterate 2 refine wP tok ?_
 refine w_end (x_seq ?_)
 refine c_if H rfl (fun H => ?_) (fun H => ?_)
 ·
  refine c_seq (c_region ?_)
  iterate 2 refine wP tok ?_
  refine w_call raft_Raft_answer_ok (raft_Raft_answer_ref _ _ _ _ _ _ _ H) rfl rfl rfl rfl ?_
  rintro _ h5 ⟨r4, rfl, H⟩
  refine wP tok ?_
  refine w_end (x_seq ?_)
  refine c_weak [(6, Slc.v r4)] ⟨rfl, trivial⟩ ?_
  refine c_ret ?_
  refine x_br ?_
  refine x_tr ?_
  exact x_ret _ rfl _ rfl ⟨r4, rfl, H⟩
 ·
  refine c_seqJ (α := Bool) (fun (s : Bool) => [(14, .bool s), (0, .pointer p0), (1, .int .i64 p1)]) (fun (s : Bool) h => raft_Raft_late_j1 p0 p1 s k h) ?_ ?_
  ·
   rintro t14_1 h_1 H
   replace H : raft_Raft_late_j1 p0 p1 t14_1 k h_1 := H
   unfold raft_Raft_late_j1 at H
   refine c_weak [(14, .bool t14_1), (0, .pointer p0), (1, .int .i64 p1)] ⟨rfl, rfl, rfl, trivial⟩ ?_
   refine c_if H rfl (fun H => ?_) (fun H => ?_)
   ·
    refine c_seq (c_region ?_)
    iterate 2 refine wP tok ?_
    refine w_call raft_Raft_answer_ok (raft_Raft_answer_ref _ _ _ _ _ _ _ H) rfl rfl rfl rfl ?_
    rintro _ h7 ⟨r6, rfl, H⟩
    refine wP tok ?_
    refine w_end (x_seq (c_ret ?_))
    refine x_br ?_
    refine x_tr ?_
    exact x_ret _ rfl _ rfl ⟨r6, rfl, H⟩
   ·
    refine c_skip ?_
    refine x_blk ?_
    refine x_seq (c_seq (c_region ?_))
    refine wP tok ?_
    refine w_end (x_seq (c_ret ?_))
    exact x_ret _ rfl _ rfl ⟨(⟨none, 0, 0⟩ : Slc), rfl, H⟩
  ·
   refine c_seq (c_region ?_)
   iterate 2 refine wP tok ?_
   refine w_end (x_seq ?_)
   refine c_weak [(0, .pointer p0), (1, .int .i64 p1), (8, .int .i64 v3), (14, .bool (v3 == 3))] ⟨rfl, rfl, rfl, rfl, trivial⟩ ?_
   refine c_if H rfl (fun H => ?_) (fun H => ?_)
   ·
    refine c_skip ?_
    exact x_join (v3 == 3) H ⟨rfl, rfl, rfl, trivial⟩
   ·
    refine c_region ?_
    iterate 2 refine wP tok ?_
    refine w_end ?_
    exact x_join (v3 == 5) H ⟨rfl, rfl, rfl, trivial⟩

theorem raft_Raft_Take_ok : CallOk Go.Proofs.Try.prog 15 := ⟨_, Go.Proofs.Try.func15, by kernel_rfl, by kernel_rfl⟩
theorem raft_Raft_Take_ref (p0 : Option Addr) (p1 : Int) (p2 : S_api_Msg) (k : (Slc) → Heap → Prop) (h : Heap) (H : raft_Raft_Take p0 p1 p2 k h) : CallsH Go.Proofs.Try.prog 15 #[.pointer p0, .int .i64 p1, .agg (S_api_Msg.cs p2).toArray] h (fun v h' => ∃ r : Slc, v = Slc.v r ∧ k r h') := by
 refine f_enter (N := 107) Go.Proofs.Try.func15 rfl rfl rfl (fun w0 => ?_)
 unfold raft_Raft_Take at H
 refine c_weak [(0, .pointer p0), (1, .int .i64 p1), (2, .agg (S_api_Msg.cs p2).toArray)] ⟨rfl, rfl, rfl, trivial⟩ ?_
 refine c_seq (c_region ?_)
 obtain ⟨b1, h2, eb1, eh2, H⟩ := H
 refine w_h (h_box rfl rfl eb1 eh2) rfl rfl ?_
 refine wP tok ?_
 refine w_end (x_seq ?_)
 refine c_seqJ (α := Unit) (fun (s : Unit) => [(0, .pointer p0), (1, .int .i64 p1), (5, .pointer (some (⟨b1, 0, none⟩ : Addr)))]) (fun (s : Unit) h => raft_Raft_Take_j1 p0 p1 (⟨b1, 0, none⟩ : Addr) k h) ?_ ?_
 ·
  rintro _ h_1 H
  replace H : raft_Raft_Take_j1 p0 p1 (⟨b1, 0, none⟩ : Addr) k h_1 := H
  unfold raft_Raft_Take_j1 at H
  refine c_weak [(0, .pointer p0), (1, .int .i64 p1), (5, .pointer (some (⟨b1, 0, none⟩ : Addr)))] ⟨rfl, rfl, rfl, trivial⟩ ?_
  refine c_seq (c_seq (c_region ?_))
  refine wP tok ?_
  obtain ⟨v3, hv3, H⟩ := H
  refine w_y (y_ld tok rfl rfl rfl rfl hv3) rfl rfl ?_
  refine w_end (x_seq ?_)
  refine c_block (c_seq (c_region ?_))
  iterate 2 refine wP tok ?_
  refine w_end (x_seq ?_)
  refine c_if H rfl (fun H => ?_) (fun H => ?_)
  ·
   refine c_seq (c_region ?_)
   iterate 2 refine wP tok ?_
   obtain ⟨v4, hv4, H⟩ := H
   refine w_y (y_lda tok rfl rfl rfl rfl rfl hv4) rfl rfl ?_
   refine w_call raft_Raft_voted_ok (raft_Raft_voted_ref _ _ _ _ _ H) rfl rfl rfl rfl ?_
   rintro _ h6 ⟨r5, rfl, H⟩
   refine wP tok ?_
   refine w_end (x_seq ?_)
   refine c_weak [(6, Slc.v r5)] ⟨rfl, trivial⟩ ?_
   refine c_ret ?_
   refine x_br ?_
   refine x_tr ?_
   exact x_ret _ rfl _ rfl ⟨r5, rfl, H⟩
  ·
   refine c_seq (c_region ?_)
   iterate 2 refine wP tok ?_
   refine w_end (x_seq ?_)
   refine c_if H rfl (fun H => ?_) (fun H => ?_)
   ·
    refine c_seqJ (α := Unit) (fun (s : Unit) => [(0, .pointer p0)]) (fun (s : Unit) h => raft_Raft_Take_j2 p0 k h) ?_ ?_
    ·
     rintro _ h_2 H
     replace H : raft_Raft_Take_j2 p0 k h_2 := H
     unfold raft_Raft_Take_j2 at H
     refine c_weak [(0, .pointer p0)] ⟨rfl, trivial⟩ ?_
     refine c_seq (c_region ?_)
     refine wP tok ?_
     refine w_call raft_Raft_win_ok (raft_Raft_win_ref _ _ _ H) rfl rfl rfl rfl ?_
     rintro _ h8 ⟨r7, rfl, H⟩
     refine wP tok ?_
     refine w_end (x_seq (c_ret ?_))
     refine x_br ?_
     refine x_tr ?_
     exact x_ret _ rfl _ rfl ⟨r7, rfl, H⟩
    ·
     refine c_seq (c_region ?_)
     refine wP tok ?_
     obtain ⟨a9, ha9, H⟩ := H
     refine w_y (y_nil' rfl rfl ha9) rfl rfl ?_
     refine wP tok ?_
     obtain ⟨v10, hv10, H⟩ := H
     refine w_y (y_ld tok rfl rfl rfl rfl hv10) rfl rfl ?_
     iterate 2 refine wP tok ?_
     refine w_cut 3 (α := Bool) (fun (s : Bool) => [(82, .bool s), (0, .pointer p0), (1, .int .i64 p1)]) (fun (s : Bool) h => raft_Raft_Take_g3 p0 p1 s k h) ?_ ?_
     ·
      rintro t82_3 h_3 H
      replace H : raft_Raft_Take_g3 p0 p1 t82_3 k h_3 := H
      unfold raft_Raft_Take_g3 at H
      refine w_weak [(82, .bool t82_3), (0, .pointer p0), (1, .int .i64 p1)] ⟨rfl, rfl, rfl, trivial⟩ ?_
      refine w_end (x_seq ?_)
      refine c_if H rfl (fun H => ?_) (fun H => ?_)
      ·
       refine c_region ?_
       refine wP tok ?_
       obtain ⟨a11, ha11, H⟩ := H
       refine w_y (y_nil' rfl rfl ha11) rfl rfl ?_
       refine wP tok ?_
       obtain ⟨v12, hv12, H⟩ := H
       refine w_y (y_ld tok rfl rfl rfl rfl hv12) rfl rfl ?_
       refine wP tok ?_
       refine w_call vote_Ballot_Yes_ok (vote_Ballot_Yes_ref _ _ _ _ H) rfl rfl rfl rfl ?_
       rintro _ h14 ⟨r13, rfl, H⟩
       refine w_end ?_
       exact x_join () H ⟨rfl, trivial⟩
      ·
       refine c_skip ?_
       exact x_join () H ⟨rfl, trivial⟩
     ·
      refine w_gif (d := 79) H rfl (fun H => ?_) (fun H => ?_)
      ·
       refine wP tok ?_
       obtain ⟨v15, hv15, H⟩ := H
       refine w_y (y_ld tok rfl rfl rfl rfl hv15) rfl rfl ?_
       refine wP tok ?_
       exact w_jn v15 H ⟨rfl, rfl, rfl, trivial⟩
      ·
       iterate 2 refine w_skip rfl rfl ?_
       refine wP tok ?_
       exact w_jn false H ⟨rfl, rfl, rfl, trivial⟩
   ·
    refine c_seq (c_region ?_)
    iterate 2 refine wP tok ?_
    refine w_end (x_seq ?_)
    refine c_if H rfl (fun H => ?_) (fun H => ?_)
    ·
     refine c_seq (c_region ?_)
     iterate 2 refine wP tok ?_
     obtain ⟨v16, hv16, H⟩ := H
     refine w_y (y_lda tok rfl rfl rfl rfl rfl hv16) rfl rfl ?_
     refine w_call raft_Raft_append_ok (raft_Raft_append_ref _ _ _ _ _ H) rfl rfl rfl rfl ?_
     rintro _ h18 ⟨r17, rfl, H⟩
     refine wP tok ?_
     refine w_end (x_seq ?_)
     refine c_weak [(6, Slc.v r17)] ⟨rfl, trivial⟩ ?_
     refine c_ret ?_
     refine x_br ?_
     refine x_tr ?_
     exact x_ret _ rfl _ rfl ⟨r17, rfl, H⟩
    ·
     refine c_seq (c_region ?_)
     iterate 2 refine wP tok ?_
     refine w_end (x_seq ?_)
     refine c_weak [(0, .pointer p0), (1, .int .i64 p1), (5, .pointer (some (⟨b1, 0, none⟩ : Addr))), (97, .bool (v3 == 4))] ⟨rfl, rfl, rfl, rfl, trivial⟩ ?_
     refine c_if H rfl (fun H => ?_) (fun H => ?_)
     ·
      refine c_seq (c_region ?_)
      iterate 2 refine wP tok ?_
      obtain ⟨v19, hv19, H⟩ := H
      refine w_y (y_lda tok rfl rfl rfl rfl rfl hv19) rfl rfl ?_
      refine w_call raft_Raft_appended_ok (raft_Raft_appended_ref _ _ _ _ _ H) rfl rfl rfl rfl ?_
      rintro _ h21 ⟨r20, rfl, H⟩
      refine wP tok ?_
      refine w_end (x_seq ?_)
      refine c_weak [(6, Slc.v r20)] ⟨rfl, trivial⟩ ?_
      refine c_ret ?_
      refine x_br ?_
      refine x_tr ?_
      exact x_ret _ rfl _ rfl ⟨r20, rfl, H⟩
     ·
      refine c_skip ?_
      refine x_blk ?_
      refine x_seq (c_seq (c_region ?_))
      iterate 2 refine wP tok ?_
      obtain ⟨v22, hv22, H⟩ := H
      refine w_y (y_lda tok rfl rfl rfl rfl rfl hv22) rfl rfl ?_
      refine w_call raft_Raft_snapshot_ok (raft_Raft_snapshot_ref _ _ _ _ _ H) rfl rfl rfl rfl ?_
      rintro _ h24 ⟨r23, rfl, H⟩
      refine wP tok ?_
      refine w_end (x_seq ?_)
      refine c_weak [(6, Slc.v r23)] ⟨rfl, trivial⟩ ?_
      refine c_ret ?_
      exact x_ret _ rfl _ rfl ⟨r23, rfl, H⟩
 ·
  refine c_block (c_seq (c_region ?_))
  iterate 3 refine wP tok ?_
  refine w_cutU 3 [(13, .bool ((p0.isNone) || (decide (p1 < 0)))), (0, .pointer p0), (1, .int .i64 p1), (5, .pointer (some (⟨b1, 0, none⟩ : Addr)))] ?_ ?_
  ·
   refine wP tok ?_
   refine w_cut 7 (α := Bool) (fun (s : Bool) => [(21, .bool s), (0, .pointer p0), (1, .int .i64 p1), (5, .pointer (some (⟨b1, 0, none⟩ : Addr)))]) (fun (s : Bool) h => raft_Raft_Take_g4 p0 p1 (⟨b1, 0, none⟩ : Addr) s k h) ?_ ?_
   ·
    rintro t21_4 h_4 H
    replace H : raft_Raft_Take_g4 p0 p1 (⟨b1, 0, none⟩ : Addr) t21_4 k h_4 := H
    unfold raft_Raft_Take_g4 at H
    refine w_weak [(21, .bool t21_4), (0, .pointer p0), (1, .int .i64 p1), (5, .pointer (some (⟨b1, 0, none⟩ : Addr)))] ⟨rfl, rfl, rfl, rfl, trivial⟩ ?_
    refine wP tok ?_
    refine w_cut 7 (α := Bool) (fun (s : Bool) => [(29, .bool s), (0, .pointer p0), (1, .int .i64 p1), (5, .pointer (some (⟨b1, 0, none⟩ : Addr)))]) (fun (s : Bool) h => raft_Raft_Take_g5 p0 p1 (⟨b1, 0, none⟩ : Addr) s k h) ?_ ?_
    ·
     rintro t29_5 h_5 H
     replace H : raft_Raft_Take_g5 p0 p1 (⟨b1, 0, none⟩ : Addr) t29_5 k h_5 := H
     unfold raft_Raft_Take_g5 at H
     refine w_weak [(29, .bool t29_5), (0, .pointer p0), (1, .int .i64 p1), (5, .pointer (some (⟨b1, 0, none⟩ : Addr)))] ⟨rfl, rfl, rfl, rfl, trivial⟩ ?_
     refine wP tok ?_
     refine w_cut 4 (α := Bool) (fun (s : Bool) => [(34, .bool s), (0, .pointer p0), (1, .int .i64 p1), (5, .pointer (some (⟨b1, 0, none⟩ : Addr)))]) (fun (s : Bool) h => raft_Raft_Take_g6 p0 p1 (⟨b1, 0, none⟩ : Addr) s k h) ?_ ?_
     ·
      rintro t34_6 h_6 H
      replace H : raft_Raft_Take_g6 p0 p1 (⟨b1, 0, none⟩ : Addr) t34_6 k h_6 := H
      unfold raft_Raft_Take_g6 at H
      refine w_weak [(34, .bool t34_6), (0, .pointer p0), (1, .int .i64 p1), (5, .pointer (some (⟨b1, 0, none⟩ : Addr)))] ⟨rfl, rfl, rfl, rfl, trivial⟩ ?_
      refine wP tok ?_
      refine w_cut 4 (α := Bool) (fun (s : Bool) => [(39, .bool s), (0, .pointer p0), (1, .int .i64 p1), (5, .pointer (some (⟨b1, 0, none⟩ : Addr)))]) (fun (s : Bool) h => raft_Raft_Take_g7 p0 p1 (⟨b1, 0, none⟩ : Addr) s k h) ?_ ?_
      ·
       rintro t39_7 h_7 H
       replace H : raft_Raft_Take_g7 p0 p1 (⟨b1, 0, none⟩ : Addr) t39_7 k h_7 := H
       unfold raft_Raft_Take_g7 at H
       refine w_weak [(39, .bool t39_7), (0, .pointer p0), (1, .int .i64 p1), (5, .pointer (some (⟨b1, 0, none⟩ : Addr)))] ⟨rfl, rfl, rfl, rfl, trivial⟩ ?_
       refine wP tok ?_
       refine w_end (x_seq ?_)
       refine c_if H rfl (fun H => ?_) (fun H => ?_)
       ·
        refine c_seq (c_region ?_)
        refine wP tok ?_
        refine w_end (x_seq (c_ret ?_))
        refine x_br ?_
        refine x_tr ?_
        exact x_ret _ rfl _ rfl ⟨(⟨none, 0, 0⟩ : Slc), rfl, H⟩
       ·
        refine c_seq ?_
        refine c_draw (by kernel_rfl) (by kernel_rfl) ?_
        refine q_p tok rfl rfl rfl ?_
        obtain ⟨v25, hv25, H⟩ := H
        refine q_y (y_ld tok rfl rfl rfl rfl hv25) rfl rfl ?_
        refine q_p tok rfl rfl rfl ?_
        obtain ⟨a26, ha26, H⟩ := H
        refine q_y (y_nil' rfl rfl ha26) rfl rfl ?_
        refine q_p tok rfl rfl rfl ?_
        obtain ⟨v27, hv27, H⟩ := H
        refine q_y (y_ld tok rfl rfl rfl rfl hv27) rfl rfl ?_
        iterate 2 refine q_p tok rfl rfl rfl ?_
        refine q_end ?_
        refine x_seq ?_
        refine c_weak [(0, .pointer p0), (1, .int .i64 p1), (5, .pointer (some (⟨b1, 0, none⟩ : Addr))), (40, .bool (decide (v25 < v27)))] ⟨rfl, rfl, rfl, rfl, trivial⟩ ?_
        refine c_if H rfl (fun H => ?_) (fun H => ?_)
        ·
         refine c_seq (c_region ?_)
         iterate 2 refine wP tok ?_
         obtain ⟨v28, hv28, H⟩ := H
         refine w_y (y_lda tok rfl rfl rfl rfl rfl hv28) rfl rfl ?_
         refine w_call raft_Raft_late_ok (raft_Raft_late_ref _ _ _ _ _ H) rfl rfl rfl rfl ?_
         rintro _ h30 ⟨r29, rfl, H⟩
         refine wP tok ?_
         refine w_end (x_seq ?_)
         refine c_weak [(6, Slc.v r29)] ⟨rfl, trivial⟩ ?_
         refine c_ret ?_
         refine x_br ?_
         refine x_tr ?_
         exact x_ret _ rfl _ rfl ⟨r29, rfl, H⟩
        ·
         refine c_seq ?_
         refine c_draw (by kernel_rfl) (by kernel_rfl) ?_
         refine q_p tok rfl rfl rfl ?_
         obtain ⟨v31, hv31, H⟩ := H
         refine q_y (y_ld tok rfl rfl rfl rfl hv31) rfl rfl ?_
         refine q_p tok rfl rfl rfl ?_
         refine q_y (y_nil' rfl rfl ha26) rfl rfl ?_
         refine q_p tok rfl rfl rfl ?_
         obtain ⟨v32, hv32, H⟩ := H
         refine q_y (y_ld tok rfl rfl rfl rfl hv32) rfl rfl ?_
         iterate 2 refine q_p tok rfl rfl rfl ?_
         refine q_end ?_
         refine x_seq ?_
         refine c_weak [(0, .pointer p0), (1, .int .i64 p1), (5, .pointer (some (⟨b1, 0, none⟩ : Addr))), (52, .bool (decide (v31 > v32)))] ⟨rfl, rfl, rfl, rfl, trivial⟩ ?_
         refine c_if H rfl (fun H => ?_) (fun H => ?_)
         ·
          refine c_region ?_
          iterate 2 refine wP tok ?_
          obtain ⟨v33, hv33, H⟩ := H
          refine w_y (y_ld tok rfl rfl rfl rfl hv33) rfl rfl ?_
          refine w_call raft_Raft_follow_ok (raft_Raft_follow_ref _ _ _ _ _ H) rfl rfl rfl rfl ?_
          rintro _ h35 ⟨r34, rfl, H⟩
          refine w_end ?_
          refine x_blk ?_
          exact x_join () H ⟨rfl, rfl, rfl, trivial⟩
         ·
          refine c_skip ?_
          refine x_blk ?_
          exact x_join () H ⟨rfl, rfl, rfl, trivial⟩
      ·
       refine w_gif (d := 35) H rfl (fun H => ?_) (fun H => ?_)
       ·
        iterate 3 refine w_skip rfl rfl ?_
        refine wP tok ?_
        exact w_jn true H ⟨rfl, rfl, rfl, rfl, trivial⟩
       ·
        refine wP tok ?_
        obtain ⟨v36, hv36, H⟩ := H
        refine w_y (y_ld tok rfl rfl rfl rfl hv36) rfl rfl ?_
        iterate 2 refine wP tok ?_
        exact w_jn (decide (v36 > 5)) H ⟨rfl, rfl, rfl, rfl, trivial⟩
     ·
      refine w_gif (d := 30) H rfl (fun H => ?_) (fun H => ?_)
      ·
       iterate 3 refine w_skip rfl rfl ?_
       refine wP tok ?_
       exact w_jn true H ⟨rfl, rfl, rfl, rfl, trivial⟩
      ·
       refine wP tok ?_
       obtain ⟨v37, hv37, H⟩ := H
       refine w_y (y_ld tok rfl rfl rfl rfl hv37) rfl rfl ?_
       iterate 2 refine wP tok ?_
       exact w_jn (decide (v37 < 1)) H ⟨rfl, rfl, rfl, rfl, trivial⟩
    ·
     refine w_gif (d := 22) H rfl (fun H => ?_) (fun H => ?_)
     ·
      iterate 6 refine w_skip rfl rfl ?_
      refine wP tok ?_
      exact w_jn true H ⟨rfl, rfl, rfl, rfl, trivial⟩
     ·
      iterate 2 refine wP tok ?_
      obtain ⟨a38, ha38, H⟩ := H
      refine w_y (y_nil' rfl rfl ha38) rfl rfl ?_
      refine wP tok ?_
      obtain ⟨v39, hv39, H⟩ := H
      refine w_y (y_ld tok rfl rfl rfl rfl hv39) rfl rfl ?_
      iterate 2 refine wP tok ?_
      exact w_jn (p1 == v39) H ⟨rfl, rfl, rfl, rfl, trivial⟩
   ·
    refine w_gif (d := 14) H rfl (fun H => ?_) (fun H => ?_)
    ·
     iterate 6 refine w_skip rfl rfl ?_
     refine wP tok ?_
     exact w_jn true H ⟨rfl, rfl, rfl, rfl, trivial⟩
    ·
     iterate 2 refine wP tok ?_
     obtain ⟨a40, ha40, H⟩ := H
     refine w_y (y_nil' rfl rfl ha40) rfl rfl ?_
     refine wP tok ?_
     obtain ⟨v41, hv41, H⟩ := H
     refine w_y (y_ld tok rfl rfl rfl rfl hv41) rfl rfl ?_
     iterate 2 refine wP tok ?_
     exact w_jn (decide (p1 ≥ v41)) H ⟨rfl, rfl, rfl, rfl, trivial⟩
  ·
   refine w_gs (d := 10) rfl (fun hb => ?_) (fun hb => ?_)
   ·
    iterate 2 refine w_skip rfl rfl ?_
    refine wP tok ?_
    refine w_jn () rfl ⟨?_, rfl, rfl, rfl, trivial⟩
    exact congrArg (fun b => some (Value.bool b)) (or_t hb)
   ·
    iterate 3 refine wP tok ?_
    refine w_jn () rfl ⟨?_, rfl, rfl, rfl, trivial⟩
    exact congrArg (fun b => some (Value.bool b)) (or_f hb)

end Go.Q.Yh

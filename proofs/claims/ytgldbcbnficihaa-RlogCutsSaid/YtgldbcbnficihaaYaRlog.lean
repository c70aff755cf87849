/- A part of the proof of statements of this seat: lemmas, no statement of their own. -/
import Derived.Test.YtgldbcbnficihaaYaTab
import Derived.Test.YtgldbcbnficihaaYaBytes
import Derived.Test.YtgldbcbnficihaaQConv
set_option linter.unusedVariables false
set_option maxRecDepth 100000
set_option maxHeartbeats 1000000
namespace Go.Q.Ya
/-- quaestor quaestorref01.Pick -/
def ref01_Pick_j1 (t5_1 : Int) (k : (Int) → Heap → Prop) (h_1 : Heap) : Prop :=
  k t5_1 h_1
def ref01_Pick (p0 : Int) (p1 : Int) (k : (Int) → Heap → Prop) (h : Heap) : Prop :=
  if (decide (p1 < 1)) then (k 0 h) else (p1 ≠ 0 ∧ (∃ x2 : Int, x2 = (Int.tmod p0 p1) ∧ (if (decide (x2 < 0)) then (∃ x3 : Int, x3 = (IntKind.i64.wrap (x2 + p1)) ∧ (ref01_Pick_j1 x3 k h)) else (ref01_Pick_j1 x2 k h))))

/-- quaestor quaestorref01.Same -/
def ref01_Same_l1b (t0_1 : Slc) (t1_1 : Slc) (t5_1 : Int) (k : (Bool) → Heap → Prop) (nx1 : (Int) → Heap → Prop) (h_1 : Heap) : Prop :=
  if (decide (t5_1 < (t0_1.len : Int))) then (∃ a1 : Addr, t0_1.a = some a1 ∧ (0 : Int) ≤ t5_1 ∧ t5_1 < (t0_1.len : Int) ∧ (∃ v2 : Int, cellH h_1 (a1.add (t5_1.toNat * 1)) = some (.int .u8 v2) ∧ (∃ a3 : Addr, t1_1.a = some a3 ∧ (0 : Int) ≤ t5_1 ∧ t5_1 < (t1_1.len : Int) ∧ (∃ v4 : Int, cellH h_1 (a3.add (t5_1.toNat * 1)) = some (.int .u8 v4) ∧ (if (v2 != v4) then (k false h_1) else (∃ x5 : Int, x5 = (IntKind.i64.wrap (t5_1 + 1)) ∧ (nx1 x5 h_1))))))) else (k true h_1)
def ref01_Same_l1 (t0_1 : Slc) (t1_1 : Slc) (i5 : Int) (k : (Bool) → Heap → Prop) (h : Heap) : Prop :=
  ∃ (I : Int → Heap → Prop) (μ : Int → Heap → Nat), I i5 h ∧ ∀ (t5_1 : Int) (h : Heap), I t5_1 h → ref01_Same_l1b t0_1 t1_1 t5_1 k (fun s h' => I s h' ∧ μ s h' < μ t5_1 h) h
def ref01_Same (p0 : Slc) (p1 : Slc) (k : (Bool) → Heap → Prop) (h : Heap) : Prop :=
  if ((p0.len : Int) != (p1.len : Int)) then (k false h) else (ref01_Same_l1 p0 p1 0 k h)

/-- quaestor quaestorref23.Great -/
def ref23_Great_l1b (t0_1 : Slc) (t3_1 : Int) (k : (Bool) → Heap → Prop) (nx1 : (Int) → Heap → Prop) (h_1 : Heap) : Prop :=
  if ((decide (t3_1 < (t0_1.len : Int))) && (decide (t3_1 < 100))) then (∃ a1 : Addr, t0_1.a = some a1 ∧ (0 : Int) ≤ t3_1 ∧ t3_1 < (t0_1.len : Int) ∧ (∃ v2 : Slc, cellH h_1 ((a1.add (t3_1.toNat * 2)).add 1) = some (Slc.v v2) ∧ (if (decide ((v2.len : Int) > 300)) then (k true h_1) else (∃ x3 : Int, x3 = (IntKind.i64.wrap (t3_1 + 1)) ∧ (nx1 x3 h_1))))) else (k (decide ((t0_1.len : Int) > 100)) h_1)
def ref23_Great_l1 (t0_1 : Slc) (i3 : Int) (k : (Bool) → Heap → Prop) (h : Heap) : Prop :=
  ∃ (I : Int → Heap → Prop) (μ : Int → Heap → Nat), I i3 h ∧ ∀ (t3_1 : Int) (h : Heap), I t3_1 h → ref23_Great_l1b t0_1 t3_1 k (fun s h' => I s h' ∧ μ s h' < μ t3_1 h) h
def ref23_Great (p0 : Slc) (k : (Bool) → Heap → Prop) (h : Heap) : Prop :=
  ref23_Great_l1 p0 0 k h

/-- quaestor rlog.copied -/
def rlog_copied_l1b (t6_1 : Slc) (t7_1 : Int) (t3_1 : Slc) (t8_1 : Int) (k : (Slc) → Heap → Prop) (nx1 : (Slc × Int) → Heap → Prop) (h_1 : Heap) : Prop :=
  if (decide (t8_1 < t7_1)) then (∃ a1 : Addr, t6_1.a = some a1 ∧ (0 : Int) ≤ t8_1 ∧ t8_1 < (t6_1.len : Int) ∧ (∃ v2 : S_api_Entry, CellsAt h_1 (a1.add (t8_1.toNat * 2)) (S_api_Entry.cs v2) ∧ (∃ (b3 : Nat) (h4 : Heap), b3 = h_1.size ∧ h4 = h_1.push (.cells (S_api_Entry.cs (⟨0, (⟨none, 0, 0⟩ : Slc)⟩ : S_api_Entry)).toArray 64) ∧ (∃ h5 : Heap, WrsAt h4 (⟨b3, 0, none⟩ : Addr) 2 ∧ h5 = setsH h4 (⟨b3, 0, none⟩ : Addr) 0 (S_api_Entry.cs v2) ∧ (∃ v6 : Int, cellH h5 (⟨b3, 0, none⟩ : Addr) = some (.int .u64 v6) ∧ (∃ v7 : Slc, cellH h5 ((⟨b3, 0, none⟩ : Addr).add 1) = some (Slc.v v7) ∧ (slices_Clone_byte_byte v7 (fun (r8 : Slc) h9 => cellH h9 (⟨b3, 0, none⟩ : Addr) = some (.int .u64 v6) ∧ (∃ (b11 : Nat) (h12 : Heap), b11 = h9.size ∧ h12 = h9.push (.cells ((S_api_Entry.cs (⟨v6, r8⟩ : S_api_Entry))).toArray 64) ∧ (App 64 2 32 [.int .u64 0, .slice none 0 0] h12 t3_1 1 ((S_api_Entry.cs (⟨v6, r8⟩ : S_api_Entry))) (fun s13 h14 => nx1 (s13, (IntKind.i64.wrap (t8_1 + 1))) h14)))) h5))))))) else (k t3_1 h_1)
def rlog_copied_l1 (t6_1 : Slc) (t7_1 : Int) (i3 : Slc) (i8 : Int) (k : (Slc) → Heap → Prop) (h : Heap) : Prop :=
  ∃ (I : (Slc × Int) → Heap → Prop) (μ : (Slc × Int) → Heap → Nat), I (i3, i8) h ∧ ∀ (t3_1 : Slc) (t8_1 : Int) (h : Heap), I (t3_1, t8_1) h → rlog_copied_l1b t6_1 t7_1 t3_1 t8_1 k (fun s h' => I s h' ∧ μ s h' < μ (t3_1, t8_1) h) h
def rlog_copied (p0 : Slc) (k : (Slc) → Heap → Prop) (h : Heap) : Prop :=
  rlog_copied_l1 p0 (p0.len : Int) (⟨none, 0, 0⟩ : Slc) 0 k h

/-- quaestor rlog.New -/
def rlog_New (p0 : Int) (p1 : Int) (p2 : Slc) (k : (Option Addr) → Heap → Prop) (h : Heap) : Prop :=
  rlog_copied p2 (fun (r1 : Slc) h2 => ∃ (b3 : Nat) (h4 : Heap), b3 = h2.size ∧ h4 = h2.push (.cells (S_rlog_Log.cs (⟨p0, p1, r1⟩ : S_rlog_Log)).toArray 88) ∧ (k (some (⟨b3, 0, none⟩ : Addr)) h4)) h

/-- slices.Clone   quaestor api.Entry quaestor api.Entry  -/
def slices_Clone_api_Entry_api_Entry (p0 : Slc) (k : (Slc) → Heap → Prop) (h : Heap) : Prop :=
  if (p0.a.isNone) then (k (⟨none, 0, 0⟩ : Slc) h) else (∃ (b1 : Nat) (h2 : Heap), b1 = h.size ∧ h2 = h.push (.cells ([]).toArray 64) ∧ (∃ l5 : List Value, SlcAt h2 p0 l5 ∧ App 64 2 32 [.int .u64 0, .slice none 0 0] h2 (⟨some ⟨b1, 0, none⟩, 0, 0⟩ : Slc) p0.len l5 (fun s3 h4 => k s3 h4)))

/-- quaestor quaestorref23.Same -/
def ref23_Same_j2 (t0_2 : Slc) (t1_2 : Slc) (t5_2 : Int) (t41_2 : Bool) (k : (Bool) → Heap → Prop) (nx1 : (Int) → Heap → Prop) (h_2 : Heap) : Prop :=
  if t41_2 then (k false h_2) else (∃ x1 : Int, x1 = (IntKind.i64.wrap (t5_2 + 1)) ∧ (nx1 x1 h_2))
def ref23_Same_l1b (t0_1 : Slc) (t1_1 : Slc) (t5_1 : Int) (k : (Bool) → Heap → Prop) (nx1 : (Int) → Heap → Prop) (h_1 : Heap) : Prop :=
  if (decide (t5_1 < (t0_1.len : Int))) then (∃ a2 : Addr, t0_1.a = some a2 ∧ (0 : Int) ≤ t5_1 ∧ t5_1 < (t0_1.len : Int) ∧ (∃ v3 : Int, cellH h_1 (a2.add (t5_1.toNat * 2)) = some (.int .u64 v3) ∧ (∃ a4 : Addr, t1_1.a = some a4 ∧ (0 : Int) ≤ t5_1 ∧ t5_1 < (t1_1.len : Int) ∧ (∃ v5 : Int, cellH h_1 (a4.add (t5_1.toNat * 2)) = some (.int .u64 v5) ∧ (if (v3 != v5) then (ref23_Same_j2 t0_1 t1_1 t5_1 true k nx1 h_1) else (∃ a6 : Addr, t0_1.a = some a6 ∧ (0 : Int) ≤ t5_1 ∧ t5_1 < (t0_1.len : Int) ∧ (∃ v7 : Slc, cellH h_1 ((a6.add (t5_1.toNat * 2)).add 1) = some (Slc.v v7) ∧ (∃ a8 : Addr, t1_1.a = some a8 ∧ (0 : Int) ≤ t5_1 ∧ t5_1 < (t1_1.len : Int) ∧ (∃ v9 : Slc, cellH h_1 ((a8.add (t5_1.toNat * 2)).add 1) = some (Slc.v v9) ∧ (ref01_Same v7 v9 (fun (r10 : Bool) h11 => ref23_Same_j2 t0_1 t1_1 t5_1 (!r10) k nx1 h11) h_1)))))))))) else (k true h_1)
def ref23_Same_l1 (t0_1 : Slc) (t1_1 : Slc) (i5 : Int) (k : (Bool) → Heap → Prop) (h : Heap) : Prop :=
  ∃ (I : Int → Heap → Prop) (μ : Int → Heap → Nat), I i5 h ∧ ∀ (t5_1 : Int) (h : Heap), I t5_1 h → ref23_Same_l1b t0_1 t1_1 t5_1 k (fun s h' => I s h' ∧ μ s h' < μ t5_1 h) h
def ref23_Same (p0 : Slc) (p1 : Slc) (k : (Bool) → Heap → Prop) (h : Heap) : Prop :=
  if ((p0.len : Int) != (p1.len : Int)) then (k false h) else (ref23_Same_l1 p0 p1 0 k h)

/-- (*quaestor rlog.Log).Entries -/
def rlog_Log_Entries (p0 : Option Addr) (k : (Slc) → Heap → Prop) (h : Heap) : Prop :=
  if (p0.isNone) then (k (⟨none, 0, 0⟩ : Slc) h) else (∃ a1 : Addr, p0 = some a1 ∧ (∃ v2 : Slc, cellH h (a1.add 2) = some (Slc.v v2) ∧ (rlog_copied v2 (fun (r3 : Slc) h4 => k r3 h4) h)))

/-- (*quaestor rlog.Log).Base -/
def rlog_Log_Base (p0 : Option Addr) (k : (Int × Int) → Heap → Prop) (h : Heap) : Prop :=
  if (p0.isNone) then (k (0, 0) h) else (∃ a1 : Addr, p0 = some a1 ∧ (∃ v2 : Int, cellH h a1 = some (.int .u64 v2) ∧ (∃ v3 : Int, cellH h (a1.add 1) = some (.int .u64 v3) ∧ (k (v2, v3) h))))

/-- (*quaestor rlog.Log).Last -/
def rlog_Log_Last (p0 : Option Addr) (k : (Int × Int) → Heap → Prop) (h : Heap) : Prop :=
  if (p0.isNone) then (k (0, 0) h) else (∃ a1 : Addr, p0 = some a1 ∧ (∃ v2 : Slc, cellH h (a1.add 2) = some (Slc.v v2) ∧ (∃ x3 : Int, x3 = (v2.len : Int) ∧ (if (decide (x3 > 0)) then (∃ v4 : Int, cellH h a1 = some (.int .u64 v4) ∧ (∃ v5 : Slc, cellH h (a1.add 2) = some (Slc.v v5) ∧ (∃ a6 : Addr, v5.a = some a6 ∧ (0 : Int) ≤ (IntKind.i64.wrap (x3 - 1)) ∧ (IntKind.i64.wrap (x3 - 1)) < (v5.len : Int) ∧ (∃ v7 : Int, cellH h (a6.add ((IntKind.i64.wrap (x3 - 1)).toNat * 2)) = some (.int .u64 v7) ∧ (k ((IntKind.u64.wrap (v4 + (IntKind.u64.wrap x3))), v7) h))))) else (∃ v8 : Int, cellH h a1 = some (.int .u64 v8) ∧ (∃ v9 : Int, cellH h (a1.add 1) = some (.int .u64 v9) ∧ (k (v8, v9) h)))))))

/-- (*quaestor rlog.Log).Term -/
def rlog_Log_Term (p0 : Option Addr) (p1 : Int) (k : (Int × Int) → Heap → Prop) (h : Heap) : Prop :=
  rlog_Log_Base p0 (fun (r1 : Int × Int) h2 => rlog_Log_Last p0 (fun (r3 : Int × Int) h4 => if (decide (p1 < r1.1)) then (k (0, 13) h4) else (if (decide (p1 > r3.1)) then (k (0, 6) h4) else (if (p1 == r1.1) then (k (r1.2, 0) h4) else (∃ a5 : Addr, p0 = some a5 ∧ (∃ v6 : Slc, cellH h4 (a5.add 2) = some (Slc.v v6) ∧ (∃ a7 : Addr, v6.a = some a7 ∧ (0 : Int) ≤ (IntKind.u64.wrap ((IntKind.u64.wrap (p1 - r1.1)) - 1)) ∧ (IntKind.u64.wrap ((IntKind.u64.wrap (p1 - r1.1)) - 1)) < (v6.len : Int) ∧ (∃ v8 : Int, cellH h4 (a7.add ((IntKind.u64.wrap ((IntKind.u64.wrap (p1 - r1.1)) - 1)).toNat * 2)) = some (.int .u64 v8) ∧ (k (v8, 0) h4)))))))) h2) h

/-- (*quaestor quaestorref23.Log).Last -/
def ref23_Log_Last (p0 : Option Addr) (k : (Int × Int) → Heap → Prop) (h : Heap) : Prop :=
  ∃ a1 : Addr, p0 = some a1 ∧ (∃ v2 : Slc, cellH h (a1.add 2) = some (Slc.v v2) ∧ (if ((v2.len : Int) == 0) then (∃ v3 : Int, cellH h a1 = some (.int .u64 v3) ∧ (∃ v4 : Int, cellH h (a1.add 1) = some (.int .u64 v4) ∧ (k (v3, v4) h))) else (∃ v5 : Int, cellH h a1 = some (.int .u64 v5) ∧ (∃ v6 : Slc, cellH h (a1.add 2) = some (Slc.v v6) ∧ (∃ v7 : Slc, cellH h (a1.add 2) = some (Slc.v v7) ∧ (∃ v8 : Slc, cellH h (a1.add 2) = some (Slc.v v8) ∧ (∃ a9 : Addr, v7.a = some a9 ∧ (0 : Int) ≤ (IntKind.i64.wrap ((v8.len : Int) - 1)) ∧ (IntKind.i64.wrap ((v8.len : Int) - 1)) < (v7.len : Int) ∧ (∃ v10 : Int, cellH h (a9.add ((IntKind.i64.wrap ((v8.len : Int) - 1)).toNat * 2)) = some (.int .u64 v10) ∧ (k ((IntKind.u64.wrap (v5 + (IntKind.u64.wrap (v6.len : Int)))), v10) h)))))))))

/-- (*quaestor quaestorref23.Log).TermOf -/
def ref23_Log_TermOf (p0 : Option Addr) (p1 : Int) (k : (Int × Int) → Heap → Prop) (h : Heap) : Prop :=
  ref23_Log_Last p0 (fun (r1 : Int × Int) h2 => ∃ a3 : Addr, p0 = some a3 ∧ (∃ v4 : Int, cellH h2 a3 = some (.int .u64 v4) ∧ (if (decide (p1 < v4)) then (k (0, 13) h2) else (if (decide (p1 > r1.1)) then (k (0, 6) h2) else (∃ v5 : Int, cellH h2 a3 = some (.int .u64 v5) ∧ (if (p1 == v5) then (∃ v6 : Int, cellH h2 (a3.add 1) = some (.int .u64 v6) ∧ (k (v6, 0) h2)) else (∃ v7 : Slc, cellH h2 (a3.add 2) = some (Slc.v v7) ∧ (∃ v8 : Int, cellH h2 a3 = some (.int .u64 v8) ∧ (∃ a9 : Addr, v7.a = some a9 ∧ (0 : Int) ≤ (IntKind.u64.wrap ((IntKind.u64.wrap (p1 - v8)) - 1)) ∧ (IntKind.u64.wrap ((IntKind.u64.wrap (p1 - v8)) - 1)) < (v7.len : Int) ∧ (∃ v10 : Int, cellH h2 (a9.add ((IntKind.u64.wrap ((IntKind.u64.wrap (p1 - v8)) - 1)).toNat * 2)) = some (.int .u64 v10) ∧ (k (v10, 0) h2))))))))))) h

/-- (*quaestor quaestorref23.Log).Newer -/
def ref23_Log_Newer (p0 : Option Addr) (p1 : Int) (p2 : Int) (k : (Bool) → Heap → Prop) (h : Heap) : Prop :=
  ref23_Log_Last p0 (fun (r1 : Int × Int) h2 => k ((decide (p2 > r1.2)) || ((p2 == r1.2) && (decide (p1 ≥ r1.1)))) h2) h

/-- (*quaestor rlog.Log).Newer -/
def rlog_Log_Newer (p0 : Option Addr) (p1 : Int) (p2 : Int) (k : (Bool) → Heap → Prop) (h : Heap) : Prop :=
  rlog_Log_Last p0 (fun (r1 : Int × Int) h2 => k ((decide (p2 > r1.2)) || ((p2 == r1.2) && (decide (p1 ≥ r1.1)))) h2) h

/-- (*quaestor rlog.Log).From -/
def rlog_Log_From (p0 : Option Addr) (p1 : Int) (p2 : Int) (k : (Slc × Int) → Heap → Prop) (h : Heap) : Prop :=
  if (p1 == 0) then (k ((⟨none, 0, 0⟩ : Slc), 1) h) else (rlog_Log_Term p0 (IntKind.u64.wrap (p1 - 1)) (fun (r1 : Int × Int) h2 => if (r1.2 != 0) then (k ((⟨none, 0, 0⟩ : Slc), r1.2) h2) else (if (p0.isNone) then (k ((⟨none, 0, 0⟩ : Slc), 0) h2) else (∃ a3 : Addr, p0 = some a3 ∧ (∃ v4 : Slc, cellH h2 (a3.add 2) = some (Slc.v v4) ∧ (∃ v5 : Int, cellH h2 a3 = some (.int .u64 v5) ∧ (∃ s6 : Slc, (0 : Int) ≤ (IntKind.u64.wrap ((IntKind.u64.wrap (p1 - 1)) - v5)) ∧ ((IntKind.u64.wrap ((IntKind.u64.wrap (p1 - 1)) - v5)) : Int) ≤ (v4.len : Int) ∧ ((v4.len : Int) : Int) ≤ (v4.cap : Int) ∧ (v4.cap : Int) ≤ (v4.cap : Int) ∧ s6 = subS v4 2 (IntKind.u64.wrap ((IntKind.u64.wrap (p1 - 1)) - v5)).toNat (v4.len : Int).toNat (v4.cap : Int).toNat ∧ (∃ s7 : Slc, (0 : Int) ≤ 0 ∧ (0 : Int) ≤ (if (if (s6.len : Int) < p2 then (s6.len : Int) else p2) > 0 then (if (s6.len : Int) < p2 then (s6.len : Int) else p2) else 0) ∧ ((if (if (s6.len : Int) < p2 then (s6.len : Int) else p2) > 0 then (if (s6.len : Int) < p2 then (s6.len : Int) else p2) else 0) : Int) ≤ (s6.cap : Int) ∧ (s6.cap : Int) ≤ (s6.cap : Int) ∧ s7 = subS s6 2 (0 : Int).toNat (if (if (s6.len : Int) < p2 then (s6.len : Int) else p2) > 0 then (if (s6.len : Int) < p2 then (s6.len : Int) else p2) else 0).toNat (s6.cap : Int).toNat ∧ (rlog_copied s7 (fun (r8 : Slc) h9 => k (r8, 0) h9) h2)))))))) h)

/-- (*quaestor quaestorref23.Log).From -/
def ref23_Log_From_l1b (t0_1 : Option Addr) (t2_1 : Int) (t10_1 : Slc) (t11_1 : Int) (k : (Slc × Int) → Heap → Prop) (nx1 : (Slc × Int) → Heap → Prop) (h_1 : Heap) : Prop :=
  ∃ a6 : Addr, t0_1 = some a6 ∧ (∃ v7 : Slc, cellH h_1 (a6.add 2) = some (Slc.v v7) ∧ (if ((decide (t11_1 < (v7.len : Int))) && (decide ((t10_1.len : Int) < t2_1))) then (∃ v8 : Slc, cellH h_1 (a6.add 2) = some (Slc.v v8) ∧ (∃ a9 : Addr, v8.a = some a9 ∧ (0 : Int) ≤ t11_1 ∧ t11_1 < (v8.len : Int) ∧ (∃ v10 : S_api_Entry, CellsAt h_1 (a9.add (t11_1.toNat * 2)) (S_api_Entry.cs v10) ∧ (∃ (b11 : Nat) (h12 : Heap), b11 = h_1.size ∧ h12 = h_1.push (.cells ((S_api_Entry.cs v10)).toArray 64) ∧ (App 64 2 32 [.int .u64 0, .slice none 0 0] h12 t10_1 1 ((S_api_Entry.cs v10)) (fun s13 h14 => ∃ x15 : Int, x15 = (IntKind.i64.wrap (t11_1 + 1)) ∧ (nx1 (s13, x15) h14))))))) else (k (t10_1, 0) h_1)))
def ref23_Log_From_l1 (t0_1 : Option Addr) (t2_1 : Int) (i10 : Slc) (i11 : Int) (k : (Slc × Int) → Heap → Prop) (h : Heap) : Prop :=
  ∃ (I : (Slc × Int) → Heap → Prop) (μ : (Slc × Int) → Heap → Nat), I (i10, i11) h ∧ ∀ (t10_1 : Slc) (t11_1 : Int) (h : Heap), I (t10_1, t11_1) h → ref23_Log_From_l1b t0_1 t2_1 t10_1 t11_1 k (fun s h' => I s h' ∧ μ s h' < μ (t10_1, t11_1) h) h
def ref23_Log_From (p0 : Option Addr) (p1 : Int) (p2 : Int) (k : (Slc × Int) → Heap → Prop) (h : Heap) : Prop :=
  if (p1 == 0) then (k ((⟨none, 0, 0⟩ : Slc), 1) h) else (ref23_Log_TermOf p0 (IntKind.u64.wrap (p1 - 1)) (fun (r1 : Int × Int) h2 => if (r1.2 != 0) then (k ((⟨none, 0, 0⟩ : Slc), r1.2) h2) else (∃ a3 : Addr, p0 = some a3 ∧ (∃ v4 : Int, cellH h2 a3 = some (.int .u64 v4) ∧ (∃ x5 : Int, x5 = (IntKind.i64.wrap (IntKind.u64.wrap ((IntKind.u64.wrap (p1 - 1)) - v4))) ∧ (ref23_Log_From_l1 p0 p2 (⟨none, 0, 0⟩ : Slc) x5 k h2))))) h)

/-- (*quaestor rlog.Log).Match -/
def rlog_Log_Match (p0 : Option Addr) (p1 : Int) (p2 : Int) (k : (Bool) → Heap → Prop) (h : Heap) : Prop :=
  rlog_Log_Term p0 p1 (fun (r1 : Int × Int) h2 => k ((r1.2 == 0) && (r1.1 == p2)) h2) h

/-- (*quaestor rlog.Log).Append -/
def rlog_Log_Append_j3 (t0_3 : Option Addr) (t1_3 : Int) (t8_3 : Int) (t39_3 : Slc) (t40_3 : Int) (t41_3 : Int) (t10_3 : Slc) (k : (Int × Int) → Heap → Prop) (nx2 : (Slc × Int) → Heap → Prop) (h_3 : Heap) : Prop :=
  nx2 (t10_3, (IntKind.i64.wrap (t41_3 + 1))) h_3
def rlog_Log_Append_j4 (t0_4 : Option Addr) (t1_4 : Int) (t8_4 : Int) (t12_4 : Addr) (t39_4 : Slc) (t40_4 : Int) (t41_4 : Int) (t10_4 : Slc) (k : (Int × Int) → Heap → Prop) (nx2 : (Slc × Int) → Heap → Prop) (h_4 : Heap) : Prop :=
  ∃ v16 : S_api_Entry, CellsAt h_4 t12_4 (S_api_Entry.cs v16) ∧ (∃ (b17 : Nat) (h18 : Heap), b17 = h_4.size ∧ h18 = h_4.push (.cells ((S_api_Entry.cs v16)).toArray 64) ∧ (rlog_copied (⟨some ⟨b17, 0, none⟩, 1, 1⟩ : Slc) (fun (r19 : Slc) h20 => ∃ l23 : List Value, SlcAt h20 r19 l23 ∧ App 64 2 32 [.int .u64 0, .slice none 0 0] h20 t10_4 r19.len l23 (fun s21 h22 => rlog_Log_Append_j3 t0_4 t1_4 t8_4 t39_4 t40_4 t41_4 s21 k nx2 h22)) h18))
def rlog_Log_Append_l2b (t0_2 : Option Addr) (t1_2 : Int) (t8_2 : Int) (t39_2 : Slc) (t40_2 : Int) (t10_2 : Slc) (t41_2 : Int) (k : (Int × Int) → Heap → Prop) (nx2 : (Slc × Int) → Heap → Prop) (h_2 : Heap) : Prop :=
  if (decide (t41_2 < t40_2)) then (∃ a6 : Addr, t39_2.a = some a6 ∧ (0 : Int) ≤ t41_2 ∧ t41_2 < (t39_2.len : Int) ∧ (∃ v7 : S_api_Entry, CellsAt h_2 (a6.add (t41_2.toNat * 2)) (S_api_Entry.cs v7) ∧ (∃ (b8 : Nat) (h9 : Heap), b8 = h_2.size ∧ h9 = h_2.push (.cells (S_api_Entry.cs (⟨0, (⟨none, 0, 0⟩ : Slc)⟩ : S_api_Entry)).toArray 64) ∧ (∃ h10 : Heap, WrsAt h9 (⟨b8, 0, none⟩ : Addr) 2 ∧ h10 = setsH h9 (⟨b8, 0, none⟩ : Addr) 0 (S_api_Entry.cs v7) ∧ (∃ x11 : Int, x11 = (IntKind.u64.wrap ((IntKind.u64.wrap (t1_2 + (IntKind.u64.wrap t41_2))) + 1)) ∧ (∃ a12 : Addr, t0_2 = some a12 ∧ (∃ v13 : Int, cellH h10 a12 = some (.int .u64 v13) ∧ (if (decide (x11 ≤ v13)) then (rlog_Log_Append_j3 t0_2 t1_2 t8_2 t39_2 t40_2 t41_2 t10_2 k nx2 h10) else (∃ v14 : Int, cellH h10 a12 = some (.int .u64 v14) ∧ (∃ x15 : Int, x15 = (IntKind.i64.wrap (IntKind.u64.wrap ((IntKind.u64.wrap (x11 - v14)) - 1))) ∧ (if (decide (x15 < (t10_2.len : Int))) then (∃ a24 : Addr, t10_2.a = some a24 ∧ (0 : Int) ≤ x15 ∧ x15 < (t10_2.len : Int) ∧ (∃ v25 : Int, cellH h10 (a24.add (x15.toNat * 2)) = some (.int .u64 v25) ∧ (∃ v26 : Int, cellH h10 (⟨b8, 0, none⟩ : Addr) = some (.int .u64 v26) ∧ (if (v25 == v26) then (rlog_Log_Append_j3 t0_2 t1_2 t8_2 t39_2 t40_2 t41_2 t10_2 k nx2 h10) else (∃ s27 : Slc, (0 : Int) ≤ 0 ∧ (0 : Int) ≤ x15 ∧ (x15 : Int) ≤ x15 ∧ x15 ≤ (t10_2.cap : Int) ∧ s27 = subS t10_2 2 (0 : Int).toNat x15.toNat x15.toNat ∧ (rlog_Log_Append_j4 t0_2 t1_2 t8_2 (⟨b8, 0, none⟩ : Addr) t39_2 t40_2 t41_2 s27 k nx2 h10)))))) else (rlog_Log_Append_j4 t0_2 t1_2 t8_2 (⟨b8, 0, none⟩ : Addr) t39_2 t40_2 t41_2 t10_2 k nx2 h10)))))))))))) else (if (decide ((t10_2.len : Int) > 64)) then (k (0, 8) h_2) else (∃ a28 : Addr, t0_2 = some a28 ∧ (∃ h29 : Heap, WrH h_2 (a28.add 2) ∧ h29 = setH h_2 (a28.add 2) (Slc.v t10_2) ∧ (k (t8_2, 0) h29))))
def rlog_Log_Append_l2 (t0_2 : Option Addr) (t1_2 : Int) (t8_2 : Int) (t39_2 : Slc) (t40_2 : Int) (i10 : Slc) (i41 : Int) (k : (Int × Int) → Heap → Prop) (h : Heap) : Prop :=
  ∃ (I : (Slc × Int) → Heap → Prop) (μ : (Slc × Int) → Heap → Nat), I (i10, i41) h ∧ ∀ (t10_2 : Slc) (t41_2 : Int) (h : Heap), I (t10_2, t41_2) h → rlog_Log_Append_l2b t0_2 t1_2 t8_2 t39_2 t40_2 t10_2 t41_2 k (fun s h' => I s h' ∧ μ s h' < μ (t10_2, t41_2) h) h
def rlog_Log_Append_g1 (t0_1 : Option Addr) (t1_1 : Int) (t3_1 : Slc) (t29_1 : Bool) (k : (Int × Int) → Heap → Prop) (h_1 : Heap) : Prop :=
  if t29_1 then (k (0, 6) h_1) else (∃ x3 : Int, x3 = (IntKind.u64.wrap (t1_1 + (IntKind.u64.wrap (t3_1.len : Int)))) ∧ (∃ a4 : Addr, t0_1 = some a4 ∧ (∃ v5 : Slc, cellH h_1 (a4.add 2) = some (Slc.v v5) ∧ (rlog_Log_Append_l2 t0_1 t1_1 x3 t3_1 (t3_1.len : Int) v5 0 k h_1))))
def rlog_Log_Append (p0 : Option Addr) (p1 : Int) (p2 : Int) (p3 : Slc) (k : (Int × Int) → Heap → Prop) (h : Heap) : Prop :=
  if (p0.isNone) then (k (0, 1) h) else (∃ a1 : Addr, p0 = some a1 ∧ (∃ v2 : Int, cellH h a1 = some (.int .u64 v2) ∧ (if (decide (p1 ≥ v2)) then (rlog_Log_Match p0 p1 p2 (fun (r30 : Bool) h31 => rlog_Log_Append_g1 p0 p1 p3 (!r30) k h31) h) else (rlog_Log_Append_g1 p0 p1 p3 false k h))))

/-- (*quaestor quaestorref23.Log).Append -/
def ref23_Log_Append_j2 (t0_2 : Option Addr) (t1_2 : Int) (t3_2 : Slc) (t13_2 : Int) (t12_2 : Slc) (k : (Int × Int) → Heap → Prop) (nx1 : (Slc × Int) → Heap → Prop) (h_2 : Heap) : Prop :=
  ∃ x11 : Int, x11 = (IntKind.i64.wrap (t13_2 + 1)) ∧ (nx1 (t12_2, x11) h_2)
def ref23_Log_Append_j4 (t0_4 : Option Addr) (t1_4 : Int) (t3_4 : Slc) (t13_4 : Int) (t12_4 : Slc) (k : (Int × Int) → Heap → Prop) (nx1 : (Slc × Int) → Heap → Prop) (h_4 : Heap) : Prop :=
  ∃ a17 : Addr, t3_4.a = some a17 ∧ (0 : Int) ≤ t13_4 ∧ t13_4 < (t3_4.len : Int) ∧ (∃ v18 : S_api_Entry, CellsAt h_4 (a17.add (t13_4.toNat * 2)) (S_api_Entry.cs v18) ∧ (∃ (b19 : Nat) (h20 : Heap), b19 = h_4.size ∧ h20 = h_4.push (.cells ((S_api_Entry.cs v18)).toArray 64) ∧ (App 64 2 32 [.int .u64 0, .slice none 0 0] h20 t12_4 1 ((S_api_Entry.cs v18)) (fun s21 h22 => ref23_Log_Append_j2 t0_4 t1_4 t3_4 t13_4 s21 k nx1 h22))))
def ref23_Log_Append_g3 (t0_3 : Option Addr) (t1_3 : Int) (t3_3 : Slc) (t12_3 : Slc) (t13_3 : Int) (t15_3 : Int) (t84_3 : Bool) (k : (Int × Int) → Heap → Prop) (nx1 : (Slc × Int) → Heap → Prop) (h_3 : Heap) : Prop :=
  if t84_3 then (ref23_Log_Append_j2 t0_3 t1_3 t3_3 t13_3 t12_3 k nx1 h_3) else (if (decide (t15_3 < (t12_3.len : Int))) then (∃ (b23 : Nat) (h24 : Heap), b23 = h_3.size ∧ h24 = h_3.push (.cells ([]).toArray 64) ∧ (∃ s25 : Slc, (0 : Int) ≤ 0 ∧ (0 : Int) ≤ t15_3 ∧ (t15_3 : Int) ≤ (t12_3.cap : Int) ∧ (t12_3.cap : Int) ≤ (t12_3.cap : Int) ∧ s25 = subS t12_3 2 (0 : Int).toNat t15_3.toNat (t12_3.cap : Int).toNat ∧ (∃ l28 : List Value, SlcAt h24 s25 l28 ∧ App 64 2 32 [.int .u64 0, .slice none 0 0] h24 (⟨some ⟨b23, 0, none⟩, 0, 0⟩ : Slc) s25.len l28 (fun s26 h27 => ref23_Log_Append_j4 t0_3 t1_3 t3_3 t13_3 s26 k nx1 h27)))) else (ref23_Log_Append_j4 t0_3 t1_3 t3_3 t13_3 t12_3 k nx1 h_3))
def ref23_Log_Append_l1b (t0_1 : Option Addr) (t1_1 : Int) (t3_1 : Slc) (t12_1 : Slc) (t13_1 : Int) (k : (Int × Int) → Heap → Prop) (nx1 : (Slc × Int) → Heap → Prop) (h_1 : Heap) : Prop :=
  if (decide (t13_1 < (t3_1.len : Int))) then (∃ x12 : Int, x12 = (IntKind.u64.wrap ((IntKind.u64.wrap (t1_1 + (IntKind.u64.wrap t13_1))) + 1)) ∧ (∃ a13 : Addr, t0_1 = some a13 ∧ (∃ v14 : Int, cellH h_1 a13 = some (.int .u64 v14) ∧ (if (decide (x12 ≤ v14)) then (ref23_Log_Append_j2 t0_1 t1_1 t3_1 t13_1 t12_1 k nx1 h_1) else (∃ v15 : Int, cellH h_1 a13 = some (.int .u64 v15) ∧ (∃ x16 : Int, x16 = (IntKind.i64.wrap (IntKind.u64.wrap ((IntKind.u64.wrap (x12 - v15)) - 1))) ∧ (if (decide (x16 < (t12_1.len : Int))) then (∃ a29 : Addr, t12_1.a = some a29 ∧ (0 : Int) ≤ x16 ∧ x16 < (t12_1.len : Int) ∧ (∃ v30 : Int, cellH h_1 (a29.add (x16.toNat * 2)) = some (.int .u64 v30) ∧ (∃ a31 : Addr, t3_1.a = some a31 ∧ (0 : Int) ≤ t13_1 ∧ t13_1 < (t3_1.len : Int) ∧ (∃ v32 : Int, cellH h_1 (a31.add (t13_1.toNat * 2)) = some (.int .u64 v32) ∧ (ref23_Log_Append_g3 t0_1 t1_1 t3_1 t12_1 t13_1 x16 (v30 == v32) k nx1 h_1))))) else (ref23_Log_Append_g3 t0_1 t1_1 t3_1 t12_1 t13_1 x16 false k nx1 h_1)))))))) else (if (decide ((t12_1.len : Int) > 64)) then (k (0, 8) h_1) else (∃ a33 : Addr, t0_1 = some a33 ∧ (∃ h34 : Heap, WrH h_1 (a33.add 2) ∧ h34 = setH h_1 (a33.add 2) (Slc.v t12_1) ∧ (∃ x35 : Int, x35 = (IntKind.u64.wrap (t1_1 + (IntKind.u64.wrap (t3_1.len : Int)))) ∧ (k (x35, 0) h34)))))
def ref23_Log_Append_l1 (t0_1 : Option Addr) (t1_1 : Int) (t3_1 : Slc) (i12 : Slc) (i13 : Int) (k : (Int × Int) → Heap → Prop) (h : Heap) : Prop :=
  ∃ (I : (Slc × Int) → Heap → Prop) (μ : (Slc × Int) → Heap → Nat), I (i12, i13) h ∧ ∀ (t12_1 : Slc) (t13_1 : Int) (h : Heap), I (t12_1, t13_1) h → ref23_Log_Append_l1b t0_1 t1_1 t3_1 t12_1 t13_1 k (fun s h' => I s h' ∧ μ s h' < μ (t12_1, t13_1) h) h
def ref23_Log_Append (p0 : Option Addr) (p1 : Int) (p2 : Int) (p3 : Slc) (k : (Int × Int) → Heap → Prop) (h : Heap) : Prop :=
  ref23_Log_TermOf p0 p1 (fun (r1 : Int × Int) h2 => ∃ a3 : Addr, p0 = some a3 ∧ (∃ v4 : Int, cellH h2 a3 = some (.int .u64 v4) ∧ (if ((decide (p1 ≥ v4)) && ((r1.2 != 0) || (r1.1 != p2))) then (k (0, 6) h2) else (∃ (b5 : Nat) (h6 : Heap), b5 = h2.size ∧ h6 = h2.push (.cells ([]).toArray 64) ∧ (∃ v7 : Slc, cellH h6 (a3.add 2) = some (Slc.v v7) ∧ (∃ l10 : List Value, SlcAt h6 v7 l10 ∧ App 64 2 32 [.int .u64 0, .slice none 0 0] h6 (⟨some ⟨b5, 0, none⟩, 0, 0⟩ : Slc) v7.len l10 (fun s8 h9 => ref23_Log_Append_l1 p0 p1 p3 s8 0 k h9))))))) h

/-- (*quaestor rlog.Log).Cut -/
def rlog_Log_Cut (p0 : Option Addr) (p1 : Int) (k : (Int) → Heap → Prop) (h : Heap) : Prop :=
  if (p0.isNone) then (k 1 h) else (rlog_Log_Term p0 p1 (fun (r1 : Int × Int) h2 => if (r1.2 != 0) then (k r1.2 h2) else (∃ a3 : Addr, p0 = some a3 ∧ (∃ v4 : Slc, cellH h2 (a3.add 2) = some (Slc.v v4) ∧ (∃ v5 : Int, cellH h2 a3 = some (.int .u64 v5) ∧ (∃ s6 : Slc, (0 : Int) ≤ (IntKind.u64.wrap (p1 - v5)) ∧ ((IntKind.u64.wrap (p1 - v5)) : Int) ≤ (v4.len : Int) ∧ ((v4.len : Int) : Int) ≤ (v4.cap : Int) ∧ (v4.cap : Int) ≤ (v4.cap : Int) ∧ s6 = subS v4 2 (IntKind.u64.wrap (p1 - v5)).toNat (v4.len : Int).toNat (v4.cap : Int).toNat ∧ (slices_Clone_api_Entry_api_Entry s6 (fun (r7 : Slc) h8 => ∃ h9 : Heap, WrH h8 (a3.add 2) ∧ h9 = setH h8 (a3.add 2) (Slc.v r7) ∧ (∃ h10 : Heap, WrH h9 a3 ∧ h10 = setH h9 a3 (.int .u64 p1) ∧ (∃ h11 : Heap, WrH h10 (a3.add 1) ∧ h11 = setH h10 (a3.add 1) (.int .u64 r1.1) ∧ (k 0 h11)))) h2)))))) h)

/-- (*quaestor quaestorref23.Log).Cut -/
def ref23_Log_Cut (p0 : Option Addr) (p1 : Int) (k : (Int) → Heap → Prop) (h : Heap) : Prop :=
  ref23_Log_TermOf p0 p1 (fun (r1 : Int × Int) h2 => if (r1.2 != 0) then (k r1.2 h2) else (∃ a3 : Addr, p0 = some a3 ∧ (∃ v4 : Slc, cellH h2 (a3.add 2) = some (Slc.v v4) ∧ (∃ v5 : Int, cellH h2 a3 = some (.int .u64 v5) ∧ (∃ s6 : Slc, (0 : Int) ≤ (IntKind.u64.wrap (p1 - v5)) ∧ ((IntKind.u64.wrap (p1 - v5)) : Int) ≤ (v4.len : Int) ∧ ((v4.len : Int) : Int) ≤ (v4.cap : Int) ∧ (v4.cap : Int) ≤ (v4.cap : Int) ∧ s6 = subS v4 2 (IntKind.u64.wrap (p1 - v5)).toNat (v4.len : Int).toNat (v4.cap : Int).toNat ∧ (∃ (b7 : Nat) (h8 : Heap), b7 = h2.size ∧ h8 = h2.push (.cells ([]).toArray 64) ∧ (cellH h8 a3 = some (.int .u64 v5) ∧ cellH h8 (a3.add 2) = some (Slc.v v4) ∧ (∃ l13 : List Value, SlcAt h8 s6 l13 ∧ App 64 2 32 [.int .u64 0, .slice none 0 0] h8 (⟨some ⟨b7, 0, none⟩, 0, 0⟩ : Slc) s6.len l13 (fun s11 h12 => ∃ h14 : Heap, WrH h12 (a3.add 2) ∧ h14 = setH h12 (a3.add 2) (Slc.v s11) ∧ (∃ h15 : Heap, WrH h14 a3 ∧ h15 = setH h14 a3 (.int .u64 p1) ∧ (∃ h16 : Heap, WrH h15 (a3.add 1) ∧ h16 = setH h15 (a3.add 1) (.int .u64 r1.1) ∧ (k 0 h16)))))))))))) h

/-- quaestor quaestorlaw23.awake -/
def law23_awake_g1 (t38_1 : Bool) (k : (Bool) → Heap → Prop) (h_1 : Heap) : Prop :=
  k t38_1 h_1
def law23_awake (k : (Bool) → Heap → Prop) (h : Heap) : Prop :=
  ∃ (b1 : Nat) (h2 : Heap), b1 = h.size ∧ h2 = h.push (.cells ([.int .u8 97]).toArray 5) ∧ (∃ h3 : Heap, h3 = h.push (.cells ([.int .u8 97]).toArray 5 (1, 2)) ∧ (∃ (b4 : Nat) (h5 : Heap), b4 = h3.size ∧ h5 = h3.push (.cells ([.int .u8 98]).toArray 5) ∧ (∃ h6 : Heap, h6 = h3.push (.cells ([.int .u8 98]).toArray 5 (1, 2)) ∧ (∃ (b7 : Nat) (h8 : Heap), b7 = h6.size ∧ h8 = h6.push (.cells ((S_api_Entry.cs (⟨1, (⟨some ⟨b1, 0, none⟩, 1, 1⟩ : Slc)⟩ : S_api_Entry)) ++ (S_api_Entry.cs (⟨1, (⟨some ⟨b4, 0, none⟩, 1, 1⟩ : Slc)⟩ : S_api_Entry))).toArray 64) ∧ (rlog_New 0 0 (⟨some ⟨b7, 0, none⟩, 2, 2⟩ : Slc) (fun (r9 : Option Addr) h10 => ∃ (b11 : Nat) (h12 : Heap), b11 = h10.size ∧ h12 = h10.push (.cells ([.int .u8 99]).toArray 5) ∧ (∃ h13 : Heap, h13 = h10.push (.cells ([.int .u8 99]).toArray 5 (1, 2)) ∧ (∃ (b14 : Nat) (h15 : Heap), b14 = h13.size ∧ h15 = h13.push (.cells ((S_api_Entry.cs (⟨2, (⟨some ⟨b11, 0, none⟩, 1, 1⟩ : Slc)⟩ : S_api_Entry))).toArray 64) ∧ (rlog_Log_Append r9 1 1 (⟨some ⟨b14, 0, none⟩, 1, 1⟩ : Slc) (fun (r16 : Int × Int) h17 => if ((r16.1 == 2) && (r16.2 == 0)) then (rlog_Log_Entries r9 (fun (r18 : Slc) h19 => ∃ (b20 : Nat) (h21 : Heap), b20 = h19.size ∧ h21 = h19.push (.cells ([.int .u8 97]).toArray 5) ∧ (∃ h22 : Heap, h22 = h19.push (.cells ([.int .u8 97]).toArray 5 (1, 2)) ∧ (∃ (b23 : Nat) (h24 : Heap), b23 = h22.size ∧ h24 = h22.push (.cells ([.int .u8 99]).toArray 5) ∧ (∃ h25 : Heap, h25 = h22.push (.cells ([.int .u8 99]).toArray 5 (1, 2)) ∧ (∃ (b26 : Nat) (h27 : Heap), b26 = h25.size ∧ h27 = h25.push (.cells ((S_api_Entry.cs (⟨1, (⟨some ⟨b20, 0, none⟩, 1, 1⟩ : Slc)⟩ : S_api_Entry)) ++ (S_api_Entry.cs (⟨2, (⟨some ⟨b23, 0, none⟩, 1, 1⟩ : Slc)⟩ : S_api_Entry))).toArray 64) ∧ (ref23_Same r18 (⟨some ⟨b26, 0, none⟩, 2, 2⟩ : Slc) (fun (r28 : Bool) h29 => law23_awake_g1 r28 k h29) h27)))))) h17) else (law23_awake_g1 false k h17)) h15)))) h8)))))

/-- quaestor quaestorlaw23.RlogCuts -/
def law23_RlogCuts_g2 (t62_2 : Bool) (k : (Bool) → Heap → Prop) (h_2 : Heap) : Prop :=
  k t62_2 h_2
def law23_RlogCuts_j4 (t10_4 : Bool) (k : (Bool) → Heap → Prop) (nx3 : (Int) → Heap → Prop) (h_4 : Heap) : Prop :=
  k t10_4 h_4
def law23_RlogCuts_l3b (t0_3 : Int) (t2_3 : Slc) (t3_3 : Int) (t4_3 : Slc) (t11_3 : Option Addr) (t12_3 : Option Addr) (t14_3 : Int) (k : (Bool) → Heap → Prop) (nx3 : (Int) → Heap → Prop) (h_3 : Heap) : Prop :=
  if (decide (t14_3 < (IntKind.u64.wrap (t3_3 + 70)))) then (rlog_Log_Term t11_3 t14_3 (fun (r24 : Int × Int) h25 => rlog_Log_Term t12_3 t14_3 (fun (r26 : Int × Int) h27 => if ((r24.1 != r26.1) || (r24.2 != r26.2)) then (k false h27) else (∃ x28 : Int, x28 = (IntKind.u64.wrap (t14_3 + 1)) ∧ (nx3 x28 h27))) h25) h_3) else (∃ x29 : Int, x29 = (if (IntKind.i64.wrap (if 100 < t3_3 then 100 else t3_3)) < (t4_3.len : Int) then (IntKind.i64.wrap (if 100 < t3_3 then 100 else t3_3)) else (t4_3.len : Int)) ∧ (∃ s30 : Slc, (0 : Int) ≤ 0 ∧ (0 : Int) ≤ x29 ∧ (x29 : Int) ≤ (t4_3.cap : Int) ∧ (t4_3.cap : Int) ≤ (t4_3.cap : Int) ∧ s30 = subS t4_3 2 (0 : Int).toNat x29.toNat (t4_3.cap : Int).toNat ∧ (rlog_Log_Append t11_3 (IntKind.u64.wrap (t3_3 - (IntKind.u64.wrap x29))) 77 s30 (fun (r31 : Int × Int) h32 => if (x29 == 0) then (law23_awake  (fun (r33 : Bool) h34 => k r33 h34) h32) else (if (r31.2 == 0) then (if (r31.1 == t3_3) then (∃ s35 : Slc, (0 : Int) ≤ (IntKind.u64.wrap (t3_3 - t0_3)) ∧ ((IntKind.u64.wrap (t3_3 - t0_3)) : Int) ≤ (t2_3.len : Int) ∧ ((t2_3.len : Int) : Int) ≤ (t2_3.cap : Int) ∧ (t2_3.cap : Int) ≤ (t2_3.cap : Int) ∧ s35 = subS t2_3 2 (IntKind.u64.wrap (t3_3 - t0_3)).toNat (t2_3.len : Int).toNat (t2_3.cap : Int).toNat ∧ (rlog_Log_Entries t11_3 (fun (r36 : Slc) h37 => ref23_Same r36 s35 (fun (r38 : Bool) h39 => if r38 then (law23_awake  (fun (r40 : Bool) h41 => law23_RlogCuts_j4 r40 k nx3 h41) h39) else (law23_RlogCuts_j4 false k nx3 h39)) h37) h32)) else (if false then (law23_awake  (fun (r42 : Bool) h43 => law23_RlogCuts_j4 r42 k nx3 h43) h32) else (law23_RlogCuts_j4 false k nx3 h32))) else (if false then (∃ s44 : Slc, (0 : Int) ≤ (IntKind.u64.wrap (t3_3 - t0_3)) ∧ ((IntKind.u64.wrap (t3_3 - t0_3)) : Int) ≤ (t2_3.len : Int) ∧ ((t2_3.len : Int) : Int) ≤ (t2_3.cap : Int) ∧ (t2_3.cap : Int) ≤ (t2_3.cap : Int) ∧ s44 = subS t2_3 2 (IntKind.u64.wrap (t3_3 - t0_3)).toNat (t2_3.len : Int).toNat (t2_3.cap : Int).toNat ∧ (rlog_Log_Entries t11_3 (fun (r45 : Slc) h46 => ref23_Same r45 s44 (fun (r47 : Bool) h48 => if r47 then (law23_awake  (fun (r49 : Bool) h50 => law23_RlogCuts_j4 r49 k nx3 h50) h48) else (law23_RlogCuts_j4 false k nx3 h48)) h46) h32)) else (if false then (law23_awake  (fun (r51 : Bool) h52 => law23_RlogCuts_j4 r51 k nx3 h52) h32) else (law23_RlogCuts_j4 false k nx3 h32))))) h_3)))
def law23_RlogCuts_l3 (t0_3 : Int) (t2_3 : Slc) (t3_3 : Int) (t4_3 : Slc) (t11_3 : Option Addr) (t12_3 : Option Addr) (i14 : Int) (k : (Bool) → Heap → Prop) (h : Heap) : Prop :=
  ∃ (I : Int → Heap → Prop) (μ : Int → Heap → Nat), I i14 h ∧ ∀ (t14_3 : Int) (h : Heap), I t14_3 h → law23_RlogCuts_l3b t0_3 t2_3 t3_3 t4_3 t11_3 t12_3 t14_3 k (fun s h' => I s h' ∧ μ s h' < μ t14_3 h) h
def law23_RlogCuts_g1 (t0_1 : Int) (t1_1 : Int) (t2_1 : Slc) (t3_1 : Int) (t4_1 : Slc) (t27_1 : Bool) (k : (Bool) → Heap → Prop) (h_1 : Heap) : Prop :=
  if (((t27_1 || (decide ((t2_1.len : Int) > 60))) || (decide (t0_1 > 1152921504606846976))) || (decide (t3_1 > 2305843009213693952))) then (law23_awake  (fun (r3 : Bool) h4 => k r3 h4) h_1) else (rlog_New t0_1 t1_1 t2_1 (fun (r5 : Option Addr) h6 => rlog_New t0_1 t1_1 t2_1 (fun (r7 : Option Addr) h8 => rlog_Log_Cut r5 t3_1 (fun (r9 : Int) h10 => if (r9 != 0) then (rlog_Log_Entries r5 (fun (r11 : Slc) h12 => rlog_Log_Entries r7 (fun (r13 : Slc) h14 => ref23_Same r11 r13 (fun (r15 : Bool) h16 => if r15 then (law23_awake  (fun (r17 : Bool) h18 => law23_RlogCuts_g2 r17 k h18) h16) else (law23_RlogCuts_g2 false k h16)) h14) h12) h10) else (∃ s19 : Slc, (0 : Int) ≤ (IntKind.u64.wrap (t3_1 - t0_1)) ∧ ((IntKind.u64.wrap (t3_1 - t0_1)) : Int) ≤ (t2_1.len : Int) ∧ ((t2_1.len : Int) : Int) ≤ (t2_1.cap : Int) ∧ (t2_1.cap : Int) ≤ (t2_1.cap : Int) ∧ s19 = subS t2_1 2 (IntKind.u64.wrap (t3_1 - t0_1)).toNat (t2_1.len : Int).toNat (t2_1.cap : Int).toNat ∧ (rlog_Log_Entries r5 (fun (r20 : Slc) h21 => ref23_Same r20 s19 (fun (r22 : Bool) h23 => if (!r22) then (k false h23) else (law23_RlogCuts_l3 t0_1 t2_1 t3_1 t4_1 r5 r7 t3_1 k h23)) h21) h10))) h8) h6) h_1)
def law23_RlogCuts (p0 : Int) (p1 : Int) (p2 : Slc) (p3 : Int) (p4 : Slc) (k : (Bool) → Heap → Prop) (h : Heap) : Prop :=
  ref23_Great p2 (fun (r1 : Bool) h2 => if r1 then (law23_RlogCuts_g1 p0 p1 p2 p3 p4 true k h2) else (ref23_Great p4 (fun (r53 : Bool) h54 => law23_RlogCuts_g1 p0 p1 p2 p3 p4 r53 k h54) h2)) h

/-- quaestor quaestorlaw23.RlogMatches -/
def law23_RlogMatches_l2b (t0_2 : Slc) (t1_2 : Slc) (t5_2 : Slc) (t7_2 : Int) (t6_2 : Slc) (t8_2 : Int) (k : (Bool) → Heap → Prop) (nx1 : (Slc × Slc × Int) → Heap → Prop) (nx2 : (Slc × Int) → Heap → Prop) (h_2 : Heap) : Prop :=
  if (decide (t8_2 < 3)) then (∃ (b13 : Nat) (h14 : Heap), b13 = h_2.size ∧ h14 = h_2.push (.cells ([.int .u8 (IntKind.u8.wrap t7_2), .int .u8 (IntKind.u8.wrap t8_2)]).toArray 5) ∧ (∃ (b15 : Nat) (h16 : Heap), b15 = h14.size ∧ h16 = h14.push (.cells ((S_api_Entry.cs (⟨(IntKind.u64.wrap (IntKind.i64.wrap (t7_2 + 1))), (⟨some ⟨b13, 0, none⟩, 2, 2⟩ : Slc)⟩ : S_api_Entry))).toArray 64) ∧ (App 64 2 32 [.int .u64 0, .slice none 0 0] h16 t6_2 1 ((S_api_Entry.cs (⟨(IntKind.u64.wrap (IntKind.i64.wrap (t7_2 + 1))), (⟨some ⟨b13, 0, none⟩, 2, 2⟩ : Slc)⟩ : S_api_Entry))) (fun s17 h18 => ∃ x19 : Int, x19 = (IntKind.i64.wrap (t8_2 + 1)) ∧ (nx2 (s17, x19) h18))))) else (∃ (b20 : Nat) (h21 : Heap), b20 = h_2.size ∧ h21 = h_2.push (.cells ([Slc.v t6_2]).toArray 52) ∧ (App 52 1 24 [.slice none 0 0] h21 t5_2 1 ([Slc.v t6_2]) (fun s22 h23 => ∃ x24 : Int, x24 = (IntKind.i64.wrap (t7_2 + 1)) ∧ (nx1 (s22, t6_2, x24) h23))))
def law23_RlogMatches_l2 (t0_2 : Slc) (t1_2 : Slc) (t5_2 : Slc) (t7_2 : Int) (i6 : Slc) (i8 : Int) (k : (Bool) → Heap → Prop) (nx1 : (Slc × Slc × Int) → Heap → Prop) (h : Heap) : Prop :=
  ∃ (I : (Slc × Int) → Heap → Prop) (μ : (Slc × Int) → Heap → Nat), I (i6, i8) h ∧ ∀ (t6_2 : Slc) (t8_2 : Int) (h : Heap), I (t6_2, t8_2) h → law23_RlogMatches_l2b t0_2 t1_2 t5_2 t7_2 t6_2 t8_2 k nx1 (fun s h' => I s h' ∧ μ s h' < μ (t6_2, t8_2) h) h
def law23_RlogMatches_j4 (t1_4 : Slc) (t5_4 : Slc) (t9_4 : Slc) (t10_4 : Int) (t11_4 : Int) (t12_4 : Slc) (t13_4 : Int) (t14_4 : Int) (k : (Bool) → Heap → Prop) (nx1 : (Slc × Slc × Int) → Heap → Prop) (nx3 : (Int) → Heap → Prop) (h_4 : Heap) : Prop :=
  ∃ x41 : Int, x41 = (if (t12_4.len : Int) < (IntKind.i64.wrap ((IntKind.i64.wrap (t13_4 + 1)) + (Int.tmod t11_4 3))) then (t12_4.len : Int) else (IntKind.i64.wrap ((IntKind.i64.wrap (t13_4 + 1)) + (Int.tmod t11_4 3)))) ∧ (∃ a42 : Addr, t9_4.a = some a42 ∧ (0 : Int) ≤ (Int.tmod t11_4 3) ∧ (Int.tmod t11_4 3) < (t9_4.len : Int) ∧ (∃ v43 : Option Addr, cellH h_4 (a42.add ((Int.tmod t11_4 3).toNat * 1)) = some (.pointer v43) ∧ (∃ s44 : Slc, (0 : Int) ≤ t13_4 ∧ (t13_4 : Int) ≤ (if x41 > t13_4 then x41 else t13_4) ∧ ((if x41 > t13_4 then x41 else t13_4) : Int) ≤ (t12_4.cap : Int) ∧ (t12_4.cap : Int) ≤ (t12_4.cap : Int) ∧ s44 = subS t12_4 2 t13_4.toNat (if x41 > t13_4 then x41 else t13_4).toNat (t12_4.cap : Int).toNat ∧ (rlog_Log_Append v43 (IntKind.u64.wrap t13_4) t14_4 s44 (fun (r45 : Int × Int) h46 => ∃ x47 : Int, x47 = (IntKind.i64.wrap (t10_4 + 1)) ∧ (nx3 x47 h46)) h_4))))
def law23_RlogMatches_j6 (t9_6 : Slc) (t16_6 : Int) (k : (Bool) → Heap → Prop) (nx1 : (Slc × Slc × Int) → Heap → Prop) (nx3 : (Int) → Heap → Prop) (nx5 : (Int) → Heap → Prop) (h_6 : Heap) : Prop :=
  ∃ x50 : Int, x50 = (IntKind.i64.wrap (t16_6 + 1)) ∧ (nx5 x50 h_6)
def law23_RlogMatches_l7b (t9_7 : Slc) (t16_7 : Int) (t17_7 : Slc) (t18_7 : Slc) (t19_7 : Int) (k : (Bool) → Heap → Prop) (nx1 : (Slc × Slc × Int) → Heap → Prop) (nx3 : (Int) → Heap → Prop) (nx5 : (Int) → Heap → Prop) (nx7 : (Int) → Heap → Prop) (h_7 : Heap) : Prop :=
  if (decide (t19_7 ≥ 0)) then (∃ a61 : Addr, t17_7.a = some a61 ∧ (0 : Int) ≤ t19_7 ∧ t19_7 < (t17_7.len : Int) ∧ (∃ v62 : Int, cellH h_7 (a61.add (t19_7.toNat * 2)) = some (.int .u64 v62) ∧ (∃ a63 : Addr, t18_7.a = some a63 ∧ (0 : Int) ≤ t19_7 ∧ t19_7 < (t18_7.len : Int) ∧ (∃ v64 : Int, cellH h_7 (a63.add (t19_7.toNat * 2)) = some (.int .u64 v64) ∧ (if (v62 == v64) then (∃ s65 : Slc, (0 : Int) ≤ 0 ∧ (0 : Int) ≤ (IntKind.i64.wrap (t19_7 + 1)) ∧ ((IntKind.i64.wrap (t19_7 + 1)) : Int) ≤ (t17_7.cap : Int) ∧ (t17_7.cap : Int) ≤ (t17_7.cap : Int) ∧ s65 = subS t17_7 2 (0 : Int).toNat (IntKind.i64.wrap (t19_7 + 1)).toNat (t17_7.cap : Int).toNat ∧ (∃ s66 : Slc, (0 : Int) ≤ 0 ∧ (0 : Int) ≤ (IntKind.i64.wrap (t19_7 + 1)) ∧ ((IntKind.i64.wrap (t19_7 + 1)) : Int) ≤ (t18_7.cap : Int) ∧ (t18_7.cap : Int) ≤ (t18_7.cap : Int) ∧ s66 = subS t18_7 2 (0 : Int).toNat (IntKind.i64.wrap (t19_7 + 1)).toNat (t18_7.cap : Int).toNat ∧ (ref23_Same s65 s66 (fun (r67 : Bool) h68 => if (!r67) then (k false h68) else (law23_RlogMatches_j6 t9_7 t16_7 k nx1 nx3 nx5 h68)) h_7))) else (∃ x69 : Int, x69 = (IntKind.i64.wrap (t19_7 - 1)) ∧ (nx7 x69 h_7))))))) else (law23_RlogMatches_j6 t9_7 t16_7 k nx1 nx3 nx5 h_7)
def law23_RlogMatches_l7 (t9_7 : Slc) (t16_7 : Int) (t17_7 : Slc) (t18_7 : Slc) (i19 : Int) (k : (Bool) → Heap → Prop) (nx1 : (Slc × Slc × Int) → Heap → Prop) (nx3 : (Int) → Heap → Prop) (nx5 : (Int) → Heap → Prop) (h : Heap) : Prop :=
  ∃ (I : Int → Heap → Prop) (μ : Int → Heap → Nat), I i19 h ∧ ∀ (t19_7 : Int) (h : Heap), I t19_7 h → law23_RlogMatches_l7b t9_7 t16_7 t17_7 t18_7 t19_7 k nx1 nx3 nx5 (fun s h' => I s h' ∧ μ s h' < μ t19_7 h) h
def law23_RlogMatches_g11 (t207_11 : Bool) (k : (Bool) → Heap → Prop) (nx1 : (Slc × Slc × Int) → Heap → Prop) (nx3 : (Int) → Heap → Prop) (nx5 : (Int) → Heap → Prop) (h_11 : Heap) : Prop :=
  k t207_11 h_11
def law23_RlogMatches_g10 (t204_10 : Bool) (k : (Bool) → Heap → Prop) (nx1 : (Slc × Slc × Int) → Heap → Prop) (nx3 : (Int) → Heap → Prop) (nx5 : (Int) → Heap → Prop) (h_10 : Heap) : Prop :=
  if t204_10 then (law23_awake  (fun (r72 : Bool) h73 => law23_RlogMatches_g11 r72 k nx1 nx3 nx5 h73) h_10) else (law23_RlogMatches_g11 false k nx1 nx3 nx5 h_10)
def law23_RlogMatches_g9 (t20_9 : Option Addr) (t200_9 : Bool) (k : (Bool) → Heap → Prop) (nx1 : (Slc × Slc × Int) → Heap → Prop) (nx3 : (Int) → Heap → Prop) (nx5 : (Int) → Heap → Prop) (h_9 : Heap) : Prop :=
  if t200_9 then (rlog_Log_Newer t20_9 0 0 (fun (r74 : Bool) h75 => law23_RlogMatches_g10 r74 k nx1 nx3 nx5 h75) h_9) else (law23_RlogMatches_g10 false k nx1 nx3 nx5 h_9)
def law23_RlogMatches_g8 (t20_8 : Option Addr) (t194_8 : Bool) (k : (Bool) → Heap → Prop) (nx1 : (Slc × Slc × Int) → Heap → Prop) (nx3 : (Int) → Heap → Prop) (nx5 : (Int) → Heap → Prop) (h_8 : Heap) : Prop :=
  if t194_8 then (rlog_Log_Entries t20_8 (fun (r76 : Slc) h77 => law23_RlogMatches_g9 t20_8 ((r76.len : Int) == 0) k nx1 nx3 nx5 h77) h_8) else (law23_RlogMatches_g9 t20_8 false k nx1 nx3 nx5 h_8)
def law23_RlogMatches_l5b (t9_5 : Slc) (t16_5 : Int) (k : (Bool) → Heap → Prop) (nx1 : (Slc × Slc × Int) → Heap → Prop) (nx3 : (Int) → Heap → Prop) (nx5 : (Int) → Heap → Prop) (h_5 : Heap) : Prop :=
  if (decide (t16_5 < 3)) then (∃ a51 : Addr, t9_5.a = some a51 ∧ (0 : Int) ≤ t16_5 ∧ t16_5 < (t9_5.len : Int) ∧ (∃ v52 : Option Addr, cellH h_5 (a51.add (t16_5.toNat * 1)) = some (.pointer v52) ∧ (∃ a53 : Addr, t9_5.a = some a53 ∧ (0 : Int) ≤ (Int.tmod (IntKind.i64.wrap (t16_5 + 1)) 3) ∧ (Int.tmod (IntKind.i64.wrap (t16_5 + 1)) 3) < (t9_5.len : Int) ∧ (∃ v54 : Option Addr, cellH h_5 (a53.add ((Int.tmod (IntKind.i64.wrap (t16_5 + 1)) 3).toNat * 1)) = some (.pointer v54) ∧ (rlog_Log_Entries v52 (fun (r55 : Slc) h56 => cellH h56 (a53.add ((Int.tmod (IntKind.i64.wrap (t16_5 + 1)) 3).toNat * 1)) = some (.pointer v54) ∧ (rlog_Log_Entries v54 (fun (r58 : Slc) h59 => ∃ x60 : Int, x60 = (IntKind.i64.wrap ((if (r58.len : Int) < (r55.len : Int) then (r58.len : Int) else (r55.len : Int)) - 1)) ∧ (law23_RlogMatches_l7 t9_5 t16_5 r55 r58 x60 k nx1 nx3 nx5 h59)) h56)) h_5))))) else (rlog_Log_Append none 0 0 (⟨none, 0, 0⟩ : Slc) (fun (r70 : Int × Int) h71 => if (r70.2 == 1) then (rlog_Log_Cut none 0 (fun (r78 : Int) h79 => law23_RlogMatches_g8 none (r78 == 1) k nx1 nx3 nx5 h79) h71) else (law23_RlogMatches_g8 none false k nx1 nx3 nx5 h71)) h_5)
def law23_RlogMatches_l5 (t9_5 : Slc) (i16 : Int) (k : (Bool) → Heap → Prop) (nx1 : (Slc × Slc × Int) → Heap → Prop) (nx3 : (Int) → Heap → Prop) (h : Heap) : Prop :=
  ∃ (I : Int → Heap → Prop) (μ : Int → Heap → Nat), I i16 h ∧ ∀ (t16_5 : Int) (h : Heap), I t16_5 h → law23_RlogMatches_l5b t9_5 t16_5 k nx1 nx3 (fun s h' => I s h' ∧ μ s h' < μ t16_5 h) h
def law23_RlogMatches_l3b (t1_3 : Slc) (t5_3 : Slc) (t9_3 : Slc) (t10_3 : Int) (k : (Bool) → Heap → Prop) (nx1 : (Slc × Slc × Int) → Heap → Prop) (nx3 : (Int) → Heap → Prop) (h_3 : Heap) : Prop :=
  if ((decide (t10_3 < (t1_3.len : Int))) && (decide ((t5_3.len : Int) > 0))) then (∃ a33 : Addr, t1_3.a = some a33 ∧ (0 : Int) ≤ t10_3 ∧ t10_3 < (t1_3.len : Int) ∧ (∃ v34 : Int, cellH h_3 (a33.add (t10_3.toNat * 1)) = some (.int .u16 v34) ∧ (∃ x35 : Int, x35 = (IntKind.i64.wrap v34) ∧ ((t5_3.len : Int) ≠ 0 ∧ (∃ a37 : Addr, t5_3.a = some a37 ∧ (0 : Int) ≤ (Int.tmod (IntKind.i64.wrap (Int.tdiv x35 16)) (t5_3.len : Int)) ∧ (Int.tmod (IntKind.i64.wrap (Int.tdiv x35 16)) (t5_3.len : Int)) < (t5_3.len : Int) ∧ (∃ v38 : Slc, cellH h_3 (a37.add ((Int.tmod (IntKind.i64.wrap (Int.tdiv x35 16)) (t5_3.len : Int)).toNat * 1)) = some (Slc.v v38) ∧ ((IntKind.i64.wrap ((v38.len : Int) + 1)) ≠ 0 ∧ (∃ x40 : Int, x40 = (Int.tmod (IntKind.i64.wrap (Int.tdiv x35 3)) (IntKind.i64.wrap ((v38.len : Int) + 1))) ∧ (if (decide (x40 > 0)) then (∃ a48 : Addr, v38.a = some a48 ∧ (0 : Int) ≤ (IntKind.i64.wrap (x40 - 1)) ∧ (IntKind.i64.wrap (x40 - 1)) < (v38.len : Int) ∧ (∃ v49 : Int, cellH h_3 (a48.add ((IntKind.i64.wrap (x40 - 1)).toNat * 2)) = some (.int .u64 v49) ∧ (law23_RlogMatches_j4 t1_3 t5_3 t9_3 t10_3 x35 v38 x40 v49 k nx1 nx3 h_3))) else (law23_RlogMatches_j4 t1_3 t5_3 t9_3 t10_3 x35 v38 x40 0 k nx1 nx3 h_3)))))))))) else (law23_RlogMatches_l5 t9_3 0 k nx1 nx3 h_3)
def law23_RlogMatches_l3 (t1_3 : Slc) (t5_3 : Slc) (t9_3 : Slc) (i10 : Int) (k : (Bool) → Heap → Prop) (nx1 : (Slc × Slc × Int) → Heap → Prop) (h : Heap) : Prop :=
  ∃ (I : Int → Heap → Prop) (μ : Int → Heap → Nat), I i10 h ∧ ∀ (t10_3 : Int) (h : Heap), I t10_3 h → law23_RlogMatches_l3b t1_3 t5_3 t9_3 t10_3 k nx1 (fun s h' => I s h' ∧ μ s h' < μ t10_3 h) h
def law23_RlogMatches_l1b (t0_1 : Slc) (t1_1 : Slc) (t5_1 : Slc) (t6_1 : Slc) (t7_1 : Int) (k : (Bool) → Heap → Prop) (nx1 : (Slc × Slc × Int) → Heap → Prop) (h_1 : Heap) : Prop :=
  if (decide (t7_1 < (t0_1.len : Int))) then (∃ (b3 : Nat) (h4 : Heap), b3 = h_1.size ∧ h4 = h_1.push (.cells ([]).toArray 64) ∧ (∃ a5 : Addr, t0_1.a = some a5 ∧ (0 : Int) ≤ t7_1 ∧ t7_1 < (t0_1.len : Int) ∧ (∃ v6 : Int, cellH h4 (a5.add (t7_1.toNat * 1)) = some (.int .u8 v6) ∧ (ref01_Pick (IntKind.i64.wrap v6) (IntKind.i64.wrap ((t6_1.len : Int) + 1)) (fun (r7 : Int) h8 => ∃ s9 : Slc, (0 : Int) ≤ 0 ∧ (0 : Int) ≤ r7 ∧ (r7 : Int) ≤ (t6_1.cap : Int) ∧ (t6_1.cap : Int) ≤ (t6_1.cap : Int) ∧ s9 = subS t6_1 2 (0 : Int).toNat r7.toNat (t6_1.cap : Int).toNat ∧ (∃ l12 : List Value, SlcAt h8 s9 l12 ∧ App 64 2 32 [.int .u64 0, .slice none 0 0] h8 (⟨some ⟨b3, 0, none⟩, 0, 0⟩ : Slc) s9.len l12 (fun s10 h11 => law23_RlogMatches_l2 t0_1 t1_1 t5_1 t7_1 s10 0 k nx1 h11))) h4)))) else (rlog_New 0 0 (⟨none, 0, 0⟩ : Slc) (fun (r25 : Option Addr) h26 => rlog_New 0 0 (⟨none, 0, 0⟩ : Slc) (fun (r27 : Option Addr) h28 => rlog_New 0 0 (⟨none, 0, 0⟩ : Slc) (fun (r29 : Option Addr) h30 => ∃ (b31 : Nat) (h32 : Heap), b31 = h30.size ∧ h32 = h30.push (.cells ([.pointer r25, .pointer r27, .pointer r29]).toArray 54) ∧ (law23_RlogMatches_l3 t1_1 t5_1 (⟨some ⟨b31, 0, none⟩, 3, 3⟩ : Slc) 0 k nx1 h32)) h28) h26) h_1)
def law23_RlogMatches_l1 (t0_1 : Slc) (t1_1 : Slc) (i5 : Slc) (i6 : Slc) (i7 : Int) (k : (Bool) → Heap → Prop) (h : Heap) : Prop :=
  ∃ (I : (Slc × Slc × Int) → Heap → Prop) (μ : (Slc × Slc × Int) → Heap → Nat), I (i5, i6, i7) h ∧ ∀ (t5_1 : Slc) (t6_1 : Slc) (t7_1 : Int) (h : Heap), I (t5_1, t6_1, t7_1) h → law23_RlogMatches_l1b t0_1 t1_1 t5_1 t6_1 t7_1 k (fun s h' => I s h' ∧ μ s h' < μ (t5_1, t6_1, t7_1) h) h
def law23_RlogMatches (p0 : Slc) (p1 : Slc) (k : (Bool) → Heap → Prop) (h : Heap) : Prop :=
  if ((decide ((p0.len : Int) > 6)) || (decide ((p1.len : Int) > 40))) then (law23_awake  (fun (r1 : Bool) h2 => k r1 h2) h) else (law23_RlogMatches_l1 p0 p1 (⟨none, 0, 0⟩ : Slc) (⟨none, 0, 0⟩ : Slc) 0 k h)

/-- quaestor quaestorlaw23.RlogPlays -/
def law23_RlogPlays_g2 (t0_2 : Int) (t1_2 : Int) (t2_2 : Slc) (t3_2 : Slc) (t4_2 : Int) (t5_2 : Int) (t13_2 : Int) (t70_2 : Bool) (k : (Bool) → Heap → Prop) (nx1 : (Int) → Heap → Prop) (h_2 : Heap) : Prop :=
  if t70_2 then (law23_awake  (fun (r9 : Bool) h10 => k r9 h10) h_2) else (∃ x11 : Int, x11 = (IntKind.i64.wrap (t13_2 + 1)) ∧ (nx1 x11 h_2))
def law23_RlogPlays_g8 (t1_8 : Int) (t3_8 : Slc) (t4_8 : Int) (t5_8 : Int) (t14_8 : Option Addr) (t15_8 : Addr) (t16_8 : Int) (t259_8 : Bool) (k : (Bool) → Heap → Prop) (nx1 : (Int) → Heap → Prop) (nx3 : (Int) → Heap → Prop) (h_8 : Heap) : Prop :=
  if t259_8 then (k false h_8) else (∃ x32 : Int, x32 = (IntKind.i64.wrap (t16_8 + 1)) ∧ (nx3 x32 h_8))
def law23_RlogPlays_g7 (t1_7 : Int) (t3_7 : Slc) (t4_7 : Int) (t5_7 : Int) (t14_7 : Option Addr) (t15_7 : Addr) (t16_7 : Int) (t30_7 : Int) (t31_7 : Int) (t245_7 : Bool) (k : (Bool) → Heap → Prop) (nx1 : (Int) → Heap → Prop) (nx3 : (Int) → Heap → Prop) (h_7 : Heap) : Prop :=
  if t245_7 then (law23_RlogPlays_g8 t1_7 t3_7 t4_7 t5_7 t14_7 t15_7 t16_7 true k nx1 nx3 h_7) else (rlog_Log_Match t14_7 t4_7 t1_7 (fun (r33 : Bool) h34 => law23_RlogPlays_g8 t1_7 t3_7 t4_7 t5_7 t14_7 t15_7 t16_7 (!(r33 == ((t31_7 == 0) && (t30_7 == t1_7)))) k nx1 nx3 h34) h_7)
def law23_RlogPlays_g6 (t1_6 : Int) (t3_6 : Slc) (t4_6 : Int) (t5_6 : Int) (t14_6 : Option Addr) (t15_6 : Addr) (t16_6 : Int) (t30_6 : Int) (t31_6 : Int) (t234_6 : Bool) (k : (Bool) → Heap → Prop) (nx1 : (Int) → Heap → Prop) (nx3 : (Int) → Heap → Prop) (h_6 : Heap) : Prop :=
  if t234_6 then (law23_RlogPlays_g7 t1_6 t3_6 t4_6 t5_6 t14_6 t15_6 t16_6 t30_6 t31_6 true k nx1 nx3 h_6) else (rlog_Log_Newer t14_6 t4_6 t1_6 (fun (r35 : Bool) h36 => ref23_Log_Newer (some t15_6) t4_6 t1_6 (fun (r37 : Bool) h38 => law23_RlogPlays_g7 t1_6 t3_6 t4_6 t5_6 t14_6 t15_6 t16_6 t30_6 t31_6 (!(r35 == r37)) k nx1 nx3 h38) h36) h_6)
def law23_RlogPlays_j5 (t1_5 : Int) (t3_5 : Slc) (t4_5 : Int) (t5_5 : Int) (t14_5 : Option Addr) (t15_5 : Addr) (t16_5 : Int) (t189_5 : Bool) (k : (Bool) → Heap → Prop) (nx1 : (Int) → Heap → Prop) (nx3 : (Int) → Heap → Prop) (h_5 : Heap) : Prop :=
  if t189_5 then (k false h_5) else (rlog_Log_Term t14_5 t4_5 (fun (r24 : Int × Int) h25 => ref23_Log_TermOf (some t15_5) t4_5 (fun (r26 : Int × Int) h27 => rlog_Log_From t14_5 t4_5 t5_5 (fun (r28 : Slc × Int) h29 => ref23_Log_From (some t15_5) t4_5 t5_5 (fun (r30 : Slc × Int) h31 => if (((r24.1 != r26.1) || (r24.2 != r26.2)) || (r28.2 != r30.2)) then (law23_RlogPlays_g6 t1_5 t3_5 t4_5 t5_5 t14_5 t15_5 t16_5 r26.1 r26.2 true k nx1 nx3 h31) else (ref23_Same r28.1 r30.1 (fun (r39 : Bool) h40 => law23_RlogPlays_g6 t1_5 t3_5 t4_5 t5_5 t14_5 t15_5 t16_5 r26.1 r26.2 (!r39) k nx1 nx3 h40) h31)) h29) h27) h25) h_5)
def law23_RlogPlays_j4 (t1_4 : Int) (t3_4 : Slc) (t4_4 : Int) (t5_4 : Int) (t14_4 : Option Addr) (t15_4 : Addr) (t16_4 : Int) (k : (Bool) → Heap → Prop) (nx1 : (Int) → Heap → Prop) (nx3 : (Int) → Heap → Prop) (h_4 : Heap) : Prop :=
  rlog_Log_Base t14_4 (fun (r18 : Int × Int) h19 => rlog_Log_Last t14_4 (fun (r20 : Int × Int) h21 => ref23_Log_Last (some t15_4) (fun (r22 : Int × Int) h23 => ∃ v41 : Int, cellH h23 t15_4 = some (.int .u64 v41) ∧ (if (r18.1 != v41) then (if true then (if true then (if true then (law23_RlogPlays_j5 t1_4 t3_4 t4_4 t5_4 t14_4 t15_4 t16_4 true k nx1 nx3 h23) else (∃ v42 : Slc, cellH h23 (t15_4.add 2) = some (Slc.v v42) ∧ (rlog_Log_Entries t14_4 (fun (r43 : Slc) h44 => cellH h44 (t15_4.add 2) = some (Slc.v v42) ∧ (ref23_Same r43 v42 (fun (r46 : Bool) h47 => law23_RlogPlays_j5 t1_4 t3_4 t4_4 t5_4 t14_4 t15_4 t16_4 (!r46) k nx1 nx3 h47) h44)) h23))) else (if (r20.2 != r22.2) then (law23_RlogPlays_j5 t1_4 t3_4 t4_4 t5_4 t14_4 t15_4 t16_4 true k nx1 nx3 h23) else (∃ v48 : Slc, cellH h23 (t15_4.add 2) = some (Slc.v v48) ∧ (rlog_Log_Entries t14_4 (fun (r49 : Slc) h50 => cellH h50 (t15_4.add 2) = some (Slc.v v48) ∧ (ref23_Same r49 v48 (fun (r52 : Bool) h53 => law23_RlogPlays_j5 t1_4 t3_4 t4_4 t5_4 t14_4 t15_4 t16_4 (!r52) k nx1 nx3 h53) h50)) h23)))) else (if (r20.1 != r22.1) then (if true then (law23_RlogPlays_j5 t1_4 t3_4 t4_4 t5_4 t14_4 t15_4 t16_4 true k nx1 nx3 h23) else (∃ v54 : Slc, cellH h23 (t15_4.add 2) = some (Slc.v v54) ∧ (rlog_Log_Entries t14_4 (fun (r55 : Slc) h56 => cellH h56 (t15_4.add 2) = some (Slc.v v54) ∧ (ref23_Same r55 v54 (fun (r58 : Bool) h59 => law23_RlogPlays_j5 t1_4 t3_4 t4_4 t5_4 t14_4 t15_4 t16_4 (!r58) k nx1 nx3 h59) h56)) h23))) else (if (r20.2 != r22.2) then (law23_RlogPlays_j5 t1_4 t3_4 t4_4 t5_4 t14_4 t15_4 t16_4 true k nx1 nx3 h23) else (∃ v60 : Slc, cellH h23 (t15_4.add 2) = some (Slc.v v60) ∧ (rlog_Log_Entries t14_4 (fun (r61 : Slc) h62 => cellH h62 (t15_4.add 2) = some (Slc.v v60) ∧ (ref23_Same r61 v60 (fun (r64 : Bool) h65 => law23_RlogPlays_j5 t1_4 t3_4 t4_4 t5_4 t14_4 t15_4 t16_4 (!r64) k nx1 nx3 h65) h62)) h23))))) else (∃ v66 : Int, cellH h23 (t15_4.add 1) = some (.int .u64 v66) ∧ (if (r18.2 != v66) then (if true then (if true then (law23_RlogPlays_j5 t1_4 t3_4 t4_4 t5_4 t14_4 t15_4 t16_4 true k nx1 nx3 h23) else (∃ v67 : Slc, cellH h23 (t15_4.add 2) = some (Slc.v v67) ∧ (rlog_Log_Entries t14_4 (fun (r68 : Slc) h69 => cellH h69 (t15_4.add 2) = some (Slc.v v67) ∧ (ref23_Same r68 v67 (fun (r71 : Bool) h72 => law23_RlogPlays_j5 t1_4 t3_4 t4_4 t5_4 t14_4 t15_4 t16_4 (!r71) k nx1 nx3 h72) h69)) h23))) else (if (r20.2 != r22.2) then (law23_RlogPlays_j5 t1_4 t3_4 t4_4 t5_4 t14_4 t15_4 t16_4 true k nx1 nx3 h23) else (∃ v73 : Slc, cellH h23 (t15_4.add 2) = some (Slc.v v73) ∧ (rlog_Log_Entries t14_4 (fun (r74 : Slc) h75 => cellH h75 (t15_4.add 2) = some (Slc.v v73) ∧ (ref23_Same r74 v73 (fun (r77 : Bool) h78 => law23_RlogPlays_j5 t1_4 t3_4 t4_4 t5_4 t14_4 t15_4 t16_4 (!r77) k nx1 nx3 h78) h75)) h23)))) else (if (r20.1 != r22.1) then (if true then (law23_RlogPlays_j5 t1_4 t3_4 t4_4 t5_4 t14_4 t15_4 t16_4 true k nx1 nx3 h23) else (∃ v79 : Slc, cellH h23 (t15_4.add 2) = some (Slc.v v79) ∧ (rlog_Log_Entries t14_4 (fun (r80 : Slc) h81 => cellH h81 (t15_4.add 2) = some (Slc.v v79) ∧ (ref23_Same r80 v79 (fun (r83 : Bool) h84 => law23_RlogPlays_j5 t1_4 t3_4 t4_4 t5_4 t14_4 t15_4 t16_4 (!r83) k nx1 nx3 h84) h81)) h23))) else (if (r20.2 != r22.2) then (law23_RlogPlays_j5 t1_4 t3_4 t4_4 t5_4 t14_4 t15_4 t16_4 true k nx1 nx3 h23) else (∃ v85 : Slc, cellH h23 (t15_4.add 2) = some (Slc.v v85) ∧ (rlog_Log_Entries t14_4 (fun (r86 : Slc) h87 => cellH h87 (t15_4.add 2) = some (Slc.v v85) ∧ (ref23_Same r86 v85 (fun (r89 : Bool) h90 => law23_RlogPlays_j5 t1_4 t3_4 t4_4 t5_4 t14_4 t15_4 t16_4 (!r89) k nx1 nx3 h90) h87)) h23)))))))) h21) h19) h_4
def law23_RlogPlays_l3b (t1_3 : Int) (t3_3 : Slc) (t4_3 : Int) (t5_3 : Int) (t14_3 : Option Addr) (t15_3 : Addr) (t16_3 : Int) (k : (Bool) → Heap → Prop) (nx1 : (Int) → Heap → Prop) (nx3 : (Int) → Heap → Prop) (h_3 : Heap) : Prop :=
  if ((decide (t16_3 ≤ (t3_3.len : Int))) && (decide (t16_3 ≤ 20))) then (if (decide (t16_3 > 0)) then (∃ a91 : Addr, t3_3.a = some a91 ∧ (0 : Int) ≤ (IntKind.i64.wrap (t16_3 - 1)) ∧ (IntKind.i64.wrap (t16_3 - 1)) < (t3_3.len : Int) ∧ (∃ v92 : S_quaestorlaw23_Act, CellsAt h_3 (a91.add ((IntKind.i64.wrap (t16_3 - 1)).toNat * 4)) (S_quaestorlaw23_Act.cs v92) ∧ (∃ (b93 : Nat) (h94 : Heap), b93 = h_3.size ∧ h94 = h_3.push (.cells (S_quaestorlaw23_Act.cs (⟨0, 0, 0, (⟨none, 0, 0⟩ : Slc)⟩ : S_quaestorlaw23_Act)).toArray 70) ∧ (∃ h95 : Heap, WrsAt h94 (⟨b93, 0, none⟩ : Addr) 4 ∧ h95 = setsH h94 (⟨b93, 0, none⟩ : Addr) 0 (S_quaestorlaw23_Act.cs v92) ∧ (∃ v96 : Int, cellH h95 (⟨b93, 0, none⟩ : Addr) = some (.int .i64 v96) ∧ (ref01_Pick v96 4 (fun (r97 : Int) h98 => if (r97 == 3) then (∃ v99 : Int, cellH h98 ((⟨b93, 0, none⟩ : Addr).add 1) = some (.int .u64 v99) ∧ (∃ v100 : Int, cellH h98 ((⟨b93, 0, none⟩ : Addr).add 1) = some (.int .u64 v100) ∧ (rlog_Log_Cut t14_3 v99 (fun (r101 : Int) h102 => cellH h102 ((⟨b93, 0, none⟩ : Addr).add 1) = some (.int .u64 v100) ∧ (ref23_Log_Cut (some t15_3) v100 (fun (r104 : Int) h105 => if (r101 != r104) then (k false h105) else (law23_RlogPlays_j4 t1_3 t3_3 t4_3 t5_3 t14_3 t15_3 t16_3 k nx1 nx3 h105)) h102)) h98))) else (∃ v106 : Int, cellH h98 ((⟨b93, 0, none⟩ : Addr).add 1) = some (.int .u64 v106) ∧ (∃ v107 : Int, cellH h98 ((⟨b93, 0, none⟩ : Addr).add 2) = some (.int .u64 v107) ∧ (∃ v108 : Slc, cellH h98 ((⟨b93, 0, none⟩ : Addr).add 3) = some (Slc.v v108) ∧ (rlog_Log_Append t14_3 v106 v107 v108 (fun (r109 : Int × Int) h110 => ∃ v111 : Int, cellH h110 ((⟨b93, 0, none⟩ : Addr).add 1) = some (.int .u64 v111) ∧ (∃ v112 : Int, cellH h110 ((⟨b93, 0, none⟩ : Addr).add 2) = some (.int .u64 v112) ∧ (∃ v113 : Slc, cellH h110 ((⟨b93, 0, none⟩ : Addr).add 3) = some (Slc.v v113) ∧ (ref23_Log_Append (some t15_3) v111 v112 v113 (fun (r114 : Int × Int) h115 => if ((r109.1 != r114.1) || (r109.2 != r114.2)) then (k false h115) else (law23_RlogPlays_j4 t1_3 t3_3 t4_3 t5_3 t14_3 t15_3 t16_3 k nx1 nx3 h115)) h110)))) h98))))) h95)))))) else (law23_RlogPlays_j4 t1_3 t3_3 t4_3 t5_3 t14_3 t15_3 t16_3 k nx1 nx3 h_3)) else (law23_awake  (fun (r116 : Bool) h117 => k r116 h117) h_3)
def law23_RlogPlays_l3 (t1_3 : Int) (t3_3 : Slc) (t4_3 : Int) (t5_3 : Int) (t14_3 : Option Addr) (t15_3 : Addr) (i16 : Int) (k : (Bool) → Heap → Prop) (nx1 : (Int) → Heap → Prop) (h : Heap) : Prop :=
  ∃ (I : Int → Heap → Prop) (μ : Int → Heap → Nat), I i16 h ∧ ∀ (t16_3 : Int) (h : Heap), I t16_3 h → law23_RlogPlays_l3b t1_3 t3_3 t4_3 t5_3 t14_3 t15_3 t16_3 k nx1 (fun s h' => I s h' ∧ μ s h' < μ t16_3 h) h
def law23_RlogPlays_l1b (t0_1 : Int) (t1_1 : Int) (t2_1 : Slc) (t3_1 : Slc) (t4_1 : Int) (t5_1 : Int) (t13_1 : Int) (k : (Bool) → Heap → Prop) (nx1 : (Int) → Heap → Prop) (h_1 : Heap) : Prop :=
  if ((decide (t13_1 < (t3_1.len : Int))) && (decide (t13_1 < 20))) then (∃ a5 : Addr, t3_1.a = some a5 ∧ (0 : Int) ≤ t13_1 ∧ t13_1 < (t3_1.len : Int) ∧ (∃ v6 : Slc, cellH h_1 ((a5.add (t13_1.toNat * 4)).add 3) = some (Slc.v v6) ∧ (ref23_Great v6 (fun (r7 : Bool) h8 => if r7 then (law23_RlogPlays_g2 t0_1 t1_1 t2_1 t3_1 t4_1 t5_1 t13_1 true k nx1 h8) else (∃ a12 : Addr, t3_1.a = some a12 ∧ (0 : Int) ≤ t13_1 ∧ t13_1 < (t3_1.len : Int) ∧ (∃ v13 : Int, cellH h8 ((a12.add (t13_1.toNat * 4)).add 1) = some (.int .u64 v13) ∧ (law23_RlogPlays_g2 t0_1 t1_1 t2_1 t3_1 t4_1 t5_1 t13_1 (decide (v13 > 2305843009213693952)) k nx1 h8)))) h_1))) else (rlog_New t0_1 t1_1 t2_1 (fun (r14 : Option Addr) h15 => ∃ (b16 : Nat) (h17 : Heap), b16 = h15.size ∧ h17 = h15.push (.cells (S_quaestorref23_Log.cs (⟨t0_1, t1_1, t2_1⟩ : S_quaestorref23_Log)).toArray 73) ∧ (law23_RlogPlays_l3 t1_1 t3_1 t4_1 t5_1 r14 (⟨b16, 0, none⟩ : Addr) 0 k nx1 h17)) h_1)
def law23_RlogPlays_l1 (t0_1 : Int) (t1_1 : Int) (t2_1 : Slc) (t3_1 : Slc) (t4_1 : Int) (t5_1 : Int) (i13 : Int) (k : (Bool) → Heap → Prop) (h : Heap) : Prop :=
  ∃ (I : Int → Heap → Prop) (μ : Int → Heap → Nat), I i13 h ∧ ∀ (t13_1 : Int) (h : Heap), I t13_1 h → law23_RlogPlays_l1b t0_1 t1_1 t2_1 t3_1 t4_1 t5_1 t13_1 k (fun s h' => I s h' ∧ μ s h' < μ t13_1 h) h
def law23_RlogPlays (p0 : Int) (p1 : Int) (p2 : Slc) (p3 : Slc) (p4 : Int) (p5 : Int) (k : (Bool) → Heap → Prop) (h : Heap) : Prop :=
  ref23_Great p2 (fun (r1 : Bool) h2 => if ((r1 || (decide (p0 > 1152921504606846976))) || (decide (p4 > 2305843009213693952))) then (law23_awake  (fun (r3 : Bool) h4 => k r3 h4) h2) else (law23_RlogPlays_l1 p0 p1 p2 p3 p4 p5 0 k h2)) h

theorem ref01_Pick_ok : CallOk Go.Proofs.Try.prog 29 := ⟨_, Go.Proofs.Try.func29, by kernel_rfl, by kernel_rfl⟩
theorem ref01_Pick_ref (p0 : Int) (p1 : Int) (k : (Int) → Heap → Prop) (h : Heap) (H : ref01_Pick p0 p1 k h) : CallsH Go.Proofs.Try.prog 29 #[.int .i64 p0, .int .i64 p1] h (fun v h' => ∃ r : Int, v = .int .i64 r ∧ k r h') := by
  refine f_enter (N := 17) Go.Proofs.Try.func29 rfl rfl rfl (fun w0 => ?_)
  unfold ref01_Pick at H
  refine c_weak [(0, .int .i64 p0), (1, .int .i64 p1)] ⟨rfl, rfl, trivial⟩ ?_
  refine c_seq ?_
  refine c_region ?_
  refine w_p tok rfl rfl rfl ?_
  refine w_end ?_
  refine x_seq ?_
  refine c_seq ?_
  refine c_seq ?_
  refine c_region ?_
  refine w_p tok rfl rfl rfl ?_
  refine w_p tok rfl rfl rfl ?_
  refine w_end ?_
  refine x_seq ?_
  refine c_if H rfl (fun H => ?_) (fun H => ?_)
  ·
    refine c_seq ?_
    refine c_region ?_
    refine w_p tok rfl rfl rfl ?_
    refine w_end ?_
    refine x_seq ?_
    refine c_ret ?_
    refine x_tr ?_
    exact x_ret _ rfl _ rfl ⟨0, rfl, H⟩
  ·
    refine c_skip ?_
    refine x_seq ?_
    refine c_seq ?_
    refine c_region ?_
    refine w_p tok rfl rfl rfl ?_
    refine w_p tok rfl rfl rfl ?_
    obtain ⟨z1, H⟩ := H
    refine w_y (y_rem rfl rfl rfl z1) rfl rfl ?_
    obtain ⟨x2, ex2, H⟩ := H
    refine w_pe tok rfl (congrArg (fun z => (.int .i64 z : Value)) ex2) rfl rfl ?_
    refine w_end ?_
    refine x_seq ?_
    refine c_weak [(1, .int .i64 p1), (5, .int .i64 x2)] ⟨rfl, rfl, trivial⟩ ?_
    refine c_seqJ (α := Int) (fun (s : Int) => [(5, .int .i64 s)]) (fun (s : Int) h => ref01_Pick_j1 s k h) ?_ ?_
    ·
      rintro t5_1 h_1 H
      replace H : ref01_Pick_j1 t5_1 k h_1 := H
      unfold ref01_Pick_j1 at H
      refine c_weak [(5, .int .i64 t5_1)] ⟨rfl, trivial⟩ ?_
      refine c_seq ?_
      refine c_region ?_
      refine w_p tok rfl rfl rfl ?_
      refine w_p tok rfl rfl rfl ?_
      refine w_end ?_
      refine x_seq ?_
      refine c_ret ?_
      exact x_ret _ rfl _ rfl ⟨t5_1, rfl, H⟩
    ·
      refine c_seq ?_
      refine c_region ?_
      refine w_p tok rfl rfl rfl ?_
      refine w_p tok rfl rfl rfl ?_
      refine w_end ?_
      refine x_seq ?_
      refine c_if H rfl (fun H => ?_) (fun H => ?_)
      ·
        refine c_region ?_
        refine w_p tok rfl rfl rfl ?_
        refine w_p tok rfl rfl rfl ?_
        refine w_p tok rfl rfl rfl ?_
        obtain ⟨x3, ex3, H⟩ := H
        refine w_pe tok rfl (congrArg (fun z => (.int .i64 z : Value)) ex3) rfl rfl ?_
        refine w_end ?_
        exact x_join x3 H ⟨rfl, trivial⟩
      ·
        refine c_skip ?_
        exact x_join x2 H ⟨rfl, trivial⟩

theorem ref01_Same_ok : CallOk Go.Proofs.Try.prog 45 := ⟨_, Go.Proofs.Try.func45, by kernel_rfl, by kernel_rfl⟩
theorem ref01_Same_ref (p0 : Slc) (p1 : Slc) (k : (Bool) → Heap → Prop) (h : Heap) (H : ref01_Same p0 p1 k h) : CallsH Go.Proofs.Try.prog 45 #[Slc.v p0, Slc.v p1] h (fun v h' => ∃ r : Bool, v = .bool r ∧ k r h') := by
  refine f_enter (N := 26) Go.Proofs.Try.func45 rfl rfl rfl (fun w0 => ?_)
  unfold ref01_Same at H
  refine c_weak [(0, Slc.v p0), (1, Slc.v p1)] ⟨rfl, rfl, trivial⟩ ?_
  refine c_seq ?_
  refine c_region ?_
  refine w_p tok rfl rfl rfl ?_
  refine w_end ?_
  refine x_seq ?_
  refine c_seq ?_
  refine c_seq ?_
  refine c_region ?_
  refine w_p tok rfl rfl rfl ?_
  refine w_p tok rfl rfl rfl ?_
  refine w_p tok rfl rfl rfl ?_
  refine w_p tok rfl rfl rfl ?_
  refine w_p tok rfl rfl rfl ?_
  refine w_end ?_
  refine x_seq ?_
  refine c_if H rfl (fun H => ?_) (fun H => ?_)
  ·
    refine c_seq ?_
    refine c_region ?_
    refine w_p tok rfl rfl rfl ?_
    refine w_end ?_
    refine x_seq ?_
    refine c_weak [(4, .bool false)] ⟨rfl, trivial⟩ ?_
    refine c_ret ?_
    refine x_tr ?_
    exact x_ret _ rfl _ rfl ⟨false, rfl, H⟩
  ·
    refine c_skip ?_
    refine x_seq ?_
    refine c_seq ?_
    refine c_seq ?_
    refine c_region ?_
    refine w_p tok rfl rfl rfl ?_
    refine w_end ?_
    refine x_seq ?_
    refine c_block ?_
    obtain ⟨I1, μ1, H0, HI⟩ := H
    refine c_loop (σ := Int) (fun (s : Int) => [(5, .int .i64 s), (0, Slc.v p0), (1, Slc.v p1)]) I1 μ1 0 H0 ⟨rfl, rfl, rfl, trivial⟩ ?_
    rintro t5_1 h_1 H
    replace H := HI t5_1 h_1 H
    unfold ref01_Same_l1b at H
    refine c_weak [(5, .int .i64 t5_1), (0, Slc.v p0), (1, Slc.v p1)] ⟨rfl, rfl, rfl, trivial⟩ ?_
    refine c_seq ?_
    refine c_seq ?_
    refine c_region ?_
    refine w_p tok rfl rfl rfl ?_
    refine w_p tok rfl rfl rfl ?_
    refine w_p tok rfl rfl rfl ?_
    refine w_p tok rfl rfl rfl ?_
    refine w_end ?_
    refine x_seq ?_
    refine c_if H rfl (fun H => ?_) (fun H => ?_)
    ·
      refine c_skip ?_
      refine x_seq ?_
      refine c_seq ?_
      refine c_block ?_
      refine c_seq ?_
      refine c_draw (by kernel_rfl) (by kernel_rfl) ?_
      refine q_p tok rfl rfl rfl ?_
      refine q_p tok rfl rfl rfl ?_
      obtain ⟨a1, ha1, la1, ua1, H⟩ := H
      refine q_y (y_ixa' tok rfl rfl ha1 rfl rfl rfl la1 ua1) rfl rfl ?_
      obtain ⟨v2, hv2, H⟩ := H
      refine q_y (y_ld tok rfl rfl rfl rfl hv2) rfl rfl ?_
      refine q_p tok rfl rfl rfl ?_
      refine q_p tok rfl rfl rfl ?_
      obtain ⟨a3, ha3, la3, ua3, H⟩ := H
      refine q_y (y_ixa' tok rfl rfl ha3 rfl rfl rfl la3 ua3) rfl rfl ?_
      obtain ⟨v4, hv4, H⟩ := H
      refine q_y (y_ld tok rfl rfl rfl rfl hv4) rfl rfl ?_
      refine q_p tok rfl rfl rfl ?_
      refine q_end ?_
      refine x_seq ?_
      refine c_weak [(5, .int .i64 t5_1), (0, Slc.v p0), (1, Slc.v p1), (25, .bool (v2 != v4))] ⟨rfl, rfl, rfl, rfl, trivial⟩ ?_
      refine c_if H rfl (fun H => ?_) (fun H => ?_)
      ·
        refine c_seq ?_
        refine c_region ?_
        refine w_p tok rfl rfl rfl ?_
        refine w_end ?_
        refine x_seq ?_
        refine c_ret ?_
        refine x_br ?_
        refine x_tr ?_
        refine x_tr ?_
        refine x_br ?_
        refine x_tr ?_
        exact x_ret _ rfl _ rfl ⟨false, rfl, H⟩
      ·
        refine c_skip ?_
        refine x_blk ?_
        refine x_seq ?_
        refine c_region ?_
        refine w_p tok rfl rfl rfl ?_
        refine w_p tok rfl rfl rfl ?_
        obtain ⟨x5, ex5, H⟩ := H
        refine w_pe tok rfl (congrArg (fun z => (.int .i64 z : Value)) ex5) rfl rfl ?_
        refine w_end ?_
        exact x_join x5 H ⟨rfl, rfl, rfl, trivial⟩
    ·
      refine c_exit ?_
      refine x_te ?_
      refine x_te ?_
      refine x_bh ?_
      refine x_seq ?_
      refine c_weak [] trivial ?_
      refine c_seq ?_
      refine c_region ?_
      refine w_p tok rfl rfl rfl ?_
      refine w_end ?_
      refine x_seq ?_
      refine c_ret ?_
      exact x_ret _ rfl _ rfl ⟨true, rfl, H⟩

theorem ref23_Great_ok : CallOk Go.Proofs.Try.prog 21 := ⟨_, Go.Proofs.Try.func21, by kernel_rfl, by kernel_rfl⟩
theorem ref23_Great_ref (p0 : Slc) (k : (Bool) → Heap → Prop) (h : Heap) (H : ref23_Great p0 k h) : CallsH Go.Proofs.Try.prog 21 #[Slc.v p0] h (fun v h' => ∃ r : Bool, v = .bool r ∧ k r h') := by
  refine f_enter (N := 24) Go.Proofs.Try.func21 rfl rfl rfl (fun w0 => ?_)
  unfold ref23_Great at H
  refine c_weak [(0, Slc.v p0)] ⟨rfl, trivial⟩ ?_
  refine c_seq ?_
  refine c_region ?_
  refine w_p tok rfl rfl rfl ?_
  refine w_end ?_
  refine x_seq ?_
  refine c_seq ?_
  refine c_seq ?_
  refine c_region ?_
  refine w_p tok rfl rfl rfl ?_
  refine w_end ?_
  refine x_seq ?_
  refine c_block ?_
  obtain ⟨I1, μ1, H0, HI⟩ := H
  refine c_loop (σ := Int) (fun (s : Int) => [(3, .int .i64 s), (0, Slc.v p0)]) I1 μ1 0 H0 ⟨rfl, rfl, trivial⟩ ?_
  rintro t3_1 h_1 H
  replace H := HI t3_1 h_1 H
  unfold ref23_Great_l1b at H
  refine c_weak [(3, .int .i64 t3_1), (0, Slc.v p0)] ⟨rfl, rfl, trivial⟩ ?_
  refine c_seq ?_
  refine c_seq ?_
  refine c_region ?_
  refine w_p tok rfl rfl rfl ?_
  refine w_p tok rfl rfl rfl ?_
  refine w_p tok rfl rfl rfl ?_
  refine w_p tok rfl rfl rfl ?_
  refine w_p tok rfl rfl rfl ?_
  refine w_cutU 3 [(11, .bool ((decide (t3_1 < (p0.len : Int))) && (decide (t3_1 < 100)))), (0, Slc.v p0), (3, .int .i64 t3_1)] ?_ ?_
  ·
    refine w_end ?_
    refine x_seq ?_
    refine c_if H rfl (fun H => ?_) (fun H => ?_)
    ·
      refine c_skip ?_
      refine x_seq ?_
      refine c_seq ?_
      refine c_block ?_
      refine c_seq ?_
      refine c_region ?_
      refine w_p tok rfl rfl rfl ?_
      refine w_p tok rfl rfl rfl ?_
      obtain ⟨a1, ha1, la1, ua1, H⟩ := H
      refine w_y (y_ixa' tok rfl rfl ha1 rfl rfl rfl la1 ua1) rfl rfl ?_
      refine w_p tok rfl rfl rfl ?_
      obtain ⟨v2, hv2, H⟩ := H
      refine w_y (y_ld tok rfl rfl rfl rfl hv2) rfl rfl ?_
      refine w_p tok rfl rfl rfl ?_
      refine w_p tok rfl rfl rfl ?_
      refine w_end ?_
      refine x_seq ?_
      refine c_weak [(0, Slc.v p0), (3, .int .i64 t3_1), (20, .bool (decide ((v2.len : Int) > 300)))] ⟨rfl, rfl, rfl, trivial⟩ ?_
      refine c_if H rfl (fun H => ?_) (fun H => ?_)
      ·
        refine c_seq ?_
        refine c_region ?_
        refine w_p tok rfl rfl rfl ?_
        refine w_end ?_
        refine x_seq ?_
        refine c_ret ?_
        refine x_br ?_
        refine x_tr ?_
        refine x_tr ?_
        refine x_br ?_
        refine x_tr ?_
        exact x_ret _ rfl _ rfl ⟨true, rfl, H⟩
      ·
        refine c_skip ?_
        refine x_blk ?_
        refine x_seq ?_
        refine c_region ?_
        refine w_p tok rfl rfl rfl ?_
        refine w_p tok rfl rfl rfl ?_
        obtain ⟨x3, ex3, H⟩ := H
        refine w_pe tok rfl (congrArg (fun z => (.int .i64 z : Value)) ex3) rfl rfl ?_
        refine w_end ?_
        exact x_join x3 H ⟨rfl, rfl, trivial⟩
    ·
      refine c_exit ?_
      refine x_te ?_
      refine x_te ?_
      refine x_bh ?_
      refine x_seq ?_
      refine c_seq ?_
      refine c_region ?_
      refine w_p tok rfl rfl rfl ?_
      refine w_p tok rfl rfl rfl ?_
      refine w_p tok rfl rfl rfl ?_
      refine w_p tok rfl rfl rfl ?_
      refine w_end ?_
      refine x_seq ?_
      refine c_ret ?_
      exact x_ret _ rfl _ rfl ⟨(decide ((p0.len : Int) > 100)), rfl, H⟩
  ·
    refine w_gs (d := 8) rfl (fun hb => ?_) (fun hb => ?_)
    ·
      refine w_p tok rfl rfl rfl ?_
      refine w_p tok rfl rfl rfl ?_
      refine w_p tok rfl rfl rfl ?_
      refine w_jn () rfl ⟨?_, rfl, rfl, trivial⟩
      exact congrArg (fun b => some (Value.bool b)) (and_t hb)
    ·
      refine w_skip rfl rfl ?_
      refine w_skip rfl rfl ?_
      refine w_p tok rfl rfl rfl ?_
      refine w_jn () rfl ⟨?_, rfl, rfl, trivial⟩
      exact congrArg (fun b => some (Value.bool b)) (and_f hb)

theorem rlog_copied_ok : CallOk Go.Proofs.Try.prog 43 := ⟨_, Go.Proofs.Try.func43, by kernel_rfl, by kernel_rfl⟩
theorem rlog_copied_ref (p0 : Slc) (k : (Slc) → Heap → Prop) (h : Heap) (H : rlog_copied p0 k h) : CallsH Go.Proofs.Try.prog 43 #[Slc.v p0] h (fun v h' => ∃ r : Slc, v = Slc.v r ∧ k r h') := by
  refine f_enter (N := 23) Go.Proofs.Try.func43 rfl rfl rfl (fun w0 => ?_)
  unfold rlog_copied at H
  refine c_weak [(0, Slc.v p0)] ⟨rfl, trivial⟩ ?_
  refine c_seq ?_
  refine c_region ?_
  refine w_p tok rfl rfl rfl ?_
  refine w_end ?_
  refine x_seq ?_
  refine c_seq ?_
  refine c_region ?_
  refine w_p tok rfl rfl rfl ?_
  refine w_end ?_
  refine x_seq ?_
  refine c_seq ?_
  refine c_seq ?_
  refine c_region ?_
  refine w_p tok rfl rfl rfl ?_
  refine w_p tok rfl rfl rfl ?_
  refine w_p tok rfl rfl rfl ?_
  refine w_end ?_
  refine x_seq ?_
  refine c_block ?_
  obtain ⟨I1, μ1, H0, HI⟩ := H
  refine c_loop (σ := Slc × Int) (fun (s : Slc × Int) => [(3, Slc.v s.1), (8, .int .i64 s.2), (6, Slc.v p0), (7, .int .i64 (p0.len : Int))]) I1 μ1 ((⟨none, 0, 0⟩ : Slc), 0) H0 ⟨rfl, rfl, rfl, rfl, trivial⟩ ?_
  rintro ⟨t3_1, t8_1⟩ h_1 H
  replace H := HI t3_1 t8_1 h_1 H
  unfold rlog_copied_l1b at H
  refine c_weak [(3, Slc.v t3_1), (8, .int .i64 t8_1), (6, Slc.v p0), (7, .int .i64 (p0.len : Int))] ⟨rfl, rfl, rfl, rfl, trivial⟩ ?_
  refine c_seq ?_
  refine c_region ?_
  refine w_p tok rfl rfl rfl ?_
  refine w_end ?_
  refine x_seq ?_
  refine c_seq ?_
  refine c_if H rfl (fun H => ?_) (fun H => ?_)
  ·
    refine c_skip ?_
    refine x_seq ?_
    refine c_seq ?_
    refine c_block ?_
    refine c_seq ?_
    refine c_region ?_
    obtain ⟨a1, ha1, la1, ua1, H⟩ := H
    refine w_y (y_ixa' tok rfl rfl ha1 rfl rfl rfl la1 ua1) rfl rfl ?_
    obtain ⟨v2, hv2, H⟩ := H
    refine w_y (y_lda tok rfl rfl rfl rfl rfl hv2) rfl rfl ?_
    obtain ⟨b3, h4, eb3, eh4, H⟩ := H
    refine w_h (h_alloc tok rfl rfl eb3 eh4) rfl rfl ?_
    obtain ⟨h5, wh5, eh5, H⟩ := H
    refine w_h (h_sts tok rfl rfl rfl rfl rfl (by simp [S_api_Entry.cs, Slc.v, Value.oneCell']) wh5 eh5) rfl rfl ?_
    refine w_end ?_
    refine x_seq ?_
    refine c_sim [(3, Slc.v t3_1), (5, .pointer (some (⟨b3, 0, none⟩ : Addr))), (6, Slc.v p0), (7, .int .i64 (p0.len : Int)), (8, .int .i64 t8_1)] (by kernel_rfl) (by kernel_rfl) ⟨rfl, rfl, rfl, rfl, rfl, trivial⟩ (fun wf => ?_)
    refine sim_p 0 (ei := [(3, Slc.v t3_1)]) (d := (some 12)) wf (by kernel_rfl) ⟨rfl, trivial⟩ (by kernel_rfl) (by kernel_rfl) (fun _ => pf_p tok rfl rfl rfl rfl) (fun P_0 => ?_)
    refine sim_p 1 (ei := [(5, .pointer (some (⟨b3, 0, none⟩ : Addr)))]) (d := (some 13)) wf (by kernel_rfl) ⟨rfl, trivial⟩ (by kernel_rfl) (by kernel_rfl) (fun _ => pf_p tok rfl rfl rfl rfl) (fun P_1 => ?_)
    obtain ⟨v6, hv6, H⟩ := H
    refine sim_l 2 (ei := [(13, .pointer (some (⟨b3, 0, none⟩ : Addr)))]) (d := (some 14)) wf (by kernel_rfl) ⟨rfl, trivial⟩ (by kernel_rfl) (by kernel_rfl) (pf_y rfl rfl rfl (y_ld tok rfl rfl rfl rfl hv6)) (fun P_2 => ?_)
    refine sim_p 3 (ei := [(5, .pointer (some (⟨b3, 0, none⟩ : Addr)))]) (d := (some 15)) wf (by kernel_rfl) ⟨rfl, trivial⟩ (by kernel_rfl) (by kernel_rfl) (fun _ => pf_p tok rfl rfl rfl rfl) (fun P_3 => ?_)
    obtain ⟨v7, hv7, H⟩ := H
    refine sim_l 4 (ei := [(15, .pointer (some ((⟨b3, 0, none⟩ : Addr).add 1)))]) (d := (some 16)) wf (by kernel_rfl) ⟨rfl, trivial⟩ (by kernel_rfl) (by kernel_rfl) (pf_y rfl rfl rfl (y_ld tok rfl rfl rfl rfl hv7)) (fun P_4 => ?_)
    refine sim_c 5 [3, 4] [3, 4] (ei := [(16, Slc.v v7)]) slices_Clone_byte_byte_ok (slices_Clone_byte_byte_ref _ _ _ H) wf ⟨P_4, P_3 _, P_2, P_1 _, P_0 _, trivial⟩ (by kernel_rfl) ⟨rfl, trivial⟩ (by kernel_rfl) rfl rfl rfl rfl rfl ?_
    rintro _ h9 ⟨r8, rfl, H⟩
    obtain ⟨hy10, H⟩ := H
    refine sim_re (x := ⟨2, .int .u64 v6, [(13, .pointer (some (⟨b3, 0, none⟩ : Addr)))]⟩) (pf_y rfl rfl rfl (y_ld tok rfl rfl rfl rfl hy10)) (fun P_2 => ?_)
    refine sim_p 6 (ei := [(14, .int .u64 v6), (17, Slc.v r8)]) (d := (some 18)) wf (by kernel_rfl) ⟨rfl, rfl, trivial⟩ (by kernel_rfl) (by kernel_rfl) (fun _ => pf_y rfl rfl rfl (y_build tok rfl rfl rfl rfl rfl)) (fun P_6 => ?_)
    obtain ⟨b11, h12, eb11, eh12, H⟩ := H
    refine sim_h 7 [1, 2, 3, 4, 5, 6] [1, 2, 3, 4, 6] (ei := [(18, .agg (S_api_Entry.cs (⟨v6, r8⟩ : S_api_Entry)).toArray)]) wf ⟨P_6 _, trivial, trivial, P_2, P_1 _, P_0 _, trivial⟩ (by kernel_rfl) ⟨rfl, trivial⟩ (by kernel_rfl) rfl rfl rfl (h_bs tok rfl rfl rfl rfl rfl rfl rfl eb11 eh12) ?_
    refine sim_a 8 [0, 1, 2, 3, 4, 5, 6, 7] [0, 1, 2, 3, 4, 6] (ei := [(12, Slc.v t3_1), (19, Slc.v (⟨some ⟨b11, 0, none⟩, 1, 1⟩ : Slc))]) wf ⟨trivial, trivial, trivial, trivial, trivial, P_0 _, trivial⟩ (by kernel_rfl) ⟨rfl, rfl, trivial⟩ (by kernel_rfl) rfl rfl rfl (a_app (s := t3_1) (r := (⟨some ⟨b11, 0, none⟩, 1, 1⟩ : Slc)) tok rfl rfl rfl rfl rfl (slcAt_push eb11 eh12) H) ?_
    rintro _ h14 ⟨s13, rfl, H⟩
    refine sim_p 9 (ei := [(20, Slc.v s13)]) (d := (some 3)) wf (by kernel_rfl) ⟨rfl, trivial⟩ (by kernel_rfl) (by kernel_rfl) (fun _ => pf_p tok rfl rfl rfl rfl) (fun P_9 => ?_)
    refine sim_end wf ⟨P_9 _, trivial, trivial, trivial, trivial, trivial, trivial, trivial⟩ (by kernel_rfl) ?_
    clear wf P_0 P_1 P_2 P_3 P_4 P_6 P_9
    refine x_blk ?_
    refine x_seq ?_
    refine c_weak [(3, Slc.v s13), (6, Slc.v p0), (7, .int .i64 (p0.len : Int)), (8, .int .i64 t8_1)] ⟨rfl, rfl, rfl, rfl, trivial⟩ ?_
    refine c_region ?_
    refine w_p tok rfl rfl rfl ?_
    refine w_p tok rfl rfl rfl ?_
    refine w_end ?_
    exact x_join (s13, (IntKind.i64.wrap (t8_1 + 1))) H ⟨rfl, rfl, rfl, rfl, trivial⟩
  ·
    refine c_exit ?_
    refine x_te ?_
    refine x_te ?_
    refine x_bh ?_
    refine x_seq ?_
    refine c_seq ?_
    refine c_region ?_
    refine w_p tok rfl rfl rfl ?_
    refine w_p tok rfl rfl rfl ?_
    refine w_end ?_
    refine x_seq ?_
    refine c_ret ?_
    exact x_ret _ rfl _ rfl ⟨t3_1, rfl, H⟩

theorem rlog_New_ok : CallOk Go.Proofs.Try.prog 23 := ⟨_, Go.Proofs.Try.func23, by kernel_rfl, by kernel_rfl⟩
theorem rlog_New_ref (p0 : Int) (p1 : Int) (p2 : Slc) (k : (Option Addr) → Heap → Prop) (h : Heap) (H : rlog_New p0 p1 p2 k h) : CallsH Go.Proofs.Try.prog 23 #[.int .u64 p0, .int .u64 p1, Slc.v p2] h (fun v h' => ∃ r : Option Addr, v = .pointer r ∧ k r h') := by
  refine f_enter (N := 13) Go.Proofs.Try.func23 rfl rfl rfl (fun w0 => ?_)
  unfold rlog_New at H
  refine c_weak [(0, .int .u64 p0), (1, .int .u64 p1), (2, Slc.v p2)] ⟨rfl, rfl, rfl, trivial⟩ ?_
  refine c_seq ?_
  refine c_region ?_
  refine w_p tok rfl rfl rfl ?_
  refine w_end ?_
  refine x_seq ?_
  refine c_seq ?_
  refine c_region ?_
  refine w_p tok rfl rfl rfl ?_
  refine w_p tok rfl rfl rfl ?_
  refine w_p tok rfl rfl rfl ?_
  refine w_call rlog_copied_ok (rlog_copied_ref _ _ _ H) rfl rfl rfl rfl ?_
  rintro _ h2 ⟨r1, rfl, H⟩
  refine w_y (y_build tok rfl rfl rfl rfl rfl) rfl rfl ?_
  obtain ⟨b3, h4, eb3, eh4, H⟩ := H
  refine w_h (h_box rfl rfl eb3 eh4) rfl rfl ?_
  refine w_p tok rfl rfl rfl ?_
  refine w_end ?_
  refine x_seq ?_
  refine c_weak [(6, .pointer (some (⟨b3, 0, none⟩ : Addr)))] ⟨rfl, trivial⟩ ?_
  refine c_ret ?_
  exact x_ret _ rfl _ rfl ⟨(some (⟨b3, 0, none⟩ : Addr)), rfl, H⟩

theorem slices_Clone_api_Entry_api_Entry_ok : CallOk Go.Proofs.Try.prog 44 := ⟨_, Go.Proofs.Try.func44, by kernel_rfl, by kernel_rfl⟩
theorem slices_Clone_api_Entry_api_Entry_ref (p0 : Slc) (k : (Slc) → Heap → Prop) (h : Heap) (H : slices_Clone_api_Entry_api_Entry p0 k h) : CallsH Go.Proofs.Try.prog 44 #[Slc.v p0] h (fun v h' => ∃ r : Slc, v = Slc.v r ∧ k r h') := by
  refine f_enter (N := 8) Go.Proofs.Try.func44 rfl rfl rfl (fun w0 => ?_)
  unfold slices_Clone_api_Entry_api_Entry at H
  refine c_weak [(0, Slc.v p0)] ⟨rfl, trivial⟩ ?_
  refine c_seq ?_
  refine c_region ?_
  refine w_p tok rfl rfl rfl ?_
  refine w_end ?_
  refine x_seq ?_
  refine c_seq ?_
  refine c_seq ?_
  refine c_region ?_
  refine w_p tok rfl rfl rfl ?_
  refine w_p tok rfl rfl rfl ?_
  refine w_end ?_
  refine x_seq ?_
  refine c_if H rfl (fun H => ?_) (fun H => ?_)
  ·
    refine c_seq ?_
    refine c_region ?_
    refine w_p tok rfl rfl rfl ?_
    refine w_end ?_
    refine x_seq ?_
    refine c_ret ?_
    refine x_tr ?_
    exact x_ret _ rfl _ rfl ⟨(⟨none, 0, 0⟩ : Slc), rfl, H⟩
  ·
    refine c_skip ?_
    refine x_seq ?_
    refine c_seq ?_
    refine c_region ?_
    obtain ⟨b1, h2, eb1, eh2, H⟩ := H
    refine w_h (h_bs tok rfl rfl rfl rfl rfl rfl rfl eb1 eh2) rfl rfl ?_
    refine w_p tok rfl rfl rfl ?_
    obtain ⟨l5, hl5, H⟩ := H
    refine w_a (a_app (s := (⟨some ⟨b1, 0, none⟩, 0, 0⟩ : Slc)) (r := p0) tok rfl rfl rfl rfl rfl hl5 H) rfl rfl ?_
    rintro _ h4 ⟨s3, rfl, H⟩
    refine w_p tok rfl rfl rfl ?_
    refine w_end ?_
    refine x_seq ?_
    refine c_ret ?_
    exact x_ret _ rfl _ rfl ⟨s3, rfl, H⟩

theorem ref23_Same_ok : CallOk Go.Proofs.Try.prog 25 := ⟨_, Go.Proofs.Try.func25, by kernel_rfl, by kernel_rfl⟩
theorem ref23_Same_ref (p0 : Slc) (p1 : Slc) (k : (Bool) → Heap → Prop) (h : Heap) (H : ref23_Same p0 p1 k h) : CallsH Go.Proofs.Try.prog 25 #[Slc.v p0, Slc.v p1] h (fun v h' => ∃ r : Bool, v = .bool r ∧ k r h') := by
  refine f_enter (N := 42) Go.Proofs.Try.func25 rfl rfl rfl (fun w0 => ?_)
  unfold ref23_Same at H
  refine c_weak [(0, Slc.v p0), (1, Slc.v p1)] ⟨rfl, rfl, trivial⟩ ?_
  refine c_seq ?_
  refine c_region ?_
  refine w_p tok rfl rfl rfl ?_
  refine w_end ?_
  refine x_seq ?_
  refine c_seq ?_
  refine c_seq ?_
  refine c_region ?_
  refine w_p tok rfl rfl rfl ?_
  refine w_p tok rfl rfl rfl ?_
  refine w_p tok rfl rfl rfl ?_
  refine w_p tok rfl rfl rfl ?_
  refine w_p tok rfl rfl rfl ?_
  refine w_end ?_
  refine x_seq ?_
  refine c_if H rfl (fun H => ?_) (fun H => ?_)
  ·
    refine c_seq ?_
    refine c_region ?_
    refine w_p tok rfl rfl rfl ?_
    refine w_end ?_
    refine x_seq ?_
    refine c_weak [(4, .bool false)] ⟨rfl, trivial⟩ ?_
    refine c_ret ?_
    refine x_tr ?_
    exact x_ret _ rfl _ rfl ⟨false, rfl, H⟩
  ·
    refine c_skip ?_
    refine x_seq ?_
    refine c_seq ?_
    refine c_seq ?_
    refine c_region ?_
    refine w_p tok rfl rfl rfl ?_
    refine w_end ?_
    refine x_seq ?_
    refine c_block ?_
    obtain ⟨I1, μ1, H0, HI⟩ := H
    refine c_loop (σ := Int) (fun (s : Int) => [(5, .int .i64 s), (0, Slc.v p0), (1, Slc.v p1)]) I1 μ1 0 H0 ⟨rfl, rfl, rfl, trivial⟩ ?_
    rintro t5_1 h_1 H
    replace H := HI t5_1 h_1 H
    unfold ref23_Same_l1b at H
    refine c_weak [(5, .int .i64 t5_1), (0, Slc.v p0), (1, Slc.v p1)] ⟨rfl, rfl, rfl, trivial⟩ ?_
    refine c_seq ?_
    refine c_seq ?_
    refine c_region ?_
    refine w_p tok rfl rfl rfl ?_
    refine w_p tok rfl rfl rfl ?_
    refine w_p tok rfl rfl rfl ?_
    refine w_p tok rfl rfl rfl ?_
    refine w_end ?_
    refine x_seq ?_
    refine c_if H rfl (fun H => ?_) (fun H => ?_)
    ·
      refine c_skip ?_
      refine x_seq ?_
      refine c_seq ?_
      refine c_block ?_
      refine c_seqJ (α := Bool) (fun (s : Bool) => [(41, .bool s), (0, Slc.v p0), (1, Slc.v p1), (5, .int .i64 t5_1)]) (fun (s : Bool) h => ref23_Same_j2 p0 p1 t5_1 s k (fun s h' => I1 s h' ∧ μ1 s h' < μ1 t5_1 h_1) h) ?_ ?_
      ·
        rintro t41_2 h_2 H
        replace H : ref23_Same_j2 p0 p1 t5_1 t41_2 k (fun s h' => I1 s h' ∧ μ1 s h' < μ1 t5_1 h_1) h_2 := H
        unfold ref23_Same_j2 at H
        refine c_weak [(41, .bool t41_2), (0, Slc.v p0), (1, Slc.v p1), (5, .int .i64 t5_1)] ⟨rfl, rfl, rfl, rfl, trivial⟩ ?_
        refine c_if H rfl (fun H => ?_) (fun H => ?_)
        ·
          refine c_seq ?_
          refine c_region ?_
          refine w_p tok rfl rfl rfl ?_
          refine w_end ?_
          refine x_seq ?_
          refine c_ret ?_
          refine x_br ?_
          refine x_tr ?_
          refine x_tr ?_
          refine x_br ?_
          refine x_tr ?_
          exact x_ret _ rfl _ rfl ⟨false, rfl, H⟩
        ·
          refine c_skip ?_
          refine x_blk ?_
          refine x_seq ?_
          refine c_region ?_
          refine w_p tok rfl rfl rfl ?_
          refine w_p tok rfl rfl rfl ?_
          obtain ⟨x1, ex1, H⟩ := H
          refine w_pe tok rfl (congrArg (fun z => (.int .i64 z : Value)) ex1) rfl rfl ?_
          refine w_end ?_
          exact x_join x1 H ⟨rfl, rfl, rfl, trivial⟩
      ·
        refine c_sim [(0, Slc.v p0), (1, Slc.v p1), (5, .int .i64 t5_1)] (by kernel_rfl) (by kernel_rfl) ⟨rfl, rfl, rfl, trivial⟩ (fun wf => ?_)
        refine sim_p 0 (ei := [(0, Slc.v p0)]) (d := (some 17)) wf (by kernel_rfl) ⟨rfl, trivial⟩ (by kernel_rfl) (by kernel_rfl) (fun _ => pf_p tok rfl rfl rfl rfl) (fun P_0 => ?_)
        refine sim_p 1 (ei := [(5, .int .i64 t5_1)]) (d := (some 18)) wf (by kernel_rfl) ⟨rfl, trivial⟩ (by kernel_rfl) (by kernel_rfl) (fun _ => pf_p tok rfl rfl rfl rfl) (fun P_1 => ?_)
        obtain ⟨a2, ha2, la2, ua2, H⟩ := H
        refine sim_p 2 (ei := [(17, Slc.v p0), (18, .int .i64 t5_1)]) (d := (some 19)) wf (by kernel_rfl) ⟨rfl, rfl, trivial⟩ (by kernel_rfl) (by kernel_rfl) (fun _ => pf_y rfl rfl rfl (y_ixa' tok rfl rfl ha2 rfl rfl rfl la2 ua2)) (fun P_2 => ?_)
        refine sim_p 3 (ei := [(19, .pointer (some (a2.add (t5_1.toNat * 2))))]) (d := (some 20)) wf (by kernel_rfl) ⟨rfl, trivial⟩ (by kernel_rfl) (by kernel_rfl) (fun _ => pf_p tok rfl rfl rfl rfl) (fun P_3 => ?_)
        obtain ⟨v3, hv3, H⟩ := H
        refine sim_l 4 (ei := [(20, .pointer (some (a2.add (t5_1.toNat * 2))))]) (d := (some 21)) wf (by kernel_rfl) ⟨rfl, trivial⟩ (by kernel_rfl) (by kernel_rfl) (pf_y rfl rfl rfl (y_ld tok rfl rfl rfl rfl hv3)) (fun P_4 => ?_)
        refine sim_p 5 (ei := [(1, Slc.v p1)]) (d := (some 22)) wf (by kernel_rfl) ⟨rfl, trivial⟩ (by kernel_rfl) (by kernel_rfl) (fun _ => pf_p tok rfl rfl rfl rfl) (fun P_5 => ?_)
        refine sim_p 6 (ei := [(5, .int .i64 t5_1)]) (d := (some 23)) wf (by kernel_rfl) ⟨rfl, trivial⟩ (by kernel_rfl) (by kernel_rfl) (fun _ => pf_p tok rfl rfl rfl rfl) (fun P_6 => ?_)
        obtain ⟨a4, ha4, la4, ua4, H⟩ := H
        refine sim_p 7 (ei := [(22, Slc.v p1), (23, .int .i64 t5_1)]) (d := (some 24)) wf (by kernel_rfl) ⟨rfl, rfl, trivial⟩ (by kernel_rfl) (by kernel_rfl) (fun _ => pf_y rfl rfl rfl (y_ixa' tok rfl rfl ha4 rfl rfl rfl la4 ua4)) (fun P_7 => ?_)
        refine sim_p 8 (ei := [(24, .pointer (some (a4.add (t5_1.toNat * 2))))]) (d := (some 25)) wf (by kernel_rfl) ⟨rfl, trivial⟩ (by kernel_rfl) (by kernel_rfl) (fun _ => pf_p tok rfl rfl rfl rfl) (fun P_8 => ?_)
        obtain ⟨v5, hv5, H⟩ := H
        refine sim_l 9 (ei := [(25, .pointer (some (a4.add (t5_1.toNat * 2))))]) (d := (some 26)) wf (by kernel_rfl) ⟨rfl, trivial⟩ (by kernel_rfl) (by kernel_rfl) (pf_y rfl rfl rfl (y_ld tok rfl rfl rfl rfl hv5)) (fun P_9 => ?_)
        refine sim_p 10 (ei := [(21, .int .u64 v3), (26, .int .u64 v5)]) (d := (some 27)) wf (by kernel_rfl) ⟨rfl, rfl, trivial⟩ (by kernel_rfl) (by kernel_rfl) (fun _ => pf_p tok rfl rfl rfl rfl) (fun P_10 => ?_)
        refine sim_p 11 (ei := [(27, .bool (v3 != v5))]) (d := (some 28)) wf (by kernel_rfl) ⟨rfl, trivial⟩ (by kernel_rfl) (by kernel_rfl) (fun _ => pf_p tok rfl rfl rfl rfl) (fun P_11 => ?_)
        refine sim_gif 28 H rfl (fun hb H => ?_) (fun hb H => ?_)
        ·
          refine sim_p 12 (v := undef) (ei := [(0, Slc.v p0), (28, .bool true)]) (d := (some 29)) wf (by kernel_rfl) ⟨rfl, rfl, trivial⟩ (by kernel_rfl) (by kernel_rfl) (fun _ => pf_s rfl rfl rfl) (fun P_12 => ?_)
          refine sim_p 13 (v := undef) (ei := [(5, .int .i64 t5_1), (28, .bool true)]) (d := (some 30)) wf (by kernel_rfl) ⟨rfl, rfl, trivial⟩ (by kernel_rfl) (by kernel_rfl) (fun _ => pf_s rfl rfl rfl) (fun P_13 => ?_)
          refine sim_p 14 (v := undef) (ei := [(28, .bool true)]) (d := (some 31)) wf (by kernel_rfl) ⟨rfl, trivial⟩ (by kernel_rfl) (by kernel_rfl) (fun _ => pf_s rfl rfl rfl) (fun P_14 => ?_)
          refine sim_p 15 (v := undef) (ei := [(28, .bool true)]) (d := (some 32)) wf (by kernel_rfl) ⟨rfl, trivial⟩ (by kernel_rfl) (by kernel_rfl) (fun _ => pf_s rfl rfl rfl) (fun P_15 => ?_)
          refine sim_p 16 (v := undef) (ei := [(28, .bool true)]) (d := (some 33)) wf (by kernel_rfl) ⟨rfl, trivial⟩ (by kernel_rfl) (by kernel_rfl) (fun _ => pf_s rfl rfl rfl) (fun P_16 => ?_)
          refine sim_p 17 (v := undef) (ei := [(1, Slc.v p1), (28, .bool true)]) (d := (some 34)) wf (by kernel_rfl) ⟨rfl, rfl, trivial⟩ (by kernel_rfl) (by kernel_rfl) (fun _ => pf_s rfl rfl rfl) (fun P_17 => ?_)
          refine sim_p 18 (v := undef) (ei := [(5, .int .i64 t5_1), (28, .bool true)]) (d := (some 35)) wf (by kernel_rfl) ⟨rfl, rfl, trivial⟩ (by kernel_rfl) (by kernel_rfl) (fun _ => pf_s rfl rfl rfl) (fun P_18 => ?_)
          refine sim_p 19 (v := undef) (ei := [(28, .bool true)]) (d := (some 36)) wf (by kernel_rfl) ⟨rfl, trivial⟩ (by kernel_rfl) (by kernel_rfl) (fun _ => pf_s rfl rfl rfl) (fun P_19 => ?_)
          refine sim_p 20 (v := undef) (ei := [(28, .bool true)]) (d := (some 37)) wf (by kernel_rfl) ⟨rfl, trivial⟩ (by kernel_rfl) (by kernel_rfl) (fun _ => pf_s rfl rfl rfl) (fun P_20 => ?_)
          refine sim_p 21 (v := undef) (ei := [(28, .bool true)]) (d := (some 38)) wf (by kernel_rfl) ⟨rfl, trivial⟩ (by kernel_rfl) (by kernel_rfl) (fun _ => pf_s rfl rfl rfl) (fun P_21 => ?_)
          refine sim_p 22 (v := undef) (ei := [(28, .bool true)]) (d := (some 39)) wf (by kernel_rfl) ⟨rfl, trivial⟩ (by kernel_rfl) (by kernel_rfl) (fun _ => pf_s rfl rfl rfl) (fun P_22 => ?_)
          refine sim_p 23 (v := undef) (ei := [(28, .bool true)]) (d := (some 40)) wf (by kernel_rfl) ⟨rfl, trivial⟩ (by kernel_rfl) (by kernel_rfl) (fun _ => pf_s rfl rfl rfl) (fun P_23 => ?_)
          refine sim_p 24 (ei := [(28, .bool true)]) (d := (some 41)) wf (by kernel_rfl) ⟨rfl, trivial⟩ (by kernel_rfl) (by kernel_rfl) (fun _ => pf_p tok rfl rfl rfl rfl) (fun P_24 => ?_)
          refine sim_end wf ⟨P_24 _, P_23 _, P_22 _, P_21 _, P_20 _, P_19 _, P_18 _, P_17 _, P_16 _, P_15 _, P_14 _, P_13 _, P_12 _, P_11 _, P_10 _, P_9, P_8 _, P_7 _, P_6 _, P_5 _, P_4, P_3 _, P_2 _, P_1 _, P_0 _, trivial⟩ (by kernel_rfl) ?_
          clear wf P_0 P_1 P_10 P_11 P_12 P_13 P_14 P_15 P_16 P_17 P_18 P_19 P_2 P_20 P_21 P_22 P_23 P_24 P_3 P_4 P_5 P_6 P_7 P_8 P_9
          exact x_join true H ⟨rfl, rfl, rfl, rfl, trivial⟩
        ·
          refine sim_p 12 (ei := [(0, Slc.v p0), (28, .bool false)]) (d := (some 29)) wf (by kernel_rfl) ⟨rfl, rfl, trivial⟩ (by kernel_rfl) (by kernel_rfl) (fun _ => pf_p tok rfl rfl rfl rfl) (fun P_12 => ?_)
          refine sim_p 13 (ei := [(5, .int .i64 t5_1), (28, .bool false)]) (d := (some 30)) wf (by kernel_rfl) ⟨rfl, rfl, trivial⟩ (by kernel_rfl) (by kernel_rfl) (fun _ => pf_p tok rfl rfl rfl rfl) (fun P_13 => ?_)
          obtain ⟨a6, ha6, la6, ua6, H⟩ := H
          refine sim_p 14 (ei := [(28, .bool false), (29, Slc.v p0), (30, .int .i64 t5_1)]) (d := (some 31)) wf (by kernel_rfl) ⟨rfl, rfl, rfl, trivial⟩ (by kernel_rfl) (by kernel_rfl) (fun _ => pf_y rfl rfl rfl (y_ixa' tok rfl rfl ha6 rfl rfl rfl la6 ua6)) (fun P_14 => ?_)
          refine sim_p 15 (ei := [(28, .bool false), (31, .pointer (some (a6.add (t5_1.toNat * 2))))]) (d := (some 32)) wf (by kernel_rfl) ⟨rfl, rfl, trivial⟩ (by kernel_rfl) (by kernel_rfl) (fun _ => pf_p tok rfl rfl rfl rfl) (fun P_15 => ?_)
          obtain ⟨v7, hv7, H⟩ := H
          refine sim_l 16 (ei := [(28, .bool false), (32, .pointer (some ((a6.add (t5_1.toNat * 2)).add 1)))]) (d := (some 33)) wf (by kernel_rfl) ⟨rfl, rfl, trivial⟩ (by kernel_rfl) (by kernel_rfl) (pf_y rfl rfl rfl (y_ld tok rfl rfl rfl rfl hv7)) (fun P_16 => ?_)
          refine sim_p 17 (ei := [(1, Slc.v p1), (28, .bool false)]) (d := (some 34)) wf (by kernel_rfl) ⟨rfl, rfl, trivial⟩ (by kernel_rfl) (by kernel_rfl) (fun _ => pf_p tok rfl rfl rfl rfl) (fun P_17 => ?_)
          refine sim_p 18 (ei := [(5, .int .i64 t5_1), (28, .bool false)]) (d := (some 35)) wf (by kernel_rfl) ⟨rfl, rfl, trivial⟩ (by kernel_rfl) (by kernel_rfl) (fun _ => pf_p tok rfl rfl rfl rfl) (fun P_18 => ?_)
          obtain ⟨a8, ha8, la8, ua8, H⟩ := H
          refine sim_p 19 (ei := [(28, .bool false), (34, Slc.v p1), (35, .int .i64 t5_1)]) (d := (some 36)) wf (by kernel_rfl) ⟨rfl, rfl, rfl, trivial⟩ (by kernel_rfl) (by kernel_rfl) (fun _ => pf_y rfl rfl rfl (y_ixa' tok rfl rfl ha8 rfl rfl rfl la8 ua8)) (fun P_19 => ?_)
          refine sim_p 20 (ei := [(28, .bool false), (36, .pointer (some (a8.add (t5_1.toNat * 2))))]) (d := (some 37)) wf (by kernel_rfl) ⟨rfl, rfl, trivial⟩ (by kernel_rfl) (by kernel_rfl) (fun _ => pf_p tok rfl rfl rfl rfl) (fun P_20 => ?_)
          obtain ⟨v9, hv9, H⟩ := H
          refine sim_l 21 (ei := [(28, .bool false), (37, .pointer (some ((a8.add (t5_1.toNat * 2)).add 1)))]) (d := (some 38)) wf (by kernel_rfl) ⟨rfl, rfl, trivial⟩ (by kernel_rfl) (by kernel_rfl) (pf_y rfl rfl rfl (y_ld tok rfl rfl rfl rfl hv9)) (fun P_21 => ?_)
          refine sim_c 22 [0, 1, 2, 3, 4, 5, 6, 7, 8, 9, 10, 11, 12, 13, 14, 15, 16, 17, 18, 19, 20, 21] [0, 1, 2, 3, 4, 5, 6, 7, 8, 9, 10, 11, 12, 13, 14, 15, 16, 17, 18, 19, 20, 21] (ei := [(28, .bool false), (33, Slc.v v7), (38, Slc.v v9)]) ref01_Same_ok (ref01_Same_ref _ _ _ _ H) wf ⟨P_21, P_20 _, P_19 _, P_18 _, P_17 _, P_16, P_15 _, P_14 _, P_13 _, P_12 _, P_11 _, P_10 _, P_9, P_8 _, P_7 _, P_6 _, P_5 _, P_4, P_3 _, P_2 _, P_1 _, P_0 _, trivial⟩ (by kernel_rfl) ⟨rfl, rfl, rfl, trivial⟩ (by kernel_rfl) rfl rfl rfl rfl rfl ?_
          rintro _ h11 ⟨r10, rfl, H⟩
          refine sim_p 23 (ei := [(28, .bool false), (39, .bool r10)]) (d := (some 40)) wf (by kernel_rfl) ⟨rfl, rfl, trivial⟩ (by kernel_rfl) (by kernel_rfl) (fun _ => pf_p tok rfl rfl rfl rfl) (fun P_23 => ?_)
          refine sim_p 24 (ei := [(28, .bool false), (40, .bool (!r10))]) (d := (some 41)) wf (by kernel_rfl) ⟨rfl, rfl, trivial⟩ (by kernel_rfl) (by kernel_rfl) (fun _ => pf_p tok rfl rfl rfl rfl) (fun P_24 => ?_)
          refine sim_end wf ⟨P_24 _, P_23 _, trivial, trivial, trivial, trivial, trivial, trivial, trivial, trivial, trivial, trivial, trivial, trivial, trivial, trivial, trivial, trivial, trivial, trivial, trivial, trivial, trivial, trivial, trivial⟩ (by kernel_rfl) ?_
          clear wf P_0 P_1 P_10 P_11 P_12 P_13 P_14 P_15 P_16 P_17 P_18 P_19 P_2 P_20 P_21 P_23 P_24 P_3 P_4 P_5 P_6 P_7 P_8 P_9
          exact x_join (!r10) H ⟨rfl, rfl, rfl, rfl, trivial⟩
    ·
      refine c_exit ?_
      refine x_te ?_
      refine x_te ?_
      refine x_bh ?_
      refine x_seq ?_
      refine c_weak [] trivial ?_
      refine c_seq ?_
      refine c_region ?_
      refine w_p tok rfl rfl rfl ?_
      refine w_end ?_
      refine x_seq ?_
      refine c_ret ?_
      exact x_ret _ rfl _ rfl ⟨true, rfl, H⟩

theorem rlog_Log_Entries_ok : CallOk Go.Proofs.Try.prog 26 := ⟨_, Go.Proofs.Try.func26, by kernel_rfl, by kernel_rfl⟩
theorem rlog_Log_Entries_ref (p0 : Option Addr) (k : (Slc) → Heap → Prop) (h : Heap) (H : rlog_Log_Entries p0 k h) : CallsH Go.Proofs.Try.prog 26 #[.pointer p0] h (fun v h' => ∃ r : Slc, v = Slc.v r ∧ k r h') := by
  refine f_enter (N := 10) Go.Proofs.Try.func26 rfl rfl rfl (fun w0 => ?_)
  unfold rlog_Log_Entries at H
  refine c_weak [(0, .pointer p0)] ⟨rfl, trivial⟩ ?_
  refine c_seq ?_
  refine c_region ?_
  refine w_p tok rfl rfl rfl ?_
  refine w_end ?_
  refine x_seq ?_
  refine c_seq ?_
  refine c_seq ?_
  refine c_region ?_
  refine w_p tok rfl rfl rfl ?_
  refine w_p tok rfl rfl rfl ?_
  refine w_end ?_
  refine x_seq ?_
  refine c_if H rfl (fun H => ?_) (fun H => ?_)
  ·
    refine c_seq ?_
    refine c_region ?_
    refine w_p tok rfl rfl rfl ?_
    refine w_end ?_
    refine x_seq ?_
    refine c_ret ?_
    refine x_tr ?_
    exact x_ret _ rfl _ rfl ⟨(⟨none, 0, 0⟩ : Slc), rfl, H⟩
  ·
    refine c_skip ?_
    refine x_seq ?_
    refine c_seq ?_
    refine c_region ?_
    refine w_p tok rfl rfl rfl ?_
    obtain ⟨a1, ha1, H⟩ := H
    refine w_y (y_nil' rfl rfl ha1) rfl rfl ?_
    refine w_p tok rfl rfl rfl ?_
    obtain ⟨v2, hv2, H⟩ := H
    refine w_y (y_ld tok rfl rfl rfl rfl hv2) rfl rfl ?_
    refine w_call rlog_copied_ok (rlog_copied_ref _ _ _ H) rfl rfl rfl rfl ?_
    rintro _ h4 ⟨r3, rfl, H⟩
    refine w_p tok rfl rfl rfl ?_
    refine w_end ?_
    refine x_seq ?_
    refine c_weak [(2, Slc.v r3)] ⟨rfl, trivial⟩ ?_
    refine c_ret ?_
    exact x_ret _ rfl _ rfl ⟨r3, rfl, H⟩

theorem rlog_Log_Base_ok : CallOk Go.Proofs.Try.prog 33 := ⟨_, Go.Proofs.Try.func33, by kernel_rfl, by kernel_rfl⟩
theorem rlog_Log_Base_ref (p0 : Option Addr) (k : (Int × Int) → Heap → Prop) (h : Heap) (H : rlog_Log_Base p0 k h) : CallsH Go.Proofs.Try.prog 33 #[.pointer p0] h (fun v h' => ∃ r : Int × Int, v = .tuple #[.int .u64 r.1, .int .u64 r.2] ∧ k r h') := by
  refine f_enter (N := 14) Go.Proofs.Try.func33 rfl rfl rfl (fun w0 => ?_)
  unfold rlog_Log_Base at H
  refine c_weak [(0, .pointer p0)] ⟨rfl, trivial⟩ ?_
  refine c_seq ?_
  refine c_region ?_
  refine w_p tok rfl rfl rfl ?_
  refine w_p tok rfl rfl rfl ?_
  refine w_end ?_
  refine x_seq ?_
  refine c_seq ?_
  refine c_seq ?_
  refine c_region ?_
  refine w_p tok rfl rfl rfl ?_
  refine w_p tok rfl rfl rfl ?_
  refine w_end ?_
  refine x_seq ?_
  refine c_if H rfl (fun H => ?_) (fun H => ?_)
  ·
    refine c_seq ?_
    refine c_region ?_
    refine w_p tok rfl rfl rfl ?_
    refine w_p tok rfl rfl rfl ?_
    refine w_end ?_
    refine x_seq ?_
    refine c_ret ?_
    refine x_tr ?_
    exact x_ret _ rfl _ rfl ⟨(0, 0), rfl, H⟩
  ·
    refine c_skip ?_
    refine x_seq ?_
    refine c_seq ?_
    refine c_draw (by kernel_rfl) (by kernel_rfl) ?_
    refine q_p tok rfl rfl rfl ?_
    obtain ⟨a1, ha1, H⟩ := H
    refine q_y (y_nil' rfl rfl ha1) rfl rfl ?_
    refine q_p tok rfl rfl rfl ?_
    obtain ⟨v2, hv2, H⟩ := H
    refine q_y (y_ld tok rfl rfl rfl rfl hv2) rfl rfl ?_
    refine q_p tok rfl rfl rfl ?_
    refine q_y (y_nil' rfl rfl ha1) rfl rfl ?_
    refine q_p tok rfl rfl rfl ?_
    obtain ⟨v3, hv3, H⟩ := H
    refine q_y (y_ld tok rfl rfl rfl rfl hv3) rfl rfl ?_
    refine q_p tok rfl rfl rfl ?_
    refine q_p tok rfl rfl rfl ?_
    refine q_end ?_
    refine x_seq ?_
    refine c_weak [(2, .int .u64 v2), (3, .int .u64 v3)] ⟨rfl, rfl, trivial⟩ ?_
    refine c_ret ?_
    exact x_ret _ rfl _ rfl ⟨(v2, v3), rfl, H⟩

theorem rlog_Log_Last_ok : CallOk Go.Proofs.Try.prog 34 := ⟨_, Go.Proofs.Try.func34, by kernel_rfl, by kernel_rfl⟩
theorem rlog_Log_Last_ref (p0 : Option Addr) (k : (Int × Int) → Heap → Prop) (h : Heap) (H : rlog_Log_Last p0 k h) : CallsH Go.Proofs.Try.prog 34 #[.pointer p0] h (fun v h' => ∃ r : Int × Int, v = .tuple #[.int .u64 r.1, .int .u64 r.2] ∧ k r h') := by
  refine f_enter (N := 38) Go.Proofs.Try.func34 rfl rfl rfl (fun w0 => ?_)
  unfold rlog_Log_Last at H
  refine c_weak [(0, .pointer p0)] ⟨rfl, trivial⟩ ?_
  refine c_seq ?_
  refine c_region ?_
  refine w_p tok rfl rfl rfl ?_
  refine w_p tok rfl rfl rfl ?_
  refine w_end ?_
  refine x_seq ?_
  refine c_seq ?_
  refine c_seq ?_
  refine c_region ?_
  refine w_p tok rfl rfl rfl ?_
  refine w_p tok rfl rfl rfl ?_
  refine w_end ?_
  refine x_seq ?_
  refine c_if H rfl (fun H => ?_) (fun H => ?_)
  ·
    refine c_seq ?_
    refine c_region ?_
    refine w_p tok rfl rfl rfl ?_
    refine w_p tok rfl rfl rfl ?_
    refine w_end ?_
    refine x_seq ?_
    refine c_ret ?_
    refine x_tr ?_
    exact x_ret _ rfl _ rfl ⟨(0, 0), rfl, H⟩
  ·
    refine c_skip ?_
    refine x_seq ?_
    refine c_seq ?_
    refine c_seq ?_
    refine c_region ?_
    refine w_p tok rfl rfl rfl ?_
    obtain ⟨a1, ha1, H⟩ := H
    refine w_y (y_nil' rfl rfl ha1) rfl rfl ?_
    refine w_p tok rfl rfl rfl ?_
    obtain ⟨v2, hv2, H⟩ := H
    refine w_y (y_ld tok rfl rfl rfl rfl hv2) rfl rfl ?_
    refine w_p tok rfl rfl rfl ?_
    obtain ⟨x3, ex3, H⟩ := H
    refine w_pe tok rfl (congrArg (fun z => (.int .i64 z : Value)) ex3) rfl rfl ?_
    refine w_end ?_
    refine x_seq ?_
    refine c_weak [(0, .pointer p0), (4, .int .i64 x3)] ⟨rfl, rfl, trivial⟩ ?_
    refine c_seq ?_
    refine c_region ?_
    refine w_p tok rfl rfl rfl ?_
    refine w_p tok rfl rfl rfl ?_
    refine w_end ?_
    refine x_seq ?_
    refine c_if H rfl (fun H => ?_) (fun H => ?_)
    ·
      refine c_seq ?_
      refine c_draw (by kernel_rfl) (by kernel_rfl) ?_
      refine q_p tok rfl rfl rfl ?_
      refine q_y (y_nil' rfl rfl ha1) rfl rfl ?_
      refine q_p tok rfl rfl rfl ?_
      obtain ⟨v4, hv4, H⟩ := H
      refine q_y (y_ld tok rfl rfl rfl rfl hv4) rfl rfl ?_
      refine q_p tok rfl rfl rfl ?_
      refine q_p tok rfl rfl rfl ?_
      refine q_p tok rfl rfl rfl ?_
      refine q_p tok rfl rfl rfl ?_
      refine q_y (y_nil' rfl rfl ha1) rfl rfl ?_
      refine q_p tok rfl rfl rfl ?_
      obtain ⟨v5, hv5, H⟩ := H
      refine q_y (y_ld tok rfl rfl rfl rfl hv5) rfl rfl ?_
      refine q_p tok rfl rfl rfl ?_
      refine q_p tok rfl rfl rfl ?_
      obtain ⟨a6, ha6, la6, ua6, H⟩ := H
      refine q_y (y_ixa' tok rfl rfl ha6 rfl rfl rfl la6 ua6) rfl rfl ?_
      refine q_p tok rfl rfl rfl ?_
      obtain ⟨v7, hv7, H⟩ := H
      refine q_y (y_ld tok rfl rfl rfl rfl hv7) rfl rfl ?_
      refine q_p tok rfl rfl rfl ?_
      refine q_p tok rfl rfl rfl ?_
      refine q_end ?_
      refine x_seq ?_
      refine c_weak [(2, .int .u64 (IntKind.u64.wrap (v4 + (IntKind.u64.wrap x3)))), (3, .int .u64 v7)] ⟨rfl, rfl, trivial⟩ ?_
      refine c_ret ?_
      refine x_tr ?_
      exact x_ret _ rfl _ rfl ⟨((IntKind.u64.wrap (v4 + (IntKind.u64.wrap x3))), v7), rfl, H⟩
    ·
      refine c_skip ?_
      refine x_seq ?_
      refine c_seq ?_
      refine c_draw (by kernel_rfl) (by kernel_rfl) ?_
      refine q_p tok rfl rfl rfl ?_
      refine q_y (y_nil' rfl rfl ha1) rfl rfl ?_
      refine q_p tok rfl rfl rfl ?_
      obtain ⟨v8, hv8, H⟩ := H
      refine q_y (y_ld tok rfl rfl rfl rfl hv8) rfl rfl ?_
      refine q_p tok rfl rfl rfl ?_
      refine q_y (y_nil' rfl rfl ha1) rfl rfl ?_
      refine q_p tok rfl rfl rfl ?_
      obtain ⟨v9, hv9, H⟩ := H
      refine q_y (y_ld tok rfl rfl rfl rfl hv9) rfl rfl ?_
      refine q_p tok rfl rfl rfl ?_
      refine q_p tok rfl rfl rfl ?_
      refine q_end ?_
      refine x_seq ?_
      refine c_weak [(2, .int .u64 v8), (3, .int .u64 v9)] ⟨rfl, rfl, trivial⟩ ?_
      refine c_ret ?_
      exact x_ret _ rfl _ rfl ⟨(v8, v9), rfl, H⟩

theorem rlog_Log_Term_ok : CallOk Go.Proofs.Try.prog 27 := ⟨_, Go.Proofs.Try.func27, by kernel_rfl, by kernel_rfl⟩
theorem rlog_Log_Term_ref (p0 : Option Addr) (p1 : Int) (k : (Int × Int) → Heap → Prop) (h : Heap) (H : rlog_Log_Term p0 p1 k h) : CallsH Go.Proofs.Try.prog 27 #[.pointer p0, .int .u64 p1] h (fun v h' => ∃ r : Int × Int, v = .tuple #[.int .u64 r.1, .int .i64 r.2] ∧ k r h') := by
  refine f_enter (N := 44) Go.Proofs.Try.func27 rfl rfl rfl (fun w0 => ?_)
  unfold rlog_Log_Term at H
  refine c_weak [(0, .pointer p0), (1, .int .u64 p1)] ⟨rfl, rfl, trivial⟩ ?_
  refine c_seq ?_
  refine c_region ?_
  refine w_p tok rfl rfl rfl ?_
  refine w_p tok rfl rfl rfl ?_
  refine w_end ?_
  refine x_seq ?_
  refine c_seq ?_
  refine c_region ?_
  refine w_p tok rfl rfl rfl ?_
  refine w_call rlog_Log_Base_ok (rlog_Log_Base_ref _ _ _ H) rfl rfl rfl rfl ?_
  rintro _ h2 ⟨r1, rfl, H⟩
  refine w_p tok rfl rfl rfl ?_
  refine w_p tok rfl rfl rfl ?_
  refine w_p tok rfl rfl rfl ?_
  refine w_p tok rfl rfl rfl ?_
  refine w_p tok rfl rfl rfl ?_
  refine w_end ?_
  refine x_seq ?_
  refine c_weak [(0, .pointer p0), (1, .int .u64 p1), (6, .int .u64 r1.1), (7, .int .u64 r1.2)] ⟨rfl, rfl, rfl, rfl, trivial⟩ ?_
  refine c_seq ?_
  refine c_region ?_
  refine w_p tok rfl rfl rfl ?_
  refine w_call rlog_Log_Last_ok (rlog_Log_Last_ref _ _ _ H) rfl rfl rfl rfl ?_
  rintro _ h4 ⟨r3, rfl, H⟩
  refine w_p tok rfl rfl rfl ?_
  refine w_p tok rfl rfl rfl ?_
  refine w_p tok rfl rfl rfl ?_
  refine w_p tok rfl rfl rfl ?_
  refine w_p tok rfl rfl rfl ?_
  refine w_end ?_
  refine x_seq ?_
  refine c_seq ?_
  refine c_block ?_
  refine c_seq ?_
  refine c_region ?_
  refine w_p tok rfl rfl rfl ?_
  refine w_p tok rfl rfl rfl ?_
  refine w_p tok rfl rfl rfl ?_
  refine w_p tok rfl rfl rfl ?_
  refine w_end ?_
  refine x_seq ?_
  refine c_weak [(0, .pointer p0), (1, .int .u64 p1), (6, .int .u64 r1.1), (7, .int .u64 r1.2), (8, .int .u64 r3.1), (20, .bool (decide (p1 < r1.1)))] ⟨rfl, rfl, rfl, rfl, rfl, rfl, trivial⟩ ?_
  refine c_if H rfl (fun H => ?_) (fun H => ?_)
  ·
    refine c_seq ?_
    refine c_region ?_
    refine w_p tok rfl rfl rfl ?_
    refine w_p tok rfl rfl rfl ?_
    refine w_end ?_
    refine x_seq ?_
    refine c_ret ?_
    refine x_br ?_
    refine x_tr ?_
    exact x_ret _ rfl _ rfl ⟨(0, 13), rfl, H⟩
  ·
    refine c_seq ?_
    refine c_region ?_
    refine w_p tok rfl rfl rfl ?_
    refine w_p tok rfl rfl rfl ?_
    refine w_p tok rfl rfl rfl ?_
    refine w_p tok rfl rfl rfl ?_
    refine w_end ?_
    refine x_seq ?_
    refine c_if H rfl (fun H => ?_) (fun H => ?_)
    ·
      refine c_seq ?_
      refine c_region ?_
      refine w_p tok rfl rfl rfl ?_
      refine w_p tok rfl rfl rfl ?_
      refine w_end ?_
      refine x_seq ?_
      refine c_weak [(4, .int .u64 0), (5, .int .i64 6)] ⟨rfl, rfl, trivial⟩ ?_
      refine c_ret ?_
      refine x_br ?_
      refine x_tr ?_
      exact x_ret _ rfl _ rfl ⟨(0, 6), rfl, H⟩
    ·
      refine c_seq ?_
      refine c_region ?_
      refine w_p tok rfl rfl rfl ?_
      refine w_p tok rfl rfl rfl ?_
      refine w_p tok rfl rfl rfl ?_
      refine w_p tok rfl rfl rfl ?_
      refine w_end ?_
      refine x_seq ?_
      refine c_weak [(0, .pointer p0), (1, .int .u64 p1), (6, .int .u64 r1.1), (7, .int .u64 r1.2), (28, .bool (p1 == r1.1))] ⟨rfl, rfl, rfl, rfl, rfl, trivial⟩ ?_
      refine c_if H rfl (fun H => ?_) (fun H => ?_)
      ·
        refine c_seq ?_
        refine c_region ?_
        refine w_p tok rfl rfl rfl ?_
        refine w_p tok rfl rfl rfl ?_
        refine w_p tok rfl rfl rfl ?_
        refine w_end ?_
        refine x_seq ?_
        refine c_ret ?_
        refine x_br ?_
        refine x_tr ?_
        exact x_ret _ rfl _ rfl ⟨(r1.2, 0), rfl, H⟩
      ·
        refine c_skip ?_
        refine x_blk ?_
        refine x_seq ?_
        refine c_seq ?_
        refine c_region ?_
        refine w_p tok rfl rfl rfl ?_
        obtain ⟨a5, ha5, H⟩ := H
        refine w_y (y_nil' rfl rfl ha5) rfl rfl ?_
        refine w_p tok rfl rfl rfl ?_
        obtain ⟨v6, hv6, H⟩ := H
        refine w_y (y_ld tok rfl rfl rfl rfl hv6) rfl rfl ?_
        refine w_p tok rfl rfl rfl ?_
        refine w_p tok rfl rfl rfl ?_
        refine w_p tok rfl rfl rfl ?_
        refine w_p tok rfl rfl rfl ?_
        obtain ⟨a7, ha7, la7, ua7, H⟩ := H
        refine w_y (y_ixa' tok rfl rfl ha7 rfl rfl rfl la7 ua7) rfl rfl ?_
        refine w_p tok rfl rfl rfl ?_
        obtain ⟨v8, hv8, H⟩ := H
        refine w_y (y_ld tok rfl rfl rfl rfl hv8) rfl rfl ?_
        refine w_p tok rfl rfl rfl ?_
        refine w_p tok rfl rfl rfl ?_
        refine w_end ?_
        refine x_seq ?_
        refine c_weak [(4, .int .u64 v8), (5, .int .i64 0)] ⟨rfl, rfl, trivial⟩ ?_
        refine c_ret ?_
        exact x_ret _ rfl _ rfl ⟨(v8, 0), rfl, H⟩

theorem ref23_Log_Last_ok : CallOk Go.Proofs.Try.prog 35 := ⟨_, Go.Proofs.Try.func35, by kernel_rfl, by kernel_rfl⟩
theorem ref23_Log_Last_ref (p0 : Option Addr) (k : (Int × Int) → Heap → Prop) (h : Heap) (H : ref23_Log_Last p0 k h) : CallsH Go.Proofs.Try.prog 35 #[.pointer p0] h (fun v h' => ∃ r : Int × Int, v = .tuple #[.int .u64 r.1, .int .u64 r.2] ∧ k r h') := by
  refine f_enter (N := 42) Go.Proofs.Try.func35 rfl rfl rfl (fun w0 => ?_)
  unfold ref23_Log_Last at H
  refine c_weak [(0, .pointer p0)] ⟨rfl, trivial⟩ ?_
  refine c_seq ?_
  refine c_region ?_
  refine w_p tok rfl rfl rfl ?_
  refine w_p tok rfl rfl rfl ?_
  refine w_end ?_
  refine x_seq ?_
  refine c_seq ?_
  refine c_seq ?_
  refine c_region ?_
  refine w_p tok rfl rfl rfl ?_
  obtain ⟨a1, ha1, H⟩ := H
  refine w_y (y_nil' rfl rfl ha1) rfl rfl ?_
  refine w_p tok rfl rfl rfl ?_
  obtain ⟨v2, hv2, H⟩ := H
  refine w_y (y_ld tok rfl rfl rfl rfl hv2) rfl rfl ?_
  refine w_p tok rfl rfl rfl ?_
  refine w_p tok rfl rfl rfl ?_
  refine w_end ?_
  refine x_seq ?_
  refine c_weak [(0, .pointer p0), (9, .bool ((v2.len : Int) == 0))] ⟨rfl, rfl, trivial⟩ ?_
  refine c_if H rfl (fun H => ?_) (fun H => ?_)
  ·
    refine c_seq ?_
    refine c_draw (by kernel_rfl) (by kernel_rfl) ?_
    refine q_p tok rfl rfl rfl ?_
    refine q_y (y_nil' rfl rfl ha1) rfl rfl ?_
    refine q_p tok rfl rfl rfl ?_
    obtain ⟨v3, hv3, H⟩ := H
    refine q_y (y_ld tok rfl rfl rfl rfl hv3) rfl rfl ?_
    refine q_p tok rfl rfl rfl ?_
    refine q_y (y_nil' rfl rfl ha1) rfl rfl ?_
    refine q_p tok rfl rfl rfl ?_
    obtain ⟨v4, hv4, H⟩ := H
    refine q_y (y_ld tok rfl rfl rfl rfl hv4) rfl rfl ?_
    refine q_p tok rfl rfl rfl ?_
    refine q_p tok rfl rfl rfl ?_
    refine q_end ?_
    refine x_seq ?_
    refine c_weak [(2, .int .u64 v3), (3, .int .u64 v4)] ⟨rfl, rfl, trivial⟩ ?_
    refine c_ret ?_
    refine x_tr ?_
    exact x_ret _ rfl _ rfl ⟨(v3, v4), rfl, H⟩
  ·
    refine c_skip ?_
    refine x_seq ?_
    refine c_seq ?_
    refine c_draw (by kernel_rfl) (by kernel_rfl) ?_
    refine q_p tok rfl rfl rfl ?_
    refine q_y (y_nil' rfl rfl ha1) rfl rfl ?_
    refine q_p tok rfl rfl rfl ?_
    obtain ⟨v5, hv5, H⟩ := H
    refine q_y (y_ld tok rfl rfl rfl rfl hv5) rfl rfl ?_
    refine q_p tok rfl rfl rfl ?_
    refine q_y (y_nil' rfl rfl ha1) rfl rfl ?_
    refine q_p tok rfl rfl rfl ?_
    obtain ⟨v6, hv6, H⟩ := H
    refine q_y (y_ld tok rfl rfl rfl rfl hv6) rfl rfl ?_
    refine q_p tok rfl rfl rfl ?_
    refine q_p tok rfl rfl rfl ?_
    refine q_p tok rfl rfl rfl ?_
    refine q_p tok rfl rfl rfl ?_
    refine q_y (y_nil' rfl rfl ha1) rfl rfl ?_
    refine q_p tok rfl rfl rfl ?_
    obtain ⟨v7, hv7, H⟩ := H
    refine q_y (y_ld tok rfl rfl rfl rfl hv7) rfl rfl ?_
    refine q_p tok rfl rfl rfl ?_
    refine q_y (y_nil' rfl rfl ha1) rfl rfl ?_
    refine q_p tok rfl rfl rfl ?_
    obtain ⟨v8, hv8, H⟩ := H
    refine q_y (y_ld tok rfl rfl rfl rfl hv8) rfl rfl ?_
    refine q_p tok rfl rfl rfl ?_
    refine q_p tok rfl rfl rfl ?_
    obtain ⟨a9, ha9, la9, ua9, H⟩ := H
    refine q_y (y_ixa' tok rfl rfl ha9 rfl rfl rfl la9 ua9) rfl rfl ?_
    refine q_p tok rfl rfl rfl ?_
    obtain ⟨v10, hv10, H⟩ := H
    refine q_y (y_ld tok rfl rfl rfl rfl hv10) rfl rfl ?_
    refine q_p tok rfl rfl rfl ?_
    refine q_p tok rfl rfl rfl ?_
    refine q_end ?_
    refine x_seq ?_
    refine c_weak [(2, .int .u64 (IntKind.u64.wrap (v5 + (IntKind.u64.wrap (v6.len : Int))))), (3, .int .u64 v10)] ⟨rfl, rfl, trivial⟩ ?_
    refine c_ret ?_
    exact x_ret _ rfl _ rfl ⟨((IntKind.u64.wrap (v5 + (IntKind.u64.wrap (v6.len : Int)))), v10), rfl, H⟩

theorem ref23_Log_TermOf_ok : CallOk Go.Proofs.Try.prog 36 := ⟨_, Go.Proofs.Try.func36, by kernel_rfl, by kernel_rfl⟩
theorem ref23_Log_TermOf_ref (p0 : Option Addr) (p1 : Int) (k : (Int × Int) → Heap → Prop) (h : Heap) (H : ref23_Log_TermOf p0 p1 k h) : CallsH Go.Proofs.Try.prog 36 #[.pointer p0, .int .u64 p1] h (fun v h' => ∃ r : Int × Int, v = .tuple #[.int .u64 r.1, .int .i64 r.2] ∧ k r h') := by
  refine f_enter (N := 46) Go.Proofs.Try.func36 rfl rfl rfl (fun w0 => ?_)
  unfold ref23_Log_TermOf at H
  refine c_weak [(0, .pointer p0), (1, .int .u64 p1)] ⟨rfl, rfl, trivial⟩ ?_
  refine c_seq ?_
  refine c_region ?_
  refine w_p tok rfl rfl rfl ?_
  refine w_p tok rfl rfl rfl ?_
  refine w_end ?_
  refine x_seq ?_
  refine c_seq ?_
  refine c_region ?_
  refine w_p tok rfl rfl rfl ?_
  refine w_call ref23_Log_Last_ok (ref23_Log_Last_ref _ _ _ H) rfl rfl rfl rfl ?_
  rintro _ h2 ⟨r1, rfl, H⟩
  refine w_p tok rfl rfl rfl ?_
  refine w_p tok rfl rfl rfl ?_
  refine w_p tok rfl rfl rfl ?_
  refine w_p tok rfl rfl rfl ?_
  refine w_p tok rfl rfl rfl ?_
  refine w_end ?_
  refine x_seq ?_
  refine c_weak [(0, .pointer p0), (1, .int .u64 p1), (6, .int .u64 r1.1)] ⟨rfl, rfl, rfl, trivial⟩ ?_
  refine c_seq ?_
  refine c_seq ?_
  refine c_region ?_
  refine w_p tok rfl rfl rfl ?_
  refine w_p tok rfl rfl rfl ?_
  obtain ⟨a3, ha3, H⟩ := H
  refine w_y (y_nil' rfl rfl ha3) rfl rfl ?_
  refine w_p tok rfl rfl rfl ?_
  obtain ⟨v4, hv4, H⟩ := H
  refine w_y (y_ld tok rfl rfl rfl rfl hv4) rfl rfl ?_
  refine w_p tok rfl rfl rfl ?_
  refine w_end ?_
  refine x_seq ?_
  refine c_if H rfl (fun H => ?_) (fun H => ?_)
  ·
    refine c_seq ?_
    refine c_region ?_
    refine w_p tok rfl rfl rfl ?_
    refine w_p tok rfl rfl rfl ?_
    refine w_end ?_
    refine x_seq ?_
    refine c_weak [(4, .int .u64 0), (5, .int .i64 13)] ⟨rfl, rfl, trivial⟩ ?_
    refine c_ret ?_
    refine x_tr ?_
    exact x_ret _ rfl _ rfl ⟨(0, 13), rfl, H⟩
  ·
    refine c_skip ?_
    refine x_seq ?_
    refine c_seq ?_
    refine c_seq ?_
    refine c_region ?_
    refine w_p tok rfl rfl rfl ?_
    refine w_p tok rfl rfl rfl ?_
    refine w_p tok rfl rfl rfl ?_
    refine w_end ?_
    refine x_seq ?_
    refine c_weak [(0, .pointer p0), (1, .int .u64 p1), (21, .bool (decide (p1 > r1.1)))] ⟨rfl, rfl, rfl, trivial⟩ ?_
    refine c_if H rfl (fun H => ?_) (fun H => ?_)
    ·
      refine c_seq ?_
      refine c_region ?_
      refine w_p tok rfl rfl rfl ?_
      refine w_p tok rfl rfl rfl ?_
      refine w_end ?_
      refine x_seq ?_
      refine c_ret ?_
      refine x_tr ?_
      exact x_ret _ rfl _ rfl ⟨(0, 6), rfl, H⟩
    ·
      refine c_skip ?_
      refine x_seq ?_
      refine c_seq ?_
      refine c_seq ?_
      refine c_region ?_
      refine w_p tok rfl rfl rfl ?_
      refine w_p tok rfl rfl rfl ?_
      refine w_y (y_nil' rfl rfl ha3) rfl rfl ?_
      refine w_p tok rfl rfl rfl ?_
      obtain ⟨v5, hv5, H⟩ := H
      refine w_y (y_ld tok rfl rfl rfl rfl hv5) rfl rfl ?_
      refine w_p tok rfl rfl rfl ?_
      refine w_end ?_
      refine x_seq ?_
      refine c_if H rfl (fun H => ?_) (fun H => ?_)
      ·
        refine c_seq ?_
        refine c_region ?_
        refine w_p tok rfl rfl rfl ?_
        refine w_y (y_nil' rfl rfl ha3) rfl rfl ?_
        refine w_p tok rfl rfl rfl ?_
        obtain ⟨v6, hv6, H⟩ := H
        refine w_y (y_ld tok rfl rfl rfl rfl hv6) rfl rfl ?_
        refine w_p tok rfl rfl rfl ?_
        refine w_p tok rfl rfl rfl ?_
        refine w_end ?_
        refine x_seq ?_
        refine c_weak [(4, .int .u64 v6), (5, .int .i64 0)] ⟨rfl, rfl, trivial⟩ ?_
        refine c_ret ?_
        refine x_tr ?_
        exact x_ret _ rfl _ rfl ⟨(v6, 0), rfl, H⟩
      ·
        refine c_skip ?_
        refine x_seq ?_
        refine c_weak [(0, .pointer p0), (1, .int .u64 p1)] ⟨rfl, rfl, trivial⟩ ?_
        refine c_seq ?_
        refine c_draw (by kernel_rfl) (by kernel_rfl) ?_
        refine q_p tok rfl rfl rfl ?_
        refine q_y (y_nil' rfl rfl ha3) rfl rfl ?_
        refine q_p tok rfl rfl rfl ?_
        obtain ⟨v7, hv7, H⟩ := H
        refine q_y (y_ld tok rfl rfl rfl rfl hv7) rfl rfl ?_
        refine q_p tok rfl rfl rfl ?_
        refine q_p tok rfl rfl rfl ?_
        refine q_y (y_nil' rfl rfl ha3) rfl rfl ?_
        refine q_p tok rfl rfl rfl ?_
        obtain ⟨v8, hv8, H⟩ := H
        refine q_y (y_ld tok rfl rfl rfl rfl hv8) rfl rfl ?_
        refine q_p tok rfl rfl rfl ?_
        refine q_p tok rfl rfl rfl ?_
        obtain ⟨a9, ha9, la9, ua9, H⟩ := H
        refine q_y (y_ixa' tok rfl rfl ha9 rfl rfl rfl la9 ua9) rfl rfl ?_
        refine q_p tok rfl rfl rfl ?_
        obtain ⟨v10, hv10, H⟩ := H
        refine q_y (y_ld tok rfl rfl rfl rfl hv10) rfl rfl ?_
        refine q_p tok rfl rfl rfl ?_
        refine q_p tok rfl rfl rfl ?_
        refine q_end ?_
        refine x_seq ?_
        refine c_weak [(4, .int .u64 v10), (5, .int .i64 0)] ⟨rfl, rfl, trivial⟩ ?_
        refine c_ret ?_
        exact x_ret _ rfl _ rfl ⟨(v10, 0), rfl, H⟩

theorem ref23_Log_Newer_ok : CallOk Go.Proofs.Try.prog 39 := ⟨_, Go.Proofs.Try.func39, by kernel_rfl, by kernel_rfl⟩
theorem ref23_Log_Newer_ref (p0 : Option Addr) (p1 : Int) (p2 : Int) (k : (Bool) → Heap → Prop) (h : Heap) (H : ref23_Log_Newer p0 p1 p2 k h) : CallsH Go.Proofs.Try.prog 39 #[.pointer p0, .int .u64 p1, .int .u64 p2] h (fun v h' => ∃ r : Bool, v = .bool r ∧ k r h') := by
  refine f_enter (N := 27) Go.Proofs.Try.func39 rfl rfl rfl (fun w0 => ?_)
  unfold ref23_Log_Newer at H
  refine c_weak [(0, .pointer p0), (1, .int .u64 p1), (2, .int .u64 p2)] ⟨rfl, rfl, rfl, trivial⟩ ?_
  refine c_seq ?_
  refine c_region ?_
  refine w_p tok rfl rfl rfl ?_
  refine w_end ?_
  refine x_seq ?_
  refine c_seq ?_
  refine c_region ?_
  refine w_p tok rfl rfl rfl ?_
  refine w_call ref23_Log_Last_ok (ref23_Log_Last_ref _ _ _ H) rfl rfl rfl rfl ?_
  rintro _ h2 ⟨r1, rfl, H⟩
  refine w_p tok rfl rfl rfl ?_
  refine w_p tok rfl rfl rfl ?_
  refine w_p tok rfl rfl rfl ?_
  refine w_p tok rfl rfl rfl ?_
  refine w_p tok rfl rfl rfl ?_
  refine w_end ?_
  refine x_seq ?_
  refine c_weak [(1, .int .u64 p1), (2, .int .u64 p2), (7, .int .u64 r1.1), (8, .int .u64 r1.2)] ⟨rfl, rfl, rfl, rfl, trivial⟩ ?_
  refine c_seq ?_
  refine c_region ?_
  refine w_p tok rfl rfl rfl ?_
  refine w_p tok rfl rfl rfl ?_
  refine w_p tok rfl rfl rfl ?_
  refine w_p tok rfl rfl rfl ?_
  refine w_cutU 9 [(26, .bool ((decide (p2 > r1.2)) || ((p2 == r1.2) && (decide (p1 ≥ r1.1)))))] ?_ ?_
  ·
    refine w_p tok rfl rfl rfl ?_
    refine w_end ?_
    refine x_seq ?_
    refine c_ret ?_
    exact x_ret _ rfl _ rfl ⟨((decide (p2 > r1.2)) || ((p2 == r1.2) && (decide (p1 ≥ r1.1)))), rfl, H⟩
  ·
    refine w_gs (d := 17) rfl (fun hb => ?_) (fun hb => ?_)
    ·
      refine w_skip rfl rfl ?_
      refine w_skip rfl rfl ?_
      refine w_skip rfl rfl ?_
      refine w_skip rfl rfl ?_
      refine w_skip rfl rfl ?_
      refine w_skip rfl rfl ?_
      refine w_skip rfl rfl ?_
      refine w_skip rfl rfl ?_
      refine w_p tok rfl rfl rfl ?_
      refine w_jn () rfl ⟨?_, trivial⟩
      exact congrArg (fun b => some (Value.bool b)) (or_t hb)
    ·
      refine w_p tok rfl rfl rfl ?_
      refine w_p tok rfl rfl rfl ?_
      refine w_p tok rfl rfl rfl ?_
      refine w_p tok rfl rfl rfl ?_
      refine w_cutU 4 [(25, .bool ((p2 == r1.2) && (decide (p1 ≥ r1.1)))), (17, .bool false)] ?_ ?_
      ·
        refine w_p tok rfl rfl rfl ?_
        refine w_jn () rfl ⟨?_, trivial⟩
        exact congrArg (fun b => some (Value.bool b)) (or_f hb)
      ·
        refine w_gs (d := 21) rfl (fun hb => ?_) (fun hb => ?_)
        ·
          refine w_p tok rfl rfl rfl ?_
          refine w_p tok rfl rfl rfl ?_
          refine w_p tok rfl rfl rfl ?_
          refine w_p tok rfl rfl rfl ?_
          refine w_jn () rfl ⟨?_, rfl, trivial⟩
          exact congrArg (fun b => some (Value.bool b)) (and_t hb)
        ·
          refine w_skip rfl rfl ?_
          refine w_skip rfl rfl ?_
          refine w_skip rfl rfl ?_
          refine w_p tok rfl rfl rfl ?_
          refine w_jn () rfl ⟨?_, rfl, trivial⟩
          exact congrArg (fun b => some (Value.bool b)) (and_f hb)

theorem rlog_Log_Newer_ok : CallOk Go.Proofs.Try.prog 30 := ⟨_, Go.Proofs.Try.func30, by kernel_rfl, by kernel_rfl⟩
theorem rlog_Log_Newer_ref (p0 : Option Addr) (p1 : Int) (p2 : Int) (k : (Bool) → Heap → Prop) (h : Heap) (H : rlog_Log_Newer p0 p1 p2 k h) : CallsH Go.Proofs.Try.prog 30 #[.pointer p0, .int .u64 p1, .int .u64 p2] h (fun v h' => ∃ r : Bool, v = .bool r ∧ k r h') := by
  refine f_enter (N := 27) Go.Proofs.Try.func30 rfl rfl rfl (fun w0 => ?_)
  unfold rlog_Log_Newer at H
  refine c_weak [(0, .pointer p0), (1, .int .u64 p1), (2, .int .u64 p2)] ⟨rfl, rfl, rfl, trivial⟩ ?_
  refine c_seq ?_
  refine c_region ?_
  refine w_p tok rfl rfl rfl ?_
  refine w_end ?_
  refine x_seq ?_
  refine c_seq ?_
  refine c_region ?_
  refine w_p tok rfl rfl rfl ?_
  refine w_call rlog_Log_Last_ok (rlog_Log_Last_ref _ _ _ H) rfl rfl rfl rfl ?_
  rintro _ h2 ⟨r1, rfl, H⟩
  refine w_p tok rfl rfl rfl ?_
  refine w_p tok rfl rfl rfl ?_
  refine w_p tok rfl rfl rfl ?_
  refine w_p tok rfl rfl rfl ?_
  refine w_p tok rfl rfl rfl ?_
  refine w_end ?_
  refine x_seq ?_
  refine c_weak [(1, .int .u64 p1), (2, .int .u64 p2), (7, .int .u64 r1.1), (8, .int .u64 r1.2)] ⟨rfl, rfl, rfl, rfl, trivial⟩ ?_
  refine c_seq ?_
  refine c_region ?_
  refine w_p tok rfl rfl rfl ?_
  refine w_p tok rfl rfl rfl ?_
  refine w_p tok rfl rfl rfl ?_
  refine w_p tok rfl rfl rfl ?_
  refine w_cutU 9 [(26, .bool ((decide (p2 > r1.2)) || ((p2 == r1.2) && (decide (p1 ≥ r1.1)))))] ?_ ?_
  ·
    refine w_p tok rfl rfl rfl ?_
    refine w_end ?_
    refine x_seq ?_
    refine c_ret ?_
    exact x_ret _ rfl _ rfl ⟨((decide (p2 > r1.2)) || ((p2 == r1.2) && (decide (p1 ≥ r1.1)))), rfl, H⟩
  ·
    refine w_gs (d := 17) rfl (fun hb => ?_) (fun hb => ?_)
    ·
      refine w_skip rfl rfl ?_
      refine w_skip rfl rfl ?_
      refine w_skip rfl rfl ?_
      refine w_skip rfl rfl ?_
      refine w_skip rfl rfl ?_
      refine w_skip rfl rfl ?_
      refine w_skip rfl rfl ?_
      refine w_skip rfl rfl ?_
      refine w_p tok rfl rfl rfl ?_
      refine w_jn () rfl ⟨?_, trivial⟩
      exact congrArg (fun b => some (Value.bool b)) (or_t hb)
    ·
      refine w_p tok rfl rfl rfl ?_
      refine w_p tok rfl rfl rfl ?_
      refine w_p tok rfl rfl rfl ?_
      refine w_p tok rfl rfl rfl ?_
      refine w_cutU 4 [(25, .bool ((p2 == r1.2) && (decide (p1 ≥ r1.1)))), (17, .bool false)] ?_ ?_
      ·
        refine w_p tok rfl rfl rfl ?_
        refine w_jn () rfl ⟨?_, trivial⟩
        exact congrArg (fun b => some (Value.bool b)) (or_f hb)
      ·
        refine w_gs (d := 21) rfl (fun hb => ?_) (fun hb => ?_)
        ·
          refine w_p tok rfl rfl rfl ?_
          refine w_p tok rfl rfl rfl ?_
          refine w_p tok rfl rfl rfl ?_
          refine w_p tok rfl rfl rfl ?_
          refine w_jn () rfl ⟨?_, rfl, trivial⟩
          exact congrArg (fun b => some (Value.bool b)) (and_t hb)
        ·
          refine w_skip rfl rfl ?_
          refine w_skip rfl rfl ?_
          refine w_skip rfl rfl ?_
          refine w_p tok rfl rfl rfl ?_
          refine w_jn () rfl ⟨?_, rfl, trivial⟩
          exact congrArg (fun b => some (Value.bool b)) (and_f hb)

theorem rlog_Log_From_ok : CallOk Go.Proofs.Try.prog 37 := ⟨_, Go.Proofs.Try.func37, by kernel_rfl, by kernel_rfl⟩
theorem rlog_Log_From_ref (p0 : Option Addr) (p1 : Int) (p2 : Int) (k : (Slc × Int) → Heap → Prop) (h : Heap) (H : rlog_Log_From p0 p1 p2 k h) : CallsH Go.Proofs.Try.prog 37 #[.pointer p0, .int .u64 p1, .int .i64 p2] h (fun v h' => ∃ r : Slc × Int, v = .tuple #[Slc.v r.1, .int .i64 r.2] ∧ k r h') := by
  refine f_enter (N := 45) Go.Proofs.Try.func37 rfl rfl rfl (fun w0 => ?_)
  unfold rlog_Log_From at H
  refine c_weak [(0, .pointer p0), (1, .int .u64 p1), (2, .int .i64 p2)] ⟨rfl, rfl, rfl, trivial⟩ ?_
  refine c_seq ?_
  refine c_region ?_
  refine w_p tok rfl rfl rfl ?_
  refine w_p tok rfl rfl rfl ?_
  refine w_end ?_
  refine x_seq ?_
  refine c_seq ?_
  refine c_seq ?_
  refine c_region ?_
  refine w_p tok rfl rfl rfl ?_
  refine w_p tok rfl rfl rfl ?_
  refine w_end ?_
  refine x_seq ?_
  refine c_if H rfl (fun H => ?_) (fun H => ?_)
  ·
    refine c_seq ?_
    refine c_region ?_
    refine w_p tok rfl rfl rfl ?_
    refine w_p tok rfl rfl rfl ?_
    refine w_end ?_
    refine x_seq ?_
    refine c_ret ?_
    refine x_tr ?_
    exact x_ret _ rfl _ rfl ⟨((⟨none, 0, 0⟩ : Slc), 1), rfl, H⟩
  ·
    refine c_skip ?_
    refine x_seq ?_
    refine c_seq ?_
    refine c_seq ?_
    refine c_region ?_
    refine w_p tok rfl rfl rfl ?_
    refine w_p tok rfl rfl rfl ?_
    refine w_p tok rfl rfl rfl ?_
    refine w_call rlog_Log_Term_ok (rlog_Log_Term_ref _ _ _ _ H) rfl rfl rfl rfl ?_
    rintro _ h2 ⟨r1, rfl, H⟩
    refine w_p tok rfl rfl rfl ?_
    refine w_p tok rfl rfl rfl ?_
    refine w_p tok rfl rfl rfl ?_
    refine w_p tok rfl rfl rfl ?_
    refine w_p tok rfl rfl rfl ?_
    refine w_end ?_
    refine x_seq ?_
    refine c_weak [(0, .pointer p0), (1, .int .u64 p1), (2, .int .i64 p2), (9, .int .i64 r1.2)] ⟨rfl, rfl, rfl, rfl, trivial⟩ ?_
    refine c_seq ?_
    refine c_region ?_
    refine w_p tok rfl rfl rfl ?_
    refine w_p tok rfl rfl rfl ?_
    refine w_end ?_
    refine x_seq ?_
    refine c_if H rfl (fun H => ?_) (fun H => ?_)
    ·
      refine c_seq ?_
      refine c_region ?_
      refine w_p tok rfl rfl rfl ?_
      refine w_p tok rfl rfl rfl ?_
      refine w_p tok rfl rfl rfl ?_
      refine w_end ?_
      refine x_seq ?_
      refine c_weak [(6, Slc.v (⟨none, 0, 0⟩ : Slc)), (7, .int .i64 r1.2)] ⟨rfl, rfl, trivial⟩ ?_
      refine c_ret ?_
      refine x_tr ?_
      exact x_ret _ rfl _ rfl ⟨((⟨none, 0, 0⟩ : Slc), r1.2), rfl, H⟩
    ·
      refine c_skip ?_
      refine x_seq ?_
      refine c_seq ?_
      refine c_seq ?_
      refine c_region ?_
      refine w_p tok rfl rfl rfl ?_
      refine w_p tok rfl rfl rfl ?_
      refine w_end ?_
      refine x_seq ?_
      refine c_if H rfl (fun H => ?_) (fun H => ?_)
      ·
        refine c_seq ?_
        refine c_region ?_
        refine w_p tok rfl rfl rfl ?_
        refine w_p tok rfl rfl rfl ?_
        refine w_end ?_
        refine x_seq ?_
        refine c_weak [(6, Slc.v (⟨none, 0, 0⟩ : Slc)), (7, .int .i64 0)] ⟨rfl, rfl, trivial⟩ ?_
        refine c_ret ?_
        refine x_tr ?_
        exact x_ret _ rfl _ rfl ⟨((⟨none, 0, 0⟩ : Slc), 0), rfl, H⟩
      ·
        refine c_skip ?_
        refine x_seq ?_
        refine c_seq ?_
        refine c_draw (by kernel_rfl) (by kernel_rfl) ?_
        refine q_p tok rfl rfl rfl ?_
        obtain ⟨a3, ha3, H⟩ := H
        refine q_y (y_nil' rfl rfl ha3) rfl rfl ?_
        refine q_p tok rfl rfl rfl ?_
        obtain ⟨v4, hv4, H⟩ := H
        refine q_y (y_ld tok rfl rfl rfl rfl hv4) rfl rfl ?_
        refine q_p tok rfl rfl rfl ?_
        refine q_p tok rfl rfl rfl ?_
        refine q_p tok rfl rfl rfl ?_
        refine q_y (y_nil' rfl rfl ha3) rfl rfl ?_
        refine q_p tok rfl rfl rfl ?_
        obtain ⟨v5, hv5, H⟩ := H
        refine q_y (y_ld tok rfl rfl rfl rfl hv5) rfl rfl ?_
        refine q_p tok rfl rfl rfl ?_
        obtain ⟨s6, ps6, qs6, rs6, ts6, es6, H⟩ := H
        refine q_ye (y_sl (s := v4) (L := (IntKind.u64.wrap ((IntKind.u64.wrap (p1 - 1)) - v5))) (H := (v4.len : Int)) (M := (v4.cap : Int)) tok rfl rfl rfl rfl rfl rfl rfl (by simp) ps6 qs6 rs6 ts6) (congrArg Slc.v es6) rfl rfl ?_
        refine q_p tok rfl rfl rfl ?_
        refine q_end ?_
        refine x_seq ?_
        refine c_weak [(2, .int .i64 p2), (10, Slc.v s6)] ⟨rfl, rfl, trivial⟩ ?_
        refine c_seq ?_
        refine c_region ?_
        refine w_p tok rfl rfl rfl ?_
        refine w_p tok rfl rfl rfl ?_
        refine w_p tok rfl rfl rfl ?_
        refine w_p tok rfl rfl rfl ?_
        refine w_p tok rfl rfl rfl ?_
        refine w_p tok rfl rfl rfl ?_
        obtain ⟨s7, ps7, qs7, rs7, ts7, es7, H⟩ := H
        refine w_ye (y_sl (s := s6) (L := 0) (H := (if (if (s6.len : Int) < p2 then (s6.len : Int) else p2) > 0 then (if (s6.len : Int) < p2 then (s6.len : Int) else p2) else 0)) (M := (s6.cap : Int)) tok rfl rfl rfl rfl rfl rfl rfl (by simp) ps7 qs7 rs7 ts7) (congrArg Slc.v es7) rfl rfl ?_
        refine w_call rlog_copied_ok (rlog_copied_ref _ _ _ H) rfl rfl rfl rfl ?_
        rintro _ h9 ⟨r8, rfl, H⟩
        refine w_p tok rfl rfl rfl ?_
        refine w_p tok rfl rfl rfl ?_
        refine w_end ?_
        refine x_seq ?_
        refine c_weak [(6, Slc.v r8), (7, .int .i64 0)] ⟨rfl, rfl, trivial⟩ ?_
        refine c_ret ?_
        exact x_ret _ rfl _ rfl ⟨(r8, 0), rfl, H⟩

theorem ref23_Log_From_ok : CallOk Go.Proofs.Try.prog 38 := ⟨_, Go.Proofs.Try.func38, by kernel_rfl, by kernel_rfl⟩
theorem ref23_Log_From_ref (p0 : Option Addr) (p1 : Int) (p2 : Int) (k : (Slc × Int) → Heap → Prop) (h : Heap) (H : ref23_Log_From p0 p1 p2 k h) : CallsH Go.Proofs.Try.prog 38 #[.pointer p0, .int .u64 p1, .int .i64 p2] h (fun v h' => ∃ r : Slc × Int, v = .tuple #[Slc.v r.1, .int .i64 r.2] ∧ k r h') := by
  refine f_enter (N := 58) Go.Proofs.Try.func38 rfl rfl rfl (fun w0 => ?_)
  unfold ref23_Log_From at H
  refine c_weak [(0, .pointer p0), (1, .int .u64 p1), (2, .int .i64 p2)] ⟨rfl, rfl, rfl, trivial⟩ ?_
  refine c_seq ?_
  refine c_region ?_
  refine w_p tok rfl rfl rfl ?_
  refine w_p tok rfl rfl rfl ?_
  refine w_end ?_
  refine x_seq ?_
  refine c_seq ?_
  refine c_seq ?_
  refine c_region ?_
  refine w_p tok rfl rfl rfl ?_
  refine w_p tok rfl rfl rfl ?_
  refine w_end ?_
  refine x_seq ?_
  refine c_if H rfl (fun H => ?_) (fun H => ?_)
  ·
    refine c_seq ?_
    refine c_region ?_
    refine w_p tok rfl rfl rfl ?_
    refine w_p tok rfl rfl rfl ?_
    refine w_end ?_
    refine x_seq ?_
    refine c_ret ?_
    refine x_tr ?_
    exact x_ret _ rfl _ rfl ⟨((⟨none, 0, 0⟩ : Slc), 1), rfl, H⟩
  ·
    refine c_skip ?_
    refine x_seq ?_
    refine c_seq ?_
    refine c_seq ?_
    refine c_region ?_
    refine w_p tok rfl rfl rfl ?_
    refine w_p tok rfl rfl rfl ?_
    refine w_p tok rfl rfl rfl ?_
    refine w_call ref23_Log_TermOf_ok (ref23_Log_TermOf_ref _ _ _ _ H) rfl rfl rfl rfl ?_
    rintro _ h2 ⟨r1, rfl, H⟩
    refine w_p tok rfl rfl rfl ?_
    refine w_p tok rfl rfl rfl ?_
    refine w_p tok rfl rfl rfl ?_
    refine w_p tok rfl rfl rfl ?_
    refine w_p tok rfl rfl rfl ?_
    refine w_end ?_
    refine x_seq ?_
    refine c_weak [(0, .pointer p0), (1, .int .u64 p1), (2, .int .i64 p2), (9, .int .i64 r1.2)] ⟨rfl, rfl, rfl, rfl, trivial⟩ ?_
    refine c_seq ?_
    refine c_region ?_
    refine w_p tok rfl rfl rfl ?_
    refine w_p tok rfl rfl rfl ?_
    refine w_end ?_
    refine x_seq ?_
    refine c_if H rfl (fun H => ?_) (fun H => ?_)
    ·
      refine c_seq ?_
      refine c_region ?_
      refine w_p tok rfl rfl rfl ?_
      refine w_p tok rfl rfl rfl ?_
      refine w_p tok rfl rfl rfl ?_
      refine w_end ?_
      refine x_seq ?_
      refine c_weak [(6, Slc.v (⟨none, 0, 0⟩ : Slc)), (7, .int .i64 r1.2)] ⟨rfl, rfl, trivial⟩ ?_
      refine c_ret ?_
      refine x_tr ?_
      exact x_ret _ rfl _ rfl ⟨((⟨none, 0, 0⟩ : Slc), r1.2), rfl, H⟩
    ·
      refine c_skip ?_
      refine x_seq ?_
      refine c_seq ?_
      refine c_region ?_
      refine w_p tok rfl rfl rfl ?_
      refine w_end ?_
      refine x_seq ?_
      refine c_seq ?_
      refine c_seq ?_
      refine c_region ?_
      refine w_p tok rfl rfl rfl ?_
      refine w_p tok rfl rfl rfl ?_
      refine w_p tok rfl rfl rfl ?_
      obtain ⟨a3, ha3, H⟩ := H
      refine w_y (y_nil' rfl rfl ha3) rfl rfl ?_
      refine w_p tok rfl rfl rfl ?_
      obtain ⟨v4, hv4, H⟩ := H
      refine w_y (y_ld tok rfl rfl rfl rfl hv4) rfl rfl ?_
      refine w_p tok rfl rfl rfl ?_
      refine w_p tok rfl rfl rfl ?_
      obtain ⟨x5, ex5, H⟩ := H
      refine w_pe tok rfl (congrArg (fun z => (.int .i64 z : Value)) ex5) rfl rfl ?_
      refine w_end ?_
      refine x_seq ?_
      refine c_weak [(0, .pointer p0), (2, .int .i64 p2), (10, Slc.v (⟨none, 0, 0⟩ : Slc)), (11, .int .i64 x5)] ⟨rfl, rfl, rfl, rfl, trivial⟩ ?_
      refine c_block ?_
      obtain ⟨I1, μ1, H0, HI⟩ := H
      refine c_loop (σ := Slc × Int) (fun (s : Slc × Int) => [(10, Slc.v s.1), (11, .int .i64 s.2), (0, .pointer p0), (2, .int .i64 p2)]) I1 μ1 ((⟨none, 0, 0⟩ : Slc), x5) H0 ⟨rfl, rfl, rfl, rfl, trivial⟩ ?_
      rintro ⟨t10_1, t11_1⟩ h_1 H
      replace H := HI t10_1 t11_1 h_1 H
      unfold ref23_Log_From_l1b at H
      refine c_weak [(10, Slc.v t10_1), (11, .int .i64 t11_1), (0, .pointer p0), (2, .int .i64 p2)] ⟨rfl, rfl, rfl, rfl, trivial⟩ ?_
      refine c_seq ?_
      refine c_seq ?_
      refine c_region ?_
      refine w_p tok rfl rfl rfl ?_
      refine w_p tok rfl rfl rfl ?_
      obtain ⟨a6, ha6, H⟩ := H
      refine w_y (y_nil' rfl rfl ha6) rfl rfl ?_
      refine w_p tok rfl rfl rfl ?_
      obtain ⟨v7, hv7, H⟩ := H
      refine w_y (y_ld tok rfl rfl rfl rfl hv7) rfl rfl ?_
      refine w_p tok rfl rfl rfl ?_
      refine w_p tok rfl rfl rfl ?_
      refine w_p tok rfl rfl rfl ?_
      refine w_cutU 5 [(44, .bool ((decide (t11_1 < (v7.len : Int))) && (decide ((t10_1.len : Int) < p2)))), (0, .pointer p0), (2, .int .i64 p2), (10, Slc.v t10_1), (11, .int .i64 t11_1)] ?_ ?_
      ·
        refine w_end ?_
        refine x_seq ?_
        refine c_if H rfl (fun H => ?_) (fun H => ?_)
        ·
          refine c_skip ?_
          refine x_seq ?_
          refine c_seq ?_
          refine c_block ?_
          refine c_region ?_
          refine w_p tok rfl rfl rfl ?_
          refine w_p tok rfl rfl rfl ?_
          refine w_y (y_nil' rfl rfl ha6) rfl rfl ?_
          refine w_p tok rfl rfl rfl ?_
          obtain ⟨v8, hv8, H⟩ := H
          refine w_y (y_ld tok rfl rfl rfl rfl hv8) rfl rfl ?_
          refine w_p tok rfl rfl rfl ?_
          obtain ⟨a9, ha9, la9, ua9, H⟩ := H
          refine w_y (y_ixa' tok rfl rfl ha9 rfl rfl rfl la9 ua9) rfl rfl ?_
          obtain ⟨v10, hv10, H⟩ := H
          refine w_y (y_lda tok rfl rfl rfl rfl rfl hv10) rfl rfl ?_
          obtain ⟨b11, h12, eb11, eh12, H⟩ := H
          refine w_h (h_bs tok rfl rfl rfl rfl rfl rfl rfl eb11 eh12) rfl rfl ?_
          refine w_a (a_app (s := t10_1) (r := (⟨some ⟨b11, 0, none⟩, 1, 1⟩ : Slc)) tok rfl rfl rfl rfl rfl (slcAt_push eb11 eh12) H) rfl rfl ?_
          rintro _ h14 ⟨s13, rfl, H⟩
          refine w_p tok rfl rfl rfl ?_
          refine w_end ?_
          refine x_blk ?_
          refine x_seq ?_
          refine c_weak [(0, .pointer p0), (2, .int .i64 p2), (10, Slc.v s13), (11, .int .i64 t11_1)] ⟨rfl, rfl, rfl, rfl, trivial⟩ ?_
          refine c_region ?_
          refine w_p tok rfl rfl rfl ?_
          refine w_p tok rfl rfl rfl ?_
          obtain ⟨x15, ex15, H⟩ := H
          refine w_pe tok rfl (congrArg (fun z => (.int .i64 z : Value)) ex15) rfl rfl ?_
          refine w_end ?_
          exact x_join (s13, x15) H ⟨rfl, rfl, rfl, rfl, trivial⟩
        ·
          refine c_exit ?_
          refine x_te ?_
          refine x_te ?_
          refine x_bh ?_
          refine x_seq ?_
          refine c_seq ?_
          refine c_region ?_
          refine w_p tok rfl rfl rfl ?_
          refine w_p tok rfl rfl rfl ?_
          refine w_p tok rfl rfl rfl ?_
          refine w_end ?_
          refine x_seq ?_
          refine c_ret ?_
          exact x_ret _ rfl _ rfl ⟨(t10_1, 0), rfl, H⟩
      ·
        refine w_gs (d := 39) rfl (fun hb => ?_) (fun hb => ?_)
        ·
          refine w_p tok rfl rfl rfl ?_
          refine w_p tok rfl rfl rfl ?_
          refine w_p tok rfl rfl rfl ?_
          refine w_p tok rfl rfl rfl ?_
          refine w_p tok rfl rfl rfl ?_
          refine w_jn () rfl ⟨?_, rfl, rfl, rfl, rfl, trivial⟩
          exact congrArg (fun b => some (Value.bool b)) (and_t hb)
        ·
          refine w_skip rfl rfl ?_
          refine w_skip rfl rfl ?_
          refine w_skip rfl rfl ?_
          refine w_skip rfl rfl ?_
          refine w_p tok rfl rfl rfl ?_
          refine w_jn () rfl ⟨?_, rfl, rfl, rfl, rfl, trivial⟩
          exact congrArg (fun b => some (Value.bool b)) (and_f hb)

theorem rlog_Log_Match_ok : CallOk Go.Proofs.Try.prog 40 := ⟨_, Go.Proofs.Try.func40, by kernel_rfl, by kernel_rfl⟩
theorem rlog_Log_Match_ref (p0 : Option Addr) (p1 : Int) (p2 : Int) (k : (Bool) → Heap → Prop) (h : Heap) (H : rlog_Log_Match p0 p1 p2 k h) : CallsH Go.Proofs.Try.prog 40 #[.pointer p0, .int .u64 p1, .int .u64 p2] h (fun v h' => ∃ r : Bool, v = .bool r ∧ k r h') := by
  refine f_enter (N := 22) Go.Proofs.Try.func40 rfl rfl rfl (fun w0 => ?_)
  unfold rlog_Log_Match at H
  refine c_weak [(0, .pointer p0), (1, .int .u64 p1), (2, .int .u64 p2)] ⟨rfl, rfl, rfl, trivial⟩ ?_
  refine c_seq ?_
  refine c_region ?_
  refine w_p tok rfl rfl rfl ?_
  refine w_end ?_
  refine x_seq ?_
  refine c_seq ?_
  refine c_region ?_
  refine w_p tok rfl rfl rfl ?_
  refine w_p tok rfl rfl rfl ?_
  refine w_call rlog_Log_Term_ok (rlog_Log_Term_ref _ _ _ _ H) rfl rfl rfl rfl ?_
  rintro _ h2 ⟨r1, rfl, H⟩
  refine w_p tok rfl rfl rfl ?_
  refine w_p tok rfl rfl rfl ?_
  refine w_p tok rfl rfl rfl ?_
  refine w_p tok rfl rfl rfl ?_
  refine w_p tok rfl rfl rfl ?_
  refine w_end ?_
  refine x_seq ?_
  refine c_weak [(2, .int .u64 p2), (7, .int .u64 r1.1), (8, .int .i64 r1.2)] ⟨rfl, rfl, rfl, trivial⟩ ?_
  refine c_seq ?_
  refine c_region ?_
  refine w_p tok rfl rfl rfl ?_
  refine w_p tok rfl rfl rfl ?_
  refine w_p tok rfl rfl rfl ?_
  refine w_cutU 4 [(21, .bool ((r1.2 == 0) && (r1.1 == p2)))] ?_ ?_
  ·
    refine w_p tok rfl rfl rfl ?_
    refine w_end ?_
    refine x_seq ?_
    refine c_ret ?_
    exact x_ret _ rfl _ rfl ⟨((r1.2 == 0) && (r1.1 == p2)), rfl, H⟩
  ·
    refine w_gs (d := 17) rfl (fun hb => ?_) (fun hb => ?_)
    ·
      refine w_p tok rfl rfl rfl ?_
      refine w_p tok rfl rfl rfl ?_
      refine w_p tok rfl rfl rfl ?_
      refine w_p tok rfl rfl rfl ?_
      refine w_jn () rfl ⟨?_, trivial⟩
      exact congrArg (fun b => some (Value.bool b)) (and_t hb)
    ·
      refine w_skip rfl rfl ?_
      refine w_skip rfl rfl ?_
      refine w_skip rfl rfl ?_
      refine w_p tok rfl rfl rfl ?_
      refine w_jn () rfl ⟨?_, trivial⟩
      exact congrArg (fun b => some (Value.bool b)) (and_f hb)

theorem rlog_Log_Append_ok : CallOk Go.Proofs.Try.prog 28 := ⟨_, Go.Proofs.Try.func28, by kernel_rfl, by kernel_rfl⟩
theorem rlog_Log_Append_ref (p0 : Option Addr) (p1 : Int) (p2 : Int) (p3 : Slc) (k : (Int × Int) → Heap → Prop) (h : Heap) (H : rlog_Log_Append p0 p1 p2 p3 k h) : CallsH Go.Proofs.Try.prog 28 #[.pointer p0, .int .u64 p1, .int .u64 p2, Slc.v p3] h (fun v h' => ∃ r : Int × Int, v = .tuple #[.int .u64 r.1, .int .i64 r.2] ∧ k r h') := by
  refine f_enter (N := 95) Go.Proofs.Try.func28 rfl rfl rfl (fun w0 => ?_)
  unfold rlog_Log_Append at H
  refine c_weak [(0, .pointer p0), (1, .int .u64 p1), (2, .int .u64 p2), (3, Slc.v p3)] ⟨rfl, rfl, rfl, rfl, trivial⟩ ?_
  refine c_seq ?_
  refine c_region ?_
  refine w_p tok rfl rfl rfl ?_
  refine w_p tok rfl rfl rfl ?_
  refine w_end ?_
  refine x_seq ?_
  refine c_scope ?_
  refine c_seq ?_
  refine c_seq ?_
  refine c_region ?_
  refine w_p tok rfl rfl rfl ?_
  refine w_p tok rfl rfl rfl ?_
  refine w_end ?_
  refine x_seq ?_
  refine c_if H rfl (fun H => ?_) (fun H => ?_)
  ·
    refine c_seq ?_
    refine c_region ?_
    refine w_p tok rfl rfl rfl ?_
    refine w_p tok rfl rfl rfl ?_
    refine w_end ?_
    refine x_seq ?_
    refine c_ret ?_
    refine x_tr ?_
    refine x_sr ?_
    exact x_ret _ rfl _ rfl ⟨(0, 1), rfl, H⟩
  ·
    refine c_skip ?_
    refine x_seq ?_
    refine c_seq ?_
    refine c_seq ?_
    refine c_region ?_
    refine w_p tok rfl rfl rfl ?_
    refine w_p tok rfl rfl rfl ?_
    obtain ⟨a1, ha1, H⟩ := H
    refine w_y (y_nil' rfl rfl ha1) rfl rfl ?_
    refine w_p tok rfl rfl rfl ?_
    obtain ⟨v2, hv2, H⟩ := H
    refine w_y (y_ld tok rfl rfl rfl rfl hv2) rfl rfl ?_
    refine w_p tok rfl rfl rfl ?_
    refine w_p tok rfl rfl rfl ?_
    refine w_cut 6 (α := Bool) (fun (s : Bool) => [(29, .bool s), (0, .pointer p0), (1, .int .u64 p1), (3, Slc.v p3)]) (fun (s : Bool) h => rlog_Log_Append_g1 p0 p1 p3 s k h) ?_ ?_
    ·
      rintro t29_1 h_1 H
      replace H : rlog_Log_Append_g1 p0 p1 p3 t29_1 k h_1 := H
      unfold rlog_Log_Append_g1 at H
      refine w_weak [(29, .bool t29_1), (0, .pointer p0), (1, .int .u64 p1), (3, Slc.v p3)] ⟨rfl, rfl, rfl, rfl, trivial⟩ ?_
      refine w_end ?_
      refine x_seq ?_
      refine c_if H rfl (fun H => ?_) (fun H => ?_)
      ·
        refine c_seq ?_
        refine c_region ?_
        refine w_p tok rfl rfl rfl ?_
        refine w_p tok rfl rfl rfl ?_
        refine w_end ?_
        refine x_seq ?_
        refine c_ret ?_
        refine x_tr ?_
        refine x_sr ?_
        exact x_ret _ rfl _ rfl ⟨(0, 6), rfl, H⟩
      ·
        refine c_skip ?_
        refine x_seq ?_
        refine c_seq ?_
        refine c_region ?_
        refine w_p tok rfl rfl rfl ?_
        refine w_p tok rfl rfl rfl ?_
        refine w_p tok rfl rfl rfl ?_
        refine w_p tok rfl rfl rfl ?_
        refine w_p tok rfl rfl rfl ?_
        obtain ⟨x3, ex3, H⟩ := H
        refine w_pe tok rfl (congrArg (fun z => (.int .u64 z : Value)) ex3) rfl rfl ?_
        refine w_end ?_
        refine x_seq ?_
        refine c_seq ?_
        refine c_region ?_
        refine w_p tok rfl rfl rfl ?_
        obtain ⟨a4, ha4, H⟩ := H
        refine w_y (y_nil' rfl rfl ha4) rfl rfl ?_
        refine w_p tok rfl rfl rfl ?_
        obtain ⟨v5, hv5, H⟩ := H
        refine w_y (y_ld tok rfl rfl rfl rfl hv5) rfl rfl ?_
        refine w_p tok rfl rfl rfl ?_
        refine w_end ?_
        refine x_seq ?_
        refine c_weak [(0, .pointer p0), (1, .int .u64 p1), (3, Slc.v p3), (8, .int .u64 x3), (10, Slc.v v5)] ⟨rfl, rfl, rfl, rfl, rfl, trivial⟩ ?_
        refine c_seq ?_
        refine c_label ?_
        refine x_seq ?_
        refine c_seq ?_
        refine c_seq ?_
        refine c_region ?_
        refine w_p tok rfl rfl rfl ?_
        refine w_p tok rfl rfl rfl ?_
        refine w_p tok rfl rfl rfl ?_
        refine w_end ?_
        refine x_seq ?_
        refine c_block ?_
        obtain ⟨I2, μ2, H0, HI⟩ := H
        refine c_loop (σ := Slc × Int) (fun (s : Slc × Int) => [(10, Slc.v s.1), (41, .int .i64 s.2), (0, .pointer p0), (1, .int .u64 p1), (8, .int .u64 x3), (39, Slc.v p3), (40, .int .i64 (p3.len : Int))]) I2 μ2 (v5, 0) H0 ⟨rfl, rfl, rfl, rfl, rfl, rfl, rfl, trivial⟩ ?_
        rintro ⟨t10_2, t41_2⟩ h_2 H
        replace H := HI t10_2 t41_2 h_2 H
        unfold rlog_Log_Append_l2b at H
        refine c_weak [(10, Slc.v t10_2), (41, .int .i64 t41_2), (0, .pointer p0), (1, .int .u64 p1), (8, .int .u64 x3), (39, Slc.v p3), (40, .int .i64 (p3.len : Int))] ⟨rfl, rfl, rfl, rfl, rfl, rfl, rfl, trivial⟩ ?_
        refine c_seq ?_
        refine c_region ?_
        refine w_p tok rfl rfl rfl ?_
        refine w_end ?_
        refine x_seq ?_
        refine c_seq ?_
        refine c_if H rfl (fun H => ?_) (fun H => ?_)
        ·
          refine c_skip ?_
          refine x_seq ?_
          refine c_seqJ (α := Slc) (fun (s : Slc) => [(10, Slc.v s), (0, .pointer p0), (1, .int .u64 p1), (8, .int .u64 x3), (39, Slc.v p3), (40, .int .i64 (p3.len : Int)), (41, .int .i64 t41_2)]) (fun (s : Slc) h => rlog_Log_Append_j3 p0 p1 x3 p3 (p3.len : Int) t41_2 s k (fun s h' => I2 s h' ∧ μ2 s h' < μ2 (t10_2, t41_2) h_2) h) ?_ ?_
          ·
            rintro t10_3 h_3 H
            replace H : rlog_Log_Append_j3 p0 p1 x3 p3 (p3.len : Int) t41_2 t10_3 k (fun s h' => I2 s h' ∧ μ2 s h' < μ2 (t10_2, t41_2) h_2) h_3 := H
            unfold rlog_Log_Append_j3 at H
            refine c_weak [(10, Slc.v t10_3), (0, .pointer p0), (1, .int .u64 p1), (8, .int .u64 x3), (39, Slc.v p3), (40, .int .i64 (p3.len : Int)), (41, .int .i64 t41_2)] ⟨rfl, rfl, rfl, rfl, rfl, rfl, rfl, trivial⟩ ?_
            refine c_region ?_
            refine w_p tok rfl rfl rfl ?_
            refine w_p tok rfl rfl rfl ?_
            refine w_end ?_
            exact x_join (t10_3, (IntKind.i64.wrap (t41_2 + 1))) H ⟨rfl, rfl, rfl, rfl, rfl, rfl, rfl, trivial⟩
          ·
            refine c_block ?_
            refine c_seq ?_
            refine c_region ?_
            refine w_p tok rfl rfl rfl ?_
            obtain ⟨a6, ha6, la6, ua6, H⟩ := H
            refine w_y (y_ixa' tok rfl rfl ha6 rfl rfl rfl la6 ua6) rfl rfl ?_
            obtain ⟨v7, hv7, H⟩ := H
            refine w_y (y_lda tok rfl rfl rfl rfl rfl hv7) rfl rfl ?_
            obtain ⟨b8, h9, eb8, eh9, H⟩ := H
            refine w_h (h_alloc tok rfl rfl eb8 eh9) rfl rfl ?_
            refine w_p tok rfl rfl rfl ?_
            obtain ⟨h10, wh10, eh10, H⟩ := H
            refine w_h (h_sts tok rfl rfl rfl rfl rfl (by simp [S_api_Entry.cs, Slc.v, Value.oneCell']) wh10 eh10) rfl rfl ?_
            refine w_end ?_
            refine x_seq ?_
            refine c_seq ?_
            refine c_region ?_
            refine w_p tok rfl rfl rfl ?_
            refine w_p tok rfl rfl rfl ?_
            refine w_p tok rfl rfl rfl ?_
            refine w_p tok rfl rfl rfl ?_
            refine w_p tok rfl rfl rfl ?_
            obtain ⟨x11, ex11, H⟩ := H
            refine w_pe tok rfl (congrArg (fun z => (.int .u64 z : Value)) ex11) rfl rfl ?_
            refine w_end ?_
            refine x_seq ?_
            refine c_weak [(10, Slc.v t10_2), (41, .int .i64 t41_2), (0, .pointer p0), (1, .int .u64 p1), (8, .int .u64 x3), (39, Slc.v p3), (40, .int .i64 (p3.len : Int)), (12, .pointer (some (⟨b8, 0, none⟩ : Addr))), (13, .int .u64 x11)] ⟨rfl, rfl, rfl, rfl, rfl, rfl, rfl, rfl, rfl, trivial⟩ ?_
            refine c_seq ?_
            refine c_seq ?_
            refine c_region ?_
            refine w_p tok rfl rfl rfl ?_
            refine w_p tok rfl rfl rfl ?_
            obtain ⟨a12, ha12, H⟩ := H
            refine w_y (y_nil' rfl rfl ha12) rfl rfl ?_
            refine w_p tok rfl rfl rfl ?_
            obtain ⟨v13, hv13, H⟩ := H
            refine w_y (y_ld tok rfl rfl rfl rfl hv13) rfl rfl ?_
            refine w_p tok rfl rfl rfl ?_
            refine w_end ?_
            refine x_seq ?_
            refine c_if H rfl (fun H => ?_) (fun H => ?_)
            ·
              refine c_exit ?_
              refine x_te ?_
              refine x_bh ?_
              exact x_join t10_2 H ⟨rfl, rfl, rfl, rfl, rfl, rfl, rfl, trivial⟩
            ·
              refine c_skip ?_
              refine x_seq ?_
              refine c_seq ?_
              refine c_region ?_
              refine w_p tok rfl rfl rfl ?_
              refine w_p tok rfl rfl rfl ?_
              refine w_y (y_nil' rfl rfl ha12) rfl rfl ?_
              refine w_p tok rfl rfl rfl ?_
              obtain ⟨v14, hv14, H⟩ := H
              refine w_y (y_ld tok rfl rfl rfl rfl hv14) rfl rfl ?_
              refine w_p tok rfl rfl rfl ?_
              refine w_p tok rfl rfl rfl ?_
              refine w_p tok rfl rfl rfl ?_
              obtain ⟨x15, ex15, H⟩ := H
              refine w_pe tok rfl (congrArg (fun z => (.int .i64 z : Value)) ex15) rfl rfl ?_
              refine w_end ?_
              refine x_seq ?_
              refine c_weak [(10, Slc.v t10_2), (41, .int .i64 t41_2), (0, .pointer p0), (1, .int .u64 p1), (8, .int .u64 x3), (39, Slc.v p3), (40, .int .i64 (p3.len : Int)), (12, .pointer (some (⟨b8, 0, none⟩ : Addr))), (14, .int .i64 x15)] ⟨rfl, rfl, rfl, rfl, rfl, rfl, rfl, rfl, rfl, trivial⟩ ?_
              refine c_seqJ (α := Slc) (fun (s : Slc) => [(10, Slc.v s), (0, .pointer p0), (1, .int .u64 p1), (8, .int .u64 x3), (12, .pointer (some (⟨b8, 0, none⟩ : Addr))), (39, Slc.v p3), (40, .int .i64 (p3.len : Int)), (41, .int .i64 t41_2)]) (fun (s : Slc) h => rlog_Log_Append_j4 p0 p1 x3 (⟨b8, 0, none⟩ : Addr) p3 (p3.len : Int) t41_2 s k (fun s h' => I2 s h' ∧ μ2 s h' < μ2 (t10_2, t41_2) h_2) h) ?_ ?_
              ·
                rintro t10_4 h_4 H
                replace H : rlog_Log_Append_j4 p0 p1 x3 (⟨b8, 0, none⟩ : Addr) p3 (p3.len : Int) t41_2 t10_4 k (fun s h' => I2 s h' ∧ μ2 s h' < μ2 (t10_2, t41_2) h_2) h_4 := H
                unfold rlog_Log_Append_j4 at H
                refine c_weak [(10, Slc.v t10_4), (0, .pointer p0), (1, .int .u64 p1), (8, .int .u64 x3), (12, .pointer (some (⟨b8, 0, none⟩ : Addr))), (39, Slc.v p3), (40, .int .i64 (p3.len : Int)), (41, .int .i64 t41_2)] ⟨rfl, rfl, rfl, rfl, rfl, rfl, rfl, rfl, trivial⟩ ?_
                refine c_region ?_
                refine w_p tok rfl rfl rfl ?_
                obtain ⟨v16, hv16, H⟩ := H
                refine w_y (y_lda tok rfl rfl rfl rfl rfl hv16) rfl rfl ?_
                obtain ⟨b17, h18, eb17, eh18, H⟩ := H
                refine w_h (h_bs tok rfl rfl rfl rfl rfl rfl rfl eb17 eh18) rfl rfl ?_
                refine w_call rlog_copied_ok (rlog_copied_ref _ _ _ H) rfl rfl rfl rfl ?_
                rintro _ h20 ⟨r19, rfl, H⟩
                obtain ⟨l23, hl23, H⟩ := H
                refine w_a (a_app (s := t10_4) (r := r19) tok rfl rfl rfl rfl rfl hl23 H) rfl rfl ?_
                rintro _ h22 ⟨s21, rfl, H⟩
                refine w_p tok rfl rfl rfl ?_
                refine w_end ?_
                refine x_blk ?_
                exact x_join s21 H ⟨rfl, rfl, rfl, rfl, rfl, rfl, rfl, trivial⟩
              ·
                refine c_seq ?_
                refine c_region ?_
                refine w_p tok rfl rfl rfl ?_
                refine w_p tok rfl rfl rfl ?_
                refine w_p tok rfl rfl rfl ?_
                refine w_p tok rfl rfl rfl ?_
                refine w_end ?_
                refine x_seq ?_
                refine c_if H rfl (fun H => ?_) (fun H => ?_)
                ·
                  refine c_seq ?_
                  refine c_seq ?_
                  refine c_draw (by kernel_rfl) (by kernel_rfl) ?_
                  refine q_p tok rfl rfl rfl ?_
                  refine q_p tok rfl rfl rfl ?_
                  obtain ⟨a24, ha24, la24, ua24, H⟩ := H
                  refine q_y (y_ixa' tok rfl rfl ha24 rfl rfl rfl la24 ua24) rfl rfl ?_
                  refine q_p tok rfl rfl rfl ?_
                  obtain ⟨v25, hv25, H⟩ := H
                  refine q_y (y_ld tok rfl rfl rfl rfl hv25) rfl rfl ?_
                  refine q_p tok rfl rfl rfl ?_
                  obtain ⟨v26, hv26, H⟩ := H
                  refine q_y (y_ld tok rfl rfl rfl rfl hv26) rfl rfl ?_
                  refine q_p tok rfl rfl rfl ?_
                  refine q_end ?_
                  refine x_seq ?_
                  refine c_weak [(10, Slc.v t10_2), (41, .int .i64 t41_2), (0, .pointer p0), (1, .int .u64 p1), (8, .int .u64 x3), (39, Slc.v p3), (40, .int .i64 (p3.len : Int)), (12, .pointer (some (⟨b8, 0, none⟩ : Addr))), (14, .int .i64 x15), (76, .bool (v25 == v26))] ⟨rfl, rfl, rfl, rfl, rfl, rfl, rfl, rfl, rfl, rfl, trivial⟩ ?_
                  refine c_if H rfl (fun H => ?_) (fun H => ?_)
                  ·
                    refine c_exit ?_
                    refine x_te ?_
                    refine x_te ?_
                    refine x_bh ?_
                    exact x_join t10_2 H ⟨rfl, rfl, rfl, rfl, rfl, rfl, rfl, trivial⟩
                  ·
                    refine c_skip ?_
                    refine x_seq ?_
                    refine c_region ?_
                    refine w_p tok rfl rfl rfl ?_
                    refine w_p tok rfl rfl rfl ?_
                    refine w_p tok rfl rfl rfl ?_
                    obtain ⟨s27, ps27, qs27, rs27, ts27, es27, H⟩ := H
                    refine w_ye (y_sl (s := t10_2) (L := 0) (H := x15) (M := x15) tok rfl rfl rfl rfl rfl rfl rfl (by simp) ps27 qs27 rs27 ts27) (congrArg Slc.v es27) rfl rfl ?_
                    refine w_p tok rfl rfl rfl ?_
                    refine w_end ?_
                    exact x_join s27 H ⟨rfl, rfl, rfl, rfl, rfl, rfl, rfl, rfl, trivial⟩
                ·
                  refine c_skip ?_
                  exact x_join t10_2 H ⟨rfl, rfl, rfl, rfl, rfl, rfl, rfl, rfl, trivial⟩
        ·
          refine c_exit ?_
          refine x_te ?_
          refine x_te ?_
          refine x_bh ?_
          refine x_seq ?_
          refine c_seq ?_
          refine c_seq ?_
          refine c_region ?_
          refine w_p tok rfl rfl rfl ?_
          refine w_p tok rfl rfl rfl ?_
          refine w_p tok rfl rfl rfl ?_
          refine w_end ?_
          refine x_seq ?_
          refine c_weak [(10, Slc.v t10_2), (0, .pointer p0), (8, .int .u64 x3), (89, .bool (decide ((t10_2.len : Int) > 64)))] ⟨rfl, rfl, rfl, rfl, trivial⟩ ?_
          refine c_if H rfl (fun H => ?_) (fun H => ?_)
          ·
            refine c_seq ?_
            refine c_region ?_
            refine w_p tok rfl rfl rfl ?_
            refine w_p tok rfl rfl rfl ?_
            refine w_end ?_
            refine x_seq ?_
            refine c_ret ?_
            refine x_tr ?_
            refine x_sr ?_
            exact x_ret _ rfl _ rfl ⟨(0, 8), rfl, H⟩
          ·
            refine c_skip ?_
            refine x_seq ?_
            refine c_seq ?_
            refine c_region ?_
            refine w_p tok rfl rfl rfl ?_
            refine w_p tok rfl rfl rfl ?_
            obtain ⟨a28, ha28, H⟩ := H
            refine w_y (y_nil' rfl rfl ha28) rfl rfl ?_
            refine w_p tok rfl rfl rfl ?_
            obtain ⟨h29, wh29, eh29, H⟩ := H
            refine w_h (h_st tok rfl rfl rfl rfl rfl rfl wh29 eh29) rfl rfl ?_
            refine w_end ?_
            refine x_seq ?_
            refine c_weak [(8, .int .u64 x3)] ⟨rfl, trivial⟩ ?_
            refine c_seq ?_
            refine c_region ?_
            refine w_p tok rfl rfl rfl ?_
            refine w_p tok rfl rfl rfl ?_
            refine w_p tok rfl rfl rfl ?_
            refine w_end ?_
            refine x_seq ?_
            refine c_ret ?_
            refine x_sr ?_
            exact x_ret _ rfl _ rfl ⟨(x3, 0), rfl, H⟩
    ·
      refine w_gif (d := 23) H rfl (fun H => ?_) (fun H => ?_)
      ·
        refine w_p tok rfl rfl rfl ?_
        refine w_p tok rfl rfl rfl ?_
        refine w_p tok rfl rfl rfl ?_
        refine w_call rlog_Log_Match_ok (rlog_Log_Match_ref _ _ _ _ _ H) rfl rfl rfl rfl ?_
        rintro _ h31 ⟨r30, rfl, H⟩
        refine w_p tok rfl rfl rfl ?_
        refine w_p tok rfl rfl rfl ?_
        exact w_jn (!r30) H ⟨rfl, rfl, rfl, rfl, trivial⟩
      ·
        refine w_skip rfl rfl ?_
        refine w_skip rfl rfl ?_
        refine w_skip rfl rfl ?_
        refine w_skip rfl rfl ?_
        refine w_skip rfl rfl ?_
        refine w_p tok rfl rfl rfl ?_
        exact w_jn false H ⟨rfl, rfl, rfl, rfl, trivial⟩

theorem ref23_Log_Append_ok : CallOk Go.Proofs.Try.prog 32 := ⟨_, Go.Proofs.Try.func32, by kernel_rfl, by kernel_rfl⟩
theorem ref23_Log_Append_ref (p0 : Option Addr) (p1 : Int) (p2 : Int) (p3 : Slc) (k : (Int × Int) → Heap → Prop) (h : Heap) (H : ref23_Log_Append p0 p1 p2 p3 k h) : CallsH Go.Proofs.Try.prog 32 #[.pointer p0, .int .u64 p1, .int .u64 p2, Slc.v p3] h (fun v h' => ∃ r : Int × Int, v = .tuple #[.int .u64 r.1, .int .i64 r.2] ∧ k r h') := by
  refine f_enter (N := 113) Go.Proofs.Try.func32 rfl rfl rfl (fun w0 => ?_)
  unfold ref23_Log_Append at H
  refine c_weak [(0, .pointer p0), (1, .int .u64 p1), (2, .int .u64 p2), (3, Slc.v p3)] ⟨rfl, rfl, rfl, rfl, trivial⟩ ?_
  refine c_seq ?_
  refine c_region ?_
  refine w_p tok rfl rfl rfl ?_
  refine w_p tok rfl rfl rfl ?_
  refine w_end ?_
  refine x_seq ?_
  refine c_seq ?_
  refine c_region ?_
  refine w_p tok rfl rfl rfl ?_
  refine w_p tok rfl rfl rfl ?_
  refine w_call ref23_Log_TermOf_ok (ref23_Log_TermOf_ref _ _ _ _ H) rfl rfl rfl rfl ?_
  rintro _ h2 ⟨r1, rfl, H⟩
  refine w_p tok rfl rfl rfl ?_
  refine w_p tok rfl rfl rfl ?_
  refine w_p tok rfl rfl rfl ?_
  refine w_p tok rfl rfl rfl ?_
  refine w_p tok rfl rfl rfl ?_
  refine w_end ?_
  refine x_seq ?_
  refine c_weak [(0, .pointer p0), (1, .int .u64 p1), (2, .int .u64 p2), (3, Slc.v p3), (10, .int .u64 r1.1), (11, .int .i64 r1.2)] ⟨rfl, rfl, rfl, rfl, rfl, rfl, trivial⟩ ?_
  refine c_seq ?_
  refine c_seq ?_
  refine c_region ?_
  refine w_p tok rfl rfl rfl ?_
  refine w_p tok rfl rfl rfl ?_
  obtain ⟨a3, ha3, H⟩ := H
  refine w_y (y_nil' rfl rfl ha3) rfl rfl ?_
  refine w_p tok rfl rfl rfl ?_
  obtain ⟨v4, hv4, H⟩ := H
  refine w_y (y_ld tok rfl rfl rfl rfl hv4) rfl rfl ?_
  refine w_p tok rfl rfl rfl ?_
  refine w_p tok rfl rfl rfl ?_
  refine w_cutU 8 [(36, .bool ((decide (p1 ≥ v4)) && ((r1.2 != 0) || (r1.1 != p2)))), (0, .pointer p0), (1, .int .u64 p1), (3, Slc.v p3)] ?_ ?_
  ·
    refine w_end ?_
    refine x_seq ?_
    refine c_if H rfl (fun H => ?_) (fun H => ?_)
    ·
      refine c_seq ?_
      refine c_region ?_
      refine w_p tok rfl rfl rfl ?_
      refine w_p tok rfl rfl rfl ?_
      refine w_end ?_
      refine x_seq ?_
      refine c_ret ?_
      refine x_tr ?_
      exact x_ret _ rfl _ rfl ⟨(0, 6), rfl, H⟩
    ·
      refine c_skip ?_
      refine x_seq ?_
      refine c_seq ?_
      refine c_region ?_
      obtain ⟨b5, h6, eb5, eh6, H⟩ := H
      refine w_h (h_bs tok rfl rfl rfl rfl rfl rfl rfl eb5 eh6) rfl rfl ?_
      refine w_p tok rfl rfl rfl ?_
      refine w_y (y_nil' rfl rfl ha3) rfl rfl ?_
      refine w_p tok rfl rfl rfl ?_
      obtain ⟨v7, hv7, H⟩ := H
      refine w_y (y_ld tok rfl rfl rfl rfl hv7) rfl rfl ?_
      obtain ⟨l10, hl10, H⟩ := H
      refine w_a (a_app (s := (⟨some ⟨b5, 0, none⟩, 0, 0⟩ : Slc)) (r := v7) tok rfl rfl rfl rfl rfl hl10 H) rfl rfl ?_
      rintro _ h9 ⟨s8, rfl, H⟩
      refine w_p tok rfl rfl rfl ?_
      refine w_end ?_
      refine x_seq ?_
      refine c_weak [(0, .pointer p0), (1, .int .u64 p1), (3, Slc.v p3), (12, Slc.v s8)] ⟨rfl, rfl, rfl, rfl, trivial⟩ ?_
      refine c_seq ?_
      refine c_seq ?_
      refine c_region ?_
      refine w_p tok rfl rfl rfl ?_
      refine w_end ?_
      refine x_seq ?_
      refine c_block ?_
      obtain ⟨I1, μ1, H0, HI⟩ := H
      refine c_loop (σ := Slc × Int) (fun (s : Slc × Int) => [(12, Slc.v s.1), (13, .int .i64 s.2), (0, .pointer p0), (1, .int .u64 p1), (3, Slc.v p3)]) I1 μ1 (s8, 0) H0 ⟨rfl, rfl, rfl, rfl, rfl, trivial⟩ ?_
      rintro ⟨t12_1, t13_1⟩ h_1 H
      replace H := HI t12_1 t13_1 h_1 H
      unfold ref23_Log_Append_l1b at H
      refine c_weak [(12, Slc.v t12_1), (13, .int .i64 t13_1), (0, .pointer p0), (1, .int .u64 p1), (3, Slc.v p3)] ⟨rfl, rfl, rfl, rfl, rfl, trivial⟩ ?_
      refine c_seq ?_
      refine c_seq ?_
      refine c_region ?_
      refine w_p tok rfl rfl rfl ?_
      refine w_p tok rfl rfl rfl ?_
      refine w_p tok rfl rfl rfl ?_
      refine w_p tok rfl rfl rfl ?_
      refine w_end ?_
      refine x_seq ?_
      refine c_if H rfl (fun H => ?_) (fun H => ?_)
      ·
        refine c_skip ?_
        refine x_seq ?_
        refine c_seqJ (α := Slc) (fun (s : Slc) => [(12, Slc.v s), (0, .pointer p0), (1, .int .u64 p1), (3, Slc.v p3), (13, .int .i64 t13_1)]) (fun (s : Slc) h => ref23_Log_Append_j2 p0 p1 p3 t13_1 s k (fun s h' => I1 s h' ∧ μ1 s h' < μ1 (t12_1, t13_1) h_1) h) ?_ ?_
        ·
          rintro t12_2 h_2 H
          replace H : ref23_Log_Append_j2 p0 p1 p3 t13_1 t12_2 k (fun s h' => I1 s h' ∧ μ1 s h' < μ1 (t12_1, t13_1) h_1) h_2 := H
          unfold ref23_Log_Append_j2 at H
          refine c_weak [(12, Slc.v t12_2), (0, .pointer p0), (1, .int .u64 p1), (3, Slc.v p3), (13, .int .i64 t13_1)] ⟨rfl, rfl, rfl, rfl, rfl, trivial⟩ ?_
          refine c_region ?_
          refine w_p tok rfl rfl rfl ?_
          refine w_p tok rfl rfl rfl ?_
          obtain ⟨x11, ex11, H⟩ := H
          refine w_pe tok rfl (congrArg (fun z => (.int .i64 z : Value)) ex11) rfl rfl ?_
          refine w_end ?_
          exact x_join (t12_2, x11) H ⟨rfl, rfl, rfl, rfl, rfl, trivial⟩
        ·
          refine c_block ?_
          refine c_seq ?_
          refine c_region ?_
          refine w_p tok rfl rfl rfl ?_
          refine w_p tok rfl rfl rfl ?_
          refine w_p tok rfl rfl rfl ?_
          refine w_p tok rfl rfl rfl ?_
          refine w_p tok rfl rfl rfl ?_
          obtain ⟨x12, ex12, H⟩ := H
          refine w_pe tok rfl (congrArg (fun z => (.int .u64 z : Value)) ex12) rfl rfl ?_
          refine w_end ?_
          refine x_seq ?_
          refine c_weak [(12, Slc.v t12_1), (13, .int .i64 t13_1), (0, .pointer p0), (1, .int .u64 p1), (3, Slc.v p3), (14, .int .u64 x12)] ⟨rfl, rfl, rfl, rfl, rfl, rfl, trivial⟩ ?_
          refine c_seq ?_
          refine c_seq ?_
          refine c_region ?_
          refine w_p tok rfl rfl rfl ?_
          refine w_p tok rfl rfl rfl ?_
          obtain ⟨a13, ha13, H⟩ := H
          refine w_y (y_nil' rfl rfl ha13) rfl rfl ?_
          refine w_p tok rfl rfl rfl ?_
          obtain ⟨v14, hv14, H⟩ := H
          refine w_y (y_ld tok rfl rfl rfl rfl hv14) rfl rfl ?_
          refine w_p tok rfl rfl rfl ?_
          refine w_end ?_
          refine x_seq ?_
          refine c_if H rfl (fun H => ?_) (fun H => ?_)
          ·
            refine c_exit ?_
            refine x_te ?_
            refine x_bh ?_
            exact x_join t12_1 H ⟨rfl, rfl, rfl, rfl, rfl, trivial⟩
          ·
            refine c_skip ?_
            refine x_seq ?_
            refine c_seq ?_
            refine c_region ?_
            refine w_p tok rfl rfl rfl ?_
            refine w_p tok rfl rfl rfl ?_
            refine w_y (y_nil' rfl rfl ha13) rfl rfl ?_
            refine w_p tok rfl rfl rfl ?_
            obtain ⟨v15, hv15, H⟩ := H
            refine w_y (y_ld tok rfl rfl rfl rfl hv15) rfl rfl ?_
            refine w_p tok rfl rfl rfl ?_
            refine w_p tok rfl rfl rfl ?_
            refine w_p tok rfl rfl rfl ?_
            obtain ⟨x16, ex16, H⟩ := H
            refine w_pe tok rfl (congrArg (fun z => (.int .i64 z : Value)) ex16) rfl rfl ?_
            refine w_end ?_
            refine x_seq ?_
            refine c_weak [(12, Slc.v t12_1), (13, .int .i64 t13_1), (0, .pointer p0), (1, .int .u64 p1), (3, Slc.v p3), (15, .int .i64 x16)] ⟨rfl, rfl, rfl, rfl, rfl, rfl, trivial⟩ ?_
            refine c_seq ?_
            refine c_seq ?_
            refine c_draw (by kernel_rfl) (by kernel_rfl) ?_
            refine q_p tok rfl rfl rfl ?_
            refine q_p tok rfl rfl rfl ?_
            refine q_p tok rfl rfl rfl ?_
            refine q_p tok rfl rfl rfl ?_
            refine q_p tok rfl rfl rfl ?_
            refine q_cut 12 (α := Bool) (fun (s : Bool) => [(84, .bool s), (0, .pointer p0), (1, .int .u64 p1), (3, Slc.v p3), (12, Slc.v t12_1), (13, .int .i64 t13_1), (15, .int .i64 x16)]) (fun (s : Bool) => ref23_Log_Append_g3 p0 p1 p3 t12_1 t13_1 x16 s k (fun s h' => I1 s h' ∧ μ1 s h' < μ1 (t12_1, t13_1) h_1) h_1) ?_ ?_
            ·
              rintro t84_3 H
              replace H : ref23_Log_Append_g3 p0 p1 p3 t12_1 t13_1 x16 t84_3 k (fun s h' => I1 s h' ∧ μ1 s h' < μ1 (t12_1, t13_1) h_1) h_1 := H
              unfold ref23_Log_Append_g3 at H
              refine q_weak [(84, .bool t84_3), (0, .pointer p0), (1, .int .u64 p1), (3, Slc.v p3), (12, Slc.v t12_1), (13, .int .i64 t13_1), (15, .int .i64 x16)] ⟨rfl, rfl, rfl, rfl, rfl, rfl, rfl, trivial⟩ ?_
              refine q_end ?_
              refine x_seq ?_
              refine c_if H rfl (fun H => ?_) (fun H => ?_)
              ·
                refine c_exit ?_
                refine x_te ?_
                refine x_bh ?_
                exact x_join t12_1 H ⟨rfl, rfl, rfl, rfl, rfl, trivial⟩
              ·
                refine c_skip ?_
                refine x_seq ?_
                refine c_seqJ (α := Slc) (fun (s : Slc) => [(12, Slc.v s), (0, .pointer p0), (1, .int .u64 p1), (3, Slc.v p3), (13, .int .i64 t13_1)]) (fun (s : Slc) h => ref23_Log_Append_j4 p0 p1 p3 t13_1 s k (fun s h' => I1 s h' ∧ μ1 s h' < μ1 (t12_1, t13_1) h_1) h) ?_ ?_
                ·
                  rintro t12_4 h_4 H
                  replace H : ref23_Log_Append_j4 p0 p1 p3 t13_1 t12_4 k (fun s h' => I1 s h' ∧ μ1 s h' < μ1 (t12_1, t13_1) h_1) h_4 := H
                  unfold ref23_Log_Append_j4 at H
                  refine c_weak [(12, Slc.v t12_4), (0, .pointer p0), (1, .int .u64 p1), (3, Slc.v p3), (13, .int .i64 t13_1)] ⟨rfl, rfl, rfl, rfl, rfl, trivial⟩ ?_
                  refine c_region ?_
                  refine w_p tok rfl rfl rfl ?_
                  refine w_p tok rfl rfl rfl ?_
                  refine w_p tok rfl rfl rfl ?_
                  obtain ⟨a17, ha17, la17, ua17, H⟩ := H
                  refine w_y (y_ixa' tok rfl rfl ha17 rfl rfl rfl la17 ua17) rfl rfl ?_
                  obtain ⟨v18, hv18, H⟩ := H
                  refine w_y (y_lda tok rfl rfl rfl rfl rfl hv18) rfl rfl ?_
                  obtain ⟨b19, h20, eb19, eh20, H⟩ := H
                  refine w_h (h_bs tok rfl rfl rfl rfl rfl rfl rfl eb19 eh20) rfl rfl ?_
                  refine w_a (a_app (s := t12_4) (r := (⟨some ⟨b19, 0, none⟩, 1, 1⟩ : Slc)) tok rfl rfl rfl rfl rfl (slcAt_push eb19 eh20) H) rfl rfl ?_
                  rintro _ h22 ⟨s21, rfl, H⟩
                  refine w_p tok rfl rfl rfl ?_
                  refine w_end ?_
                  refine x_blk ?_
                  exact x_join s21 H ⟨rfl, rfl, rfl, rfl, rfl, trivial⟩
                ·
                  refine c_seq ?_
                  refine c_region ?_
                  refine w_p tok rfl rfl rfl ?_
                  refine w_p tok rfl rfl rfl ?_
                  refine w_p tok rfl rfl rfl ?_
                  refine w_p tok rfl rfl rfl ?_
                  refine w_end ?_
                  refine x_seq ?_
                  refine c_if H rfl (fun H => ?_) (fun H => ?_)
                  ·
                    refine c_region ?_
                    obtain ⟨b23, h24, eb23, eh24, H⟩ := H
                    refine w_h (h_bs tok rfl rfl rfl rfl rfl rfl rfl eb23 eh24) rfl rfl ?_
                    refine w_p tok rfl rfl rfl ?_
                    refine w_p tok rfl rfl rfl ?_
                    obtain ⟨s25, ps25, qs25, rs25, ts25, es25, H⟩ := H
                    refine w_ye (y_sl (s := t12_1) (L := 0) (H := x16) (M := (t12_1.cap : Int)) tok rfl rfl rfl rfl rfl rfl rfl (by simp) ps25 qs25 rs25 ts25) (congrArg Slc.v es25) rfl rfl ?_
                    obtain ⟨l28, hl28, H⟩ := H
                    refine w_a (a_app (s := (⟨some ⟨b23, 0, none⟩, 0, 0⟩ : Slc)) (r := s25) tok rfl rfl rfl rfl rfl hl28 H) rfl rfl ?_
                    rintro _ h27 ⟨s26, rfl, H⟩
                    refine w_p tok rfl rfl rfl ?_
                    refine w_end ?_
                    exact x_join s26 H ⟨rfl, rfl, rfl, rfl, rfl, trivial⟩
                  ·
                    refine c_skip ?_
                    exact x_join t12_1 H ⟨rfl, rfl, rfl, rfl, rfl, trivial⟩
            ·
              refine q_gif (d := 72) H rfl (fun H => ?_) (fun H => ?_)
              ·
                refine q_p tok rfl rfl rfl ?_
                refine q_p tok rfl rfl rfl ?_
                obtain ⟨a29, ha29, la29, ua29, H⟩ := H
                refine q_y (y_ixa' tok rfl rfl ha29 rfl rfl rfl la29 ua29) rfl rfl ?_
                refine q_p tok rfl rfl rfl ?_
                obtain ⟨v30, hv30, H⟩ := H
                refine q_y (y_ld tok rfl rfl rfl rfl hv30) rfl rfl ?_
                refine q_p tok rfl rfl rfl ?_
                refine q_p tok rfl rfl rfl ?_
                obtain ⟨a31, ha31, la31, ua31, H⟩ := H
                refine q_y (y_ixa' tok rfl rfl ha31 rfl rfl rfl la31 ua31) rfl rfl ?_
                refine q_p tok rfl rfl rfl ?_
                obtain ⟨v32, hv32, H⟩ := H
                refine q_y (y_ld tok rfl rfl rfl rfl hv32) rfl rfl ?_
                refine q_p tok rfl rfl rfl ?_
                refine q_p tok rfl rfl rfl ?_
                exact q_jn (v30 == v32) H ⟨rfl, rfl, rfl, rfl, rfl, rfl, rfl, trivial⟩
              ·
                refine q_skip rfl rfl ?_
                refine q_skip rfl rfl ?_
                refine q_skip rfl rfl ?_
                refine q_skip rfl rfl ?_
                refine q_skip rfl rfl ?_
                refine q_skip rfl rfl ?_
                refine q_skip rfl rfl ?_
                refine q_skip rfl rfl ?_
                refine q_skip rfl rfl ?_
                refine q_skip rfl rfl ?_
                refine q_skip rfl rfl ?_
                refine q_p tok rfl rfl rfl ?_
                exact q_jn false H ⟨rfl, rfl, rfl, rfl, rfl, rfl, rfl, trivial⟩
      ·
        refine c_exit ?_
        refine x_te ?_
        refine x_te ?_
        refine x_bh ?_
        refine x_seq ?_
        refine c_seq ?_
        refine c_seq ?_
        refine c_region ?_
        refine w_p tok rfl rfl rfl ?_
        refine w_p tok rfl rfl rfl ?_
        refine w_p tok rfl rfl rfl ?_
        refine w_end ?_
        refine x_seq ?_
        refine c_weak [(12, Slc.v t12_1), (0, .pointer p0), (1, .int .u64 p1), (3, Slc.v p3), (103, .bool (decide ((t12_1.len : Int) > 64)))] ⟨rfl, rfl, rfl, rfl, rfl, trivial⟩ ?_
        refine c_if H rfl (fun H => ?_) (fun H => ?_)
        ·
          refine c_seq ?_
          refine c_region ?_
          refine w_p tok rfl rfl rfl ?_
          refine w_p tok rfl rfl rfl ?_
          refine w_end ?_
          refine x_seq ?_
          refine c_ret ?_
          refine x_tr ?_
          exact x_ret _ rfl _ rfl ⟨(0, 8), rfl, H⟩
        ·
          refine c_skip ?_
          refine x_seq ?_
          refine c_seq ?_
          refine c_region ?_
          refine w_p tok rfl rfl rfl ?_
          refine w_p tok rfl rfl rfl ?_
          obtain ⟨a33, ha33, H⟩ := H
          refine w_y (y_nil' rfl rfl ha33) rfl rfl ?_
          refine w_p tok rfl rfl rfl ?_
          obtain ⟨h34, wh34, eh34, H⟩ := H
          refine w_h (h_st tok rfl rfl rfl rfl rfl rfl wh34 eh34) rfl rfl ?_
          refine w_end ?_
          refine x_seq ?_
          refine c_weak [(1, .int .u64 p1), (3, Slc.v p3)] ⟨rfl, rfl, trivial⟩ ?_
          refine c_seq ?_
          refine c_region ?_
          refine w_p tok rfl rfl rfl ?_
          refine w_p tok rfl rfl rfl ?_
          refine w_p tok rfl rfl rfl ?_
          refine w_p tok rfl rfl rfl ?_
          refine w_p tok rfl rfl rfl ?_
          obtain ⟨x35, ex35, H⟩ := H
          refine w_pe tok rfl (congrArg (fun z => (.int .u64 z : Value)) ex35) rfl rfl ?_
          refine w_p tok rfl rfl rfl ?_
          refine w_end ?_
          refine x_seq ?_
          refine c_weak [(8, .int .u64 x35), (9, .int .i64 0)] ⟨rfl, rfl, trivial⟩ ?_
          refine c_ret ?_
          exact x_ret _ rfl _ rfl ⟨(x35, 0), rfl, H⟩
  ·
    refine w_gs (d := 28) rfl (fun hb => ?_) (fun hb => ?_)
    ·
      refine w_p tok rfl rfl rfl ?_
      refine w_p tok rfl rfl rfl ?_
      refine w_p tok rfl rfl rfl ?_
      refine w_cutU 4 [(35, .bool ((r1.2 != 0) || (r1.1 != p2))), (0, .pointer p0), (1, .int .u64 p1), (3, Slc.v p3), (28, .bool true)] ?_ ?_
      ·
        refine w_p tok rfl rfl rfl ?_
        refine w_jn () rfl ⟨?_, rfl, rfl, rfl, trivial⟩
        exact congrArg (fun b => some (Value.bool b)) (and_t hb)
      ·
        refine w_gs (d := 31) rfl (fun hb => ?_) (fun hb => ?_)
        ·
          refine w_skip rfl rfl ?_
          refine w_skip rfl rfl ?_
          refine w_skip rfl rfl ?_
          refine w_p tok rfl rfl rfl ?_
          refine w_jn () rfl ⟨?_, rfl, rfl, rfl, rfl, trivial⟩
          exact congrArg (fun b => some (Value.bool b)) (or_t hb)
        ·
          refine w_p tok rfl rfl rfl ?_
          refine w_p tok rfl rfl rfl ?_
          refine w_p tok rfl rfl rfl ?_
          refine w_p tok rfl rfl rfl ?_
          refine w_jn () rfl ⟨?_, rfl, rfl, rfl, rfl, trivial⟩
          exact congrArg (fun b => some (Value.bool b)) (or_f hb)
    ·
      refine w_skip rfl rfl ?_
      refine w_skip rfl rfl ?_
      refine w_skip rfl rfl ?_
      refine w_skip rfl rfl ?_
      refine w_skip rfl rfl ?_
      refine w_skip rfl rfl ?_
      refine w_skip rfl rfl ?_
      refine w_p tok rfl rfl rfl ?_
      refine w_jn () rfl ⟨?_, rfl, rfl, rfl, trivial⟩
      exact congrArg (fun b => some (Value.bool b)) (and_f hb)

theorem rlog_Log_Cut_ok : CallOk Go.Proofs.Try.prog 24 := ⟨_, Go.Proofs.Try.func24, by kernel_rfl, by kernel_rfl⟩
theorem rlog_Log_Cut_ref (p0 : Option Addr) (p1 : Int) (k : (Int) → Heap → Prop) (h : Heap) (H : rlog_Log_Cut p0 p1 k h) : CallsH Go.Proofs.Try.prog 24 #[.pointer p0, .int .u64 p1] h (fun v h' => ∃ r : Int, v = .int .i64 r ∧ k r h') := by
  refine f_enter (N := 41) Go.Proofs.Try.func24 rfl rfl rfl (fun w0 => ?_)
  unfold rlog_Log_Cut at H
  refine c_weak [(0, .pointer p0), (1, .int .u64 p1)] ⟨rfl, rfl, trivial⟩ ?_
  refine c_seq ?_
  refine c_region ?_
  refine w_p tok rfl rfl rfl ?_
  refine w_end ?_
  refine x_seq ?_
  refine c_seq ?_
  refine c_seq ?_
  refine c_region ?_
  refine w_p tok rfl rfl rfl ?_
  refine w_p tok rfl rfl rfl ?_
  refine w_end ?_
  refine x_seq ?_
  refine c_if H rfl (fun H => ?_) (fun H => ?_)
  ·
    refine c_seq ?_
    refine c_region ?_
    refine w_p tok rfl rfl rfl ?_
    refine w_end ?_
    refine x_seq ?_
    refine c_ret ?_
    refine x_tr ?_
    exact x_ret _ rfl _ rfl ⟨1, rfl, H⟩
  ·
    refine c_skip ?_
    refine x_seq ?_
    refine c_seq ?_
    refine c_region ?_
    refine w_p tok rfl rfl rfl ?_
    refine w_p tok rfl rfl rfl ?_
    refine w_call rlog_Log_Term_ok (rlog_Log_Term_ref _ _ _ _ H) rfl rfl rfl rfl ?_
    rintro _ h2 ⟨r1, rfl, H⟩
    refine w_p tok rfl rfl rfl ?_
    refine w_p tok rfl rfl rfl ?_
    refine w_p tok rfl rfl rfl ?_
    refine w_p tok rfl rfl rfl ?_
    refine w_p tok rfl rfl rfl ?_
    refine w_end ?_
    refine x_seq ?_
    refine c_weak [(0, .pointer p0), (1, .int .u64 p1), (5, .int .u64 r1.1), (6, .int .i64 r1.2)] ⟨rfl, rfl, rfl, rfl, trivial⟩ ?_
    refine c_seq ?_
    refine c_seq ?_
    refine c_region ?_
    refine w_p tok rfl rfl rfl ?_
    refine w_p tok rfl rfl rfl ?_
    refine w_end ?_
    refine x_seq ?_
    refine c_if H rfl (fun H => ?_) (fun H => ?_)
    ·
      refine c_seq ?_
      refine c_region ?_
      refine w_p tok rfl rfl rfl ?_
      refine w_p tok rfl rfl rfl ?_
      refine w_end ?_
      refine x_seq ?_
      refine c_weak [(4, .int .i64 r1.2)] ⟨rfl, trivial⟩ ?_
      refine c_ret ?_
      refine x_tr ?_
      exact x_ret _ rfl _ rfl ⟨r1.2, rfl, H⟩
    ·
      refine c_skip ?_
      refine x_seq ?_
      refine c_seq ?_
      refine c_sim [(0, .pointer p0), (1, .int .u64 p1), (5, .int .u64 r1.1)] (by kernel_rfl) (by kernel_rfl) ⟨rfl, rfl, rfl, trivial⟩ (fun wf => ?_)
      refine sim_p 0 (ei := [(0, .pointer p0)]) (d := (some 18)) wf (by kernel_rfl) ⟨rfl, trivial⟩ (by kernel_rfl) (by kernel_rfl) (fun _ => pf_p tok rfl rfl rfl rfl) (fun P_0 => ?_)
      refine sim_p 1 (ei := [(0, .pointer p0)]) (d := (some 19)) wf (by kernel_rfl) ⟨rfl, trivial⟩ (by kernel_rfl) (by kernel_rfl) (fun _ => pf_p tok rfl rfl rfl rfl) (fun P_1 => ?_)
      obtain ⟨a3, ha3, H⟩ := H
      refine sim_p 2 (ei := [(19, .pointer p0)]) (d := (some 20)) wf (by kernel_rfl) ⟨rfl, trivial⟩ (by kernel_rfl) (by kernel_rfl) (fun _ => pf_y rfl rfl rfl (y_nil' rfl rfl ha3)) (fun P_2 => ?_)
      refine sim_p 3 (ei := [(20, .pointer (some a3))]) (d := (some 21)) wf (by kernel_rfl) ⟨rfl, trivial⟩ (by kernel_rfl) (by kernel_rfl) (fun _ => pf_p tok rfl rfl rfl rfl) (fun P_3 => ?_)
      obtain ⟨v4, hv4, H⟩ := H
      refine sim_l 4 (ei := [(21, .pointer (some (a3.add 2)))]) (d := (some 22)) wf (by kernel_rfl) ⟨rfl, trivial⟩ (by kernel_rfl) (by kernel_rfl) (pf_y rfl rfl rfl (y_ld tok rfl rfl rfl rfl hv4)) (fun P_4 => ?_)
      refine sim_p 5 (ei := [(1, .int .u64 p1)]) (d := (some 23)) wf (by kernel_rfl) ⟨rfl, trivial⟩ (by kernel_rfl) (by kernel_rfl) (fun _ => pf_p tok rfl rfl rfl rfl) (fun P_5 => ?_)
      refine sim_p 6 (ei := [(0, .pointer p0)]) (d := (some 24)) wf (by kernel_rfl) ⟨rfl, trivial⟩ (by kernel_rfl) (by kernel_rfl) (fun _ => pf_p tok rfl rfl rfl rfl) (fun P_6 => ?_)
      refine sim_p 7 (ei := [(24, .pointer p0)]) (d := (some 25)) wf (by kernel_rfl) ⟨rfl, trivial⟩ (by kernel_rfl) (by kernel_rfl) (fun _ => pf_y rfl rfl rfl (y_nil' rfl rfl ha3)) (fun P_7 => ?_)
      refine sim_p 8 (ei := [(25, .pointer (some a3))]) (d := (some 26)) wf (by kernel_rfl) ⟨rfl, trivial⟩ (by kernel_rfl) (by kernel_rfl) (fun _ => pf_p tok rfl rfl rfl rfl) (fun P_8 => ?_)
      obtain ⟨v5, hv5, H⟩ := H
      refine sim_l 9 (ei := [(26, .pointer (some a3))]) (d := (some 27)) wf (by kernel_rfl) ⟨rfl, trivial⟩ (by kernel_rfl) (by kernel_rfl) (pf_y rfl rfl rfl (y_ld tok rfl rfl rfl rfl hv5)) (fun P_9 => ?_)
      refine sim_p 10 (ei := [(23, .int .u64 p1), (27, .int .u64 v5)]) (d := (some 28)) wf (by kernel_rfl) ⟨rfl, rfl, trivial⟩ (by kernel_rfl) (by kernel_rfl) (fun _ => pf_p tok rfl rfl rfl rfl) (fun P_10 => ?_)
      obtain ⟨s6, ps6, qs6, rs6, ts6, es6, H⟩ := H
      refine sim_p 11 (ei := [(22, Slc.v v4), (28, .int .u64 (IntKind.u64.wrap (p1 - v5)))]) (d := (some 29)) wf (by kernel_rfl) ⟨rfl, rfl, trivial⟩ (by kernel_rfl) (by kernel_rfl) (fun _ => pf_ye rfl rfl rfl (y_sl (s := v4) (L := (IntKind.u64.wrap (p1 - v5))) (H := (v4.len : Int)) (M := (v4.cap : Int)) tok rfl rfl rfl rfl rfl rfl rfl (by simp) ps6 qs6 rs6 ts6) (congrArg Slc.v es6)) (fun P_11 => ?_)
      refine sim_c 12 [1, 2, 3, 4, 5, 6, 7, 8, 9, 10, 11] [1, 2, 3, 4, 5, 6, 7, 8, 9, 10, 11] (ei := [(29, Slc.v s6)]) slices_Clone_api_Entry_api_Entry_ok (slices_Clone_api_Entry_api_Entry_ref _ _ _ H) wf ⟨P_11 _, P_10 _, P_9, P_8 _, P_7 _, P_6 _, P_5 _, P_4, P_3 _, P_2 _, P_1 _, P_0 _, trivial⟩ (by kernel_rfl) ⟨rfl, trivial⟩ (by kernel_rfl) rfl rfl rfl rfl rfl ?_
      rintro _ h8 ⟨r7, rfl, H⟩
      refine sim_p 13 (ei := [(18, .pointer p0)]) (d := (some 31)) wf (by kernel_rfl) ⟨rfl, trivial⟩ (by kernel_rfl) (by kernel_rfl) (fun _ => pf_y rfl rfl rfl (y_nil' rfl rfl ha3)) (fun P_13 => ?_)
      refine sim_p 14 (ei := [(31, .pointer (some a3))]) (d := (some 32)) wf (by kernel_rfl) ⟨rfl, trivial⟩ (by kernel_rfl) (by kernel_rfl) (fun _ => pf_p tok rfl rfl rfl rfl) (fun P_14 => ?_)
      obtain ⟨h9, wh9, eh9, H⟩ := H
      refine sim_h 15 [0, 1, 2, 3, 4, 5, 6, 7, 8, 9, 10, 11, 12, 13, 14] [0, 1, 2, 3, 4, 5, 6, 7, 8, 9, 10, 11, 13, 14] (ei := [(30, Slc.v r7), (32, .pointer (some (a3.add 2)))]) wf ⟨P_14 _, P_13 _, trivial, trivial, trivial, trivial, trivial, trivial, trivial, trivial, trivial, trivial, trivial, P_0 _, trivial⟩ (by kernel_rfl) ⟨rfl, rfl, trivial⟩ (by kernel_rfl) rfl rfl rfl (h_st tok rfl rfl rfl rfl rfl rfl wh9 eh9) ?_
      refine sim_end wf ⟨trivial, trivial, trivial, trivial, trivial, trivial, trivial, trivial, trivial, trivial, trivial, trivial, trivial, trivial, trivial⟩ (by kernel_rfl) ?_
      clear wf P_0 P_1 P_10 P_11 P_13 P_14 P_2 P_3 P_4 P_5 P_6 P_7 P_8 P_9
      refine x_seq ?_
      refine c_weak [(0, .pointer p0), (1, .int .u64 p1), (5, .int .u64 r1.1)] ⟨rfl, rfl, rfl, trivial⟩ ?_
      refine c_seq ?_
      refine c_region ?_
      refine w_p tok rfl rfl rfl ?_
      refine w_p tok rfl rfl rfl ?_
      refine w_p tok rfl rfl rfl ?_
      refine w_p tok rfl rfl rfl ?_
      refine w_y (y_nil' rfl rfl ha3) rfl rfl ?_
      refine w_p tok rfl rfl rfl ?_
      obtain ⟨h10, wh10, eh10, H⟩ := H
      refine w_h (h_st tok rfl rfl rfl rfl rfl rfl wh10 eh10) rfl rfl ?_
      refine w_y (y_nil' rfl rfl ha3) rfl rfl ?_
      refine w_p tok rfl rfl rfl ?_
      obtain ⟨h11, wh11, eh11, H⟩ := H
      refine w_h (h_st tok rfl rfl rfl rfl rfl rfl wh11 eh11) rfl rfl ?_
      refine w_end ?_
      refine x_seq ?_
      refine c_weak [] trivial ?_
      refine c_seq ?_
      refine c_region ?_
      refine w_p tok rfl rfl rfl ?_
      refine w_end ?_
      refine x_seq ?_
      refine c_ret ?_
      exact x_ret _ rfl _ rfl ⟨0, rfl, H⟩

theorem ref23_Log_Cut_ok : CallOk Go.Proofs.Try.prog 31 := ⟨_, Go.Proofs.Try.func31, by kernel_rfl, by kernel_rfl⟩
theorem ref23_Log_Cut_ref (p0 : Option Addr) (p1 : Int) (k : (Int) → Heap → Prop) (h : Heap) (H : ref23_Log_Cut p0 p1 k h) : CallsH Go.Proofs.Try.prog 31 #[.pointer p0, .int .u64 p1] h (fun v h' => ∃ r : Int, v = .int .i64 r ∧ k r h') := by
  refine f_enter (N := 40) Go.Proofs.Try.func31 rfl rfl rfl (fun w0 => ?_)
  unfold ref23_Log_Cut at H
  refine c_weak [(0, .pointer p0), (1, .int .u64 p1)] ⟨rfl, rfl, trivial⟩ ?_
  refine c_seq ?_
  refine c_region ?_
  refine w_p tok rfl rfl rfl ?_
  refine w_end ?_
  refine x_seq ?_
  refine c_seq ?_
  refine c_region ?_
  refine w_p tok rfl rfl rfl ?_
  refine w_p tok rfl rfl rfl ?_
  refine w_call ref23_Log_TermOf_ok (ref23_Log_TermOf_ref _ _ _ _ H) rfl rfl rfl rfl ?_
  rintro _ h2 ⟨r1, rfl, H⟩
  refine w_p tok rfl rfl rfl ?_
  refine w_p tok rfl rfl rfl ?_
  refine w_p tok rfl rfl rfl ?_
  refine w_p tok rfl rfl rfl ?_
  refine w_p tok rfl rfl rfl ?_
  refine w_end ?_
  refine x_seq ?_
  refine c_weak [(0, .pointer p0), (1, .int .u64 p1), (5, .int .u64 r1.1), (6, .int .i64 r1.2)] ⟨rfl, rfl, rfl, rfl, trivial⟩ ?_
  refine c_seq ?_
  refine c_seq ?_
  refine c_region ?_
  refine w_p tok rfl rfl rfl ?_
  refine w_p tok rfl rfl rfl ?_
  refine w_end ?_
  refine x_seq ?_
  refine c_if H rfl (fun H => ?_) (fun H => ?_)
  ·
    refine c_seq ?_
    refine c_region ?_
    refine w_p tok rfl rfl rfl ?_
    refine w_p tok rfl rfl rfl ?_
    refine w_end ?_
    refine x_seq ?_
    refine c_weak [(4, .int .i64 r1.2)] ⟨rfl, trivial⟩ ?_
    refine c_ret ?_
    refine x_tr ?_
    exact x_ret _ rfl _ rfl ⟨r1.2, rfl, H⟩
  ·
    refine c_skip ?_
    refine x_seq ?_
    refine c_seq ?_
    refine c_sim [(0, .pointer p0), (1, .int .u64 p1), (5, .int .u64 r1.1)] (by kernel_rfl) (by kernel_rfl) ⟨rfl, rfl, rfl, trivial⟩ (fun wf => ?_)
    refine sim_p 0 (ei := [(0, .pointer p0)]) (d := (some 16)) wf (by kernel_rfl) ⟨rfl, trivial⟩ (by kernel_rfl) (by kernel_rfl) (fun _ => pf_p tok rfl rfl rfl rfl) (fun P_0 => ?_)
    refine sim_p 2 (ei := [(0, .pointer p0)]) (d := (some 18)) wf (by kernel_rfl) ⟨rfl, trivial⟩ (by kernel_rfl) (by kernel_rfl) (fun _ => pf_p tok rfl rfl rfl rfl) (fun P_2 => ?_)
    obtain ⟨a3, ha3, H⟩ := H
    refine sim_p 3 (ei := [(18, .pointer p0)]) (d := (some 19)) wf (by kernel_rfl) ⟨rfl, trivial⟩ (by kernel_rfl) (by kernel_rfl) (fun _ => pf_y rfl rfl rfl (y_nil' rfl rfl ha3)) (fun P_3 => ?_)
    refine sim_p 4 (ei := [(19, .pointer (some a3))]) (d := (some 20)) wf (by kernel_rfl) ⟨rfl, trivial⟩ (by kernel_rfl) (by kernel_rfl) (fun _ => pf_p tok rfl rfl rfl rfl) (fun P_4 => ?_)
    obtain ⟨v4, hv4, H⟩ := H
    refine sim_l 5 (ei := [(20, .pointer (some (a3.add 2)))]) (d := (some 21)) wf (by kernel_rfl) ⟨rfl, trivial⟩ (by kernel_rfl) (by kernel_rfl) (pf_y rfl rfl rfl (y_ld tok rfl rfl rfl rfl hv4)) (fun P_5 => ?_)
    refine sim_p 6 (ei := [(1, .int .u64 p1)]) (d := (some 22)) wf (by kernel_rfl) ⟨rfl, trivial⟩ (by kernel_rfl) (by kernel_rfl) (fun _ => pf_p tok rfl rfl rfl rfl) (fun P_6 => ?_)
    refine sim_p 7 (ei := [(0, .pointer p0)]) (d := (some 23)) wf (by kernel_rfl) ⟨rfl, trivial⟩ (by kernel_rfl) (by kernel_rfl) (fun _ => pf_p tok rfl rfl rfl rfl) (fun P_7 => ?_)
    refine sim_p 8 (ei := [(23, .pointer p0)]) (d := (some 24)) wf (by kernel_rfl) ⟨rfl, trivial⟩ (by kernel_rfl) (by kernel_rfl) (fun _ => pf_y rfl rfl rfl (y_nil' rfl rfl ha3)) (fun P_8 => ?_)
    refine sim_p 9 (ei := [(24, .pointer (some a3))]) (d := (some 25)) wf (by kernel_rfl) ⟨rfl, trivial⟩ (by kernel_rfl) (by kernel_rfl) (fun _ => pf_p tok rfl rfl rfl rfl) (fun P_9 => ?_)
    obtain ⟨v5, hv5, H⟩ := H
    refine sim_l 10 (ei := [(25, .pointer (some a3))]) (d := (some 26)) wf (by kernel_rfl) ⟨rfl, trivial⟩ (by kernel_rfl) (by kernel_rfl) (pf_y rfl rfl rfl (y_ld tok rfl rfl rfl rfl hv5)) (fun P_10 => ?_)
    refine sim_p 11 (ei := [(22, .int .u64 p1), (26, .int .u64 v5)]) (d := (some 27)) wf (by kernel_rfl) ⟨rfl, rfl, trivial⟩ (by kernel_rfl) (by kernel_rfl) (fun _ => pf_p tok rfl rfl rfl rfl) (fun P_11 => ?_)
    obtain ⟨s6, ps6, qs6, rs6, ts6, es6, H⟩ := H
    refine sim_p 12 (ei := [(21, Slc.v v4), (27, .int .u64 (IntKind.u64.wrap (p1 - v5)))]) (d := (some 28)) wf (by kernel_rfl) ⟨rfl, rfl, trivial⟩ (by kernel_rfl) (by kernel_rfl) (fun _ => pf_ye rfl rfl rfl (y_sl (s := v4) (L := (IntKind.u64.wrap (p1 - v5))) (H := (v4.len : Int)) (M := (v4.cap : Int)) tok rfl rfl rfl rfl rfl rfl rfl (by simp) ps6 qs6 rs6 ts6) (congrArg Slc.v es6)) (fun P_12 => ?_)
    obtain ⟨b7, h8, eb7, eh8, H⟩ := H
    refine sim_h 1 [] [] (ei := []) wf ⟨P_12 _, P_11 _, P_10, P_9 _, P_8 _, P_7 _, P_6 _, P_5, P_4 _, P_3 _, P_2 _, P_0 _, trivial⟩ (by kernel_rfl) trivial (by kernel_rfl) rfl rfl rfl (h_bs tok rfl rfl rfl rfl rfl rfl rfl eb7 eh8) ?_
    obtain ⟨hy9, hy10, H⟩ := H
    refine sim_re (x := ⟨10, .int .u64 v5, [(25, .pointer (some a3))]⟩) (pf_y rfl rfl rfl (y_ld tok rfl rfl rfl rfl hy9)) (fun P_10 => ?_)
    refine sim_re (x := ⟨5, Slc.v v4, [(20, .pointer (some (a3.add 2)))]⟩) (pf_y rfl rfl rfl (y_ld tok rfl rfl rfl rfl hy10)) (fun P_5 => ?_)
    obtain ⟨l13, hl13, H⟩ := H
    refine sim_a 13 [1, 2, 3, 4, 5, 6, 7, 8, 9, 10, 11, 12] [2, 3, 4, 5, 6, 7, 8, 9, 10, 11, 12] (ei := [(17, Slc.v (⟨some ⟨b7, 0, none⟩, 0, 0⟩ : Slc)), (28, Slc.v s6)]) wf ⟨P_12 _, P_11 _, P_10, P_9 _, P_8 _, P_7 _, P_6 _, P_5, P_4 _, P_3 _, P_2 _, P_0 _, trivial⟩ (by kernel_rfl) ⟨rfl, rfl, trivial⟩ (by kernel_rfl) rfl rfl rfl (a_app (s := (⟨some ⟨b7, 0, none⟩, 0, 0⟩ : Slc)) (r := s6) tok rfl rfl rfl rfl rfl hl13 H) ?_
    rintro _ h12 ⟨s11, rfl, H⟩
    refine sim_p 14 (ei := [(16, .pointer p0)]) (d := (some 30)) wf (by kernel_rfl) ⟨rfl, trivial⟩ (by kernel_rfl) (by kernel_rfl) (fun _ => pf_y rfl rfl rfl (y_nil' rfl rfl ha3)) (fun P_14 => ?_)
    refine sim_p 15 (ei := [(30, .pointer (some a3))]) (d := (some 31)) wf (by kernel_rfl) ⟨rfl, trivial⟩ (by kernel_rfl) (by kernel_rfl) (fun _ => pf_p tok rfl rfl rfl rfl) (fun P_15 => ?_)
    obtain ⟨h14, wh14, eh14, H⟩ := H
    refine sim_h 16 [0, 1, 2, 3, 4, 5, 6, 7, 8, 9, 10, 11, 12, 13, 14, 15] [0, 2, 3, 4, 5, 6, 7, 8, 9, 10, 11, 12, 14, 15] (ei := [(29, Slc.v s11), (31, .pointer (some (a3.add 2)))]) wf ⟨P_15 _, P_14 _, trivial, trivial, trivial, trivial, trivial, trivial, trivial, trivial, trivial, trivial, trivial, P_0 _, trivial⟩ (by kernel_rfl) ⟨rfl, rfl, trivial⟩ (by kernel_rfl) rfl rfl rfl (h_st tok rfl rfl rfl rfl rfl rfl wh14 eh14) ?_
    refine sim_end wf ⟨trivial, trivial, trivial, trivial, trivial, trivial, trivial, trivial, trivial, trivial, trivial, trivial, trivial, trivial, trivial⟩ (by kernel_rfl) ?_
    clear wf P_0 P_10 P_11 P_12 P_14 P_15 P_2 P_3 P_4 P_5 P_6 P_7 P_8 P_9
    refine x_seq ?_
    refine c_weak [(0, .pointer p0), (1, .int .u64 p1), (5, .int .u64 r1.1)] ⟨rfl, rfl, rfl, trivial⟩ ?_
    refine c_seq ?_
    refine c_region ?_
    refine w_p tok rfl rfl rfl ?_
    refine w_p tok rfl rfl rfl ?_
    refine w_y (y_nil' rfl rfl ha3) rfl rfl ?_
    refine w_p tok rfl rfl rfl ?_
    obtain ⟨h15, wh15, eh15, H⟩ := H
    refine w_h (h_st tok rfl rfl rfl rfl rfl rfl wh15 eh15) rfl rfl ?_
    refine w_end ?_
    refine x_seq ?_
    refine c_seq ?_
    refine c_region ?_
    refine w_p tok rfl rfl rfl ?_
    refine w_p tok rfl rfl rfl ?_
    refine w_y (y_nil' rfl rfl ha3) rfl rfl ?_
    refine w_p tok rfl rfl rfl ?_
    obtain ⟨h16, wh16, eh16, H⟩ := H
    refine w_h (h_st tok rfl rfl rfl rfl rfl rfl wh16 eh16) rfl rfl ?_
    refine w_end ?_
    refine x_seq ?_
    refine c_weak [] trivial ?_
    refine c_seq ?_
    refine c_region ?_
    refine w_p tok rfl rfl rfl ?_
    refine w_end ?_
    refine x_seq ?_
    refine c_ret ?_
    exact x_ret _ rfl _ rfl ⟨0, rfl, H⟩

theorem law23_awake_ok : CallOk Go.Proofs.Try.prog 22 := ⟨_, Go.Proofs.Try.func22, by kernel_rfl, by kernel_rfl⟩
theorem law23_awake_ref (k : (Bool) → Heap → Prop) (h : Heap) (H : law23_awake k h) : CallsH Go.Proofs.Try.prog 22 #[] h (fun v h' => ∃ r : Bool, v = .bool r ∧ k r h') := by
  refine f_enter (N := 39) Go.Proofs.Try.func22 rfl rfl rfl (fun w0 => ?_)
  unfold law23_awake at H
  refine c_seq ?_
  refine c_region ?_
  refine w_p tok rfl rfl rfl ?_
  refine w_end ?_
  refine x_seq ?_
  refine c_seq ?_
  refine c_region ?_
  obtain ⟨b1, h2, eb1, eh2, H⟩ := H
  refine w_h (h_bs tok rfl rfl rfl rfl rfl rfl rfl eb1 eh2) rfl rfl ?_
  obtain ⟨h3, eh3, H⟩ := H
  refine w_h (h_mark tok rfl rfl rfl rfl eb1 eh2 rfl eh3) rfl rfl ?_
  refine w_y (y_build tok rfl rfl rfl rfl rfl) rfl rfl ?_
  obtain ⟨b4, h5, eb4, eh5, H⟩ := H
  refine w_h (h_bs tok rfl rfl rfl rfl rfl rfl rfl eb4 eh5) rfl rfl ?_
  obtain ⟨h6, eh6, H⟩ := H
  refine w_h (h_mark tok rfl rfl rfl rfl eb4 eh5 rfl eh6) rfl rfl ?_
  refine w_y (y_build tok rfl rfl rfl rfl rfl) rfl rfl ?_
  obtain ⟨b7, h8, eb7, eh8, H⟩ := H
  refine w_h (h_bs tok rfl rfl rfl rfl rfl rfl rfl eb7 eh8) rfl rfl ?_
  refine w_call rlog_New_ok (rlog_New_ref _ _ _ _ _ H) rfl rfl rfl rfl ?_
  rintro _ h10 ⟨r9, rfl, H⟩
  refine w_p tok rfl rfl rfl ?_
  refine w_end ?_
  refine x_seq ?_
  refine c_weak [(1, .pointer r9)] ⟨rfl, trivial⟩ ?_
  refine c_seq ?_
  refine c_region ?_
  refine w_p tok rfl rfl rfl ?_
  obtain ⟨b11, h12, eb11, eh12, H⟩ := H
  refine w_h (h_bs tok rfl rfl rfl rfl rfl rfl rfl eb11 eh12) rfl rfl ?_
  obtain ⟨h13, eh13, H⟩ := H
  refine w_h (h_mark tok rfl rfl rfl rfl eb11 eh12 rfl eh13) rfl rfl ?_
  refine w_y (y_build tok rfl rfl rfl rfl rfl) rfl rfl ?_
  obtain ⟨b14, h15, eb14, eh15, H⟩ := H
  refine w_h (h_bs tok rfl rfl rfl rfl rfl rfl rfl eb14 eh15) rfl rfl ?_
  refine w_call rlog_Log_Append_ok (rlog_Log_Append_ref _ _ _ _ _ _ H) rfl rfl rfl rfl ?_
  rintro _ h17 ⟨r16, rfl, H⟩
  refine w_p tok rfl rfl rfl ?_
  refine w_p tok rfl rfl rfl ?_
  refine w_p tok rfl rfl rfl ?_
  refine w_p tok rfl rfl rfl ?_
  refine w_p tok rfl rfl rfl ?_
  refine w_end ?_
  refine x_seq ?_
  refine c_weak [(1, .pointer r9), (2, .int .u64 r16.1), (3, .int .i64 r16.2)] ⟨rfl, rfl, rfl, trivial⟩ ?_
  refine c_seq ?_
  refine c_region ?_
  refine w_p tok rfl rfl rfl ?_
  refine w_p tok rfl rfl rfl ?_
  refine w_p tok rfl rfl rfl ?_
  refine w_cutU 3 [(26, .bool ((r16.1 == 2) && (r16.2 == 0))), (1, .pointer r9)] ?_ ?_
  ·
    refine w_p tok rfl rfl rfl ?_
    refine w_cut 11 (α := Bool) (fun (s : Bool) => [(38, .bool s)]) (fun (s : Bool) h => law23_awake_g1 s k h) ?_ ?_
    ·
      rintro t38_1 h_1 H
      replace H : law23_awake_g1 t38_1 k h_1 := H
      unfold law23_awake_g1 at H
      refine w_weak [(38, .bool t38_1)] ⟨rfl, trivial⟩ ?_
      refine w_p tok rfl rfl rfl ?_
      refine w_end ?_
      refine x_seq ?_
      refine c_ret ?_
      exact x_ret _ rfl _ rfl ⟨t38_1, rfl, H⟩
    ·
      refine w_gif (d := 27) H rfl (fun H => ?_) (fun H => ?_)
      ·
        refine w_p tok rfl rfl rfl ?_
        refine w_call rlog_Log_Entries_ok (rlog_Log_Entries_ref _ _ _ H) rfl rfl rfl rfl ?_
        rintro _ h19 ⟨r18, rfl, H⟩
        obtain ⟨b20, h21, eb20, eh21, H⟩ := H
        refine w_h (h_bs tok rfl rfl rfl rfl rfl rfl rfl eb20 eh21) rfl rfl ?_
        obtain ⟨h22, eh22, H⟩ := H
        refine w_h (h_mark tok rfl rfl rfl rfl eb20 eh21 rfl eh22) rfl rfl ?_
        refine w_y (y_build tok rfl rfl rfl rfl rfl) rfl rfl ?_
        obtain ⟨b23, h24, eb23, eh24, H⟩ := H
        refine w_h (h_bs tok rfl rfl rfl rfl rfl rfl rfl eb23 eh24) rfl rfl ?_
        obtain ⟨h25, eh25, H⟩ := H
        refine w_h (h_mark tok rfl rfl rfl rfl eb23 eh24 rfl eh25) rfl rfl ?_
        refine w_y (y_build tok rfl rfl rfl rfl rfl) rfl rfl ?_
        obtain ⟨b26, h27, eb26, eh27, H⟩ := H
        refine w_h (h_bs tok rfl rfl rfl rfl rfl rfl rfl eb26 eh27) rfl rfl ?_
        refine w_call ref23_Same_ok (ref23_Same_ref _ _ _ _ H) rfl rfl rfl rfl ?_
        rintro _ h29 ⟨r28, rfl, H⟩
        refine w_p tok rfl rfl rfl ?_
        exact w_jn r28 H ⟨rfl, trivial⟩
      ·
        refine w_skip rfl rfl ?_
        refine w_skip rfl rfl ?_
        refine w_skip rfl rfl ?_
        refine w_skip rfl rfl ?_
        refine w_skip rfl rfl ?_
        refine w_skip rfl rfl ?_
        refine w_skip rfl rfl ?_
        refine w_skip rfl rfl ?_
        refine w_skip rfl rfl ?_
        refine w_skip rfl rfl ?_
        refine w_p tok rfl rfl rfl ?_
        exact w_jn false H ⟨rfl, trivial⟩
  ·
    refine w_gs (d := 23) rfl (fun hb => ?_) (fun hb => ?_)
    ·
      refine w_p tok rfl rfl rfl ?_
      refine w_p tok rfl rfl rfl ?_
      refine w_p tok rfl rfl rfl ?_
      refine w_jn () rfl ⟨?_, rfl, trivial⟩
      exact congrArg (fun b => some (Value.bool b)) (and_t hb)
    ·
      refine w_skip rfl rfl ?_
      refine w_skip rfl rfl ?_
      refine w_p tok rfl rfl rfl ?_
      refine w_jn () rfl ⟨?_, rfl, trivial⟩
      exact congrArg (fun b => some (Value.bool b)) (and_f hb)

theorem law23_RlogCuts_ok : CallOk Go.Proofs.Try.prog 6 := ⟨_, Go.Proofs.Try.func6, by kernel_rfl, by kernel_rfl⟩
theorem law23_RlogCuts_ref (p0 : Int) (p1 : Int) (p2 : Slc) (p3 : Int) (p4 : Slc) (k : (Bool) → Heap → Prop) (h : Heap) (H : law23_RlogCuts p0 p1 p2 p3 p4 k h) : CallsH Go.Proofs.Try.prog 6 #[.int .u64 p0, .int .u64 p1, Slc.v p2, .int .u64 p3, Slc.v p4] h (fun v h' => ∃ r : Bool, v = .bool r ∧ k r h') := by
  refine f_enter (N := 140) Go.Proofs.Try.func6 rfl rfl rfl (fun w0 => ?_)
  unfold law23_RlogCuts at H
  refine c_weak [(0, .int .u64 p0), (1, .int .u64 p1), (2, Slc.v p2), (3, .int .u64 p3), (4, Slc.v p4)] ⟨rfl, rfl, rfl, rfl, rfl, trivial⟩ ?_
  refine c_seq ?_
  refine c_region ?_
  refine w_p tok rfl rfl rfl ?_
  refine w_end ?_
  refine x_seq ?_
  refine c_seq ?_
  refine c_seq ?_
  refine c_region ?_
  refine w_p tok rfl rfl rfl ?_
  refine w_call ref23_Great_ok (ref23_Great_ref _ _ _ H) rfl rfl rfl rfl ?_
  rintro _ h2 ⟨r1, rfl, H⟩
  refine w_p tok rfl rfl rfl ?_
  refine w_cut 3 (α := Bool) (fun (s : Bool) => [(27, .bool s), (0, .int .u64 p0), (1, .int .u64 p1), (2, Slc.v p2), (3, .int .u64 p3), (4, Slc.v p4)]) (fun (s : Bool) h => law23_RlogCuts_g1 p0 p1 p2 p3 p4 s k h) ?_ ?_
  ·
    rintro t27_1 h_1 H
    replace H : law23_RlogCuts_g1 p0 p1 p2 p3 p4 t27_1 k h_1 := H
    unfold law23_RlogCuts_g1 at H
    refine w_weak [(27, .bool t27_1), (0, .int .u64 p0), (1, .int .u64 p1), (2, Slc.v p2), (3, .int .u64 p3), (4, Slc.v p4)] ⟨rfl, rfl, rfl, rfl, rfl, rfl, trivial⟩ ?_
    refine w_p tok rfl rfl rfl ?_
    refine w_cutU 4 [(32, .bool (t27_1 || (decide ((p2.len : Int) > 60)))), (0, .int .u64 p0), (1, .int .u64 p1), (2, Slc.v p2), (3, .int .u64 p3), (4, Slc.v p4)] ?_ ?_
    ·
      refine w_p tok rfl rfl rfl ?_
      refine w_cutU 3 [(36, .bool ((t27_1 || (decide ((p2.len : Int) > 60))) || (decide (p0 > 1152921504606846976)))), (0, .int .u64 p0), (1, .int .u64 p1), (2, Slc.v p2), (3, .int .u64 p3), (4, Slc.v p4)] ?_ ?_
      ·
        refine w_p tok rfl rfl rfl ?_
        refine w_cutU 3 [(40, .bool (((t27_1 || (decide ((p2.len : Int) > 60))) || (decide (p0 > 1152921504606846976))) || (decide (p3 > 2305843009213693952)))), (0, .int .u64 p0), (1, .int .u64 p1), (2, Slc.v p2), (3, .int .u64 p3), (4, Slc.v p4)] ?_ ?_
        ·
          refine w_end ?_
          refine x_seq ?_
          refine c_if H rfl (fun H => ?_) (fun H => ?_)
          ·
            refine c_seq ?_
            refine c_region ?_
            refine w_call law23_awake_ok (law23_awake_ref  _ _ H) rfl rfl rfl rfl ?_
            rintro _ h4 ⟨r3, rfl, H⟩
            refine w_p tok rfl rfl rfl ?_
            refine w_end ?_
            refine x_seq ?_
            refine c_weak [(10, .bool r3)] ⟨rfl, trivial⟩ ?_
            refine c_ret ?_
            refine x_tr ?_
            exact x_ret _ rfl _ rfl ⟨r3, rfl, H⟩
          ·
            refine c_skip ?_
            refine x_seq ?_
            refine c_seq ?_
            refine c_region ?_
            refine w_p tok rfl rfl rfl ?_
            refine w_p tok rfl rfl rfl ?_
            refine w_p tok rfl rfl rfl ?_
            refine w_call rlog_New_ok (rlog_New_ref _ _ _ _ _ H) rfl rfl rfl rfl ?_
            rintro _ h6 ⟨r5, rfl, H⟩
            refine w_p tok rfl rfl rfl ?_
            refine w_p tok rfl rfl rfl ?_
            refine w_p tok rfl rfl rfl ?_
            refine w_call rlog_New_ok (rlog_New_ref _ _ _ _ _ H) rfl rfl rfl rfl ?_
            rintro _ h8 ⟨r7, rfl, H⟩
            refine w_p tok rfl rfl rfl ?_
            refine w_p tok rfl rfl rfl ?_
            refine w_end ?_
            refine x_seq ?_
            refine c_weak [(0, .int .u64 p0), (2, Slc.v p2), (3, .int .u64 p3), (4, Slc.v p4), (11, .pointer r5), (12, .pointer r7)] ⟨rfl, rfl, rfl, rfl, rfl, rfl, trivial⟩ ?_
            refine c_seq ?_
            refine c_seq ?_
            refine c_region ?_
            refine w_p tok rfl rfl rfl ?_
            refine w_p tok rfl rfl rfl ?_
            refine w_call rlog_Log_Cut_ok (rlog_Log_Cut_ref _ _ _ _ H) rfl rfl rfl rfl ?_
            rintro _ h10 ⟨r9, rfl, H⟩
            refine w_p tok rfl rfl rfl ?_
            refine w_end ?_
            refine x_seq ?_
            refine c_seq ?_
            refine c_region ?_
            refine w_p tok rfl rfl rfl ?_
            refine w_p tok rfl rfl rfl ?_
            refine w_end ?_
            refine x_seq ?_
            refine c_if H rfl (fun H => ?_) (fun H => ?_)
            ·
              refine c_seq ?_
              refine c_region ?_
              refine w_p tok rfl rfl rfl ?_
              refine w_call rlog_Log_Entries_ok (rlog_Log_Entries_ref _ _ _ H) rfl rfl rfl rfl ?_
              rintro _ h12 ⟨r11, rfl, H⟩
              refine w_p tok rfl rfl rfl ?_
              refine w_call rlog_Log_Entries_ok (rlog_Log_Entries_ref _ _ _ H) rfl rfl rfl rfl ?_
              rintro _ h14 ⟨r13, rfl, H⟩
              refine w_call ref23_Same_ok (ref23_Same_ref _ _ _ _ H) rfl rfl rfl rfl ?_
              rintro _ h16 ⟨r15, rfl, H⟩
              refine w_p tok rfl rfl rfl ?_
              refine w_cut 2 (α := Bool) (fun (s : Bool) => [(62, .bool s)]) (fun (s : Bool) h => law23_RlogCuts_g2 s k h) ?_ ?_
              ·
                rintro t62_2 h_2 H
                replace H : law23_RlogCuts_g2 t62_2 k h_2 := H
                unfold law23_RlogCuts_g2 at H
                refine w_weak [(62, .bool t62_2)] ⟨rfl, trivial⟩ ?_
                refine w_p tok rfl rfl rfl ?_
                refine w_end ?_
                refine x_seq ?_
                refine c_ret ?_
                refine x_tr ?_
                exact x_ret _ rfl _ rfl ⟨t62_2, rfl, H⟩
              ·
                refine w_gif (d := 60) H rfl (fun H => ?_) (fun H => ?_)
                ·
                  refine w_call law23_awake_ok (law23_awake_ref  _ _ H) rfl rfl rfl rfl ?_
                  rintro _ h18 ⟨r17, rfl, H⟩
                  refine w_p tok rfl rfl rfl ?_
                  exact w_jn r17 H ⟨rfl, trivial⟩
                ·
                  refine w_skip rfl rfl ?_
                  refine w_p tok rfl rfl rfl ?_
                  exact w_jn false H ⟨rfl, trivial⟩
            ·
              refine c_skip ?_
              refine x_seq ?_
              refine c_seq ?_
              refine c_seq ?_
              refine c_sim [(0, .int .u64 p0), (2, Slc.v p2), (3, .int .u64 p3), (4, Slc.v p4), (11, .pointer r5), (12, .pointer r7)] (by kernel_rfl) (by kernel_rfl) ⟨rfl, rfl, rfl, rfl, rfl, rfl, trivial⟩ (fun wf => ?_)
              refine sim_p 0 (ei := [(11, .pointer r5)]) (d := (some 63)) wf (by kernel_rfl) ⟨rfl, trivial⟩ (by kernel_rfl) (by kernel_rfl) (fun _ => pf_p tok rfl rfl rfl rfl) (fun P_0 => ?_)
              refine sim_p 2 (ei := [(2, Slc.v p2)]) (d := (some 65)) wf (by kernel_rfl) ⟨rfl, trivial⟩ (by kernel_rfl) (by kernel_rfl) (fun _ => pf_p tok rfl rfl rfl rfl) (fun P_2 => ?_)
              refine sim_p 3 (ei := [(3, .int .u64 p3)]) (d := (some 66)) wf (by kernel_rfl) ⟨rfl, trivial⟩ (by kernel_rfl) (by kernel_rfl) (fun _ => pf_p tok rfl rfl rfl rfl) (fun P_3 => ?_)
              refine sim_p 4 (ei := [(0, .int .u64 p0)]) (d := (some 67)) wf (by kernel_rfl) ⟨rfl, trivial⟩ (by kernel_rfl) (by kernel_rfl) (fun _ => pf_p tok rfl rfl rfl rfl) (fun P_4 => ?_)
              refine sim_p 5 (ei := [(66, .int .u64 p3), (67, .int .u64 p0)]) (d := (some 68)) wf (by kernel_rfl) ⟨rfl, rfl, trivial⟩ (by kernel_rfl) (by kernel_rfl) (fun _ => pf_p tok rfl rfl rfl rfl) (fun P_5 => ?_)
              obtain ⟨s19, ps19, qs19, rs19, ts19, es19, H⟩ := H
              refine sim_p 6 (ei := [(65, Slc.v p2), (68, .int .u64 (IntKind.u64.wrap (p3 - p0)))]) (d := (some 69)) wf (by kernel_rfl) ⟨rfl, rfl, trivial⟩ (by kernel_rfl) (by kernel_rfl) (fun _ => pf_ye rfl rfl rfl (y_sl (s := p2) (L := (IntKind.u64.wrap (p3 - p0))) (H := (p2.len : Int)) (M := (p2.cap : Int)) tok rfl rfl rfl rfl rfl rfl rfl (by simp) ps19 qs19 rs19 ts19) (congrArg Slc.v es19)) (fun P_6 => ?_)
              refine sim_c 1 [0] [0] (ei := [(63, .pointer r5)]) rlog_Log_Entries_ok (rlog_Log_Entries_ref _ _ _ H) wf ⟨P_6 _, P_5 _, P_4 _, P_3 _, P_2 _, P_0 _, trivial⟩ (by kernel_rfl) ⟨rfl, trivial⟩ (by kernel_rfl) rfl rfl rfl rfl rfl ?_
              rintro _ h21 ⟨r20, rfl, H⟩
              refine sim_c 7 [0, 1, 2, 3, 4, 5, 6] [0, 2, 3, 4, 5, 6] (ei := [(64, Slc.v r20), (69, Slc.v s19)]) ref23_Same_ok (ref23_Same_ref _ _ _ _ H) wf ⟨P_6 _, P_5 _, P_4 _, P_3 _, P_2 _, trivial, trivial⟩ (by kernel_rfl) ⟨rfl, rfl, trivial⟩ (by kernel_rfl) rfl rfl rfl rfl rfl ?_
              rintro _ h23 ⟨r22, rfl, H⟩
              refine sim_p 8 (ei := [(70, .bool r22)]) (d := (some 71)) wf (by kernel_rfl) ⟨rfl, trivial⟩ (by kernel_rfl) (by kernel_rfl) (fun _ => pf_p tok rfl rfl rfl rfl) (fun P_8 => ?_)
              refine sim_end wf ⟨P_8 _, trivial, trivial, trivial, trivial, trivial, trivial, trivial⟩ (by kernel_rfl) ?_
              clear wf P_0 P_2 P_3 P_4 P_5 P_6 P_8
              refine x_seq ?_
              refine c_weak [(0, .int .u64 p0), (2, Slc.v p2), (3, .int .u64 p3), (4, Slc.v p4), (11, .pointer r5), (12, .pointer r7), (71, .bool (!r22))] ⟨rfl, rfl, rfl, rfl, rfl, rfl, rfl, trivial⟩ ?_
              refine c_if H rfl (fun H => ?_) (fun H => ?_)
              ·
                refine c_seq ?_
                refine c_region ?_
                refine w_p tok rfl rfl rfl ?_
                refine w_end ?_
                refine x_seq ?_
                refine c_weak [(10, .bool false)] ⟨rfl, trivial⟩ ?_
                refine c_ret ?_
                refine x_tr ?_
                exact x_ret _ rfl _ rfl ⟨false, rfl, H⟩
              ·
                refine c_skip ?_
                refine x_seq ?_
                refine c_seq ?_
                refine c_seq ?_
                refine c_region ?_
                refine w_p tok rfl rfl rfl ?_
                refine w_p tok rfl rfl rfl ?_
                refine w_end ?_
                refine x_seq ?_
                refine c_block ?_
                obtain ⟨I3, μ3, H0, HI⟩ := H
                refine c_loop (σ := Int) (fun (s : Int) => [(14, .int .u64 s), (0, .int .u64 p0), (2, Slc.v p2), (3, .int .u64 p3), (4, Slc.v p4), (11, .pointer r5), (12, .pointer r7)]) I3 μ3 p3 H0 ⟨rfl, rfl, rfl, rfl, rfl, rfl, rfl, trivial⟩ ?_
                rintro t14_3 h_3 H
                replace H := HI t14_3 h_3 H
                unfold law23_RlogCuts_l3b at H
                refine c_weak [(14, .int .u64 t14_3), (0, .int .u64 p0), (2, Slc.v p2), (3, .int .u64 p3), (4, Slc.v p4), (11, .pointer r5), (12, .pointer r7)] ⟨rfl, rfl, rfl, rfl, rfl, rfl, rfl, trivial⟩ ?_
                refine c_seq ?_
                refine c_seq ?_
                refine c_region ?_
                refine w_p tok rfl rfl rfl ?_
                refine w_p tok rfl rfl rfl ?_
                refine w_p tok rfl rfl rfl ?_
                refine w_p tok rfl rfl rfl ?_
                refine w_end ?_
                refine x_seq ?_
                refine c_if H rfl (fun H => ?_) (fun H => ?_)
                ·
                  refine c_skip ?_
                  refine x_seq ?_
                  refine c_seq ?_
                  refine c_block ?_
                  refine c_seq ?_
                  refine c_region ?_
                  refine w_p tok rfl rfl rfl ?_
                  refine w_p tok rfl rfl rfl ?_
                  refine w_call rlog_Log_Term_ok (rlog_Log_Term_ref _ _ _ _ H) rfl rfl rfl rfl ?_
                  rintro _ h25 ⟨r24, rfl, H⟩
                  refine w_p tok rfl rfl rfl ?_
                  refine w_p tok rfl rfl rfl ?_
                  refine w_p tok rfl rfl rfl ?_
                  refine w_p tok rfl rfl rfl ?_
                  refine w_p tok rfl rfl rfl ?_
                  refine w_end ?_
                  refine x_seq ?_
                  refine c_weak [(14, .int .u64 t14_3), (0, .int .u64 p0), (2, Slc.v p2), (3, .int .u64 p3), (4, Slc.v p4), (11, .pointer r5), (12, .pointer r7), (15, .int .u64 r24.1), (16, .int .i64 r24.2)] ⟨rfl, rfl, rfl, rfl, rfl, rfl, rfl, rfl, rfl, trivial⟩ ?_
                  refine c_seq ?_
                  refine c_region ?_
                  refine w_p tok rfl rfl rfl ?_
                  refine w_p tok rfl rfl rfl ?_
                  refine w_call rlog_Log_Term_ok (rlog_Log_Term_ref _ _ _ _ H) rfl rfl rfl rfl ?_
                  rintro _ h27 ⟨r26, rfl, H⟩
                  refine w_p tok rfl rfl rfl ?_
                  refine w_p tok rfl rfl rfl ?_
                  refine w_p tok rfl rfl rfl ?_
                  refine w_p tok rfl rfl rfl ?_
                  refine w_p tok rfl rfl rfl ?_
                  refine w_end ?_
                  refine x_seq ?_
                  refine c_seq ?_
                  refine c_region ?_
                  refine w_p tok rfl rfl rfl ?_
                  refine w_p tok rfl rfl rfl ?_
                  refine w_p tok rfl rfl rfl ?_
                  refine w_p tok rfl rfl rfl ?_
                  refine w_cutU 4 [(98, .bool ((r24.1 != r26.1) || (r24.2 != r26.2))), (0, .int .u64 p0), (2, Slc.v p2), (3, .int .u64 p3), (4, Slc.v p4), (11, .pointer r5), (12, .pointer r7), (14, .int .u64 t14_3)] ?_ ?_
                  ·
                    refine w_end ?_
                    refine x_seq ?_
                    refine c_if H rfl (fun H => ?_) (fun H => ?_)
                    ·
                      refine c_seq ?_
                      refine c_region ?_
                      refine w_p tok rfl rfl rfl ?_
                      refine w_end ?_
                      refine x_seq ?_
                      refine c_weak [(10, .bool false)] ⟨rfl, trivial⟩ ?_
                      refine c_ret ?_
                      refine x_br ?_
                      refine x_tr ?_
                      refine x_tr ?_
                      refine x_br ?_
                      refine x_tr ?_
                      exact x_ret _ rfl _ rfl ⟨false, rfl, H⟩
                    ·
                      refine c_skip ?_
                      refine x_blk ?_
                      refine x_seq ?_
                      refine c_region ?_
                      refine w_p tok rfl rfl rfl ?_
                      refine w_p tok rfl rfl rfl ?_
                      obtain ⟨x28, ex28, H⟩ := H
                      refine w_pe tok rfl (congrArg (fun z => (.int .u64 z : Value)) ex28) rfl rfl ?_
                      refine w_end ?_
                      exact x_join x28 H ⟨rfl, rfl, rfl, rfl, rfl, rfl, rfl, trivial⟩
                  ·
                    refine w_gs (d := 94) rfl (fun hb => ?_) (fun hb => ?_)
                    ·
                      refine w_skip rfl rfl ?_
                      refine w_skip rfl rfl ?_
                      refine w_skip rfl rfl ?_
                      refine w_p tok rfl rfl rfl ?_
                      refine w_jn () rfl ⟨?_, rfl, rfl, rfl, rfl, rfl, rfl, rfl, trivial⟩
                      exact congrArg (fun b => some (Value.bool b)) (or_t hb)
                    ·
                      refine w_p tok rfl rfl rfl ?_
                      refine w_p tok rfl rfl rfl ?_
                      refine w_p tok rfl rfl rfl ?_
                      refine w_p tok rfl rfl rfl ?_
                      refine w_jn () rfl ⟨?_, rfl, rfl, rfl, rfl, rfl, rfl, rfl, trivial⟩
                      exact congrArg (fun b => some (Value.bool b)) (or_f hb)
                ·
                  refine c_exit ?_
                  refine x_te ?_
                  refine x_te ?_
                  refine x_bh ?_
                  refine x_seq ?_
                  refine c_seq ?_
                  refine c_region ?_
                  refine w_p tok rfl rfl rfl ?_
                  refine w_p tok rfl rfl rfl ?_
                  refine w_p tok rfl rfl rfl ?_
                  refine w_p tok rfl rfl rfl ?_
                  refine w_p tok rfl rfl rfl ?_
                  refine w_p tok rfl rfl rfl ?_
                  obtain ⟨x29, ex29, H⟩ := H
                  refine w_pe tok rfl (congrArg (fun z => (.int .i64 z : Value)) ex29) rfl rfl ?_
                  refine w_end ?_
                  refine x_seq ?_
                  refine c_weak [(0, .int .u64 p0), (2, Slc.v p2), (3, .int .u64 p3), (4, Slc.v p4), (11, .pointer r5), (19, .int .i64 x29)] ⟨rfl, rfl, rfl, rfl, rfl, rfl, trivial⟩ ?_
                  refine c_seq ?_
                  refine c_region ?_
                  refine w_p tok rfl rfl rfl ?_
                  refine w_p tok rfl rfl rfl ?_
                  refine w_p tok rfl rfl rfl ?_
                  refine w_p tok rfl rfl rfl ?_
                  refine w_p tok rfl rfl rfl ?_
                  refine w_p tok rfl rfl rfl ?_
                  refine w_p tok rfl rfl rfl ?_
                  obtain ⟨s30, ps30, qs30, rs30, ts30, es30, H⟩ := H
                  refine w_ye (y_sl (s := p4) (L := 0) (H := x29) (M := (p4.cap : Int)) tok rfl rfl rfl rfl rfl rfl rfl (by simp) ps30 qs30 rs30 ts30) (congrArg Slc.v es30) rfl rfl ?_
                  refine w_call rlog_Log_Append_ok (rlog_Log_Append_ref _ _ _ _ _ _ H) rfl rfl rfl rfl ?_
                  rintro _ h32 ⟨r31, rfl, H⟩
                  refine w_p tok rfl rfl rfl ?_
                  refine w_p tok rfl rfl rfl ?_
                  refine w_p tok rfl rfl rfl ?_
                  refine w_p tok rfl rfl rfl ?_
                  refine w_p tok rfl rfl rfl ?_
                  refine w_end ?_
                  refine x_seq ?_
                  refine c_weak [(0, .int .u64 p0), (2, Slc.v p2), (3, .int .u64 p3), (11, .pointer r5), (19, .int .i64 x29), (20, .int .u64 r31.1), (21, .int .i64 r31.2)] ⟨rfl, rfl, rfl, rfl, rfl, rfl, rfl, trivial⟩ ?_
                  refine c_seq ?_
                  refine c_seq ?_
                  refine c_region ?_
                  refine w_p tok rfl rfl rfl ?_
                  refine w_p tok rfl rfl rfl ?_
                  refine w_end ?_
                  refine x_seq ?_
                  refine c_if H rfl (fun H => ?_) (fun H => ?_)
                  ·
                    refine c_seq ?_
                    refine c_region ?_
                    refine w_call law23_awake_ok (law23_awake_ref  _ _ H) rfl rfl rfl rfl ?_
                    rintro _ h34 ⟨r33, rfl, H⟩
                    refine w_p tok rfl rfl rfl ?_
                    refine w_end ?_
                    refine x_seq ?_
                    refine c_weak [(10, .bool r33)] ⟨rfl, trivial⟩ ?_
                    refine c_ret ?_
                    refine x_tr ?_
                    exact x_ret _ rfl _ rfl ⟨r33, rfl, H⟩
                  ·
                    refine c_skip ?_
                    refine x_seq ?_
                    refine c_seqJ (α := Bool) (fun (s : Bool) => [(10, .bool s)]) (fun (s : Bool) h => law23_RlogCuts_j4 s k (fun s h' => I3 s h' ∧ μ3 s h' < μ3 t14_3 h_3) h) ?_ ?_
                    ·
                      rintro t10_4 h_4 H
                      replace H : law23_RlogCuts_j4 t10_4 k (fun s h' => I3 s h' ∧ μ3 s h' < μ3 t14_3 h_3) h_4 := H
                      unfold law23_RlogCuts_j4 at H
                      refine c_weak [(10, .bool t10_4)] ⟨rfl, trivial⟩ ?_
                      refine c_ret ?_
                      exact x_ret _ rfl _ rfl ⟨t10_4, rfl, H⟩
                    ·
                      refine c_sim [(0, .int .u64 p0), (2, Slc.v p2), (3, .int .u64 p3), (11, .pointer r5), (20, .int .u64 r31.1), (21, .int .i64 r31.2)] (by kernel_rfl) (by kernel_rfl) ⟨rfl, rfl, rfl, rfl, rfl, rfl, trivial⟩ (fun wf => ?_)
                      refine sim_p 0 (ei := [(21, .int .i64 r31.2)]) (d := (some 120)) wf (by kernel_rfl) ⟨rfl, trivial⟩ (by kernel_rfl) (by kernel_rfl) (fun _ => pf_p tok rfl rfl rfl rfl) (fun P_0 => ?_)
                      refine sim_p 1 (ei := [(120, .int .i64 r31.2)]) (d := (some 121)) wf (by kernel_rfl) ⟨rfl, trivial⟩ (by kernel_rfl) (by kernel_rfl) (fun _ => pf_p tok rfl rfl rfl rfl) (fun P_1 => ?_)
                      refine sim_p 2 (ei := [(121, .bool (r31.2 == 0))]) (d := (some 122)) wf (by kernel_rfl) ⟨rfl, trivial⟩ (by kernel_rfl) (by kernel_rfl) (fun _ => pf_p tok rfl rfl rfl rfl) (fun P_2 => ?_)
                      refine sim_gif 122 H rfl (fun hb H => ?_) (fun hb H => ?_)
                      ·
                        refine sim_p 3 (ei := [(20, .int .u64 r31.1), (122, .bool true)]) (d := (some 123)) wf (by kernel_rfl) ⟨rfl, rfl, trivial⟩ (by kernel_rfl) (by kernel_rfl) (fun _ => pf_p tok rfl rfl rfl rfl) (fun P_3 => ?_)
                        refine sim_p 4 (ei := [(3, .int .u64 p3), (122, .bool true)]) (d := (some 124)) wf (by kernel_rfl) ⟨rfl, rfl, trivial⟩ (by kernel_rfl) (by kernel_rfl) (fun _ => pf_p tok rfl rfl rfl rfl) (fun P_4 => ?_)
                        refine sim_p 5 (ei := [(122, .bool true), (123, .int .u64 r31.1), (124, .int .u64 p3)]) (d := (some 125)) wf (by kernel_rfl) ⟨rfl, rfl, rfl, trivial⟩ (by kernel_rfl) (by kernel_rfl) (fun _ => pf_p tok rfl rfl rfl rfl) (fun P_5 => ?_)
                        refine sim_p 6 (ei := [(122, .bool true), (125, .bool (r31.1 == p3))]) (d := (some 126)) wf (by kernel_rfl) ⟨rfl, rfl, trivial⟩ (by kernel_rfl) (by kernel_rfl) (fun _ => pf_p tok rfl rfl rfl rfl) (fun P_6 => ?_)
                        refine sim_p 7 (ei := [(126, .bool (r31.1 == p3))]) (d := (some 127)) wf (by kernel_rfl) ⟨rfl, trivial⟩ (by kernel_rfl) (by kernel_rfl) (fun _ => pf_p tok rfl rfl rfl rfl) (fun P_7 => ?_)
                        refine sim_gif 127 H rfl (fun hb H => ?_) (fun hb H => ?_)
                        ·
                          refine sim_p 8 (ei := [(11, .pointer r5), (127, .bool true)]) (d := (some 128)) wf (by kernel_rfl) ⟨rfl, rfl, trivial⟩ (by kernel_rfl) (by kernel_rfl) (fun _ => pf_p tok rfl rfl rfl rfl) (fun P_8 => ?_)
                          refine sim_p 10 (ei := [(2, Slc.v p2), (127, .bool true)]) (d := (some 130)) wf (by kernel_rfl) ⟨rfl, rfl, trivial⟩ (by kernel_rfl) (by kernel_rfl) (fun _ => pf_p tok rfl rfl rfl rfl) (fun P_10 => ?_)
                          refine sim_p 11 (ei := [(3, .int .u64 p3), (127, .bool true)]) (d := (some 131)) wf (by kernel_rfl) ⟨rfl, rfl, trivial⟩ (by kernel_rfl) (by kernel_rfl) (fun _ => pf_p tok rfl rfl rfl rfl) (fun P_11 => ?_)
                          refine sim_p 12 (ei := [(0, .int .u64 p0), (127, .bool true)]) (d := (some 132)) wf (by kernel_rfl) ⟨rfl, rfl, trivial⟩ (by kernel_rfl) (by kernel_rfl) (fun _ => pf_p tok rfl rfl rfl rfl) (fun P_12 => ?_)
                          refine sim_p 13 (ei := [(127, .bool true), (131, .int .u64 p3), (132, .int .u64 p0)]) (d := (some 133)) wf (by kernel_rfl) ⟨rfl, rfl, rfl, trivial⟩ (by kernel_rfl) (by kernel_rfl) (fun _ => pf_p tok rfl rfl rfl rfl) (fun P_13 => ?_)
                          obtain ⟨s35, ps35, qs35, rs35, ts35, es35, H⟩ := H
                          refine sim_p 14 (ei := [(127, .bool true), (130, Slc.v p2), (133, .int .u64 (IntKind.u64.wrap (p3 - p0)))]) (d := (some 134)) wf (by kernel_rfl) ⟨rfl, rfl, rfl, trivial⟩ (by kernel_rfl) (by kernel_rfl) (fun _ => pf_ye rfl rfl rfl (y_sl (s := p2) (L := (IntKind.u64.wrap (p3 - p0))) (H := (p2.len : Int)) (M := (p2.cap : Int)) tok rfl rfl rfl rfl rfl rfl rfl (by simp) ps35 qs35 rs35 ts35) (congrArg Slc.v es35)) (fun P_14 => ?_)
                          refine sim_c 9 [0, 1, 2, 3, 4, 5, 6, 7, 8] [0, 1, 2, 3, 4, 5, 6, 7, 8] (ei := [(127, .bool true), (128, .pointer r5)]) rlog_Log_Entries_ok (rlog_Log_Entries_ref _ _ _ H) wf ⟨P_14 _, P_13 _, P_12 _, P_11 _, P_10 _, P_8 _, P_7 _, P_6 _, P_5 _, P_4 _, P_3 _, P_2 _, P_1 _, P_0 _, trivial⟩ (by kernel_rfl) ⟨rfl, rfl, trivial⟩ (by kernel_rfl) rfl rfl rfl rfl rfl ?_
                          rintro _ h37 ⟨r36, rfl, H⟩
                          refine sim_c 15 [0, 1, 2, 3, 4, 5, 6, 7, 8, 9, 10, 11, 12, 13, 14] [0, 1, 2, 3, 4, 5, 6, 7, 8, 10, 11, 12, 13, 14] (ei := [(127, .bool true), (129, Slc.v r36), (134, Slc.v s35)]) ref23_Same_ok (ref23_Same_ref _ _ _ _ H) wf ⟨P_14 _, P_13 _, P_12 _, P_11 _, P_10 _, trivial, trivial, trivial, trivial, trivial, trivial, trivial, trivial, trivial, trivial⟩ (by kernel_rfl) ⟨rfl, rfl, rfl, trivial⟩ (by kernel_rfl) rfl rfl rfl rfl rfl ?_
                          rintro _ h39 ⟨r38, rfl, H⟩
                          refine sim_p 16 (ei := [(127, .bool true), (135, .bool r38)]) (d := (some 136)) wf (by kernel_rfl) ⟨rfl, rfl, trivial⟩ (by kernel_rfl) (by kernel_rfl) (fun _ => pf_p tok rfl rfl rfl rfl) (fun P_16 => ?_)
                          refine sim_p 17 (ei := [(136, .bool r38)]) (d := (some 137)) wf (by kernel_rfl) ⟨rfl, trivial⟩ (by kernel_rfl) (by kernel_rfl) (fun _ => pf_p tok rfl rfl rfl rfl) (fun P_17 => ?_)
                          refine sim_gif 137 H rfl (fun hb H => ?_) (fun hb H => ?_)
                          ·
                            refine sim_c 18 [0, 1, 2, 3, 4, 5, 6, 7, 8, 9, 10, 11, 12, 13, 14, 15, 16, 17] [0, 1, 2, 3, 4, 5, 6, 7, 8, 10, 11, 12, 13, 14, 16, 17] (ei := [(137, .bool true)]) law23_awake_ok (law23_awake_ref  _ _ H) wf ⟨P_17 _, P_16 _, trivial, trivial, trivial, trivial, trivial, trivial, trivial, trivial, trivial, trivial, trivial, trivial, trivial, trivial, trivial⟩ (by kernel_rfl) ⟨rfl, trivial⟩ (by kernel_rfl) rfl rfl rfl rfl rfl ?_
                            rintro _ h41 ⟨r40, rfl, H⟩
                            refine sim_p 19 (ei := [(137, .bool true), (138, .bool r40)]) (d := (some 139)) wf (by kernel_rfl) ⟨rfl, rfl, trivial⟩ (by kernel_rfl) (by kernel_rfl) (fun _ => pf_p tok rfl rfl rfl rfl) (fun P_19 => ?_)
                            refine sim_p 20 (ei := [(139, .bool r40)]) (d := (some 10)) wf (by kernel_rfl) ⟨rfl, trivial⟩ (by kernel_rfl) (by kernel_rfl) (fun _ => pf_p tok rfl rfl rfl rfl) (fun P_20 => ?_)
                            refine sim_end wf ⟨P_20 _, P_19 _, trivial, trivial, trivial, trivial, trivial, trivial, trivial, trivial, trivial, trivial, trivial, trivial, trivial, trivial, trivial, trivial, trivial⟩ (by kernel_rfl) ?_
                            clear wf P_0 P_1 P_10 P_11 P_12 P_13 P_14 P_16 P_17 P_19 P_2 P_20 P_3 P_4 P_5 P_6 P_7 P_8
                            exact x_join r40 H ⟨rfl, trivial⟩
                          ·
                            refine sim_p 18 (v := undef) (ei := [(137, .bool false)]) (d := (some 138)) wf (by kernel_rfl) ⟨rfl, trivial⟩ (by kernel_rfl) (by kernel_rfl) (fun _ => pf_s rfl rfl rfl) (fun P_18 => ?_)
                            refine sim_p 19 (ei := [(137, .bool false)]) (d := (some 139)) wf (by kernel_rfl) ⟨rfl, trivial⟩ (by kernel_rfl) (by kernel_rfl) (fun _ => pf_p tok rfl rfl rfl rfl) (fun P_19 => ?_)
                            refine sim_p 20 (ei := [(139, .bool false)]) (d := (some 10)) wf (by kernel_rfl) ⟨rfl, trivial⟩ (by kernel_rfl) (by kernel_rfl) (fun _ => pf_p tok rfl rfl rfl rfl) (fun P_20 => ?_)
                            refine sim_end wf ⟨P_20 _, P_19 _, P_18 _, P_17 _, P_16 _, trivial, trivial, trivial, trivial, trivial, trivial, trivial, trivial, trivial, trivial, trivial, trivial, trivial, trivial, trivial⟩ (by kernel_rfl) ?_
                            clear wf P_0 P_1 P_10 P_11 P_12 P_13 P_14 P_16 P_17 P_18 P_19 P_2 P_20 P_3 P_4 P_5 P_6 P_7 P_8
                            exact x_join false H ⟨rfl, trivial⟩
                        ·
                          refine sim_p 8 (v := undef) (ei := [(11, .pointer r5), (127, .bool false)]) (d := (some 128)) wf (by kernel_rfl) ⟨rfl, rfl, trivial⟩ (by kernel_rfl) (by kernel_rfl) (fun _ => pf_s rfl rfl rfl) (fun P_8 => ?_)
                          refine sim_p 9 (v := undef) (ei := [(127, .bool false)]) (d := (some 129)) wf (by kernel_rfl) ⟨rfl, trivial⟩ (by kernel_rfl) (by kernel_rfl) (fun _ => pf_s rfl rfl rfl) (fun P_9 => ?_)
                          refine sim_p 10 (v := undef) (ei := [(2, Slc.v p2), (127, .bool false)]) (d := (some 130)) wf (by kernel_rfl) ⟨rfl, rfl, trivial⟩ (by kernel_rfl) (by kernel_rfl) (fun _ => pf_s rfl rfl rfl) (fun P_10 => ?_)
                          refine sim_p 11 (v := undef) (ei := [(3, .int .u64 p3), (127, .bool false)]) (d := (some 131)) wf (by kernel_rfl) ⟨rfl, rfl, trivial⟩ (by kernel_rfl) (by kernel_rfl) (fun _ => pf_s rfl rfl rfl) (fun P_11 => ?_)
                          refine sim_p 12 (v := undef) (ei := [(0, .int .u64 p0), (127, .bool false)]) (d := (some 132)) wf (by kernel_rfl) ⟨rfl, rfl, trivial⟩ (by kernel_rfl) (by kernel_rfl) (fun _ => pf_s rfl rfl rfl) (fun P_12 => ?_)
                          refine sim_p 13 (v := undef) (ei := [(127, .bool false)]) (d := (some 133)) wf (by kernel_rfl) ⟨rfl, trivial⟩ (by kernel_rfl) (by kernel_rfl) (fun _ => pf_s rfl rfl rfl) (fun P_13 => ?_)
                          refine sim_p 14 (v := undef) (ei := [(127, .bool false)]) (d := (some 134)) wf (by kernel_rfl) ⟨rfl, trivial⟩ (by kernel_rfl) (by kernel_rfl) (fun _ => pf_s rfl rfl rfl) (fun P_14 => ?_)
                          refine sim_p 15 (v := undef) (ei := [(127, .bool false)]) (d := (some 135)) wf (by kernel_rfl) ⟨rfl, trivial⟩ (by kernel_rfl) (by kernel_rfl) (fun _ => pf_s rfl rfl rfl) (fun P_15 => ?_)
                          refine sim_p 16 (ei := [(127, .bool false)]) (d := (some 136)) wf (by kernel_rfl) ⟨rfl, trivial⟩ (by kernel_rfl) (by kernel_rfl) (fun _ => pf_p tok rfl rfl rfl rfl) (fun P_16 => ?_)
                          refine sim_p 17 (ei := [(136, .bool false)]) (d := (some 137)) wf (by kernel_rfl) ⟨rfl, trivial⟩ (by kernel_rfl) (by kernel_rfl) (fun _ => pf_p tok rfl rfl rfl rfl) (fun P_17 => ?_)
                          refine sim_gif 137 H rfl (fun hb H => ?_) (fun hb H => ?_)
                          ·
                            refine sim_c 18 [0, 1, 2, 3, 4, 5, 6, 7, 8, 9, 10, 11, 12, 13, 14, 15, 16, 17] [0, 1, 2, 3, 4, 5, 6, 7, 8, 9, 10, 11, 12, 13, 14, 15, 16, 17] (ei := [(137, .bool true)]) law23_awake_ok (law23_awake_ref  _ _ H) wf ⟨P_17 _, P_16 _, P_15 _, P_14 _, P_13 _, P_12 _, P_11 _, P_10 _, P_9 _, P_8 _, P_7 _, P_6 _, P_5 _, P_4 _, P_3 _, P_2 _, P_1 _, P_0 _, trivial⟩ (by kernel_rfl) ⟨rfl, trivial⟩ (by kernel_rfl) rfl rfl rfl rfl rfl ?_
                            rintro _ h43 ⟨r42, rfl, H⟩
                            refine sim_p 19 (ei := [(137, .bool true), (138, .bool r42)]) (d := (some 139)) wf (by kernel_rfl) ⟨rfl, rfl, trivial⟩ (by kernel_rfl) (by kernel_rfl) (fun _ => pf_p tok rfl rfl rfl rfl) (fun P_19 => ?_)
                            refine sim_p 20 (ei := [(139, .bool r42)]) (d := (some 10)) wf (by kernel_rfl) ⟨rfl, trivial⟩ (by kernel_rfl) (by kernel_rfl) (fun _ => pf_p tok rfl rfl rfl rfl) (fun P_20 => ?_)
                            refine sim_end wf ⟨P_20 _, P_19 _, trivial, trivial, trivial, trivial, trivial, trivial, trivial, trivial, trivial, trivial, trivial, trivial, trivial, trivial, trivial, trivial, trivial, trivial, trivial⟩ (by kernel_rfl) ?_
                            clear wf P_0 P_1 P_10 P_11 P_12 P_13 P_14 P_15 P_16 P_17 P_19 P_2 P_20 P_3 P_4 P_5 P_6 P_7 P_8 P_9
                            exact x_join r42 H ⟨rfl, trivial⟩
                          ·
                            refine sim_p 18 (v := undef) (ei := [(137, .bool false)]) (d := (some 138)) wf (by kernel_rfl) ⟨rfl, trivial⟩ (by kernel_rfl) (by kernel_rfl) (fun _ => pf_s rfl rfl rfl) (fun P_18 => ?_)
                            refine sim_p 19 (ei := [(137, .bool false)]) (d := (some 139)) wf (by kernel_rfl) ⟨rfl, trivial⟩ (by kernel_rfl) (by kernel_rfl) (fun _ => pf_p tok rfl rfl rfl rfl) (fun P_19 => ?_)
                            refine sim_p 20 (ei := [(139, .bool false)]) (d := (some 10)) wf (by kernel_rfl) ⟨rfl, trivial⟩ (by kernel_rfl) (by kernel_rfl) (fun _ => pf_p tok rfl rfl rfl rfl) (fun P_20 => ?_)
                            refine sim_end wf ⟨P_20 _, P_19 _, P_18 _, P_17 _, P_16 _, P_15 _, P_14 _, P_13 _, P_12 _, P_11 _, P_10 _, P_9 _, P_8 _, P_7 _, P_6 _, P_5 _, P_4 _, P_3 _, P_2 _, P_1 _, P_0 _, trivial⟩ (by kernel_rfl) ?_
                            clear wf P_0 P_1 P_10 P_11 P_12 P_13 P_14 P_15 P_16 P_17 P_18 P_19 P_2 P_20 P_3 P_4 P_5 P_6 P_7 P_8 P_9
                            exact x_join false H ⟨rfl, trivial⟩
                      ·
                        refine sim_p 3 (v := undef) (ei := [(20, .int .u64 r31.1), (122, .bool false)]) (d := (some 123)) wf (by kernel_rfl) ⟨rfl, rfl, trivial⟩ (by kernel_rfl) (by kernel_rfl) (fun _ => pf_s rfl rfl rfl) (fun P_3 => ?_)
                        refine sim_p 4 (v := undef) (ei := [(3, .int .u64 p3), (122, .bool false)]) (d := (some 124)) wf (by kernel_rfl) ⟨rfl, rfl, trivial⟩ (by kernel_rfl) (by kernel_rfl) (fun _ => pf_s rfl rfl rfl) (fun P_4 => ?_)
                        refine sim_p 5 (v := undef) (ei := [(122, .bool false)]) (d := (some 125)) wf (by kernel_rfl) ⟨rfl, trivial⟩ (by kernel_rfl) (by kernel_rfl) (fun _ => pf_s rfl rfl rfl) (fun P_5 => ?_)
                        refine sim_p 6 (ei := [(122, .bool false)]) (d := (some 126)) wf (by kernel_rfl) ⟨rfl, trivial⟩ (by kernel_rfl) (by kernel_rfl) (fun _ => pf_p tok rfl rfl rfl rfl) (fun P_6 => ?_)
                        refine sim_p 7 (ei := [(126, .bool false)]) (d := (some 127)) wf (by kernel_rfl) ⟨rfl, trivial⟩ (by kernel_rfl) (by kernel_rfl) (fun _ => pf_p tok rfl rfl rfl rfl) (fun P_7 => ?_)
                        refine sim_gif 127 H rfl (fun hb H => ?_) (fun hb H => ?_)
                        ·
                          refine sim_p 8 (ei := [(11, .pointer r5), (127, .bool true)]) (d := (some 128)) wf (by kernel_rfl) ⟨rfl, rfl, trivial⟩ (by kernel_rfl) (by kernel_rfl) (fun _ => pf_p tok rfl rfl rfl rfl) (fun P_8 => ?_)
                          refine sim_p 10 (ei := [(2, Slc.v p2), (127, .bool true)]) (d := (some 130)) wf (by kernel_rfl) ⟨rfl, rfl, trivial⟩ (by kernel_rfl) (by kernel_rfl) (fun _ => pf_p tok rfl rfl rfl rfl) (fun P_10 => ?_)
                          refine sim_p 11 (ei := [(3, .int .u64 p3), (127, .bool true)]) (d := (some 131)) wf (by kernel_rfl) ⟨rfl, rfl, trivial⟩ (by kernel_rfl) (by kernel_rfl) (fun _ => pf_p tok rfl rfl rfl rfl) (fun P_11 => ?_)
                          refine sim_p 12 (ei := [(0, .int .u64 p0), (127, .bool true)]) (d := (some 132)) wf (by kernel_rfl) ⟨rfl, rfl, trivial⟩ (by kernel_rfl) (by kernel_rfl) (fun _ => pf_p tok rfl rfl rfl rfl) (fun P_12 => ?_)
                          refine sim_p 13 (ei := [(127, .bool true), (131, .int .u64 p3), (132, .int .u64 p0)]) (d := (some 133)) wf (by kernel_rfl) ⟨rfl, rfl, rfl, trivial⟩ (by kernel_rfl) (by kernel_rfl) (fun _ => pf_p tok rfl rfl rfl rfl) (fun P_13 => ?_)
                          obtain ⟨s44, ps44, qs44, rs44, ts44, es44, H⟩ := H
                          refine sim_p 14 (ei := [(127, .bool true), (130, Slc.v p2), (133, .int .u64 (IntKind.u64.wrap (p3 - p0)))]) (d := (some 134)) wf (by kernel_rfl) ⟨rfl, rfl, rfl, trivial⟩ (by kernel_rfl) (by kernel_rfl) (fun _ => pf_ye rfl rfl rfl (y_sl (s := p2) (L := (IntKind.u64.wrap (p3 - p0))) (H := (p2.len : Int)) (M := (p2.cap : Int)) tok rfl rfl rfl rfl rfl rfl rfl (by simp) ps44 qs44 rs44 ts44) (congrArg Slc.v es44)) (fun P_14 => ?_)
                          refine sim_c 9 [0, 1, 2, 3, 4, 5, 6, 7, 8] [0, 1, 2, 3, 4, 5, 6, 7, 8] (ei := [(127, .bool true), (128, .pointer r5)]) rlog_Log_Entries_ok (rlog_Log_Entries_ref _ _ _ H) wf ⟨P_14 _, P_13 _, P_12 _, P_11 _, P_10 _, P_8 _, P_7 _, P_6 _, P_5 _, P_4 _, P_3 _, P_2 _, P_1 _, P_0 _, trivial⟩ (by kernel_rfl) ⟨rfl, rfl, trivial⟩ (by kernel_rfl) rfl rfl rfl rfl rfl ?_
                          rintro _ h46 ⟨r45, rfl, H⟩
                          refine sim_c 15 [0, 1, 2, 3, 4, 5, 6, 7, 8, 9, 10, 11, 12, 13, 14] [0, 1, 2, 3, 4, 5, 6, 7, 8, 10, 11, 12, 13, 14] (ei := [(127, .bool true), (129, Slc.v r45), (134, Slc.v s44)]) ref23_Same_ok (ref23_Same_ref _ _ _ _ H) wf ⟨P_14 _, P_13 _, P_12 _, P_11 _, P_10 _, trivial, trivial, trivial, trivial, trivial, trivial, trivial, trivial, trivial, trivial⟩ (by kernel_rfl) ⟨rfl, rfl, rfl, trivial⟩ (by kernel_rfl) rfl rfl rfl rfl rfl ?_
                          rintro _ h48 ⟨r47, rfl, H⟩
                          refine sim_p 16 (ei := [(127, .bool true), (135, .bool r47)]) (d := (some 136)) wf (by kernel_rfl) ⟨rfl, rfl, trivial⟩ (by kernel_rfl) (by kernel_rfl) (fun _ => pf_p tok rfl rfl rfl rfl) (fun P_16 => ?_)
                          refine sim_p 17 (ei := [(136, .bool r47)]) (d := (some 137)) wf (by kernel_rfl) ⟨rfl, trivial⟩ (by kernel_rfl) (by kernel_rfl) (fun _ => pf_p tok rfl rfl rfl rfl) (fun P_17 => ?_)
                          refine sim_gif 137 H rfl (fun hb H => ?_) (fun hb H => ?_)
                          ·
                            refine sim_c 18 [0, 1, 2, 3, 4, 5, 6, 7, 8, 9, 10, 11, 12, 13, 14, 15, 16, 17] [0, 1, 2, 3, 4, 5, 6, 7, 8, 10, 11, 12, 13, 14, 16, 17] (ei := [(137, .bool true)]) law23_awake_ok (law23_awake_ref  _ _ H) wf ⟨P_17 _, P_16 _, trivial, trivial, trivial, trivial, trivial, trivial, trivial, trivial, trivial, trivial, trivial, trivial, trivial, trivial, trivial⟩ (by kernel_rfl) ⟨rfl, trivial⟩ (by kernel_rfl) rfl rfl rfl rfl rfl ?_
                            rintro _ h50 ⟨r49, rfl, H⟩
                            refine sim_p 19 (ei := [(137, .bool true), (138, .bool r49)]) (d := (some 139)) wf (by kernel_rfl) ⟨rfl, rfl, trivial⟩ (by kernel_rfl) (by kernel_rfl) (fun _ => pf_p tok rfl rfl rfl rfl) (fun P_19 => ?_)
                            refine sim_p 20 (ei := [(139, .bool r49)]) (d := (some 10)) wf (by kernel_rfl) ⟨rfl, trivial⟩ (by kernel_rfl) (by kernel_rfl) (fun _ => pf_p tok rfl rfl rfl rfl) (fun P_20 => ?_)
                            refine sim_end wf ⟨P_20 _, P_19 _, trivial, trivial, trivial, trivial, trivial, trivial, trivial, trivial, trivial, trivial, trivial, trivial, trivial, trivial, trivial, trivial, trivial⟩ (by kernel_rfl) ?_
                            clear wf P_0 P_1 P_10 P_11 P_12 P_13 P_14 P_16 P_17 P_19 P_2 P_20 P_3 P_4 P_5 P_6 P_7 P_8
                            exact x_join r49 H ⟨rfl, trivial⟩
                          ·
                            refine sim_p 18 (v := undef) (ei := [(137, .bool false)]) (d := (some 138)) wf (by kernel_rfl) ⟨rfl, trivial⟩ (by kernel_rfl) (by kernel_rfl) (fun _ => pf_s rfl rfl rfl) (fun P_18 => ?_)
                            refine sim_p 19 (ei := [(137, .bool false)]) (d := (some 139)) wf (by kernel_rfl) ⟨rfl, trivial⟩ (by kernel_rfl) (by kernel_rfl) (fun _ => pf_p tok rfl rfl rfl rfl) (fun P_19 => ?_)
                            refine sim_p 20 (ei := [(139, .bool false)]) (d := (some 10)) wf (by kernel_rfl) ⟨rfl, trivial⟩ (by kernel_rfl) (by kernel_rfl) (fun _ => pf_p tok rfl rfl rfl rfl) (fun P_20 => ?_)
                            refine sim_end wf ⟨P_20 _, P_19 _, P_18 _, P_17 _, P_16 _, trivial, trivial, trivial, trivial, trivial, trivial, trivial, trivial, trivial, trivial, trivial, trivial, trivial, trivial, trivial⟩ (by kernel_rfl) ?_
                            clear wf P_0 P_1 P_10 P_11 P_12 P_13 P_14 P_16 P_17 P_18 P_19 P_2 P_20 P_3 P_4 P_5 P_6 P_7 P_8
                            exact x_join false H ⟨rfl, trivial⟩
                        ·
                          refine sim_p 8 (v := undef) (ei := [(11, .pointer r5), (127, .bool false)]) (d := (some 128)) wf (by kernel_rfl) ⟨rfl, rfl, trivial⟩ (by kernel_rfl) (by kernel_rfl) (fun _ => pf_s rfl rfl rfl) (fun P_8 => ?_)
                          refine sim_p 9 (v := undef) (ei := [(127, .bool false)]) (d := (some 129)) wf (by kernel_rfl) ⟨rfl, trivial⟩ (by kernel_rfl) (by kernel_rfl) (fun _ => pf_s rfl rfl rfl) (fun P_9 => ?_)
                          refine sim_p 10 (v := undef) (ei := [(2, Slc.v p2), (127, .bool false)]) (d := (some 130)) wf (by kernel_rfl) ⟨rfl, rfl, trivial⟩ (by kernel_rfl) (by kernel_rfl) (fun _ => pf_s rfl rfl rfl) (fun P_10 => ?_)
                          refine sim_p 11 (v := undef) (ei := [(3, .int .u64 p3), (127, .bool false)]) (d := (some 131)) wf (by kernel_rfl) ⟨rfl, rfl, trivial⟩ (by kernel_rfl) (by kernel_rfl) (fun _ => pf_s rfl rfl rfl) (fun P_11 => ?_)
                          refine sim_p 12 (v := undef) (ei := [(0, .int .u64 p0), (127, .bool false)]) (d := (some 132)) wf (by kernel_rfl) ⟨rfl, rfl, trivial⟩ (by kernel_rfl) (by kernel_rfl) (fun _ => pf_s rfl rfl rfl) (fun P_12 => ?_)
                          refine sim_p 13 (v := undef) (ei := [(127, .bool false)]) (d := (some 133)) wf (by kernel_rfl) ⟨rfl, trivial⟩ (by kernel_rfl) (by kernel_rfl) (fun _ => pf_s rfl rfl rfl) (fun P_13 => ?_)
                          refine sim_p 14 (v := undef) (ei := [(127, .bool false)]) (d := (some 134)) wf (by kernel_rfl) ⟨rfl, trivial⟩ (by kernel_rfl) (by kernel_rfl) (fun _ => pf_s rfl rfl rfl) (fun P_14 => ?_)
                          refine sim_p 15 (v := undef) (ei := [(127, .bool false)]) (d := (some 135)) wf (by kernel_rfl) ⟨rfl, trivial⟩ (by kernel_rfl) (by kernel_rfl) (fun _ => pf_s rfl rfl rfl) (fun P_15 => ?_)
                          refine sim_p 16 (ei := [(127, .bool false)]) (d := (some 136)) wf (by kernel_rfl) ⟨rfl, trivial⟩ (by kernel_rfl) (by kernel_rfl) (fun _ => pf_p tok rfl rfl rfl rfl) (fun P_16 => ?_)
                          refine sim_p 17 (ei := [(136, .bool false)]) (d := (some 137)) wf (by kernel_rfl) ⟨rfl, trivial⟩ (by kernel_rfl) (by kernel_rfl) (fun _ => pf_p tok rfl rfl rfl rfl) (fun P_17 => ?_)
                          refine sim_gif 137 H rfl (fun hb H => ?_) (fun hb H => ?_)
                          ·
                            refine sim_c 18 [0, 1, 2, 3, 4, 5, 6, 7, 8, 9, 10, 11, 12, 13, 14, 15, 16, 17] [0, 1, 2, 3, 4, 5, 6, 7, 8, 9, 10, 11, 12, 13, 14, 15, 16, 17] (ei := [(137, .bool true)]) law23_awake_ok (law23_awake_ref  _ _ H) wf ⟨P_17 _, P_16 _, P_15 _, P_14 _, P_13 _, P_12 _, P_11 _, P_10 _, P_9 _, P_8 _, P_7 _, P_6 _, P_5 _, P_4 _, P_3 _, P_2 _, P_1 _, P_0 _, trivial⟩ (by kernel_rfl) ⟨rfl, trivial⟩ (by kernel_rfl) rfl rfl rfl rfl rfl ?_
                            rintro _ h52 ⟨r51, rfl, H⟩
                            refine sim_p 19 (ei := [(137, .bool true), (138, .bool r51)]) (d := (some 139)) wf (by kernel_rfl) ⟨rfl, rfl, trivial⟩ (by kernel_rfl) (by kernel_rfl) (fun _ => pf_p tok rfl rfl rfl rfl) (fun P_19 => ?_)
                            refine sim_p 20 (ei := [(139, .bool r51)]) (d := (some 10)) wf (by kernel_rfl) ⟨rfl, trivial⟩ (by kernel_rfl) (by kernel_rfl) (fun _ => pf_p tok rfl rfl rfl rfl) (fun P_20 => ?_)
                            refine sim_end wf ⟨P_20 _, P_19 _, trivial, trivial, trivial, trivial, trivial, trivial, trivial, trivial, trivial, trivial, trivial, trivial, trivial, trivial, trivial, trivial, trivial, trivial, trivial⟩ (by kernel_rfl) ?_
                            clear wf P_0 P_1 P_10 P_11 P_12 P_13 P_14 P_15 P_16 P_17 P_19 P_2 P_20 P_3 P_4 P_5 P_6 P_7 P_8 P_9
                            exact x_join r51 H ⟨rfl, trivial⟩
                          ·
                            refine sim_p 18 (v := undef) (ei := [(137, .bool false)]) (d := (some 138)) wf (by kernel_rfl) ⟨rfl, trivial⟩ (by kernel_rfl) (by kernel_rfl) (fun _ => pf_s rfl rfl rfl) (fun P_18 => ?_)
                            refine sim_p 19 (ei := [(137, .bool false)]) (d := (some 139)) wf (by kernel_rfl) ⟨rfl, trivial⟩ (by kernel_rfl) (by kernel_rfl) (fun _ => pf_p tok rfl rfl rfl rfl) (fun P_19 => ?_)
                            refine sim_p 20 (ei := [(139, .bool false)]) (d := (some 10)) wf (by kernel_rfl) ⟨rfl, trivial⟩ (by kernel_rfl) (by kernel_rfl) (fun _ => pf_p tok rfl rfl rfl rfl) (fun P_20 => ?_)
                            refine sim_end wf ⟨P_20 _, P_19 _, P_18 _, P_17 _, P_16 _, P_15 _, P_14 _, P_13 _, P_12 _, P_11 _, P_10 _, P_9 _, P_8 _, P_7 _, P_6 _, P_5 _, P_4 _, P_3 _, P_2 _, P_1 _, P_0 _, trivial⟩ (by kernel_rfl) ?_
                            clear wf P_0 P_1 P_10 P_11 P_12 P_13 P_14 P_15 P_16 P_17 P_18 P_19 P_2 P_20 P_3 P_4 P_5 P_6 P_7 P_8 P_9
                            exact x_join false H ⟨rfl, trivial⟩
        ·
          refine w_gs (d := 37) rfl (fun hb => ?_) (fun hb => ?_)
          ·
            refine w_skip rfl rfl ?_
            refine w_skip rfl rfl ?_
            refine w_p tok rfl rfl rfl ?_
            refine w_jn () rfl ⟨?_, rfl, rfl, rfl, rfl, rfl, trivial⟩
            exact congrArg (fun b => some (Value.bool b)) (or_t hb)
          ·
            refine w_p tok rfl rfl rfl ?_
            refine w_p tok rfl rfl rfl ?_
            refine w_p tok rfl rfl rfl ?_
            refine w_jn () rfl ⟨?_, rfl, rfl, rfl, rfl, rfl, trivial⟩
            exact congrArg (fun b => some (Value.bool b)) (or_f hb)
      ·
        refine w_gs (d := 33) rfl (fun hb => ?_) (fun hb => ?_)
        ·
          refine w_skip rfl rfl ?_
          refine w_skip rfl rfl ?_
          refine w_p tok rfl rfl rfl ?_
          refine w_jn () rfl ⟨?_, rfl, rfl, rfl, rfl, rfl, trivial⟩
          exact congrArg (fun b => some (Value.bool b)) (or_t hb)
        ·
          refine w_p tok rfl rfl rfl ?_
          refine w_p tok rfl rfl rfl ?_
          refine w_p tok rfl rfl rfl ?_
          refine w_jn () rfl ⟨?_, rfl, rfl, rfl, rfl, rfl, trivial⟩
          exact congrArg (fun b => some (Value.bool b)) (or_f hb)
    ·
      refine w_gs (d := 28) rfl (fun hb => ?_) (fun hb => ?_)
      ·
        refine w_skip rfl rfl ?_
        refine w_skip rfl rfl ?_
        refine w_skip rfl rfl ?_
        refine w_p tok rfl rfl rfl ?_
        refine w_jn () rfl ⟨?_, rfl, rfl, rfl, rfl, rfl, trivial⟩
        exact congrArg (fun b => some (Value.bool b)) (or_t hb)
      ·
        refine w_p tok rfl rfl rfl ?_
        refine w_p tok rfl rfl rfl ?_
        refine w_p tok rfl rfl rfl ?_
        refine w_p tok rfl rfl rfl ?_
        refine w_jn () rfl ⟨?_, rfl, rfl, rfl, rfl, rfl, trivial⟩
        exact congrArg (fun b => some (Value.bool b)) (or_f hb)
  ·
    refine w_gif (d := 24) H rfl (fun H => ?_) (fun H => ?_)
    ·
      refine w_skip rfl rfl ?_
      refine w_skip rfl rfl ?_
      refine w_p tok rfl rfl rfl ?_
      exact w_jn true H ⟨rfl, rfl, rfl, rfl, rfl, rfl, trivial⟩
    ·
      refine w_p tok rfl rfl rfl ?_
      refine w_call ref23_Great_ok (ref23_Great_ref _ _ _ H) rfl rfl rfl rfl ?_
      rintro _ h54 ⟨r53, rfl, H⟩
      refine w_p tok rfl rfl rfl ?_
      exact w_jn r53 H ⟨rfl, rfl, rfl, rfl, rfl, rfl, trivial⟩

end Go.Q.Ya

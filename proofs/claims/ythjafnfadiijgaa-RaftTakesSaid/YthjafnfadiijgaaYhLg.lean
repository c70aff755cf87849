/- A part of the proof of statements of this seat: lemmas, no statement of their own. -/
import Derived.Test.YthjafnfadiijgaaYhTab
import Derived.Test.YthjafnfadiijgaaYhCo
-- squeezed
set_option linter.unusedVariables false
set_option maxRecDepth 100000
set_option maxHeartbeats 1000000
namespace Go.Q.Yh
/-- (*quaestor rlog.Log).Base -/
def rlog_Log_Base (p0 : Option Addr) (k : (Int × Int) → Heap → Prop) (h : Heap) : Prop :=
 if (p0.isNone) then (k (0, 0) h) else (∃ a1 : Addr, p0 = some a1 ∧ (∃ v2 : Int, cellH h a1 = some (.int .u64 v2) ∧ (∃ v3 : Int, cellH h (a1.add 1) = some (.int .u64 v3) ∧ (k (v2, v3) h))))

/-- (*quaestor rlog.Log).Last -/
def rlog_Log_Last (p0 : Option Addr) (k : (Int × Int) → Heap → Prop) (h : Heap) : Prop :=
 if (p0.isNone) then (k (0, 0) h) else (∃ a1 : Addr, p0 = some a1 ∧ (∃ v2 : Slc, cellH h (a1.add 2) = some (Slc.v v2) ∧ (∃ x3 : Int, x3 = (v2.len : Int) ∧ (if (decide (x3 > 0)) then (∃ v4 : Int, cellH h a1 = some (.int .u64 v4) ∧ (∃ v5 : Slc, cellH h (a1.add 2) = some (Slc.v v5) ∧ (∃ a6 : Addr, v5.a = some a6 ∧ (0 : Int) ≤ (IntKind.i64.wrap (x3 - 1)) ∧ (IntKind.i64.wrap (x3 - 1)) < (v5.len : Int) ∧ (∃ v7 : Int, cellH h (a6.add ((IntKind.i64.wrap (x3 - 1)).toNat * 2)) = some (.int .u64 v7) ∧ (k ((IntKind.u64.wrap (v4 + (IntKind.u64.wrap x3))), v7) h))))) else (∃ v8 : Int, cellH h a1 = some (.int .u64 v8) ∧ (∃ v9 : Int, cellH h (a1.add 1) = some (.int .u64 v9) ∧ (k (v8, v9) h)))))))

/-- (*quaestor rlog.Log).Term -/
def rlog_Log_Term (p0 : Option Addr) (p1 : Int) (k : (Int × Int) → Heap → Prop) (h : Heap) : Prop :=
 rlog_Log_Base p0 (fun (r1 : Int × Int) h2 => rlog_Log_Last p0 (fun (r3 : Int × Int) h4 => if (decide (p1 < r1.1)) then (k (0, 13) h4) else (if (decide (p1 > r3.1)) then (k (0, 6) h4) else (if (p1 == r1.1) then (k (r1.2, 0) h4) else (∃ a5 : Addr, p0 = some a5 ∧ (∃ v6 : Slc, cellH h4 (a5.add 2) = some (Slc.v v6) ∧ (∃ a7 : Addr, v6.a = some a7 ∧ (0 : Int) ≤ (IntKind.u64.wrap ((IntKind.u64.wrap (p1 - r1.1)) - 1)) ∧ (IntKind.u64.wrap ((IntKind.u64.wrap (p1 - r1.1)) - 1)) < (v6.len : Int) ∧ (∃ v8 : Int, cellH h4 (a7.add ((IntKind.u64.wrap ((IntKind.u64.wrap (p1 - r1.1)) - 1)).toNat * 2)) = some (.int .u64 v8) ∧ (k (v8, 0) h4)))))))) h2) h

/-- (*quaestor rlog.Log).Match -/
def rlog_Log_Match (p0 : Option Addr) (p1 : Int) (p2 : Int) (k : (Bool) → Heap → Prop) (h : Heap) : Prop :=
 rlog_Log_Term p0 p1 (fun (r1 : Int × Int) h2 => k ((r1.2 == 0) && (r1.1 == p2)) h2) h

/-- (*quaestor rlog.Log).Newer -/
def rlog_Log_Newer (p0 : Option Addr) (p1 : Int) (p2 : Int) (k : (Bool) → Heap → Prop) (h : Heap) : Prop :=
 rlog_Log_Last p0 (fun (r1 : Int × Int) h2 => k ((decide (p2 > r1.2)) || ((p2 == r1.2) && (decide (p1 ≥ r1.1)))) h2) h

/-- quaestor rlog.copied -/
def rlog_copied_l1b (t6_1 : Slc) (t7_1 : Int) (t3_1 : Slc) (t8_1 : Int) (k : (Slc) → Heap → Prop) (nx1 : (Slc × Int) → Heap → Prop) (h_1 : Heap) : Prop :=
 if (decide (t8_1 < t7_1)) then (∃ a1 : Addr, t6_1.a = some a1 ∧ (0 : Int) ≤ t8_1 ∧ t8_1 < (t6_1.len : Int) ∧ (∃ v2 : S_api_Entry, CellsAt h_1 (a1.add (t8_1.toNat * 2)) (S_api_Entry.cs v2) ∧ (∃ (b3 : Nat) (h4 : Heap), b3 = h_1.size ∧ h4 = h_1.push (.cells (S_api_Entry.cs (⟨0, (⟨none, 0, 0⟩ : Slc)⟩ : S_api_Entry)).toArray 65) ∧ (∃ h5 : Heap, WrsAt h4 (⟨b3, 0, none⟩ : Addr) 2 ∧ h5 = setsH h4 (⟨b3, 0, none⟩ : Addr) 0 (S_api_Entry.cs v2) ∧ (∃ v6 : Int, cellH h5 (⟨b3, 0, none⟩ : Addr) = some (.int .u64 v6) ∧ (∃ v7 : Slc, cellH h5 ((⟨b3, 0, none⟩ : Addr).add 1) = some (Slc.v v7) ∧ (slices_Clone_byte_byte v7 (fun (r8 : Slc) h9 => cellH h9 (⟨b3, 0, none⟩ : Addr) = some (.int .u64 v6) ∧ (∃ (b11 : Nat) (h12 : Heap), b11 = h9.size ∧ h12 = h9.push (.cells ((S_api_Entry.cs (⟨v6, r8⟩ : S_api_Entry))).toArray 65) ∧ (App 65 2 32 [.int .u64 0, .slice none 0 0] h12 t3_1 1 ((S_api_Entry.cs (⟨v6, r8⟩ : S_api_Entry))) (fun s13 h14 => nx1 (s13, (IntKind.i64.wrap (t8_1 + 1))) h14)))) h5))))))) else (k t3_1 h_1)
def rlog_copied_l1 (t6_1 : Slc) (t7_1 : Int) (i3 : Slc) (i8 : Int) (k : (Slc) → Heap → Prop) (h : Heap) : Prop :=
 ∃ (I : (Slc × Int) → Heap → Prop) (μ : (Slc × Int) → Heap → Nat), I (i3, i8) h ∧ ∀ (t3_1 : Slc) (t8_1 : Int) (h : Heap), I (t3_1, t8_1) h → rlog_copied_l1b t6_1 t7_1 t3_1 t8_1 k (fun s h' => I s h' ∧ μ s h' < μ (t3_1, t8_1) h) h
def rlog_copied (p0 : Slc) (k : (Slc) → Heap → Prop) (h : Heap) : Prop :=
 rlog_copied_l1 p0 (p0.len : Int) (⟨none, 0, 0⟩ : Slc) 0 k h

/-- quaestor rlog.New -/
def rlog_New (p0 : Int) (p1 : Int) (p2 : Slc) (k : (Option Addr) → Heap → Prop) (h : Heap) : Prop :=
 rlog_copied p2 (fun (r1 : Slc) h2 => ∃ (b3 : Nat) (h4 : Heap), b3 = h2.size ∧ h4 = h2.push (.cells (S_rlog_Log.cs (⟨p0, p1, r1⟩ : S_rlog_Log)).toArray 117) ∧ (k (some (⟨b3, 0, none⟩ : Addr)) h4)) h

/-- (*quaestor rlog.Log).Entries -/
def rlog_Log_Entries (p0 : Option Addr) (k : (Slc) → Heap → Prop) (h : Heap) : Prop :=
 if (p0.isNone) then (k (⟨none, 0, 0⟩ : Slc) h) else (∃ a1 : Addr, p0 = some a1 ∧ (∃ v2 : Slc, cellH h (a1.add 2) = some (Slc.v v2) ∧ (rlog_copied v2 (fun (r3 : Slc) h4 => k r3 h4) h)))

/-- (*quaestor rlog.Log).From -/
def rlog_Log_From (p0 : Option Addr) (p1 : Int) (p2 : Int) (k : (Slc × Int) → Heap → Prop) (h : Heap) : Prop :=
 if (p1 == 0) then (k ((⟨none, 0, 0⟩ : Slc), 1) h) else (rlog_Log_Term p0 (IntKind.u64.wrap (p1 - 1)) (fun (r1 : Int × Int) h2 => if (r1.2 != 0) then (k ((⟨none, 0, 0⟩ : Slc), r1.2) h2) else (if (p0.isNone) then (k ((⟨none, 0, 0⟩ : Slc), 0) h2) else (∃ a3 : Addr, p0 = some a3 ∧ (∃ v4 : Slc, cellH h2 (a3.add 2) = some (Slc.v v4) ∧ (∃ v5 : Int, cellH h2 a3 = some (.int .u64 v5) ∧ (∃ s6 : Slc, (0 : Int) ≤ (IntKind.u64.wrap ((IntKind.u64.wrap (p1 - 1)) - v5)) ∧ ((IntKind.u64.wrap ((IntKind.u64.wrap (p1 - 1)) - v5)) : Int) ≤ (v4.len : Int) ∧ ((v4.len : Int) : Int) ≤ (v4.cap : Int) ∧ (v4.cap : Int) ≤ (v4.cap : Int) ∧ s6 = subS v4 2 (IntKind.u64.wrap ((IntKind.u64.wrap (p1 - 1)) - v5)).toNat (v4.len : Int).toNat (v4.cap : Int).toNat ∧ (∃ s7 : Slc, (0 : Int) ≤ 0 ∧ (0 : Int) ≤ (if (if (s6.len : Int) < p2 then (s6.len : Int) else p2) > 0 then (if (s6.len : Int) < p2 then (s6.len : Int) else p2) else 0) ∧ ((if (if (s6.len : Int) < p2 then (s6.len : Int) else p2) > 0 then (if (s6.len : Int) < p2 then (s6.len : Int) else p2) else 0) : Int) ≤ (s6.cap : Int) ∧ (s6.cap : Int) ≤ (s6.cap : Int) ∧ s7 = subS s6 2 (0 : Int).toNat (if (if (s6.len : Int) < p2 then (s6.len : Int) else p2) > 0 then (if (s6.len : Int) < p2 then (s6.len : Int) else p2) else 0).toNat (s6.cap : Int).toNat ∧ (rlog_copied s7 (fun (r8 : Slc) h9 => k (r8, 0) h9) h2)))))))) h)

/-- (*quaestor rlog.Log).Append -/
def rlog_Log_Append_j3 (t0_3 : Option Addr) (t1_3 : Int) (t8_3 : Int) (t39_3 : Slc) (t40_3 : Int) (t41_3 : Int) (t10_3 : Slc) (k : (Int × Int) → Heap → Prop) (nx2 : (Slc × Int) → Heap → Prop) (h_3 : Heap) : Prop :=
 nx2 (t10_3, (IntKind.i64.wrap (t41_3 + 1))) h_3
def rlog_Log_Append_j4 (t0_4 : Option Addr) (t1_4 : Int) (t8_4 : Int) (t12_4 : Addr) (t39_4 : Slc) (t40_4 : Int) (t41_4 : Int) (t10_4 : Slc) (k : (Int × Int) → Heap → Prop) (nx2 : (Slc × Int) → Heap → Prop) (h_4 : Heap) : Prop :=
 ∃ v16 : S_api_Entry, CellsAt h_4 t12_4 (S_api_Entry.cs v16) ∧ (∃ (b17 : Nat) (h18 : Heap), b17 = h_4.size ∧ h18 = h_4.push (.cells ((S_api_Entry.cs v16)).toArray 65) ∧ (rlog_copied (⟨some ⟨b17, 0, none⟩, 1, 1⟩ : Slc) (fun (r19 : Slc) h20 => ∃ l23 : List Value, SlcAt h20 r19 l23 ∧ App 65 2 32 [.int .u64 0, .slice none 0 0] h20 t10_4 r19.len l23 (fun s21 h22 => rlog_Log_Append_j3 t0_4 t1_4 t8_4 t39_4 t40_4 t41_4 s21 k nx2 h22)) h18))
def rlog_Log_Append_l2b (t0_2 : Option Addr) (t1_2 : Int) (t8_2 : Int) (t39_2 : Slc) (t40_2 : Int) (t10_2 : Slc) (t41_2 : Int) (k : (Int × Int) → Heap → Prop) (nx2 : (Slc × Int) → Heap → Prop) (h_2 : Heap) : Prop :=
 if (decide (t41_2 < t40_2)) then (∃ a6 : Addr, t39_2.a = some a6 ∧ (0 : Int) ≤ t41_2 ∧ t41_2 < (t39_2.len : Int) ∧ (∃ v7 : S_api_Entry, CellsAt h_2 (a6.add (t41_2.toNat * 2)) (S_api_Entry.cs v7) ∧ (∃ (b8 : Nat) (h9 : Heap), b8 = h_2.size ∧ h9 = h_2.push (.cells (S_api_Entry.cs (⟨0, (⟨none, 0, 0⟩ : Slc)⟩ : S_api_Entry)).toArray 65) ∧ (∃ h10 : Heap, WrsAt h9 (⟨b8, 0, none⟩ : Addr) 2 ∧ h10 = setsH h9 (⟨b8, 0, none⟩ : Addr) 0 (S_api_Entry.cs v7) ∧ (∃ x11 : Int, x11 = (IntKind.u64.wrap ((IntKind.u64.wrap (t1_2 + (IntKind.u64.wrap t41_2))) + 1)) ∧ (∃ a12 : Addr, t0_2 = some a12 ∧ (∃ v13 : Int, cellH h10 a12 = some (.int .u64 v13) ∧ (if (decide (x11 ≤ v13)) then (rlog_Log_Append_j3 t0_2 t1_2 t8_2 t39_2 t40_2 t41_2 t10_2 k nx2 h10) else (∃ v14 : Int, cellH h10 a12 = some (.int .u64 v14) ∧ (∃ x15 : Int, x15 = (IntKind.i64.wrap (IntKind.u64.wrap ((IntKind.u64.wrap (x11 - v14)) - 1))) ∧ (if (decide (x15 < (t10_2.len : Int))) then (∃ a24 : Addr, t10_2.a = some a24 ∧ (0 : Int) ≤ x15 ∧ x15 < (t10_2.len : Int) ∧ (∃ v25 : Int, cellH h10 (a24.add (x15.toNat * 2)) = some (.int .u64 v25) ∧ (∃ v26 : Int, cellH h10 (⟨b8, 0, none⟩ : Addr) = some (.int .u64 v26) ∧ (if (v25 == v26) then (rlog_Log_Append_j3 t0_2 t1_2 t8_2 t39_2 t40_2 t41_2 t10_2 k nx2 h10) else (∃ s27 : Slc, (0 : Int) ≤ 0 ∧ (0 : Int) ≤ x15 ∧ (x15 : Int) ≤ x15 ∧ x15 ≤ (t10_2.cap : Int) ∧ s27 = subS t10_2 2 (0 : Int).toNat x15.toNat x15.toNat ∧ (rlog_Log_Append_j4 t0_2 t1_2 t8_2 (⟨b8, 0, none⟩ : Addr) t39_2 t40_2 t41_2 s27 k nx2 h10)))))) else (rlog_Log_Append_j4 t0_2 t1_2 t8_2 (⟨b8, 0, none⟩ : Addr) t39_2 t40_2 t41_2 t10_2 k nx2 h10)))))))))))) else (if (decide ((t10_2.len : Int) > 64)) then (k (0, 8) h_2) else (∃ a28 : Addr, t0_2 = some a28 ∧ (∃ h29 : Heap, WrH h_2 (a28.add 2) ∧ h29 = setH h_2 (a28.add 2) (Slc.v t10_2) ∧ (k (t8_2, 0) h29))))
def rlog_Log_Append_l2 (t0_2 : Option Addr) (t1_2 : Int) (t8_2 : Int) (t39_2 : Slc) (t40_2 : Int) (i10 : Slc) (i41 : Int) (k : (Int × Int) → Heap → Prop) (h : Heap) : Prop :=
 ∃ (I : (Slc × Int) → Heap → Prop) (μ : (Slc × Int) → Heap → Nat), I (i10, i41) h ∧ ∀ (t10_2 : Slc) (t41_2 : Int) (h : Heap), I (t10_2, t41_2) h → rlog_Log_Append_l2b t0_2 t1_2 t8_2 t39_2 t40_2 t10_2 t41_2 k (fun s h' => I s h' ∧ μ s h' < μ (t10_2, t41_2) h) h
def rlog_Log_Append_g1 (t0_1 : Option Addr) (t1_1 : Int) (t3_1 : Slc) (t29_1 : Bool) (k : (Int × Int) → Heap → Prop) (h_1 : Heap) : Prop :=
 if t29_1 then (k (0, 6) h_1) else (∃ x3 : Int, x3 = (IntKind.u64.wrap (t1_1 + (IntKind.u64.wrap (t3_1.len : Int)))) ∧ (∃ a4 : Addr, t0_1 = some a4 ∧ (∃ v5 : Slc, cellH h_1 (a4.add 2) = some (Slc.v v5) ∧ (rlog_Log_Append_l2 t0_1 t1_1 x3 t3_1 (t3_1.len : Int) v5 0 k h_1))))
def rlog_Log_Append (p0 : Option Addr) (p1 : Int) (p2 : Int) (p3 : Slc) (k : (Int × Int) → Heap → Prop) (h : Heap) : Prop :=
 if (p0.isNone) then (k (0, 1) h) else (∃ a1 : Addr, p0 = some a1 ∧ (∃ v2 : Int, cellH h a1 = some (.int .u64 v2) ∧ (if (decide (p1 ≥ v2)) then (rlog_Log_Match p0 p1 p2 (fun (r30 : Bool) h31 => rlog_Log_Append_g1 p0 p1 p3 (!r30) k h31) h) else (rlog_Log_Append_g1 p0 p1 p3 false k h))))

/-- slices.Clone   quaestor api.Entry quaestor api.Entry  -/
def slices_Clone_api_Entry_api_Entry (p0 : Slc) (k : (Slc) → Heap → Prop) (h : Heap) : Prop :=
 if (p0.a.isNone) then (k (⟨none, 0, 0⟩ : Slc) h) else (∃ (b1 : Nat) (h2 : Heap), b1 = h.size ∧ h2 = h.push (.cells ([]).toArray 65) ∧ (∃ l5 : List Value, SlcAt h2 p0 l5 ∧ App 65 2 32 [.int .u64 0, .slice none 0 0] h2 (⟨some ⟨b1, 0, none⟩, 0, 0⟩ : Slc) p0.len l5 (fun s3 h4 => k s3 h4)))

/-- (*quaestor rlog.Log).Cut -/
def rlog_Log_Cut (p0 : Option Addr) (p1 : Int) (k : (Int) → Heap → Prop) (h : Heap) : Prop :=
 if (p0.isNone) then (k 1 h) else (rlog_Log_Term p0 p1 (fun (r1 : Int × Int) h2 => if (r1.2 != 0) then (k r1.2 h2) else (∃ a3 : Addr, p0 = some a3 ∧ (∃ v4 : Slc, cellH h2 (a3.add 2) = some (Slc.v v4) ∧ (∃ v5 : Int, cellH h2 a3 = some (.int .u64 v5) ∧ (∃ s6 : Slc, (0 : Int) ≤ (IntKind.u64.wrap (p1 - v5)) ∧ ((IntKind.u64.wrap (p1 - v5)) : Int) ≤ (v4.len : Int) ∧ ((v4.len : Int) : Int) ≤ (v4.cap : Int) ∧ (v4.cap : Int) ≤ (v4.cap : Int) ∧ s6 = subS v4 2 (IntKind.u64.wrap (p1 - v5)).toNat (v4.len : Int).toNat (v4.cap : Int).toNat ∧ (slices_Clone_api_Entry_api_Entry s6 (fun (r7 : Slc) h8 => ∃ h9 : Heap, WrH h8 (a3.add 2) ∧ h9 = setH h8 (a3.add 2) (Slc.v r7) ∧ (∃ h10 : Heap, WrH h9 a3 ∧ h10 = setH h9 a3 (.int .u64 p1) ∧ (∃ h11 : Heap, WrH h10 (a3.add 1) ∧ h11 = setH h10 (a3.add 1) (.int .u64 r1.1) ∧ (k 0 h11)))) h2)))))) h)

theorem rlog_Log_Base_ok : CallOk Go.Proofs.Try.prog 37 := ⟨_, Go.Proofs.Try.func37, by kernel_rfl, by kernel_rfl⟩
theorem rlog_Log_Base_ref (p0 : Option Addr) (k : (Int × Int) → Heap → Prop) (h : Heap) (H : rlog_Log_Base p0 k h) : CallsH Go.Proofs.Try.prog 37 #[.pointer p0] h (fun v h' => ∃ r : Int × Int, v = .tuple #[.int .u64 r.1, .int .u64 r.2] ∧ k r h') := by
 refine f_enter (N := 14) Go.Proofs.Try.func37 rfl rfl rfl (fun w0 => ?_)
 unfold rlog_Log_Base at H
 refine c_weak [(0, .pointer p0)] ⟨rfl, trivial⟩ ?_
 refine c_seq (c_region ?_)
 iterate 2 refine wP tok ?_
 refine w_end (x_seq ?_)
 refine c_seq (c_seq (c_region ?_))
 iterate 2 refine wP tok ?_
 refine w_end (x_seq ?_)
 refine c_if H rfl (fun H => ?_) (fun H => ?_)
 ·
  refine c_seq (c_region ?_)
  iterate 2 refine wP tok ?_
  refine w_end (x_seq ?_)
  refine c_ret (x_tr ?_)
  exact x_ret _ rfl _ rfl ⟨(0, 0), rfl, H⟩
 ·
  refine c_skip (x_seq (c_seq ?_))
  refine c_draw (by kernel_rfl) (by kernel_rfl) ?_
  refine q_p tok rfl rfl rfl ?_
  obtain ⟨a1, ha1, H⟩ := H
  refine q_y (y_nil' rfl rfl ha1) rfl rfl ?_
  refine q_p tok rfl rfl rfl ?_
  obtain ⟨v2, hv2, H⟩ := H
  refine q_y (y_ld tok rfl rfl rfl rfl hv2) rfl rfl ?_
  refine q_p tok rfl rfl rfl ?_
  refine q_y (y_nil' rfl rfl ha1) rfl rfl ?_
  refine q_p tok rfl rfl rfl ?_
  obtain ⟨v3, hv3, H⟩ := H
  refine q_y (y_ld tok rfl rfl rfl rfl hv3) rfl rfl ?_
  iterate 2 refine q_p tok rfl rfl rfl ?_
  refine q_end ?_
  refine x_seq ?_
  refine c_weak [(2, .int .u64 v2), (3, .int .u64 v3)] ⟨rfl, rfl, trivial⟩ ?_
  refine c_ret ?_
  exact x_ret _ rfl _ rfl ⟨(v2, v3), rfl, H⟩

theorem rlog_Log_Last_ok : CallOk Go.Proofs.Try.prog 66 := ⟨_, Go.Proofs.Try.func66, by kernel_rfl, by kernel_rfl⟩
theorem rlog_Log_Last_ref (p0 : Option Addr) (k : (Int × Int) → Heap → Prop) (h : Heap) (H : rlog_Log_Last p0 k h) : CallsH Go.Proofs.Try.prog 66 #[.pointer p0] h (fun v h' => ∃ r : Int × Int, v = .tuple #[.int .u64 r.1, .int .u64 r.2] ∧ k r h') := by
 refine f_enter (N := 38) Go.Proofs.Try.func66 rfl rfl rfl (fun w0 => ?_)
 unfold rlog_Log_Last at H
 refine c_weak [(0, .pointer p0)] ⟨rfl, trivial⟩ ?_
 refine c_seq (c_region ?_)
 iterate 2 refine wP tok ?_
 refine w_end (x_seq ?_)
 refine c_seq (c_seq (c_region ?_))
 iterate 2 refine wP tok ?_
 refine w_end (x_seq ?_)
 refine c_if H rfl (fun H => ?_) (fun H => ?_)
 ·
  refine c_seq (c_region ?_)
  iterate 2 refine wP tok ?_
  refine w_end (x_seq ?_)
  refine c_ret (x_tr ?_)
  exact x_ret _ rfl _ rfl ⟨(0, 0), rfl, H⟩
 ·
  refine c_skip (x_seq ?_)
  refine c_seq (c_seq (c_region ?_))
  refine wP tok ?_
  obtain ⟨a1, ha1, H⟩ := H
  refine w_y (y_nil' rfl rfl ha1) rfl rfl ?_
  refine wP tok ?_
  obtain ⟨v2, hv2, H⟩ := H
  refine w_y (y_ld tok rfl rfl rfl rfl hv2) rfl rfl ?_
  refine wP tok ?_
  obtain ⟨x3, ex3, H⟩ := H
  refine w_pe tok rfl (congrArg (fun z => (.int .i64 z : Value)) ex3) rfl rfl ?_
  refine w_end (x_seq ?_)
  refine c_weak [(0, .pointer p0), (4, .int .i64 x3)] ⟨rfl, rfl, trivial⟩ ?_
  refine c_seq (c_region ?_)
  iterate 2 refine wP tok ?_
  refine w_end (x_seq ?_)
  refine c_if H rfl (fun H => ?_) (fun H => ?_)
  ·
   refine c_seq ?_
   refine c_draw (by kernel_rfl) (by kernel_rfl) ?_
   refine q_p tok rfl rfl rfl ?_
   refine q_y (y_nil' rfl rfl ha1) rfl rfl ?_
   refine q_p tok rfl rfl rfl ?_
   obtain ⟨v4, hv4, H⟩ := H
   refine q_y (y_ld tok rfl rfl rfl rfl hv4) rfl rfl ?_
   iterate 4 refine q_p tok rfl rfl rfl ?_
   refine q_y (y_nil' rfl rfl ha1) rfl rfl ?_
   refine q_p tok rfl rfl rfl ?_
   obtain ⟨v5, hv5, H⟩ := H
   refine q_y (y_ld tok rfl rfl rfl rfl hv5) rfl rfl ?_
   iterate 2 refine q_p tok rfl rfl rfl ?_
   obtain ⟨a6, ha6, la6, ua6, H⟩ := H
   refine q_y (y_ixa' tok rfl rfl ha6 rfl rfl rfl la6 ua6) rfl rfl ?_
   refine q_p tok rfl rfl rfl ?_
   obtain ⟨v7, hv7, H⟩ := H
   refine q_y (y_ld tok rfl rfl rfl rfl hv7) rfl rfl ?_
   iterate 2 refine q_p tok rfl rfl rfl ?_
   refine q_end ?_
   refine x_seq ?_
   refine c_weak [(2, .int .u64 (IntKind.u64.wrap (v4 + (IntKind.u64.wrap x3)))), (3, .int .u64 v7)] ⟨rfl, rfl, trivial⟩ ?_
   refine c_ret (x_tr ?_)
   exact x_ret _ rfl _ rfl ⟨((IntKind.u64.wrap (v4 + (IntKind.u64.wrap x3))), v7), rfl, H⟩
  ·
   refine c_skip (x_seq (c_seq ?_))
   refine c_draw (by kernel_rfl) (by kernel_rfl) ?_
   refine q_p tok rfl rfl rfl ?_
   refine q_y (y_nil' rfl rfl ha1) rfl rfl ?_
   refine q_p tok rfl rfl rfl ?_
   obtain ⟨v8, hv8, H⟩ := H
   refine q_y (y_ld tok rfl rfl rfl rfl hv8) rfl rfl ?_
   refine q_p tok rfl rfl rfl ?_
   refine q_y (y_nil' rfl rfl ha1) rfl rfl ?_
   refine q_p tok rfl rfl rfl ?_
   obtain ⟨v9, hv9, H⟩ := H
   refine q_y (y_ld tok rfl rfl rfl rfl hv9) rfl rfl ?_
   iterate 2 refine q_p tok rfl rfl rfl ?_
   refine q_end ?_
   refine x_seq ?_
   refine c_weak [(2, .int .u64 v8), (3, .int .u64 v9)] ⟨rfl, rfl, trivial⟩ ?_
   refine c_ret ?_
   exact x_ret _ rfl _ rfl ⟨(v8, v9), rfl, H⟩

theorem rlog_Log_Term_ok : CallOk Go.Proofs.Try.prog 60 := ⟨_, Go.Proofs.Try.func60, by kernel_rfl, by kernel_rfl⟩
theorem rlog_Log_Term_ref (p0 : Option Addr) (p1 : Int) (k : (Int × Int) → Heap → Prop) (h : Heap) (H : rlog_Log_Term p0 p1 k h) : CallsH Go.Proofs.Try.prog 60 #[.pointer p0, .int .u64 p1] h (fun v h' => ∃ r : Int × Int, v = .tuple #[.int .u64 r.1, .int .i64 r.2] ∧ k r h') := by
 refine f_enter (N := 44) Go.Proofs.Try.func60 rfl rfl rfl (fun w0 => ?_)
 unfold rlog_Log_Term at H
 refine c_weak [(0, .pointer p0), (1, .int .u64 p1)] ⟨rfl, rfl, trivial⟩ ?_
 refine c_seq (c_region ?_)
 iterate 2 refine wP tok ?_
 refine w_end (x_seq ?_)
 refine c_seq (c_region ?_)
 refine wP tok ?_
 refine w_call rlog_Log_Base_ok (rlog_Log_Base_ref _ _ _ H) rfl rfl rfl rfl ?_
 rintro _ h2 ⟨r1, rfl, H⟩
 iterate 5 refine wP tok ?_
 refine w_end (x_seq ?_)
 refine c_weak [(0, .pointer p0), (1, .int .u64 p1), (6, .int .u64 r1.1), (7, .int .u64 r1.2)] ⟨rfl, rfl, rfl, rfl, trivial⟩ ?_
 refine c_seq (c_region ?_)
 refine wP tok ?_
 refine w_call rlog_Log_Last_ok (rlog_Log_Last_ref _ _ _ H) rfl rfl rfl rfl ?_
 rintro _ h4 ⟨r3, rfl, H⟩
 iterate 5 refine wP tok ?_
 refine w_end (x_seq ?_)
 refine c_seq (c_block ?_)
 refine c_seq (c_region ?_)
 iterate 4 refine wP tok ?_
 refine w_end (x_seq ?_)
 refine c_weak [(0, .pointer p0), (1, .int .u64 p1), (6, .int .u64 r1.1), (7, .int .u64 r1.2), (8, .int .u64 r3.1), (20, .bool (decide (p1 < r1.1)))] ⟨rfl, rfl, rfl, rfl, rfl, rfl, trivial⟩ ?_
 refine c_if H rfl (fun H => ?_) (fun H => ?_)
 ·
  refine c_seq (c_region ?_)
  iterate 2 refine wP tok ?_
  refine w_end (x_seq (c_ret ?_))
  refine x_br ?_
  refine x_tr ?_
  exact x_ret _ rfl _ rfl ⟨(0, 13), rfl, H⟩
 ·
  refine c_seq (c_region ?_)
  iterate 4 refine wP tok ?_
  refine w_end (x_seq ?_)
  refine c_if H rfl (fun H => ?_) (fun H => ?_)
  ·
   refine c_seq (c_region ?_)
   iterate 2 refine wP tok ?_
   refine w_end (x_seq ?_)
   refine c_weak [(4, .int .u64 0), (5, .int .i64 6)] ⟨rfl, rfl, trivial⟩ ?_
   refine c_ret ?_
   refine x_br ?_
   refine x_tr ?_
   exact x_ret _ rfl _ rfl ⟨(0, 6), rfl, H⟩
  ·
   refine c_seq (c_region ?_)
   iterate 4 refine wP tok ?_
   refine w_end (x_seq ?_)
   refine c_weak [(0, .pointer p0), (1, .int .u64 p1), (6, .int .u64 r1.1), (7, .int .u64 r1.2), (28, .bool (p1 == r1.1))] ⟨rfl, rfl, rfl, rfl, rfl, trivial⟩ ?_
   refine c_if H rfl (fun H => ?_) (fun H => ?_)
   ·
    refine c_seq (c_region ?_)
    iterate 3 refine wP tok ?_
    refine w_end (x_seq (c_ret ?_))
    refine x_br ?_
    refine x_tr ?_
    exact x_ret _ rfl _ rfl ⟨(r1.2, 0), rfl, H⟩
   ·
    refine c_skip ?_
    refine x_blk ?_
    refine x_seq (c_seq (c_region ?_))
    refine wP tok ?_
    obtain ⟨a5, ha5, H⟩ := H
    refine w_y (y_nil' rfl rfl ha5) rfl rfl ?_
    refine wP tok ?_
    obtain ⟨v6, hv6, H⟩ := H
    refine w_y (y_ld tok rfl rfl rfl rfl hv6) rfl rfl ?_
    iterate 4 refine wP tok ?_
    obtain ⟨a7, ha7, la7, ua7, H⟩ := H
    refine w_y (y_ixa' tok rfl rfl ha7 rfl rfl rfl la7 ua7) rfl rfl ?_
    refine wP tok ?_
    obtain ⟨v8, hv8, H⟩ := H
    refine w_y (y_ld tok rfl rfl rfl rfl hv8) rfl rfl ?_
    iterate 2 refine wP tok ?_
    refine w_end (x_seq ?_)
    refine c_weak [(4, .int .u64 v8), (5, .int .i64 0)] ⟨rfl, rfl, trivial⟩ ?_
    refine c_ret ?_
    exact x_ret _ rfl _ rfl ⟨(v8, 0), rfl, H⟩

theorem rlog_Log_Match_ok : CallOk Go.Proofs.Try.prog 82 := ⟨_, Go.Proofs.Try.func82, by kernel_rfl, by kernel_rfl⟩
theorem rlog_Log_Match_ref (p0 : Option Addr) (p1 : Int) (p2 : Int) (k : (Bool) → Heap → Prop) (h : Heap) (H : rlog_Log_Match p0 p1 p2 k h) : CallsH Go.Proofs.Try.prog 82 #[.pointer p0, .int .u64 p1, .int .u64 p2] h (fun v h' => ∃ r : Bool, v = .bool r ∧ k r h') := by
 refine f_enter (N := 22) Go.Proofs.Try.func82 rfl rfl rfl (fun w0 => ?_)
 unfold rlog_Log_Match at H
 refine c_weak [(0, .pointer p0), (1, .int .u64 p1), (2, .int .u64 p2)] ⟨rfl, rfl, rfl, trivial⟩ ?_
 refine c_seq (c_region ?_)
 refine wP tok ?_
 refine w_end (x_seq ?_)
 refine c_seq (c_region ?_)
 iterate 2 refine wP tok ?_
 refine w_call rlog_Log_Term_ok (rlog_Log_Term_ref _ _ _ _ H) rfl rfl rfl rfl ?_
 rintro _ h2 ⟨r1, rfl, H⟩
 iterate 5 refine wP tok ?_
 refine w_end (x_seq ?_)
 refine c_weak [(2, .int .u64 p2), (7, .int .u64 r1.1), (8, .int .i64 r1.2)] ⟨rfl, rfl, rfl, trivial⟩ ?_
 refine c_seq (c_region ?_)
 iterate 3 refine wP tok ?_
 refine w_cutU 4 [(21, .bool ((r1.2 == 0) && (r1.1 == p2)))] ?_ ?_
 ·
  refine wP tok ?_
  refine w_end (x_seq (c_ret ?_))
  exact x_ret _ rfl _ rfl ⟨((r1.2 == 0) && (r1.1 == p2)), rfl, H⟩
 ·
  refine w_gs (d := 17) rfl (fun hb => ?_) (fun hb => ?_)
  ·
   iterate 4 refine wP tok ?_
   refine w_jn () rfl ⟨?_, trivial⟩
   exact congrArg (fun b => some (Value.bool b)) (and_t hb)
  ·
   iterate 3 refine w_skip rfl rfl ?_
   refine wP tok ?_
   refine w_jn () rfl ⟨?_, trivial⟩
   exact congrArg (fun b => some (Value.bool b)) (and_f hb)

theorem rlog_Log_Newer_ok : CallOk Go.Proofs.Try.prog 69 := ⟨_, Go.Proofs.Try.func69, by kernel_rfl, by kernel_rfl⟩
theorem rlog_Log_Newer_ref (p0 : Option Addr) (p1 : Int) (p2 : Int) (k : (Bool) → Heap → Prop) (h : Heap) (H : rlog_Log_Newer p0 p1 p2 k h) : CallsH Go.Proofs.Try.prog 69 #[.pointer p0, .int .u64 p1, .int .u64 p2] h (fun v h' => ∃ r : Bool, v = .bool r ∧ k r h') := by
 refine f_enter (N := 27) Go.Proofs.Try.func69 rfl rfl rfl (fun w0 => ?_)
 unfold rlog_Log_Newer at H
 refine c_weak [(0, .pointer p0), (1, .int .u64 p1), (2, .int .u64 p2)] ⟨rfl, rfl, rfl, trivial⟩ ?_
 refine c_seq (c_region ?_)
 refine wP tok ?_
 refine w_end (x_seq ?_)
 refine c_seq (c_region ?_)
 refine wP tok ?_
 refine w_call rlog_Log_Last_ok (rlog_Log_Last_ref _ _ _ H) rfl rfl rfl rfl ?_
 rintro _ h2 ⟨r1, rfl, H⟩
 iterate 5 refine wP tok ?_
 refine w_end (x_seq ?_)
 refine c_weak [(1, .int .u64 p1), (2, .int .u64 p2), (7, .int .u64 r1.1), (8, .int .u64 r1.2)] ⟨rfl, rfl, rfl, rfl, trivial⟩ ?_
 refine c_seq (c_region ?_)
 iterate 4 refine wP tok ?_
 refine w_cutU 9 [(26, .bool ((decide (p2 > r1.2)) || ((p2 == r1.2) && (decide (p1 ≥ r1.1)))))] ?_ ?_
 ·
  refine wP tok ?_
  refine w_end (x_seq (c_ret ?_))
  exact x_ret _ rfl _ rfl ⟨((decide (p2 > r1.2)) || ((p2 == r1.2) && (decide (p1 ≥ r1.1)))), rfl, H⟩
 ·
  refine w_gs (d := 17) rfl (fun hb => ?_) (fun hb => ?_)
  ·
   iterate 8 refine w_skip rfl rfl ?_
   refine wP tok ?_
   refine w_jn () rfl ⟨?_, trivial⟩
   exact congrArg (fun b => some (Value.bool b)) (or_t hb)
  ·
   iterate 4 refine wP tok ?_
   refine w_cutU 4 [(25, .bool ((p2 == r1.2) && (decide (p1 ≥ r1.1)))), (17, .bool false)] ?_ ?_
   ·
    refine wP tok ?_
    refine w_jn () rfl ⟨?_, trivial⟩
    exact congrArg (fun b => some (Value.bool b)) (or_f hb)
   ·
    refine w_gs (d := 21) rfl (fun hb => ?_) (fun hb => ?_)
    ·
     iterate 4 refine wP tok ?_
     refine w_jn () rfl ⟨?_, rfl, trivial⟩
     exact congrArg (fun b => some (Value.bool b)) (and_t hb)
    ·
     iterate 3 refine w_skip rfl rfl ?_
     refine wP tok ?_
     refine w_jn () rfl ⟨?_, rfl, trivial⟩
     exact congrArg (fun b => some (Value.bool b)) (and_f hb)

theorem rlog_copied_ok : CallOk Go.Proofs.Try.prog 63 := ⟨_, Go.Proofs.Try.func63, by kernel_rfl, by kernel_rfl⟩
theorem rlog_copied_ref (p0 : Slc) (k : (Slc) → Heap → Prop) (h : Heap) (H : rlog_copied p0 k h) : CallsH Go.Proofs.Try.prog 63 #[Slc.v p0] h (fun v h' => ∃ r : Slc, v = Slc.v r ∧ k r h') := by
 refine f_enter (N := 23) Go.Proofs.Try.func63 rfl rfl rfl (fun w0 => ?_)
 unfold rlog_copied at H
 refine c_weak [(0, Slc.v p0)] ⟨rfl, trivial⟩ ?_
 refine c_seq (c_region ?_)
 refine wP tok ?_
 refine w_end (x_seq ?_)
 refine c_seq (c_region ?_)
 refine wP tok ?_
 refine w_end (x_seq ?_)
 refine c_seq (c_seq (c_region ?_))
 iterate 3 refine wP tok ?_
 refine w_end (x_seq (c_block ?_))
 obtain ⟨I1, μ1, H0, HI⟩ := H
 refine c_loop (σ := Slc × Int) (fun (s : Slc × Int) => [(3, Slc.v s.1), (8, .int .i64 s.2), (6, Slc.v p0), (7, .int .i64 (p0.len : Int))]) I1 μ1 ((⟨none, 0, 0⟩ : Slc), 0) H0 ⟨rfl, rfl, rfl, rfl, trivial⟩ ?_
 rintro ⟨t3_1, t8_1⟩ h_1 H
 replace H := HI t3_1 t8_1 h_1 H
 unfold rlog_copied_l1b at H
 refine c_weak [(3, Slc.v t3_1), (8, .int .i64 t8_1), (6, Slc.v p0), (7, .int .i64 (p0.len : Int))] ⟨rfl, rfl, rfl, rfl, trivial⟩ ?_
 refine c_seq (c_region ?_)
 refine wP tok ?_
 refine w_end (x_seq (c_seq ?_))
 refine c_if H rfl (fun H => ?_) (fun H => ?_)
 ·
  refine c_skip (x_seq ?_)
  refine c_seq (c_block ?_)
  refine c_seq (c_region ?_)
  obtain ⟨a1, ha1, la1, ua1, H⟩ := H
  refine w_y (y_ixa' tok rfl rfl ha1 rfl rfl rfl la1 ua1) rfl rfl ?_
  obtain ⟨v2, hv2, H⟩ := H
  refine w_y (y_lda tok rfl rfl rfl rfl rfl hv2) rfl rfl ?_
  obtain ⟨b3, h4, eb3, eh4, H⟩ := H
  refine w_h (h_alloc tok rfl rfl eb3 eh4) rfl rfl ?_
  obtain ⟨h5, wh5, eh5, H⟩ := H
  refine w_h (h_sts tok rfl rfl rfl rfl rfl (oneC (by kernel_rfl)) wh5 eh5) rfl rfl ?_
  refine w_end (x_seq ?_)
  refine c_sim [(3, Slc.v t3_1), (5, .pointer (some (⟨b3, 0, none⟩ : Addr))), (6, Slc.v p0), (7, .int .i64 (p0.len : Int)), (8, .int .i64 t8_1)] (by kernel_rfl) (by kernel_rfl) ⟨rfl, rfl, rfl, rfl, rfl, trivial⟩ (fun wf => ?_)
  refine sQ 0 [(3, Slc.v t3_1)] (some 12) tok wf ⟨rfl, trivial⟩ (fun P_0 => ?_)
  refine sQ 1 [(5, .pointer (some (⟨b3, 0, none⟩ : Addr)))] (some 13) tok wf ⟨rfl, trivial⟩ (fun P_1 => ?_)
  obtain ⟨v6, hv6, H⟩ := H
  refine sL 2 [(13, .pointer (some (⟨b3, 0, none⟩ : Addr)))] (some 14) wf ⟨rfl, trivial⟩ (pf_y rfl rfl rfl (y_ld tok rfl rfl rfl rfl hv6)) (fun P_2 => ?_)
  refine sQ 3 [(5, .pointer (some (⟨b3, 0, none⟩ : Addr)))] (some 15) tok wf ⟨rfl, trivial⟩ (fun P_3 => ?_)
  obtain ⟨v7, hv7, H⟩ := H
  refine sL 4 [(15, .pointer (some ((⟨b3, 0, none⟩ : Addr).add 1)))] (some 16) wf ⟨rfl, trivial⟩ (pf_y rfl rfl rfl (y_ld tok rfl rfl rfl rfl hv7)) (fun P_4 => ?_)
  refine sim_c 5 [3, 4] [3, 4] (ei := [(16, Slc.v v7)]) slices_Clone_byte_byte_ok (slices_Clone_byte_byte_ref _ _ _ H) wf ⟨P_4, P_3 _, P_2, P_1 _, P_0 _, trivial⟩ (by kernel_rfl) ⟨rfl, trivial⟩ (by kernel_rfl) rfl rfl rfl rfl rfl ?_
  rintro _ h9 ⟨r8, rfl, H⟩
  obtain ⟨hy10, H⟩ := H
  refine sim_re (x := ⟨2, .int .u64 v6, [(13, .pointer (some (⟨b3, 0, none⟩ : Addr)))]⟩) (pf_y rfl rfl rfl (y_ld tok rfl rfl rfl rfl hy10)) (fun P_2 => ?_)
  refine sP 6 [(14, .int .u64 v6), (17, Slc.v r8)] (some 18) wf ⟨rfl, rfl, trivial⟩ (fun _ => pf_y rfl rfl rfl (y_build tok rfl rfl rfl rfl rfl)) (fun P_6 => ?_)
  obtain ⟨b11, h12, eb11, eh12, H⟩ := H
  refine sim_h 7 [1, 2, 3, 4, 5, 6] [1, 2, 3, 4, 6] (ei := [(18, .agg (S_api_Entry.cs (⟨v6, r8⟩ : S_api_Entry)).toArray)]) wf ⟨P_6 _, trivial, trivial, P_2, P_1 _, P_0 _, trivial⟩ (by kernel_rfl) ⟨rfl, trivial⟩ (by kernel_rfl) rfl rfl rfl (h_bs tok rfl rfl rfl rfl rfl rfl rfl eb11 eh12) ?_
  refine sim_a 8 [0, 1, 2, 3, 4, 5, 6, 7] [0, 1, 2, 3, 4, 6] (ei := [(12, Slc.v t3_1), (19, Slc.v (⟨some ⟨b11, 0, none⟩, 1, 1⟩ : Slc))]) wf ⟨trivial, trivial, trivial, trivial, trivial, P_0 _, trivial⟩ (by kernel_rfl) ⟨rfl, rfl, trivial⟩ (by kernel_rfl) rfl rfl rfl (a_app (s := t3_1) (r := (⟨some ⟨b11, 0, none⟩, 1, 1⟩ : Slc)) tok rfl rfl rfl rfl rfl (slcAt_push eb11 eh12) H) ?_
  rintro _ h14 ⟨s13, rfl, H⟩
  refine sQ 9 [(20, Slc.v s13)] (some 3) tok wf ⟨rfl, trivial⟩ (fun P_9 => ?_)
  refine sim_end wf ⟨P_9 _, trivial, trivial, trivial, trivial, trivial, trivial, trivial⟩ (by kernel_rfl) ?_
  clear wf P_0 P_1 P_2 P_3 P_4 P_6 P_9
  refine x_blk ?_
  refine x_seq ?_
  refine c_weak [(3, Slc.v s13), (6, Slc.v p0), (7, .int .i64 (p0.len : Int)), (8, .int .i64 t8_1)] ⟨rfl, rfl, rfl, rfl, trivial⟩ ?_
  refine c_region ?_
  iterate 2 refine wP tok ?_
  refine w_end ?_
  exact x_join (s13, (IntKind.i64.wrap (t8_1 + 1))) H ⟨rfl, rfl, rfl, rfl, trivial⟩
 ·
  refine c_exit ?_
  refine x_te (x_te ?_)
  refine x_bh ?_
  refine x_seq (c_seq (c_region ?_))
  iterate 2 refine wP tok ?_
  refine w_end (x_seq (c_ret ?_))
  exact x_ret _ rfl _ rfl ⟨t3_1, rfl, H⟩

theorem rlog_New_ok : CallOk Go.Proofs.Try.prog 39 := ⟨_, Go.Proofs.Try.func39, by kernel_rfl, by kernel_rfl⟩
theorem rlog_New_ref (p0 : Int) (p1 : Int) (p2 : Slc) (k : (Option Addr) → Heap → Prop) (h : Heap) (H : rlog_New p0 p1 p2 k h) : CallsH Go.Proofs.Try.prog 39 #[.int .u64 p0, .int .u64 p1, Slc.v p2] h (fun v h' => ∃ r : Option Addr, v = .pointer r ∧ k r h') := by
 refine f_enter (N := 13) Go.Proofs.Try.func39 rfl rfl rfl (fun w0 => ?_)
 unfold rlog_New at H
 refine c_weak [(0, .int .u64 p0), (1, .int .u64 p1), (2, Slc.v p2)] ⟨rfl, rfl, rfl, trivial⟩ ?_
 refine c_seq (c_region ?_)
 refine wP tok ?_
 refine w_end (x_seq ?_)
 refine c_seq (c_region ?_)
 iterate 3 refine wP tok ?_
 refine w_call rlog_copied_ok (rlog_copied_ref _ _ _ H) rfl rfl rfl rfl ?_
 rintro _ h2 ⟨r1, rfl, H⟩
 refine w_y (y_build tok rfl rfl rfl rfl rfl) rfl rfl ?_
 obtain ⟨b3, h4, eb3, eh4, H⟩ := H
 refine w_h (h_box rfl rfl eb3 eh4) rfl rfl ?_
 refine wP tok ?_
 refine w_end (x_seq ?_)
 refine c_weak [(6, .pointer (some (⟨b3, 0, none⟩ : Addr)))] ⟨rfl, trivial⟩ ?_
 refine c_ret ?_
 exact x_ret _ rfl _ rfl ⟨(some (⟨b3, 0, none⟩ : Addr)), rfl, H⟩

theorem rlog_Log_Entries_ok : CallOk Go.Proofs.Try.prog 40 := ⟨_, Go.Proofs.Try.func40, by kernel_rfl, by kernel_rfl⟩
theorem rlog_Log_Entries_ref (p0 : Option Addr) (k : (Slc) → Heap → Prop) (h : Heap) (H : rlog_Log_Entries p0 k h) : CallsH Go.Proofs.Try.prog 40 #[.pointer p0] h (fun v h' => ∃ r : Slc, v = Slc.v r ∧ k r h') := by
 refine f_enter (N := 10) Go.Proofs.Try.func40 rfl rfl rfl (fun w0 => ?_)
 unfold rlog_Log_Entries at H
 refine c_weak [(0, .pointer p0)] ⟨rfl, trivial⟩ ?_
 refine c_seq (c_region ?_)
 refine wP tok ?_
 refine w_end (x_seq ?_)
 refine c_seq (c_seq (c_region ?_))
 iterate 2 refine wP tok ?_
 refine w_end (x_seq ?_)
 refine c_if H rfl (fun H => ?_) (fun H => ?_)
 ·
  refine c_seq (c_region ?_)
  refine wP tok ?_
  refine w_end (x_seq ?_)
  refine c_ret (x_tr ?_)
  exact x_ret _ rfl _ rfl ⟨(⟨none, 0, 0⟩ : Slc), rfl, H⟩
 ·
  refine c_skip (x_seq ?_)
  refine c_seq (c_region ?_)
  refine wP tok ?_
  obtain ⟨a1, ha1, H⟩ := H
  refine w_y (y_nil' rfl rfl ha1) rfl rfl ?_
  refine wP tok ?_
  obtain ⟨v2, hv2, H⟩ := H
  refine w_y (y_ld tok rfl rfl rfl rfl hv2) rfl rfl ?_
  refine w_call rlog_copied_ok (rlog_copied_ref _ _ _ H) rfl rfl rfl rfl ?_
  rintro _ h4 ⟨r3, rfl, H⟩
  refine wP tok ?_
  refine w_end (x_seq ?_)
  refine c_weak [(2, Slc.v r3)] ⟨rfl, trivial⟩ ?_
  refine c_ret ?_
  exact x_ret _ rfl _ rfl ⟨r3, rfl, H⟩

theorem rlog_Log_From_ok : CallOk Go.Proofs.Try.prog 61 := ⟨_, Go.Proofs.Try.func61, by kernel_rfl, by kernel_rfl⟩
theorem rlog_Log_From_ref (p0 : Option Addr) (p1 : Int) (p2 : Int) (k : (Slc × Int) → Heap → Prop) (h : Heap) (H : rlog_Log_From p0 p1 p2 k h) : CallsH Go.Proofs.Try.prog 61 #[.pointer p0, .int .u64 p1, .int .i64 p2] h (fun v h' => ∃ r : Slc × Int, v = .tuple #[Slc.v r.1, .int .i64 r.2] ∧ k r h') := by
 refine f_enter (N := 45) Go.Proofs.Try.func61 rfl rfl rfl (fun w0 => ?_)
 unfold rlog_Log_From at H
 refine c_weak [(0, .pointer p0), (1, .int .u64 p1), (2, .int .i64 p2)] ⟨rfl, rfl, rfl, trivial⟩ ?_
 refine c_seq (c_region ?_)
 iterate 2 refine wP tok ?_
 refine w_end (x_seq ?_)
 refine c_seq (c_seq (c_region ?_))
 iterate 2 refine wP tok ?_
 refine w_end (x_seq ?_)
 refine c_if H rfl (fun H => ?_) (fun H => ?_)
 ·
  refine c_seq (c_region ?_)
  iterate 2 refine wP tok ?_
  refine w_end (x_seq ?_)
  refine c_ret (x_tr ?_)
  exact x_ret _ rfl _ rfl ⟨((⟨none, 0, 0⟩ : Slc), 1), rfl, H⟩
 ·
  refine c_skip (x_seq ?_)
  refine c_seq (c_seq (c_region ?_))
  iterate 3 refine wP tok ?_
  refine w_call rlog_Log_Term_ok (rlog_Log_Term_ref _ _ _ _ H) rfl rfl rfl rfl ?_
  rintro _ h2 ⟨r1, rfl, H⟩
  iterate 5 refine wP tok ?_
  refine w_end (x_seq ?_)
  refine c_weak [(0, .pointer p0), (1, .int .u64 p1), (2, .int .i64 p2), (9, .int .i64 r1.2)] ⟨rfl, rfl, rfl, rfl, trivial⟩ ?_
  refine c_seq (c_region ?_)
  iterate 2 refine wP tok ?_
  refine w_end (x_seq ?_)
  refine c_if H rfl (fun H => ?_) (fun H => ?_)
  ·
   refine c_seq (c_region ?_)
   iterate 3 refine wP tok ?_
   refine w_end (x_seq ?_)
   refine c_weak [(6, Slc.v (⟨none, 0, 0⟩ : Slc)), (7, .int .i64 r1.2)] ⟨rfl, rfl, trivial⟩ ?_
   refine c_ret (x_tr ?_)
   exact x_ret _ rfl _ rfl ⟨((⟨none, 0, 0⟩ : Slc), r1.2), rfl, H⟩
  ·
   refine c_skip (x_seq ?_)
   refine c_seq (c_seq (c_region ?_))
   iterate 2 refine wP tok ?_
   refine w_end (x_seq ?_)
   refine c_if H rfl (fun H => ?_) (fun H => ?_)
   ·
    refine c_seq (c_region ?_)
    iterate 2 refine wP tok ?_
    refine w_end (x_seq ?_)
    refine c_weak [(6, Slc.v (⟨none, 0, 0⟩ : Slc)), (7, .int .i64 0)] ⟨rfl, rfl, trivial⟩ ?_
    refine c_ret (x_tr ?_)
    exact x_ret _ rfl _ rfl ⟨((⟨none, 0, 0⟩ : Slc), 0), rfl, H⟩
   ·
    refine c_skip (x_seq (c_seq ?_))
    refine c_draw (by kernel_rfl) (by kernel_rfl) ?_
    refine q_p tok rfl rfl rfl ?_
    obtain ⟨a3, ha3, H⟩ := H
    refine q_y (y_nil' rfl rfl ha3) rfl rfl ?_
    refine q_p tok rfl rfl rfl ?_
    obtain ⟨v4, hv4, H⟩ := H
    refine q_y (y_ld tok rfl rfl rfl rfl hv4) rfl rfl ?_
    iterate 3 refine q_p tok rfl rfl rfl ?_
    refine q_y (y_nil' rfl rfl ha3) rfl rfl ?_
    refine q_p tok rfl rfl rfl ?_
    obtain ⟨v5, hv5, H⟩ := H
    refine q_y (y_ld tok rfl rfl rfl rfl hv5) rfl rfl ?_
    refine q_p tok rfl rfl rfl ?_
    obtain ⟨s6, ps6, qs6, rs6, ts6, es6, H⟩ := H
    refine q_ye (y_sl (s := v4) (L := (IntKind.u64.wrap ((IntKind.u64.wrap (p1 - 1)) - v5))) (H := (v4.len : Int)) (M := (v4.cap : Int)) tok rfl rfl rfl rfl rfl rfl rfl (by simp) ps6 qs6 rs6 ts6) (congrArg Slc.v es6) rfl rfl ?_
    refine q_p tok rfl rfl rfl ?_
    refine q_end ?_
    refine x_seq ?_
    refine c_weak [(2, .int .i64 p2), (10, Slc.v s6)] ⟨rfl, rfl, trivial⟩ ?_
    refine c_seq (c_region ?_)
    iterate 6 refine wP tok ?_
    obtain ⟨s7, ps7, qs7, rs7, ts7, es7, H⟩ := H
    refine w_ye (y_sl (s := s6) (L := 0) (H := (if (if (s6.len : Int) < p2 then (s6.len : Int) else p2) > 0 then (if (s6.len : Int) < p2 then (s6.len : Int) else p2) else 0)) (M := (s6.cap : Int)) tok rfl rfl rfl rfl rfl rfl rfl (by simp) ps7 qs7 rs7 ts7) (congrArg Slc.v es7) rfl rfl ?_
    refine w_call rlog_copied_ok (rlog_copied_ref _ _ _ H) rfl rfl rfl rfl ?_
    rintro _ h9 ⟨r8, rfl, H⟩
    iterate 2 refine wP tok ?_
    refine w_end (x_seq ?_)
    refine c_weak [(6, Slc.v r8), (7, .int .i64 0)] ⟨rfl, rfl, trivial⟩ ?_
    refine c_ret ?_
    exact x_ret _ rfl _ rfl ⟨(r8, 0), rfl, H⟩

theorem rlog_Log_Append_ok : CallOk Go.Proofs.Try.prog 73 := ⟨_, Go.Proofs.Try.func73, by kernel_rfl, by kernel_rfl⟩
theorem rlog_Log_Append_ref (p0 : Option Addr) (p1 : Int) (p2 : Int) (p3 : Slc) (k : (Int × Int) → Heap → Prop) (h : Heap) (H : rlog_Log_Append p0 p1 p2 p3 k h) : CallsH Go.Proofs.Try.prog 73 #[.pointer p0, .int .u64 p1, .int .u64 p2, Slc.v p3] h (fun v h' => ∃ r : Int × Int, v = .tuple #[.int .u64 r.1, .int .i64 r.2] ∧ k r h') := by
 refine f_enter (N := 95) Go.Proofs.Try.func73 rfl rfl rfl (fun w0 => ?_)
 unfold rlog_Log_Append at H
 refine c_weak [(0, .pointer p0), (1, .int .u64 p1), (2, .int .u64 p2), (3, Slc.v p3)] ⟨rfl, rfl, rfl, rfl, trivial⟩ ?_
 refine c_seq (c_region ?_)
 iterate 2 refine wP tok ?_
 refine w_end (x_seq ?_)
 refine c_scope ?_
 refine c_seq (c_seq (c_region ?_))
 iterate 2 refine wP tok ?_
 refine w_end (x_seq ?_)
 refine c_if H rfl (fun H => ?_) (fun H => ?_)
 ·
  refine c_seq (c_region ?_)
  iterate 2 refine wP tok ?_
  refine w_end (x_seq ?_)
  refine c_ret (x_tr ?_)
  refine x_sr ?_
  exact x_ret _ rfl _ rfl ⟨(0, 1), rfl, H⟩
 ·
  refine c_skip (x_seq ?_)
  refine c_seq (c_seq (c_region ?_))
  iterate 2 refine wP tok ?_
  obtain ⟨a1, ha1, H⟩ := H
  refine w_y (y_nil' rfl rfl ha1) rfl rfl ?_
  refine wP tok ?_
  obtain ⟨v2, hv2, H⟩ := H
  refine w_y (y_ld tok rfl rfl rfl rfl hv2) rfl rfl ?_
  iterate 2 refine wP tok ?_
  refine w_cut 6 (α := Bool) (fun (s : Bool) => [(29, .bool s), (0, .pointer p0), (1, .int .u64 p1), (3, Slc.v p3)]) (fun (s : Bool) h => rlog_Log_Append_g1 p0 p1 p3 s k h) ?_ ?_
  ·
   rintro t29_1 h_1 H
   replace H : rlog_Log_Append_g1 p0 p1 p3 t29_1 k h_1 := H
   unfold rlog_Log_Append_g1 at H
   refine w_weak [(29, .bool t29_1), (0, .pointer p0), (1, .int .u64 p1), (3, Slc.v p3)] ⟨rfl, rfl, rfl, rfl, trivial⟩ ?_
   refine w_end (x_seq ?_)
   refine c_if H rfl (fun H => ?_) (fun H => ?_)
   ·
    refine c_seq (c_region ?_)
    iterate 2 refine wP tok ?_
    refine w_end (x_seq ?_)
    refine c_ret (x_tr ?_)
    refine x_sr ?_
    exact x_ret _ rfl _ rfl ⟨(0, 6), rfl, H⟩
   ·
    refine c_skip (x_seq ?_)
    refine c_seq (c_region ?_)
    iterate 5 refine wP tok ?_
    obtain ⟨x3, ex3, H⟩ := H
    refine w_pe tok rfl (congrArg (fun z => (.int .u64 z : Value)) ex3) rfl rfl ?_
    refine w_end (x_seq ?_)
    refine c_seq (c_region ?_)
    refine wP tok ?_
    obtain ⟨a4, ha4, H⟩ := H
    refine w_y (y_nil' rfl rfl ha4) rfl rfl ?_
    refine wP tok ?_
    obtain ⟨v5, hv5, H⟩ := H
    refine w_y (y_ld tok rfl rfl rfl rfl hv5) rfl rfl ?_
    refine wP tok ?_
    refine w_end (x_seq ?_)
    refine c_weak [(0, .pointer p0), (1, .int .u64 p1), (3, Slc.v p3), (8, .int .u64 x3), (10, Slc.v v5)] ⟨rfl, rfl, rfl, rfl, rfl, trivial⟩ ?_
    refine c_seq ?_
    refine c_label ?_
    refine x_seq (c_seq ?_)
    refine c_seq (c_region ?_)
    iterate 3 refine wP tok ?_
    refine w_end (x_seq (c_block ?_))
    obtain ⟨I2, μ2, H0, HI⟩ := H
    refine c_loop (σ := Slc × Int) (fun (s : Slc × Int) => [(10, Slc.v s.1), (41, .int .i64 s.2), (0, .pointer p0), (1, .int .u64 p1), (8, .int .u64 x3), (39, Slc.v p3), (40, .int .i64 (p3.len : Int))]) I2 μ2 (v5, 0) H0 ⟨rfl, rfl, rfl, rfl, rfl, rfl, rfl, trivial⟩ ?_
    rintro ⟨t10_2, t41_2⟩ h_2 H
    replace H := HI t10_2 t41_2 h_2 H
    unfold rlog_Log_Append_l2b at H
    refine c_weak [(10, Slc.v t10_2), (41, .int .i64 t41_2), (0, .pointer p0), (1, .int .u64 p1), (8, .int .u64 x3), (39, Slc.v p3), (40, .int .i64 (p3.len : Int))] ⟨rfl, rfl, rfl, rfl, rfl, rfl, rfl, trivial⟩ ?_
    refine c_seq (c_region ?_)
    refine wP tok ?_
    refine w_end (x_seq (c_seq ?_))
    refine c_if H rfl (fun H => ?_) (fun H => ?_)
    ·
     refine c_skip (x_seq ?_)
     refine c_seqJ (α := Slc) (fun (s : Slc) => [(10, Slc.v s), (0, .pointer p0), (1, .int .u64 p1), (8, .int .u64 x3), (39, Slc.v p3), (40, .int .i64 (p3.len : Int)), (41, .int .i64 t41_2)]) (fun (s : Slc) h => rlog_Log_Append_j3 p0 p1 x3 p3 (p3.len : Int) t41_2 s k (fun s h' => I2 s h' ∧ μ2 s h' < μ2 (t10_2, t41_2) h_2) h) ?_ ?_
     ·
      rintro t10_3 h_3 H
      replace H : rlog_Log_Append_j3 p0 p1 x3 p3 (p3.len : Int) t41_2 t10_3 k (fun s h' => I2 s h' ∧ μ2 s h' < μ2 (t10_2, t41_2) h_2) h_3 := H
      unfold rlog_Log_Append_j3 at H
      refine c_weak [(10, Slc.v t10_3), (0, .pointer p0), (1, .int .u64 p1), (8, .int .u64 x3), (39, Slc.v p3), (40, .int .i64 (p3.len : Int)), (41, .int .i64 t41_2)] ⟨rfl, rfl, rfl, rfl, rfl, rfl, rfl, trivial⟩ ?_
      refine c_region ?_
      iterate 2 refine wP tok ?_
      refine w_end ?_
      exact x_join (t10_3, (IntKind.i64.wrap (t41_2 + 1))) H ⟨rfl, rfl, rfl, rfl, rfl, rfl, rfl, trivial⟩
     ·
      refine c_block (c_seq (c_region ?_))
      refine wP tok ?_
      obtain ⟨a6, ha6, la6, ua6, H⟩ := H
      refine w_y (y_ixa' tok rfl rfl ha6 rfl rfl rfl la6 ua6) rfl rfl ?_
      obtain ⟨v7, hv7, H⟩ := H
      refine w_y (y_lda tok rfl rfl rfl rfl rfl hv7) rfl rfl ?_
      obtain ⟨b8, h9, eb8, eh9, H⟩ := H
      refine w_h (h_alloc tok rfl rfl eb8 eh9) rfl rfl ?_
      refine wP tok ?_
      obtain ⟨h10, wh10, eh10, H⟩ := H
      refine w_h (h_sts tok rfl rfl rfl rfl rfl (oneC (by kernel_rfl)) wh10 eh10) rfl rfl ?_
      refine w_end (x_seq ?_)
      refine c_seq (c_region ?_)
      iterate 5 refine wP tok ?_
      obtain ⟨x11, ex11, H⟩ := H
      refine w_pe tok rfl (congrArg (fun z => (.int .u64 z : Value)) ex11) rfl rfl ?_
      refine w_end (x_seq ?_)
      refine c_weak [(10, Slc.v t10_2), (41, .int .i64 t41_2), (0, .pointer p0), (1, .int .u64 p1), (8, .int .u64 x3), (39, Slc.v p3), (40, .int .i64 (p3.len : Int)), (12, .pointer (some (⟨b8, 0, none⟩ : Addr))), (13, .int .u64 x11)] ⟨rfl, rfl, rfl, rfl, rfl, rfl, rfl, rfl, rfl, trivial⟩ ?_
      refine c_seq (c_seq (c_region ?_))
      iterate 2 refine wP tok ?_
      obtain ⟨a12, ha12, H⟩ := H
      refine w_y (y_nil' rfl rfl ha12) rfl rfl ?_
      refine wP tok ?_
      obtain ⟨v13, hv13, H⟩ := H
      refine w_y (y_ld tok rfl rfl rfl rfl hv13) rfl rfl ?_
      refine wP tok ?_
      refine w_end (x_seq ?_)
      refine c_if H rfl (fun H => ?_) (fun H => ?_)
      ·
       refine c_exit ?_
       refine x_te ?_
       refine x_bh ?_
       exact x_join t10_2 H ⟨rfl, rfl, rfl, rfl, rfl, rfl, rfl, trivial⟩
      ·
       refine c_skip (x_seq ?_)
       refine c_seq (c_region ?_)
       iterate 2 refine wP tok ?_
       refine w_y (y_nil' rfl rfl ha12) rfl rfl ?_
       refine wP tok ?_
       obtain ⟨v14, hv14, H⟩ := H
       refine w_y (y_ld tok rfl rfl rfl rfl hv14) rfl rfl ?_
       iterate 3 refine wP tok ?_
       obtain ⟨x15, ex15, H⟩ := H
       refine w_pe tok rfl (congrArg (fun z => (.int .i64 z : Value)) ex15) rfl rfl ?_
       refine w_end (x_seq ?_)
       refine c_weak [(10, Slc.v t10_2), (41, .int .i64 t41_2), (0, .pointer p0), (1, .int .u64 p1), (8, .int .u64 x3), (39, Slc.v p3), (40, .int .i64 (p3.len : Int)), (12, .pointer (some (⟨b8, 0, none⟩ : Addr))), (14, .int .i64 x15)] ⟨rfl, rfl, rfl, rfl, rfl, rfl, rfl, rfl, rfl, trivial⟩ ?_
       refine c_seqJ (α := Slc) (fun (s : Slc) => [(10, Slc.v s), (0, .pointer p0), (1, .int .u64 p1), (8, .int .u64 x3), (12, .pointer (some (⟨b8, 0, none⟩ : Addr))), (39, Slc.v p3), (40, .int .i64 (p3.len : Int)), (41, .int .i64 t41_2)]) (fun (s : Slc) h => rlog_Log_Append_j4 p0 p1 x3 (⟨b8, 0, none⟩ : Addr) p3 (p3.len : Int) t41_2 s k (fun s h' => I2 s h' ∧ μ2 s h' < μ2 (t10_2, t41_2) h_2) h) ?_ ?_
       ·
        rintro t10_4 h_4 H
        replace H : rlog_Log_Append_j4 p0 p1 x3 (⟨b8, 0, none⟩ : Addr) p3 (p3.len : Int) t41_2 t10_4 k (fun s h' => I2 s h' ∧ μ2 s h' < μ2 (t10_2, t41_2) h_2) h_4 := H
        unfold rlog_Log_Append_j4 at H
        refine c_weak [(10, Slc.v t10_4), (0, .pointer p0), (1, .int .u64 p1), (8, .int .u64 x3), (12, .pointer (some (⟨b8, 0, none⟩ : Addr))), (39, Slc.v p3), (40, .int .i64 (p3.len : Int)), (41, .int .i64 t41_2)] ⟨rfl, rfl, rfl, rfl, rfl, rfl, rfl, rfl, trivial⟩ ?_
        refine c_region ?_
        refine wP tok ?_
        obtain ⟨v16, hv16, H⟩ := H
        refine w_y (y_lda tok rfl rfl rfl rfl rfl hv16) rfl rfl ?_
        obtain ⟨b17, h18, eb17, eh18, H⟩ := H
        refine w_h (h_bs tok rfl rfl rfl rfl rfl rfl rfl eb17 eh18) rfl rfl ?_
        refine w_call rlog_copied_ok (rlog_copied_ref _ _ _ H) rfl rfl rfl rfl ?_
        rintro _ h20 ⟨r19, rfl, H⟩
        obtain ⟨l23, hl23, H⟩ := H
        refine w_a (a_app (s := t10_4) (r := r19) tok rfl rfl rfl rfl rfl hl23 H) rfl rfl ?_
        rintro _ h22 ⟨s21, rfl, H⟩
        refine wP tok ?_
        refine w_end ?_
        refine x_blk ?_
        exact x_join s21 H ⟨rfl, rfl, rfl, rfl, rfl, rfl, rfl, trivial⟩
       ·
        refine c_seq (c_region ?_)
        iterate 4 refine wP tok ?_
        refine w_end (x_seq ?_)
        refine c_if H rfl (fun H => ?_) (fun H => ?_)
        ·
         refine c_seq (c_seq ?_)
         refine c_draw (by kernel_rfl) (by kernel_rfl) ?_
         iterate 2 refine q_p tok rfl rfl rfl ?_
         obtain ⟨a24, ha24, la24, ua24, H⟩ := H
         refine q_y (y_ixa' tok rfl rfl ha24 rfl rfl rfl la24 ua24) rfl rfl ?_
         refine q_p tok rfl rfl rfl ?_
         obtain ⟨v25, hv25, H⟩ := H
         refine q_y (y_ld tok rfl rfl rfl rfl hv25) rfl rfl ?_
         refine q_p tok rfl rfl rfl ?_
         obtain ⟨v26, hv26, H⟩ := H
         refine q_y (y_ld tok rfl rfl rfl rfl hv26) rfl rfl ?_
         refine q_p tok rfl rfl rfl ?_
         refine q_end ?_
         refine x_seq ?_
         refine c_weak [(10, Slc.v t10_2), (41, .int .i64 t41_2), (0, .pointer p0), (1, .int .u64 p1), (8, .int .u64 x3), (39, Slc.v p3), (40, .int .i64 (p3.len : Int)), (12, .pointer (some (⟨b8, 0, none⟩ : Addr))), (14, .int .i64 x15), (76, .bool (v25 == v26))] ⟨rfl, rfl, rfl, rfl, rfl, rfl, rfl, rfl, rfl, rfl, trivial⟩ ?_
         refine c_if H rfl (fun H => ?_) (fun H => ?_)
         ·
          refine c_exit ?_
          refine x_te (x_te ?_)
          refine x_bh ?_
          exact x_join t10_2 H ⟨rfl, rfl, rfl, rfl, rfl, rfl, rfl, trivial⟩
         ·
          refine c_skip (x_seq (c_region ?_))
          iterate 3 refine wP tok ?_
          obtain ⟨s27, ps27, qs27, rs27, ts27, es27, H⟩ := H
          refine w_ye (y_sl (s := t10_2) (L := 0) (H := x15) (M := x15) tok rfl rfl rfl rfl rfl rfl rfl (by simp) ps27 qs27 rs27 ts27) (congrArg Slc.v es27) rfl rfl ?_
          refine wP tok ?_
          refine w_end ?_
          exact x_join s27 H ⟨rfl, rfl, rfl, rfl, rfl, rfl, rfl, rfl, trivial⟩
        ·
         refine c_skip ?_
         exact x_join t10_2 H ⟨rfl, rfl, rfl, rfl, rfl, rfl, rfl, rfl, trivial⟩
    ·
     refine c_exit ?_
     refine x_te (x_te ?_)
     refine x_bh ?_
     refine x_seq (c_seq ?_)
     refine c_seq (c_region ?_)
     iterate 3 refine wP tok ?_
     refine w_end (x_seq ?_)
     refine c_weak [(10, Slc.v t10_2), (0, .pointer p0), (8, .int .u64 x3), (89, .bool (decide ((t10_2.len : Int) > 64)))] ⟨rfl, rfl, rfl, rfl, trivial⟩ ?_
     refine c_if H rfl (fun H => ?_) (fun H => ?_)
     ·
      refine c_seq (c_region ?_)
      iterate 2 refine wP tok ?_
      refine w_end (x_seq ?_)
      refine c_ret (x_tr ?_)
      refine x_sr ?_
      exact x_ret _ rfl _ rfl ⟨(0, 8), rfl, H⟩
     ·
      refine c_skip (x_seq ?_)
      refine c_seq (c_region ?_)
      iterate 2 refine wP tok ?_
      obtain ⟨a28, ha28, H⟩ := H
      refine w_y (y_nil' rfl rfl ha28) rfl rfl ?_
      refine wP tok ?_
      obtain ⟨h29, wh29, eh29, H⟩ := H
      refine w_h (h_st tok rfl rfl rfl rfl rfl rfl wh29 eh29) rfl rfl ?_
      refine w_end (x_seq ?_)
      refine c_weak [(8, .int .u64 x3)] ⟨rfl, trivial⟩ ?_
      refine c_seq (c_region ?_)
      iterate 3 refine wP tok ?_
      refine w_end (x_seq (c_ret ?_))
      refine x_sr ?_
      exact x_ret _ rfl _ rfl ⟨(x3, 0), rfl, H⟩
  ·
   refine w_gif (d := 23) H rfl (fun H => ?_) (fun H => ?_)
   ·
    iterate 3 refine wP tok ?_
    refine w_call rlog_Log_Match_ok (rlog_Log_Match_ref _ _ _ _ _ H) rfl rfl rfl rfl ?_
    rintro _ h31 ⟨r30, rfl, H⟩
    iterate 2 refine wP tok ?_
    exact w_jn (!r30) H ⟨rfl, rfl, rfl, rfl, trivial⟩
   ·
    iterate 5 refine w_skip rfl rfl ?_
    refine wP tok ?_
    exact w_jn false H ⟨rfl, rfl, rfl, rfl, trivial⟩

theorem slices_Clone_api_Entry_api_Entry_ok : CallOk Go.Proofs.Try.prog 90 := ⟨_, Go.Proofs.Try.func90, by kernel_rfl, by kernel_rfl⟩
theorem slices_Clone_api_Entry_api_Entry_ref (p0 : Slc) (k : (Slc) → Heap → Prop) (h : Heap) (H : slices_Clone_api_Entry_api_Entry p0 k h) : CallsH Go.Proofs.Try.prog 90 #[Slc.v p0] h (fun v h' => ∃ r : Slc, v = Slc.v r ∧ k r h') := by
 refine f_enter (N := 8) Go.Proofs.Try.func90 rfl rfl rfl (fun w0 => ?_)
 unfold slices_Clone_api_Entry_api_Entry at H
 refine c_weak [(0, Slc.v p0)] ⟨rfl, trivial⟩ ?_
 refine c_seq (c_region ?_)
 refine wP tok ?_
 refine w_end (x_seq ?_)
 refine c_seq (c_seq (c_region ?_))
 iterate 2 refine wP tok ?_
 refine w_end (x_seq ?_)
 refine c_if H rfl (fun H => ?_) (fun H => ?_)
 ·
  refine c_seq (c_region ?_)
  refine wP tok ?_
  refine w_end (x_seq ?_)
  refine c_ret (x_tr ?_)
  exact x_ret _ rfl _ rfl ⟨(⟨none, 0, 0⟩ : Slc), rfl, H⟩
 ·
  refine c_skip (x_seq ?_)
  refine c_seq (c_region ?_)
  obtain ⟨b1, h2, eb1, eh2, H⟩ := H
  refine w_h (h_bs tok rfl rfl rfl rfl rfl rfl rfl eb1 eh2) rfl rfl ?_
  refine wP tok ?_
  obtain ⟨l5, hl5, H⟩ := H
  refine w_a (a_app (s := (⟨some ⟨b1, 0, none⟩, 0, 0⟩ : Slc)) (r := p0) tok rfl rfl rfl rfl rfl hl5 H) rfl rfl ?_
  rintro _ h4 ⟨s3, rfl, H⟩
  refine wP tok ?_
  refine w_end (x_seq (c_ret ?_))
  exact x_ret _ rfl _ rfl ⟨s3, rfl, H⟩

theorem rlog_Log_Cut_ok : CallOk Go.Proofs.Try.prog 84 := ⟨_, Go.Proofs.Try.func84, by kernel_rfl, by kernel_rfl⟩
theorem rlog_Log_Cut_ref (p0 : Option Addr) (p1 : Int) (k : (Int) → Heap → Prop) (h : Heap) (H : rlog_Log_Cut p0 p1 k h) : CallsH Go.Proofs.Try.prog 84 #[.pointer p0, .int .u64 p1] h (fun v h' => ∃ r : Int, v = .int .i64 r ∧ k r h') := by
 refine f_enter (N := 41) Go.Proofs.Try.func84 rfl rfl rfl (fun w0 => ?_)
 unfold rlog_Log_Cut at H
 refine c_weak [(0, .pointer p0), (1, .int .u64 p1)] ⟨rfl, rfl, trivial⟩ ?_
 refine c_seq (c_region ?_)
 refine wP tok ?_
 refine w_end (x_seq ?_)
 refine c_seq (c_seq (c_region ?_))
 iterate 2 refine wP tok ?_
 refine w_end (x_seq ?_)
 refine c_if H rfl (fun H => ?_) (fun H => ?_)
 ·
  refine c_seq (c_region ?_)
  refine wP tok ?_
  refine w_end (x_seq ?_)
  refine c_ret (x_tr ?_)
  exact x_ret _ rfl _ rfl ⟨1, rfl, H⟩
 ·
  refine c_skip (x_seq ?_)
  refine c_seq (c_region ?_)
  iterate 2 refine wP tok ?_
  refine w_call rlog_Log_Term_ok (rlog_Log_Term_ref _ _ _ _ H) rfl rfl rfl rfl ?_
  rintro _ h2 ⟨r1, rfl, H⟩
  iterate 5 refine wP tok ?_
  refine w_end (x_seq ?_)
  refine c_weak [(0, .pointer p0), (1, .int .u64 p1), (5, .int .u64 r1.1), (6, .int .i64 r1.2)] ⟨rfl, rfl, rfl, rfl, trivial⟩ ?_
  refine c_seq (c_seq (c_region ?_))
  iterate 2 refine wP tok ?_
  refine w_end (x_seq ?_)
  refine c_if H rfl (fun H => ?_) (fun H => ?_)
  ·
   refine c_seq (c_region ?_)
   iterate 2 refine wP tok ?_
   refine w_end (x_seq ?_)
   refine c_weak [(4, .int .i64 r1.2)] ⟨rfl, trivial⟩ ?_
   refine c_ret (x_tr ?_)
   exact x_ret _ rfl _ rfl ⟨r1.2, rfl, H⟩
  ·
   refine c_skip (x_seq (c_seq ?_))
   refine c_sim [(0, .pointer p0), (1, .int .u64 p1), (5, .int .u64 r1.1)] (by kernel_rfl) (by kernel_rfl) ⟨rfl, rfl, rfl, trivial⟩ (fun wf => ?_)
   refine sQ 0 [(0, .pointer p0)] (some 18) tok wf ⟨rfl, trivial⟩ (fun P_0 => ?_)
   refine sQ 1 [(0, .pointer p0)] (some 19) tok wf ⟨rfl, trivial⟩ (fun P_1 => ?_)
   obtain ⟨a3, ha3, H⟩ := H
   refine sP 2 [(19, .pointer p0)] (some 20) wf ⟨rfl, trivial⟩ (fun _ => pf_y rfl rfl rfl (y_nil' rfl rfl ha3)) (fun P_2 => ?_)
   refine sQ 3 [(20, .pointer (some a3))] (some 21) tok wf ⟨rfl, trivial⟩ (fun P_3 => ?_)
   obtain ⟨v4, hv4, H⟩ := H
   refine sL 4 [(21, .pointer (some (a3.add 2)))] (some 22) wf ⟨rfl, trivial⟩ (pf_y rfl rfl rfl (y_ld tok rfl rfl rfl rfl hv4)) (fun P_4 => ?_)
   refine sQ 5 [(1, .int .u64 p1)] (some 23) tok wf ⟨rfl, trivial⟩ (fun P_5 => ?_)
   refine sQ 6 [(0, .pointer p0)] (some 24) tok wf ⟨rfl, trivial⟩ (fun P_6 => ?_)
   refine sP 7 [(24, .pointer p0)] (some 25) wf ⟨rfl, trivial⟩ (fun _ => pf_y rfl rfl rfl (y_nil' rfl rfl ha3)) (fun P_7 => ?_)
   refine sQ 8 [(25, .pointer (some a3))] (some 26) tok wf ⟨rfl, trivial⟩ (fun P_8 => ?_)
   obtain ⟨v5, hv5, H⟩ := H
   refine sL 9 [(26, .pointer (some a3))] (some 27) wf ⟨rfl, trivial⟩ (pf_y rfl rfl rfl (y_ld tok rfl rfl rfl rfl hv5)) (fun P_9 => ?_)
   refine sQ 10 [(23, .int .u64 p1), (27, .int .u64 v5)] (some 28) tok wf ⟨rfl, rfl, trivial⟩ (fun P_10 => ?_)
   obtain ⟨s6, ps6, qs6, rs6, ts6, es6, H⟩ := H
   refine sP 11 [(22, Slc.v v4), (28, .int .u64 (IntKind.u64.wrap (p1 - v5)))] (some 29) wf ⟨rfl, rfl, trivial⟩ (fun _ => pf_ye rfl rfl rfl (y_sl (s := v4) (L := (IntKind.u64.wrap (p1 - v5))) (H := (v4.len : Int)) (M := (v4.cap : Int)) tok rfl rfl rfl rfl rfl rfl rfl (by simp) ps6 qs6 rs6 ts6) (congrArg Slc.v es6)) (fun P_11 => ?_)
   refine sim_c 12 [1, 2, 3, 4, 5, 6, 7, 8, 9, 10, 11] [1, 2, 3, 4, 5, 6, 7, 8, 9, 10, 11] (ei := [(29, Slc.v s6)]) slices_Clone_api_Entry_api_Entry_ok (slices_Clone_api_Entry_api_Entry_ref _ _ _ H) wf ⟨P_11 _, P_10 _, P_9, P_8 _, P_7 _, P_6 _, P_5 _, P_4, P_3 _, P_2 _, P_1 _, P_0 _, trivial⟩ (by kernel_rfl) ⟨rfl, trivial⟩ (by kernel_rfl) rfl rfl rfl rfl rfl ?_
   rintro _ h8 ⟨r7, rfl, H⟩
   refine sP 13 [(18, .pointer p0)] (some 31) wf ⟨rfl, trivial⟩ (fun _ => pf_y rfl rfl rfl (y_nil' rfl rfl ha3)) (fun P_13 => ?_)
   refine sQ 14 [(31, .pointer (some a3))] (some 32) tok wf ⟨rfl, trivial⟩ (fun P_14 => ?_)
   obtain ⟨h9, wh9, eh9, H⟩ := H
   refine sim_h 15 [0, 1, 2, 3, 4, 5, 6, 7, 8, 9, 10, 11, 12, 13, 14] [0, 1, 2, 3, 4, 5, 6, 7, 8, 9, 10, 11, 13, 14] (ei := [(30, Slc.v r7), (32, .pointer (some (a3.add 2)))]) wf ⟨P_14 _, P_13 _, trivial, trivial, trivial, trivial, trivial, trivial, trivial, trivial, trivial, trivial, trivial, P_0 _, trivial⟩ (by kernel_rfl) ⟨rfl, rfl, trivial⟩ (by kernel_rfl) rfl rfl rfl (h_st tok rfl rfl rfl rfl rfl rfl wh9 eh9) ?_
   refine sim_end wf ⟨trivial, trivial, trivial, trivial, trivial, trivial, trivial, trivial, trivial, trivial, trivial, trivial, trivial, trivial, trivial⟩ (by kernel_rfl) ?_
   clear wf P_0 P_1 P_10 P_11 P_13 P_14 P_2 P_3 P_4 P_5 P_6 P_7 P_8 P_9
   refine x_seq ?_
   refine c_weak [(0, .pointer p0), (1, .int .u64 p1), (5, .int .u64 r1.1)] ⟨rfl, rfl, rfl, trivial⟩ ?_
   refine c_seq (c_region ?_)
   iterate 4 refine wP tok ?_
   refine w_y (y_nil' rfl rfl ha3) rfl rfl ?_
   refine wP tok ?_
   obtain ⟨h10, wh10, eh10, H⟩ := H
   refine w_h (h_st tok rfl rfl rfl rfl rfl rfl wh10 eh10) rfl rfl ?_
   refine w_y (y_nil' rfl rfl ha3) rfl rfl ?_
   refine wP tok ?_
   obtain ⟨h11, wh11, eh11, H⟩ := H
   refine w_h (h_st tok rfl rfl rfl rfl rfl rfl wh11 eh11) rfl rfl ?_
   refine w_end (x_seq ?_)
   refine c_weak [] trivial ?_
   refine c_seq (c_region ?_)
   refine wP tok ?_
   refine w_end (x_seq (c_ret ?_))
   exact x_ret _ rfl _ rfl ⟨0, rfl, H⟩
end Go.Q.Yh

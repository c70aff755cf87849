/- A part of the proof of statements of this seat: lemmas, no statement of their own. -/
import Derived.Test.YtgldbcbnficihaaYaTab
set_option linter.unusedVariables false
set_option maxRecDepth 100000
set_option maxHeartbeats 1000000
namespace Go.Q.Ya
/-- quaestor lease.New -/
def lease_New (p0 : Int) (p1 : Int) (k : (Option Addr) → Heap → Prop) (h : Heap) : Prop :=
  ∃ x1 : Int, x1 = (if 4611686018427387904 < p1 then 4611686018427387904 else p1) ∧ (∃ (b2 : Nat) (h3 : Heap), b2 = h.size ∧ h3 = h.push (.cells (S_lease_Lease.cs (⟨p0, x1, x1⟩ : S_lease_Lease)).toArray 83) ∧ (k (some (⟨b2, 0, none⟩ : Addr)) h3))

/-- (*quaestor lease.Lease).Wants -/
def lease_Lease_Wants (p0 : Option Addr) (p1 : Int) (k : (Int × Int) → Heap → Prop) (h : Heap) : Prop :=
  if (p0.isNone) then (k (0, 14) h) else (∃ a1 : Addr, p0 = some a1 ∧ (∃ v2 : Int, cellH h (a1.add 2) = some (.int .u64 v2) ∧ (if (decide (p1 > (IntKind.u64.wrap (4611686018427387904 - v2)))) then (k (0, 12) h) else (∃ v3 : Int, cellH h (a1.add 2) = some (.int .u64 v3) ∧ (∃ x4 : Int, x4 = (IntKind.u64.wrap (v3 + p1)) ∧ (k (x4, 0) h))))))

/-- (*quaestor lease.Lease).Grant -/
def lease_Lease_Grant (p0 : Option Addr) (p1 : Int) (k : (Int) → Heap → Prop) (h : Heap) : Prop :=
  if (p0.isNone) then (k 1 h) else (∃ a1 : Addr, p0 = some a1 ∧ (∃ v2 : Int, cellH h (a1.add 2) = some (.int .u64 v2) ∧ (if (decide (p1 < v2)) then (k 13 h) else (if (decide (p1 > 4611686018427387904)) then (k 12 h) else (∃ h3 : Heap, WrH h (a1.add 2) ∧ h3 = setH h (a1.add 2) (.int .u64 p1) ∧ (k 0 h3))))))

/-- (*quaestor lease.Lease).Take -/
def lease_Lease_Take (p0 : Option Addr) (k : (Int × Int) → Heap → Prop) (h : Heap) : Prop :=
  if (p0.isNone) then (k (0, 14) h) else (∃ a1 : Addr, p0 = some a1 ∧ (∃ v2 : Int, cellH h (a1.add 1) = some (.int .u64 v2) ∧ (∃ v3 : Int, cellH h (a1.add 2) = some (.int .u64 v3) ∧ (if (decide (v2 < v3)) then (∃ v4 : Int, cellH h (a1.add 1) = some (.int .u64 v4) ∧ (∃ h5 : Heap, WrH h (a1.add 1) ∧ h5 = setH h (a1.add 1) (.int .u64 (IntKind.u64.wrap (v4 + 1))) ∧ (∃ v6 : Int, cellH h5 (a1.add 1) = some (.int .u64 v6) ∧ (∃ x7 : Int, x7 = (IntKind.u64.wrap (v6 - 1)) ∧ (k (x7, 0) h5))))) else (∃ v8 : Int, cellH h (a1.add 2) = some (.int .u64 v8) ∧ (if (v8 == 4611686018427387904) then (k (0, 12) h) else (k (0, 14) h)))))))

/-- quaestor quaestorlaw12.awake -/
def law12_awake (k : (Bool) → Heap → Prop) (h : Heap) : Prop :=
  lease_New 3 10 (fun (r1 : Option Addr) h2 => lease_Lease_Grant r1 12 (fun (r3 : Int) h4 => lease_Lease_Take r1 (fun (r5 : Int × Int) h6 => lease_Lease_Take r1 (fun (r7 : Int × Int) h8 => lease_Lease_Take r1 (fun (r9 : Int × Int) h10 => k ((((((r3 == 0) && (r5.2 == 0)) && (r7.2 == 0)) && (r5.1 == 10)) && (r7.1 == 11)) && (r9.2 == 14)) h10) h8) h6) h4) h2) h

/-- quaestor quaestorlaw12.LeaseOnce -/
def law12_LeaseOnce_j2 (t0_2 : Int) (t1_2 : Int) (t2_2 : Slc) (t3_2 : Slc) (t11_2 : Int) (t9_2 : Int) (t10_2 : Slc) (k : (Bool) → Heap → Prop) (nx1 : (Int × Slc × Int) → Heap → Prop) (h_2 : Heap) : Prop :=
  ∃ x3 : Int, x3 = (IntKind.i64.wrap (t11_2 + 1)) ∧ (nx1 (t9_2, t10_2, x3) h_2)
def law12_LeaseOnce_l5b (t0_5 : Int) (t1_5 : Int) (t2_5 : Slc) (t3_5 : Slc) (t9_5 : Int) (t10_5 : Slc) (t11_5 : Int) (t12_5 : Option Addr) (t15_5 : Int) (t16_5 : Int) (t18_5 : Int) (k : (Bool) → Heap → Prop) (nx1 : (Int × Slc × Int) → Heap → Prop) (nx3 : (Slc × Int) → Heap → Prop) (nx5 : (Int) → Heap → Prop) (h_5 : Heap) : Prop :=
  if (decide (t18_5 < (t10_5.len : Int))) then (∃ a14 : Addr, t10_5.a = some a14 ∧ 0 ≤ t18_5 ∧ t18_5 < t10_5.len ∧ (∃ v15 : Int, cellH h_5 (a14.add (t18_5.toNat * 1)) = some (.int .u64 v15) ∧ (if (v15 == t16_5) then (k false h_5) else (∃ x16 : Int, x16 = (IntKind.i64.wrap (t18_5 + 1)) ∧ (nx5 x16 h_5))))) else (∃ (b17 : Nat) (h18 : Heap), b17 = h_5.size ∧ h18 = h_5.push (.cells ([.int .u64 t16_5]).toArray 23) ∧ (App 23 1 8 [.int .u64 0] h18 t10_5 1 ([.int .u64 t16_5]) (fun s19 h20 => ∃ x21 : Int, x21 = (IntKind.i64.wrap (t15_5 + 1)) ∧ (nx3 (s19, x21) h20))))
def law12_LeaseOnce_l5 (t0_5 : Int) (t1_5 : Int) (t2_5 : Slc) (t3_5 : Slc) (t9_5 : Int) (t10_5 : Slc) (t11_5 : Int) (t12_5 : Option Addr) (t15_5 : Int) (t16_5 : Int) (i18 : Int) (k : (Bool) → Heap → Prop) (nx1 : (Int × Slc × Int) → Heap → Prop) (nx3 : (Slc × Int) → Heap → Prop) (h : Heap) : Prop :=
  ∃ (I : Int → Heap → Prop) (μ : Int → Heap → Nat), I i18 h ∧ ∀ (t18_5 : Int) (h : Heap), I t18_5 h → law12_LeaseOnce_l5b t0_5 t1_5 t2_5 t3_5 t9_5 t10_5 t11_5 t12_5 t15_5 t16_5 t18_5 k nx1 nx3 (fun s h' => I s h' ∧ μ s h' < μ t18_5 h) h
def law12_LeaseOnce_g4 (t0_4 : Int) (t1_4 : Int) (t2_4 : Slc) (t3_4 : Slc) (t9_4 : Int) (t10_4 : Slc) (t11_4 : Int) (t12_4 : Option Addr) (t15_4 : Int) (t72_4 : Bool) (k : (Bool) → Heap → Prop) (nx1 : (Int × Slc × Int) → Heap → Prop) (nx3 : (Slc × Int) → Heap → Prop) (h_4 : Heap) : Prop :=
  if t72_4 then (lease_Lease_Take t12_4 (fun (r12 : Int × Int) h13 => if (r12.2 != 0) then (law12_LeaseOnce_j2 t0_4 t1_4 t2_4 t3_4 t11_4 t9_4 t10_4 k nx1 h13) else (if ((decide (r12.1 ≥ t9_4)) || (decide (r12.1 < t1_4))) then (k false h13) else (law12_LeaseOnce_l5 t0_4 t1_4 t2_4 t3_4 t9_4 t10_4 t11_4 t12_4 t15_4 r12.1 0 k nx1 nx3 h13))) h_4) else (law12_LeaseOnce_j2 t0_4 t1_4 t2_4 t3_4 t11_4 t9_4 t10_4 k nx1 h_4)
def law12_LeaseOnce_l3b (t0_3 : Int) (t1_3 : Int) (t2_3 : Slc) (t3_3 : Slc) (t9_3 : Int) (t11_3 : Int) (t12_3 : Option Addr) (t10_3 : Slc) (t15_3 : Int) (k : (Bool) → Heap → Prop) (nx1 : (Int × Slc × Int) → Heap → Prop) (nx3 : (Slc × Int) → Heap → Prop) (h_3 : Heap) : Prop :=
  if (decide (t11_3 < (t3_3.len : Int))) then (∃ a22 : Addr, t3_3.a = some a22 ∧ 0 ≤ t11_3 ∧ t11_3 < t3_3.len ∧ (∃ v23 : Int, cellH h_3 (a22.add (t11_3.toNat * 1)) = some (.int .u8 v23) ∧ (law12_LeaseOnce_g4 t0_3 t1_3 t2_3 t3_3 t9_3 t10_3 t11_3 t12_3 t15_3 (decide (t15_3 < (IntKind.i64.wrap (Int.tmod v23 20)))) k nx1 nx3 h_3))) else (law12_LeaseOnce_g4 t0_3 t1_3 t2_3 t3_3 t9_3 t10_3 t11_3 t12_3 t15_3 false k nx1 nx3 h_3)
def law12_LeaseOnce_l3 (t0_3 : Int) (t1_3 : Int) (t2_3 : Slc) (t3_3 : Slc) (t9_3 : Int) (t11_3 : Int) (t12_3 : Option Addr) (i10 : Slc) (i15 : Int) (k : (Bool) → Heap → Prop) (nx1 : (Int × Slc × Int) → Heap → Prop) (h : Heap) : Prop :=
  ∃ (I : (Slc × Int) → Heap → Prop) (μ : (Slc × Int) → Heap → Nat), I (i10, i15) h ∧ ∀ (t10_3 : Slc) (t15_3 : Int) (h : Heap), I (t10_3, t15_3) h → law12_LeaseOnce_l3b t0_3 t1_3 t2_3 t3_3 t9_3 t11_3 t12_3 t10_3 t15_3 k nx1 (fun s h' => I s h' ∧ μ s h' < μ (t10_3, t15_3) h) h
def law12_LeaseOnce_l1b (t0_1 : Int) (t1_1 : Int) (t2_1 : Slc) (t3_1 : Slc) (t9_1 : Int) (t10_1 : Slc) (t11_1 : Int) (k : (Bool) → Heap → Prop) (nx1 : (Int × Slc × Int) → Heap → Prop) (h_1 : Heap) : Prop :=
  if (decide (t11_1 < (t2_1.len : Int))) then (lease_New t0_1 t9_1 (fun (r4 : Option Addr) h5 => ∃ a6 : Addr, t2_1.a = some a6 ∧ 0 ≤ t11_1 ∧ t11_1 < t2_1.len ∧ (∃ v7 : Int, cellH h5 (a6.add (t11_1.toNat * 1)) = some (.int .u8 v7) ∧ (lease_Lease_Wants r4 (IntKind.u64.wrap v7) (fun (r8 : Int × Int) h9 => if (r8.2 != 0) then (k false h9) else (lease_Lease_Grant r4 r8.1 (fun (r10 : Int) h11 => if (r10 != 0) then (k false h11) else (law12_LeaseOnce_l3 t0_1 t1_1 t2_1 t3_1 r8.1 t11_1 r4 t10_1 0 k nx1 h11)) h9)) h5))) h_1) else (law12_awake  (fun (r24 : Bool) h25 => k r24 h25) h_1)
def law12_LeaseOnce_l1 (t0_1 : Int) (t1_1 : Int) (t2_1 : Slc) (t3_1 : Slc) (i9 : Int) (i10 : Slc) (i11 : Int) (k : (Bool) → Heap → Prop) (h : Heap) : Prop :=
  ∃ (I : (Int × Slc × Int) → Heap → Prop) (μ : (Int × Slc × Int) → Heap → Nat), I (i9, i10, i11) h ∧ ∀ (t9_1 : Int) (t10_1 : Slc) (t11_1 : Int) (h : Heap), I (t9_1, t10_1, t11_1) h → law12_LeaseOnce_l1b t0_1 t1_1 t2_1 t3_1 t9_1 t10_1 t11_1 k (fun s h' => I s h' ∧ μ s h' < μ (t9_1, t10_1, t11_1) h) h
def law12_LeaseOnce (p0 : Int) (p1 : Int) (p2 : Slc) (p3 : Slc) (k : (Bool) → Heap → Prop) (h : Heap) : Prop :=
  if (((decide (p1 > 2305843009213693952)) || (decide ((p2.len : Int) > 8))) || (decide ((p3.len : Int) > 8))) then (law12_awake  (fun (r1 : Bool) h2 => k r1 h2) h) else (law12_LeaseOnce_l1 p0 p1 p2 p3 p1 (⟨none, 0, 0⟩ : Slc) 0 k h)

theorem lease_New_ok : CallOk Go.Proofs.Try.prog 10 := ⟨_, Go.Proofs.Try.func10, by kernel_rfl, by kernel_rfl⟩
theorem lease_New_ref (p0 : Int) (p1 : Int) (k : (Option Addr) → Heap → Prop) (h : Heap) (H : lease_New p0 p1 k h) : CallsH Go.Proofs.Try.prog 10 #[.int .u16 p0, .int .u64 p1] h (fun v h' => ∃ r : Option Addr, v = .pointer r ∧ k r h') := by
  refine f_enter (N := 12) Go.Proofs.Try.func10 rfl rfl rfl (fun w0 => ?_)
  unfold lease_New at H
  refine c_weak [(0, .int .u16 p0), (1, .int .u64 p1)] ⟨rfl, rfl, trivial⟩ ?_
  refine c_seq ?_
  refine c_region ?_
  refine w_p tok rfl rfl rfl ?_
  refine w_end ?_
  refine x_seq ?_
  refine c_seq ?_
  refine c_region ?_
  refine w_p tok rfl rfl rfl ?_
  refine w_p tok rfl rfl rfl ?_
  obtain ⟨x1, ex1, H⟩ := H
  refine w_pe tok rfl (congrArg (fun z => (.int .u64 z : Value)) ex1) rfl rfl ?_
  refine w_end ?_
  refine x_seq ?_
  refine c_seq ?_
  refine c_region ?_
  refine w_p tok rfl rfl rfl ?_
  refine w_p tok rfl rfl rfl ?_
  refine w_p tok rfl rfl rfl ?_
  refine w_y (y_build tok rfl rfl rfl rfl rfl) rfl rfl ?_
  obtain ⟨b2, h3, eb2, eh3, H⟩ := H
  refine w_h (h_box rfl rfl eb2 eh3) rfl rfl ?_
  refine w_p tok rfl rfl rfl ?_
  refine w_end ?_
  refine x_seq ?_
  refine c_weak [(4, .pointer (some (⟨b2, 0, none⟩ : Addr)))] ⟨rfl, trivial⟩ ?_
  refine c_ret ?_
  exact x_ret _ rfl _ rfl ⟨(some (⟨b2, 0, none⟩ : Addr)), rfl, H⟩

theorem lease_Lease_Wants_ok : CallOk Go.Proofs.Try.prog 11 := ⟨_, Go.Proofs.Try.func11, by kernel_rfl, by kernel_rfl⟩
theorem lease_Lease_Wants_ref (p0 : Option Addr) (p1 : Int) (k : (Int × Int) → Heap → Prop) (h : Heap) (H : lease_Lease_Wants p0 p1 k h) : CallsH Go.Proofs.Try.prog 11 #[.pointer p0, .int .u64 p1] h (fun v h' => ∃ r : Int × Int, v = .tuple #[.int .u64 r.1, .int .i64 r.2] ∧ k r h') := by
  refine f_enter (N := 23) Go.Proofs.Try.func11 rfl rfl rfl (fun w0 => ?_)
  unfold lease_Lease_Wants at H
  refine c_weak [(0, .pointer p0), (1, .int .u64 p1)] ⟨rfl, rfl, trivial⟩ ?_
  refine c_seq ?_
  refine c_region ?_
  refine w_p tok rfl rfl rfl ?_
  refine w_p tok rfl rfl rfl ?_
  refine w_end ?_
  refine x_seq ?_
  refine c_seq ?_
  refine c_block ?_
  refine c_seq ?_
  refine c_region ?_
  refine w_p tok rfl rfl rfl ?_
  refine w_p tok rfl rfl rfl ?_
  refine w_p tok rfl rfl rfl ?_
  refine w_end ?_
  refine x_seq ?_
  refine c_if H rfl (fun H => ?_) (fun H => ?_)
  ·
    refine c_seq ?_
    refine c_region ?_
    refine w_p tok rfl rfl rfl ?_
    refine w_p tok rfl rfl rfl ?_
    refine w_end ?_
    refine x_seq ?_
    refine c_ret ?_
    refine x_br ?_
    refine x_tr ?_
    exact x_ret _ rfl _ rfl ⟨(0, 14), rfl, H⟩
  ·
    refine c_seq ?_
    refine c_region ?_
    refine w_p tok rfl rfl rfl ?_
    refine w_p tok rfl rfl rfl ?_
    obtain ⟨a1, ha1, H⟩ := H
    refine w_y (y_nil' rfl rfl ha1) rfl rfl ?_
    refine w_p tok rfl rfl rfl ?_
    obtain ⟨v2, hv2, H⟩ := H
    refine w_y (y_ld tok rfl rfl rfl rfl hv2) rfl rfl ?_
    refine w_p tok rfl rfl rfl ?_
    refine w_p tok rfl rfl rfl ?_
    refine w_p tok rfl rfl rfl ?_
    refine w_end ?_
    refine x_seq ?_
    refine c_weak [(0, .pointer p0), (1, .int .u64 p1), (9, .bool (decide (p1 > (IntKind.u64.wrap (4611686018427387904 - v2)))))] ⟨rfl, rfl, rfl, trivial⟩ ?_
    refine c_if H rfl (fun H => ?_) (fun H => ?_)
    ·
      refine c_seq ?_
      refine c_region ?_
      refine w_p tok rfl rfl rfl ?_
      refine w_p tok rfl rfl rfl ?_
      refine w_end ?_
      refine x_seq ?_
      refine c_ret ?_
      refine x_br ?_
      refine x_tr ?_
      exact x_ret _ rfl _ rfl ⟨(0, 12), rfl, H⟩
    ·
      refine c_skip ?_
      refine x_blk ?_
      refine x_seq ?_
      refine c_seq ?_
      refine c_region ?_
      refine w_p tok rfl rfl rfl ?_
      refine w_y (y_nil' rfl rfl ha1) rfl rfl ?_
      refine w_p tok rfl rfl rfl ?_
      obtain ⟨v3, hv3, H⟩ := H
      refine w_y (y_ld tok rfl rfl rfl rfl hv3) rfl rfl ?_
      refine w_p tok rfl rfl rfl ?_
      refine w_p tok rfl rfl rfl ?_
      obtain ⟨x4, ex4, H⟩ := H
      refine w_pe tok rfl (congrArg (fun z => (.int .u64 z : Value)) ex4) rfl rfl ?_
      refine w_p tok rfl rfl rfl ?_
      refine w_end ?_
      refine x_seq ?_
      refine c_weak [(4, .int .u64 x4), (5, .int .i64 0)] ⟨rfl, rfl, trivial⟩ ?_
      refine c_ret ?_
      exact x_ret _ rfl _ rfl ⟨(x4, 0), rfl, H⟩

theorem lease_Lease_Grant_ok : CallOk Go.Proofs.Try.prog 12 := ⟨_, Go.Proofs.Try.func12, by kernel_rfl, by kernel_rfl⟩
theorem lease_Lease_Grant_ref (p0 : Option Addr) (p1 : Int) (k : (Int) → Heap → Prop) (h : Heap) (H : lease_Lease_Grant p0 p1 k h) : CallsH Go.Proofs.Try.prog 12 #[.pointer p0, .int .u64 p1] h (fun v h' => ∃ r : Int, v = .int .i64 r ∧ k r h') := by
  refine f_enter (N := 22) Go.Proofs.Try.func12 rfl rfl rfl (fun w0 => ?_)
  unfold lease_Lease_Grant at H
  refine c_weak [(0, .pointer p0), (1, .int .u64 p1)] ⟨rfl, rfl, trivial⟩ ?_
  refine c_seq ?_
  refine c_region ?_
  refine w_p tok rfl rfl rfl ?_
  refine w_end ?_
  refine x_seq ?_
  refine c_seq ?_
  refine c_block ?_
  refine c_seq ?_
  refine c_region ?_
  refine w_p tok rfl rfl rfl ?_
  refine w_p tok rfl rfl rfl ?_
  refine w_p tok rfl rfl rfl ?_
  refine w_end ?_
  refine x_seq ?_
  refine c_if H rfl (fun H => ?_) (fun H => ?_)
  ·
    refine c_seq ?_
    refine c_region ?_
    refine w_p tok rfl rfl rfl ?_
    refine w_end ?_
    refine x_seq ?_
    refine c_ret ?_
    refine x_br ?_
    refine x_tr ?_
    exact x_ret _ rfl _ rfl ⟨1, rfl, H⟩
  ·
    refine c_seq ?_
    refine c_region ?_
    refine w_p tok rfl rfl rfl ?_
    refine w_p tok rfl rfl rfl ?_
    obtain ⟨a1, ha1, H⟩ := H
    refine w_y (y_nil' rfl rfl ha1) rfl rfl ?_
    refine w_p tok rfl rfl rfl ?_
    obtain ⟨v2, hv2, H⟩ := H
    refine w_y (y_ld tok rfl rfl rfl rfl hv2) rfl rfl ?_
    refine w_p tok rfl rfl rfl ?_
    refine w_p tok rfl rfl rfl ?_
    refine w_end ?_
    refine x_seq ?_
    refine c_weak [(0, .pointer p0), (1, .int .u64 p1), (8, .bool (decide (p1 < v2)))] ⟨rfl, rfl, rfl, trivial⟩ ?_
    refine c_if H rfl (fun H => ?_) (fun H => ?_)
    ·
      refine c_seq ?_
      refine c_region ?_
      refine w_p tok rfl rfl rfl ?_
      refine w_end ?_
      refine x_seq ?_
      refine c_ret ?_
      refine x_br ?_
      refine x_tr ?_
      exact x_ret _ rfl _ rfl ⟨13, rfl, H⟩
    ·
      refine c_seq ?_
      refine c_region ?_
      refine w_p tok rfl rfl rfl ?_
      refine w_p tok rfl rfl rfl ?_
      refine w_p tok rfl rfl rfl ?_
      refine w_end ?_
      refine x_seq ?_
      refine c_if H rfl (fun H => ?_) (fun H => ?_)
      ·
        refine c_seq ?_
        refine c_region ?_
        refine w_p tok rfl rfl rfl ?_
        refine w_end ?_
        refine x_seq ?_
        refine c_ret ?_
        refine x_br ?_
        refine x_tr ?_
        exact x_ret _ rfl _ rfl ⟨12, rfl, H⟩
      ·
        refine c_skip ?_
        refine x_blk ?_
        refine x_seq ?_
        refine c_seq ?_
        refine c_region ?_
        refine w_p tok rfl rfl rfl ?_
        refine w_p tok rfl rfl rfl ?_
        refine w_y (y_nil' rfl rfl ha1) rfl rfl ?_
        refine w_p tok rfl rfl rfl ?_
        obtain ⟨h3, wh3, eh3, H⟩ := H
        refine w_h (h_st tok rfl rfl rfl rfl rfl rfl wh3 eh3) rfl rfl ?_
        refine w_end ?_
        refine x_seq ?_
        refine c_weak [] trivial ?_
        refine c_seq ?_
        refine c_region ?_
        refine w_p tok rfl rfl rfl ?_
        refine w_end ?_
        refine x_seq ?_
        refine c_ret ?_
        exact x_ret _ rfl _ rfl ⟨0, rfl, H⟩

theorem lease_Lease_Take_ok : CallOk Go.Proofs.Try.prog 13 := ⟨_, Go.Proofs.Try.func13, by kernel_rfl, by kernel_rfl⟩
theorem lease_Lease_Take_ref (p0 : Option Addr) (k : (Int × Int) → Heap → Prop) (h : Heap) (H : lease_Lease_Take p0 k h) : CallsH Go.Proofs.Try.prog 13 #[.pointer p0] h (fun v h' => ∃ r : Int × Int, v = .tuple #[.int .u64 r.1, .int .i64 r.2] ∧ k r h') := by
  refine f_enter (N := 35) Go.Proofs.Try.func13 rfl rfl rfl (fun w0 => ?_)
  unfold lease_Lease_Take at H
  refine c_weak [(0, .pointer p0)] ⟨rfl, trivial⟩ ?_
  refine c_seq ?_
  refine c_region ?_
  refine w_p tok rfl rfl rfl ?_
  refine w_p tok rfl rfl rfl ?_
  refine w_end ?_
  refine x_seq ?_
  refine c_seq ?_
  refine c_block ?_
  refine c_seq ?_
  refine c_region ?_
  refine w_p tok rfl rfl rfl ?_
  refine w_p tok rfl rfl rfl ?_
  refine w_p tok rfl rfl rfl ?_
  refine w_end ?_
  refine x_seq ?_
  refine c_if H rfl (fun H => ?_) (fun H => ?_)
  ·
    refine c_seq ?_
    refine c_region ?_
    refine w_p tok rfl rfl rfl ?_
    refine w_p tok rfl rfl rfl ?_
    refine w_end ?_
    refine x_seq ?_
    refine c_ret ?_
    refine x_br ?_
    refine x_tr ?_
    exact x_ret _ rfl _ rfl ⟨(0, 14), rfl, H⟩
  ·
    refine c_seq ?_
    refine c_draw (by kernel_rfl) (by kernel_rfl) ?_
    refine q_p tok rfl rfl rfl ?_
    obtain ⟨a1, ha1, H⟩ := H
    refine q_y (y_nil' rfl rfl ha1) rfl rfl ?_
    refine q_p tok rfl rfl rfl ?_
    obtain ⟨v2, hv2, H⟩ := H
    refine q_y (y_ld tok rfl rfl rfl rfl hv2) rfl rfl ?_
    refine q_p tok rfl rfl rfl ?_
    refine q_y (y_nil' rfl rfl ha1) rfl rfl ?_
    refine q_p tok rfl rfl rfl ?_
    obtain ⟨v3, hv3, H⟩ := H
    refine q_y (y_ld tok rfl rfl rfl rfl hv3) rfl rfl ?_
    refine q_p tok rfl rfl rfl ?_
    refine q_p tok rfl rfl rfl ?_
    refine q_end ?_
    refine x_seq ?_
    refine c_weak [(0, .pointer p0), (7, .bool (decide (v2 < v3)))] ⟨rfl, rfl, trivial⟩ ?_
    refine c_if H rfl (fun H => ?_) (fun H => ?_)
    ·
      refine c_seq ?_
      refine c_region ?_
      refine w_p tok rfl rfl rfl ?_
      refine w_y (y_nil' rfl rfl ha1) rfl rfl ?_
      refine w_p tok rfl rfl rfl ?_
      obtain ⟨v4, hv4, H⟩ := H
      refine w_y (y_ld tok rfl rfl rfl rfl hv4) rfl rfl ?_
      refine w_p tok rfl rfl rfl ?_
      refine w_y (y_nil' rfl rfl ha1) rfl rfl ?_
      refine w_p tok rfl rfl rfl ?_
      obtain ⟨h5, wh5, eh5, H⟩ := H
      refine w_h (h_st tok rfl rfl rfl rfl rfl rfl wh5 eh5) rfl rfl ?_
      refine w_end ?_
      refine x_seq ?_
      refine c_weak [(0, .pointer p0)] ⟨rfl, trivial⟩ ?_
      refine c_seq ?_
      refine c_region ?_
      refine w_p tok rfl rfl rfl ?_
      refine w_y (y_nil' rfl rfl ha1) rfl rfl ?_
      refine w_p tok rfl rfl rfl ?_
      obtain ⟨v6, hv6, H⟩ := H
      refine w_y (y_ld tok rfl rfl rfl rfl hv6) rfl rfl ?_
      refine w_p tok rfl rfl rfl ?_
      obtain ⟨x7, ex7, H⟩ := H
      refine w_pe tok rfl (congrArg (fun z => (.int .u64 z : Value)) ex7) rfl rfl ?_
      refine w_p tok rfl rfl rfl ?_
      refine w_end ?_
      refine x_seq ?_
      refine c_ret ?_
      refine x_br ?_
      refine x_tr ?_
      exact x_ret _ rfl _ rfl ⟨(x7, 0), rfl, H⟩
    ·
      refine c_seq ?_
      refine c_region ?_
      refine w_p tok rfl rfl rfl ?_
      refine w_y (y_nil' rfl rfl ha1) rfl rfl ?_
      refine w_p tok rfl rfl rfl ?_
      obtain ⟨v8, hv8, H⟩ := H
      refine w_y (y_ld tok rfl rfl rfl rfl hv8) rfl rfl ?_
      refine w_p tok rfl rfl rfl ?_
      refine w_p tok rfl rfl rfl ?_
      refine w_end ?_
      refine x_seq ?_
      refine c_weak [(29, .bool (v8 == 4611686018427387904))] ⟨rfl, trivial⟩ ?_
      refine c_if H rfl (fun H => ?_) (fun H => ?_)
      ·
        refine c_seq ?_
        refine c_region ?_
        refine w_p tok rfl rfl rfl ?_
        refine w_p tok rfl rfl rfl ?_
        refine w_end ?_
        refine x_seq ?_
        refine c_ret ?_
        refine x_br ?_
        refine x_tr ?_
        exact x_ret _ rfl _ rfl ⟨(0, 12), rfl, H⟩
      ·
        refine c_skip ?_
        refine x_blk ?_
        refine x_seq ?_
        refine c_seq ?_
        refine c_region ?_
        refine w_p tok rfl rfl rfl ?_
        refine w_p tok rfl rfl rfl ?_
        refine w_end ?_
        refine x_seq ?_
        refine c_ret ?_
        exact x_ret _ rfl _ rfl ⟨(0, 14), rfl, H⟩

theorem law12_awake_ok : CallOk Go.Proofs.Try.prog 9 := ⟨_, Go.Proofs.Try.func9, by kernel_rfl, by kernel_rfl⟩
theorem law12_awake_ref (k : (Bool) → Heap → Prop) (h : Heap) (H : law12_awake k h) : CallsH Go.Proofs.Try.prog 9 #[] h (fun v h' => ∃ r : Bool, v = .bool r ∧ k r h') := by
  refine f_enter (N := 49) Go.Proofs.Try.func9 rfl rfl rfl (fun w0 => ?_)
  unfold law12_awake at H
  refine c_seq ?_
  refine c_region ?_
  refine w_p tok rfl rfl rfl ?_
  refine w_end ?_
  refine x_seq ?_
  refine c_seq ?_
  refine c_region ?_
  refine w_call lease_New_ok (lease_New_ref _ _ _ _ H) rfl rfl rfl rfl ?_
  rintro _ h2 ⟨r1, rfl, H⟩
  refine w_p tok rfl rfl rfl ?_
  refine w_end ?_
  refine x_seq ?_
  refine c_seq ?_
  refine c_region ?_
  refine w_p tok rfl rfl rfl ?_
  refine w_call lease_Lease_Grant_ok (lease_Lease_Grant_ref _ _ _ _ H) rfl rfl rfl rfl ?_
  rintro _ h4 ⟨r3, rfl, H⟩
  refine w_p tok rfl rfl rfl ?_
  refine w_end ?_
  refine x_seq ?_
  refine c_seq ?_
  refine c_region ?_
  refine w_p tok rfl rfl rfl ?_
  refine w_call lease_Lease_Take_ok (lease_Lease_Take_ref _ _ _ H) rfl rfl rfl rfl ?_
  rintro _ h6 ⟨r5, rfl, H⟩
  refine w_p tok rfl rfl rfl ?_
  refine w_p tok rfl rfl rfl ?_
  refine w_p tok rfl rfl rfl ?_
  refine w_p tok rfl rfl rfl ?_
  refine w_p tok rfl rfl rfl ?_
  refine w_end ?_
  refine x_seq ?_
  refine c_weak [(1, .pointer r1), (2, .int .i64 r3), (3, .int .u64 r5.1), (4, .int .i64 r5.2)] ⟨rfl, rfl, rfl, rfl, trivial⟩ ?_
  refine c_seq ?_
  refine c_region ?_
  refine w_p tok rfl rfl rfl ?_
  refine w_call lease_Lease_Take_ok (lease_Lease_Take_ref _ _ _ H) rfl rfl rfl rfl ?_
  rintro _ h8 ⟨r7, rfl, H⟩
  refine w_p tok rfl rfl rfl ?_
  refine w_p tok rfl rfl rfl ?_
  refine w_p tok rfl rfl rfl ?_
  refine w_p tok rfl rfl rfl ?_
  refine w_p tok rfl rfl rfl ?_
  refine w_end ?_
  refine x_seq ?_
  refine c_seq ?_
  refine c_region ?_
  refine w_p tok rfl rfl rfl ?_
  refine w_call lease_Lease_Take_ok (lease_Lease_Take_ref _ _ _ H) rfl rfl rfl rfl ?_
  rintro _ h10 ⟨r9, rfl, H⟩
  refine w_p tok rfl rfl rfl ?_
  refine w_p tok rfl rfl rfl ?_
  refine w_p tok rfl rfl rfl ?_
  refine w_p tok rfl rfl rfl ?_
  refine w_p tok rfl rfl rfl ?_
  refine w_end ?_
  refine x_seq ?_
  refine c_weak [(2, .int .i64 r3), (3, .int .u64 r5.1), (4, .int .i64 r5.2), (5, .int .u64 r7.1), (6, .int .i64 r7.2), (8, .int .i64 r9.2)] ⟨rfl, rfl, rfl, rfl, rfl, rfl, trivial⟩ ?_
  refine c_seq ?_
  refine c_region ?_
  refine w_p tok rfl rfl rfl ?_
  refine w_p tok rfl rfl rfl ?_
  refine w_p tok rfl rfl rfl ?_
  refine w_cutU 3 [(32, .bool ((r3 == 0) && (r5.2 == 0))), (3, .int .u64 r5.1), (5, .int .u64 r7.1), (6, .int .i64 r7.2), (8, .int .i64 r9.2)] ?_ ?_
  ·
    refine w_p tok rfl rfl rfl ?_
    refine w_cutU 3 [(36, .bool (((r3 == 0) && (r5.2 == 0)) && (r7.2 == 0))), (3, .int .u64 r5.1), (5, .int .u64 r7.1), (8, .int .i64 r9.2)] ?_ ?_
    ·
      refine w_p tok rfl rfl rfl ?_
      refine w_cutU 3 [(40, .bool ((((r3 == 0) && (r5.2 == 0)) && (r7.2 == 0)) && (r5.1 == 10))), (5, .int .u64 r7.1), (8, .int .i64 r9.2)] ?_ ?_
      ·
        refine w_p tok rfl rfl rfl ?_
        refine w_cutU 3 [(44, .bool (((((r3 == 0) && (r5.2 == 0)) && (r7.2 == 0)) && (r5.1 == 10)) && (r7.1 == 11))), (8, .int .i64 r9.2)] ?_ ?_
        ·
          refine w_p tok rfl rfl rfl ?_
          refine w_cutU 3 [(48, .bool ((((((r3 == 0) && (r5.2 == 0)) && (r7.2 == 0)) && (r5.1 == 10)) && (r7.1 == 11)) && (r9.2 == 14)))] ?_ ?_
          ·
            refine w_p tok rfl rfl rfl ?_
            refine w_end ?_
            refine x_seq ?_
            refine c_ret ?_
            exact x_ret _ rfl _ rfl ⟨((((((r3 == 0) && (r5.2 == 0)) && (r7.2 == 0)) && (r5.1 == 10)) && (r7.1 == 11)) && (r9.2 == 14)), rfl, H⟩
          ·
            refine w_gs (d := 45) rfl (fun hb => ?_) (fun hb => ?_)
            ·
              refine w_p tok rfl rfl rfl ?_
              refine w_p tok rfl rfl rfl ?_
              refine w_p tok rfl rfl rfl ?_
              refine w_jn () rfl ⟨?_, trivial⟩
              exact congrArg (fun b => some (Value.bool b)) (and_t hb)
            ·
              refine w_skip rfl rfl ?_
              refine w_skip rfl rfl ?_
              refine w_p tok rfl rfl rfl ?_
              refine w_jn () rfl ⟨?_, trivial⟩
              exact congrArg (fun b => some (Value.bool b)) (and_f hb)
        ·
          refine w_gs (d := 41) rfl (fun hb => ?_) (fun hb => ?_)
          ·
            refine w_p tok rfl rfl rfl ?_
            refine w_p tok rfl rfl rfl ?_
            refine w_p tok rfl rfl rfl ?_
            refine w_jn () rfl ⟨?_, rfl, trivial⟩
            exact congrArg (fun b => some (Value.bool b)) (and_t hb)
          ·
            refine w_skip rfl rfl ?_
            refine w_skip rfl rfl ?_
            refine w_p tok rfl rfl rfl ?_
            refine w_jn () rfl ⟨?_, rfl, trivial⟩
            exact congrArg (fun b => some (Value.bool b)) (and_f hb)
      ·
        refine w_gs (d := 37) rfl (fun hb => ?_) (fun hb => ?_)
        ·
          refine w_p tok rfl rfl rfl ?_
          refine w_p tok rfl rfl rfl ?_
          refine w_p tok rfl rfl rfl ?_
          refine w_jn () rfl ⟨?_, rfl, rfl, trivial⟩
          exact congrArg (fun b => some (Value.bool b)) (and_t hb)
        ·
          refine w_skip rfl rfl ?_
          refine w_skip rfl rfl ?_
          refine w_p tok rfl rfl rfl ?_
          refine w_jn () rfl ⟨?_, rfl, rfl, trivial⟩
          exact congrArg (fun b => some (Value.bool b)) (and_f hb)
    ·
      refine w_gs (d := 33) rfl (fun hb => ?_) (fun hb => ?_)
      ·
        refine w_p tok rfl rfl rfl ?_
        refine w_p tok rfl rfl rfl ?_
        refine w_p tok rfl rfl rfl ?_
        refine w_jn () rfl ⟨?_, rfl, rfl, rfl, trivial⟩
        exact congrArg (fun b => some (Value.bool b)) (and_t hb)
      ·
        refine w_skip rfl rfl ?_
        refine w_skip rfl rfl ?_
        refine w_p tok rfl rfl rfl ?_
        refine w_jn () rfl ⟨?_, rfl, rfl, rfl, trivial⟩
        exact congrArg (fun b => some (Value.bool b)) (and_f hb)
  ·
    refine w_gs (d := 29) rfl (fun hb => ?_) (fun hb => ?_)
    ·
      refine w_p tok rfl rfl rfl ?_
      refine w_p tok rfl rfl rfl ?_
      refine w_p tok rfl rfl rfl ?_
      refine w_jn () rfl ⟨?_, rfl, rfl, rfl, rfl, trivial⟩
      exact congrArg (fun b => some (Value.bool b)) (and_t hb)
    ·
      refine w_skip rfl rfl ?_
      refine w_skip rfl rfl ?_
      refine w_p tok rfl rfl rfl ?_
      refine w_jn () rfl ⟨?_, rfl, rfl, rfl, rfl, trivial⟩
      exact congrArg (fun b => some (Value.bool b)) (and_f hb)

theorem law12_LeaseOnce_ok : CallOk Go.Proofs.Try.prog 3 := ⟨_, Go.Proofs.Try.func3, by kernel_rfl, by kernel_rfl⟩
theorem law12_LeaseOnce_ref (p0 : Int) (p1 : Int) (p2 : Slc) (p3 : Slc) (k : (Bool) → Heap → Prop) (h : Heap) (H : law12_LeaseOnce p0 p1 p2 p3 k h) : CallsH Go.Proofs.Try.prog 3 #[.int .u16 p0, .int .u64 p1, Slc.v p2, Slc.v p3] h (fun v h' => ∃ r : Bool, v = .bool r ∧ k r h') := by
  refine f_enter (N := 107) Go.Proofs.Try.func3 rfl rfl rfl (fun w0 => ?_)
  unfold law12_LeaseOnce at H
  refine c_weak [(0, .int .u16 p0), (1, .int .u64 p1), (2, Slc.v p2), (3, Slc.v p3)] ⟨rfl, rfl, rfl, rfl, trivial⟩ ?_
  refine c_seq ?_
  refine c_region ?_
  refine w_p tok rfl rfl rfl ?_
  refine w_end ?_
  refine x_seq ?_
  refine c_seq ?_
  refine c_seq ?_
  refine c_region ?_
  refine w_p tok rfl rfl rfl ?_
  refine w_p tok rfl rfl rfl ?_
  refine w_p tok rfl rfl rfl ?_
  refine w_cutU 4 [(25, .bool ((decide (p1 > 2305843009213693952)) || (decide ((p2.len : Int) > 8)))), (0, .int .u16 p0), (1, .int .u64 p1), (2, Slc.v p2), (3, Slc.v p3)] ?_ ?_
  ·
    refine w_p tok rfl rfl rfl ?_
    refine w_cutU 4 [(30, .bool (((decide (p1 > 2305843009213693952)) || (decide ((p2.len : Int) > 8))) || (decide ((p3.len : Int) > 8)))), (0, .int .u16 p0), (1, .int .u64 p1), (2, Slc.v p2), (3, Slc.v p3)] ?_ ?_
    ·
      refine w_end ?_
      refine x_seq ?_
      refine c_if H rfl (fun H => ?_) (fun H => ?_)
      ·
        refine c_seq ?_
        refine c_region ?_
        refine w_call law12_awake_ok (law12_awake_ref  _ _ H) rfl rfl rfl rfl ?_
        rintro _ h2 ⟨r1, rfl, H⟩
        refine w_p tok rfl rfl rfl ?_
        refine w_end ?_
        refine x_seq ?_
        refine c_ret ?_
        refine x_tr ?_
        exact x_ret _ rfl _ rfl ⟨r1, rfl, H⟩
      ·
        refine c_skip ?_
        refine x_seq ?_
        refine c_seq ?_
        refine c_region ?_
        refine w_p tok rfl rfl rfl ?_
        refine w_p tok rfl rfl rfl ?_
        refine w_end ?_
        refine x_seq ?_
        refine c_seq ?_
        refine c_region ?_
        refine w_p tok rfl rfl rfl ?_
        refine w_end ?_
        refine x_seq ?_
        refine c_seq ?_
        refine c_seq ?_
        refine c_region ?_
        refine w_p tok rfl rfl rfl ?_
        refine w_end ?_
        refine x_seq ?_
        refine c_block ?_
        obtain ⟨I1, μ1, H0, HI⟩ := H
        refine c_loop (σ := Int × Slc × Int) (fun (s : Int × Slc × Int) => [(9, .int .u64 s.1), (10, Slc.v s.2.1), (11, .int .i64 s.2.2), (0, .int .u16 p0), (1, .int .u64 p1), (2, Slc.v p2), (3, Slc.v p3)]) I1 μ1 (p1, (⟨none, 0, 0⟩ : Slc), 0) H0 ⟨rfl, rfl, rfl, rfl, rfl, rfl, rfl, trivial⟩ ?_
        rintro ⟨t9_1, t10_1, t11_1⟩ h_1 H
        replace H := HI t9_1 t10_1 t11_1 h_1 H
        unfold law12_LeaseOnce_l1b at H
        refine c_weak [(9, .int .u64 t9_1), (10, Slc.v t10_1), (11, .int .i64 t11_1), (0, .int .u16 p0), (1, .int .u64 p1), (2, Slc.v p2), (3, Slc.v p3)] ⟨rfl, rfl, rfl, rfl, rfl, rfl, rfl, trivial⟩ ?_
        refine c_seq ?_
        refine c_seq ?_
        refine c_region ?_
        refine w_p tok rfl rfl rfl ?_
        refine w_p tok rfl rfl rfl ?_
        refine w_p tok rfl rfl rfl ?_
        refine w_p tok rfl rfl rfl ?_
        refine w_end ?_
        refine x_seq ?_
        refine c_if H rfl (fun H => ?_) (fun H => ?_)
        ·
          refine c_skip ?_
          refine x_seq ?_
          refine c_seqJ (α := Int × Slc) (fun (s : Int × Slc) => [(9, .int .u64 s.1), (10, Slc.v s.2), (0, .int .u16 p0), (1, .int .u64 p1), (2, Slc.v p2), (3, Slc.v p3), (11, .int .i64 t11_1)]) (fun (s : Int × Slc) h => law12_LeaseOnce_j2 p0 p1 p2 p3 t11_1 s.1 s.2 k (fun s h' => I1 s h' ∧ μ1 s h' < μ1 (t9_1, t10_1, t11_1) h_1) h) ?_ ?_
          ·
            rintro ⟨t9_2, t10_2⟩ h_2 H
            replace H : law12_LeaseOnce_j2 p0 p1 p2 p3 t11_1 t9_2 t10_2 k (fun s h' => I1 s h' ∧ μ1 s h' < μ1 (t9_1, t10_1, t11_1) h_1) h_2 := H
            unfold law12_LeaseOnce_j2 at H
            refine c_weak [(9, .int .u64 t9_2), (10, Slc.v t10_2), (0, .int .u16 p0), (1, .int .u64 p1), (2, Slc.v p2), (3, Slc.v p3), (11, .int .i64 t11_1)] ⟨rfl, rfl, rfl, rfl, rfl, rfl, rfl, trivial⟩ ?_
            refine c_region ?_
            refine w_p tok rfl rfl rfl ?_
            refine w_p tok rfl rfl rfl ?_
            obtain ⟨x3, ex3, H⟩ := H
            refine w_pe tok rfl (congrArg (fun z => (.int .i64 z : Value)) ex3) rfl rfl ?_
            refine w_end ?_
            exact x_join (t9_2, t10_2, x3) H ⟨rfl, rfl, rfl, rfl, rfl, rfl, rfl, trivial⟩
          ·
            refine c_block ?_
            refine c_seq ?_
            refine c_region ?_
            refine w_p tok rfl rfl rfl ?_
            refine w_p tok rfl rfl rfl ?_
            refine w_call lease_New_ok (lease_New_ref _ _ _ _ H) rfl rfl rfl rfl ?_
            rintro _ h5 ⟨r4, rfl, H⟩
            refine w_p tok rfl rfl rfl ?_
            refine w_end ?_
            refine x_seq ?_
            refine c_weak [(10, Slc.v t10_1), (11, .int .i64 t11_1), (0, .int .u16 p0), (1, .int .u64 p1), (2, Slc.v p2), (3, Slc.v p3), (12, .pointer r4)] ⟨rfl, rfl, rfl, rfl, rfl, rfl, rfl, trivial⟩ ?_
            refine c_seq ?_
            refine c_region ?_
            refine w_p tok rfl rfl rfl ?_
            refine w_p tok rfl rfl rfl ?_
            refine w_p tok rfl rfl rfl ?_
            obtain ⟨a6, ha6, la6, ua6, H⟩ := H
            refine w_y (y_ixa' tok rfl rfl ha6 rfl rfl rfl la6 ua6) rfl rfl ?_
            obtain ⟨v7, hv7, H⟩ := H
            refine w_y (y_ld tok rfl rfl rfl rfl hv7) rfl rfl ?_
            refine w_p tok rfl rfl rfl ?_
            refine w_call lease_Lease_Wants_ok (lease_Lease_Wants_ref _ _ _ _ H) rfl rfl rfl rfl ?_
            rintro _ h9 ⟨r8, rfl, H⟩
            refine w_p tok rfl rfl rfl ?_
            refine w_p tok rfl rfl rfl ?_
            refine w_p tok rfl rfl rfl ?_
            refine w_p tok rfl rfl rfl ?_
            refine w_p tok rfl rfl rfl ?_
            refine w_end ?_
            refine x_seq ?_
            refine c_weak [(10, Slc.v t10_1), (11, .int .i64 t11_1), (0, .int .u16 p0), (1, .int .u64 p1), (2, Slc.v p2), (3, Slc.v p3), (12, .pointer r4), (13, .int .u64 r8.1), (14, .int .i64 r8.2)] ⟨rfl, rfl, rfl, rfl, rfl, rfl, rfl, rfl, rfl, trivial⟩ ?_
            refine c_seq ?_
            refine c_seq ?_
            refine c_region ?_
            refine w_p tok rfl rfl rfl ?_
            refine w_p tok rfl rfl rfl ?_
            refine w_end ?_
            refine x_seq ?_
            refine c_if H rfl (fun H => ?_) (fun H => ?_)
            ·
              refine c_seq ?_
              refine c_region ?_
              refine w_p tok rfl rfl rfl ?_
              refine w_end ?_
              refine x_seq ?_
              refine c_weak [(8, .bool false)] ⟨rfl, trivial⟩ ?_
              refine c_ret ?_
              refine x_tr ?_
              refine x_br ?_
              refine x_tr ?_
              refine x_tr ?_
              refine x_br ?_
              refine x_tr ?_
              exact x_ret _ rfl _ rfl ⟨false, rfl, H⟩
            ·
              refine c_skip ?_
              refine x_seq ?_
              refine c_seq ?_
              refine c_region ?_
              refine w_p tok rfl rfl rfl ?_
              refine w_p tok rfl rfl rfl ?_
              refine w_end ?_
              refine x_seq ?_
              refine c_seq ?_
              refine c_seq ?_
              refine c_region ?_
              refine w_p tok rfl rfl rfl ?_
              refine w_p tok rfl rfl rfl ?_
              refine w_call lease_Lease_Grant_ok (lease_Lease_Grant_ref _ _ _ _ H) rfl rfl rfl rfl ?_
              rintro _ h11 ⟨r10, rfl, H⟩
              refine w_p tok rfl rfl rfl ?_
              refine w_end ?_
              refine x_seq ?_
              refine c_weak [(10, Slc.v t10_1), (11, .int .i64 t11_1), (0, .int .u16 p0), (1, .int .u64 p1), (2, Slc.v p2), (3, Slc.v p3), (12, .pointer r4), (9, .int .u64 r8.1), (58, .bool (r10 != 0))] ⟨rfl, rfl, rfl, rfl, rfl, rfl, rfl, rfl, rfl, trivial⟩ ?_
              refine c_if H rfl (fun H => ?_) (fun H => ?_)
              ·
                refine c_seq ?_
                refine c_region ?_
                refine w_p tok rfl rfl rfl ?_
                refine w_end ?_
                refine x_seq ?_
                refine c_weak [(8, .bool false)] ⟨rfl, trivial⟩ ?_
                refine c_ret ?_
                refine x_tr ?_
                refine x_br ?_
                refine x_tr ?_
                refine x_tr ?_
                refine x_br ?_
                refine x_tr ?_
                exact x_ret _ rfl _ rfl ⟨false, rfl, H⟩
              ·
                refine c_skip ?_
                refine x_seq ?_
                refine c_seq ?_
                refine c_region ?_
                refine w_p tok rfl rfl rfl ?_
                refine w_end ?_
                refine x_seq ?_
                refine c_block ?_
                obtain ⟨I3, μ3, H0, HI⟩ := H
                refine c_loop (σ := Slc × Int) (fun (s : Slc × Int) => [(10, Slc.v s.1), (15, .int .i64 s.2), (0, .int .u16 p0), (1, .int .u64 p1), (2, Slc.v p2), (3, Slc.v p3), (9, .int .u64 r8.1), (11, .int .i64 t11_1), (12, .pointer r4)]) I3 μ3 (t10_1, 0) H0 ⟨rfl, rfl, rfl, rfl, rfl, rfl, rfl, rfl, rfl, trivial⟩ ?_
                rintro ⟨t10_3, t15_3⟩ h_3 H
                replace H := HI t10_3 t15_3 h_3 H
                unfold law12_LeaseOnce_l3b at H
                refine c_weak [(10, Slc.v t10_3), (15, .int .i64 t15_3), (0, .int .u16 p0), (1, .int .u64 p1), (2, Slc.v p2), (3, Slc.v p3), (9, .int .u64 r8.1), (11, .int .i64 t11_1), (12, .pointer r4)] ⟨rfl, rfl, rfl, rfl, rfl, rfl, rfl, rfl, rfl, trivial⟩ ?_
                refine c_seq ?_
                refine c_seq ?_
                refine c_region ?_
                refine w_p tok rfl rfl rfl ?_
                refine w_p tok rfl rfl rfl ?_
                refine w_p tok rfl rfl rfl ?_
                refine w_p tok rfl rfl rfl ?_
                refine w_p tok rfl rfl rfl ?_
                refine w_cut 9 (α := Bool) (fun (s : Bool) => [(72, .bool s), (0, .int .u16 p0), (1, .int .u64 p1), (2, Slc.v p2), (3, Slc.v p3), (9, .int .u64 r8.1), (10, Slc.v t10_3), (11, .int .i64 t11_1), (12, .pointer r4), (15, .int .i64 t15_3)]) (fun (s : Bool) h => law12_LeaseOnce_g4 p0 p1 p2 p3 r8.1 t10_3 t11_1 r4 t15_3 s k (fun s h' => I1 s h' ∧ μ1 s h' < μ1 (t9_1, t10_1, t11_1) h_1) (fun s h' => I3 s h' ∧ μ3 s h' < μ3 (t10_3, t15_3) h_3) h) ?_ ?_
                ·
                  rintro t72_4 h_4 H
                  replace H : law12_LeaseOnce_g4 p0 p1 p2 p3 r8.1 t10_3 t11_1 r4 t15_3 t72_4 k (fun s h' => I1 s h' ∧ μ1 s h' < μ1 (t9_1, t10_1, t11_1) h_1) (fun s h' => I3 s h' ∧ μ3 s h' < μ3 (t10_3, t15_3) h_3) h_4 := H
                  unfold law12_LeaseOnce_g4 at H
                  refine w_weak [(72, .bool t72_4), (0, .int .u16 p0), (1, .int .u64 p1), (2, Slc.v p2), (3, Slc.v p3), (9, .int .u64 r8.1), (10, Slc.v t10_3), (11, .int .i64 t11_1), (12, .pointer r4), (15, .int .i64 t15_3)] ⟨rfl, rfl, rfl, rfl, rfl, rfl, rfl, rfl, rfl, rfl, trivial⟩ ?_
                  refine w_end ?_
                  refine x_seq ?_
                  refine c_if H rfl (fun H => ?_) (fun H => ?_)
                  ·
                    refine c_skip ?_
                    refine x_seq ?_
                    refine c_seq ?_
                    refine c_block ?_
                    refine c_seq ?_
                    refine c_region ?_
                    refine w_p tok rfl rfl rfl ?_
                    refine w_call lease_Lease_Take_ok (lease_Lease_Take_ref _ _ _ H) rfl rfl rfl rfl ?_
                    rintro _ h13 ⟨r12, rfl, H⟩
                    refine w_p tok rfl rfl rfl ?_
                    refine w_p tok rfl rfl rfl ?_
                    refine w_p tok rfl rfl rfl ?_
                    refine w_p tok rfl rfl rfl ?_
                    refine w_p tok rfl rfl rfl ?_
                    refine w_end ?_
                    refine x_seq ?_
                    refine c_seq ?_
                    refine c_seq ?_
                    refine c_region ?_
                    refine w_p tok rfl rfl rfl ?_
                    refine w_p tok rfl rfl rfl ?_
                    refine w_end ?_
                    refine x_seq ?_
                    refine c_weak [(0, .int .u16 p0), (1, .int .u64 p1), (2, Slc.v p2), (3, Slc.v p3), (9, .int .u64 r8.1), (10, Slc.v t10_3), (11, .int .i64 t11_1), (12, .pointer r4), (15, .int .i64 t15_3), (16, .int .u64 r12.1), (81, .bool (r12.2 != 0))] ⟨rfl, rfl, rfl, rfl, rfl, rfl, rfl, rfl, rfl, rfl, rfl, trivial⟩ ?_
                    refine c_if H rfl (fun H => ?_) (fun H => ?_)
                    ·
                      refine c_exit ?_
                      refine x_te ?_
                      refine x_bm rfl ?_
                      refine x_te ?_
                      refine x_te ?_
                      refine x_bh ?_
                      refine x_blk ?_
                      exact x_join (r8.1, t10_3) H ⟨rfl, rfl, rfl, rfl, rfl, rfl, rfl, trivial⟩
                    ·
                      refine c_skip ?_
                      refine x_seq ?_
                      refine c_seq ?_
                      refine c_seq ?_
                      refine c_region ?_
                      refine w_p tok rfl rfl rfl ?_
                      refine w_p tok rfl rfl rfl ?_
                      refine w_p tok rfl rfl rfl ?_
                      refine w_p tok rfl rfl rfl ?_
                      refine w_cutU 4 [(89, .bool ((decide (r12.1 ≥ r8.1)) || (decide (r12.1 < p1)))), (0, .int .u16 p0), (1, .int .u64 p1), (2, Slc.v p2), (3, Slc.v p3), (9, .int .u64 r8.1), (10, Slc.v t10_3), (11, .int .i64 t11_1), (12, .pointer r4), (15, .int .i64 t15_3), (16, .int .u64 r12.1)] ?_ ?_
                      ·
                        refine w_end ?_
                        refine x_seq ?_
                        refine c_if H rfl (fun H => ?_) (fun H => ?_)
                        ·
                          refine c_seq ?_
                          refine c_region ?_
                          refine w_p tok rfl rfl rfl ?_
                          refine w_end ?_
                          refine x_seq ?_
                          refine c_weak [(8, .bool false)] ⟨rfl, trivial⟩ ?_
                          refine c_ret ?_
                          refine x_tr ?_
                          refine x_br ?_
                          refine x_tr ?_
                          refine x_tr ?_
                          refine x_br ?_
                          refine x_br ?_
                          refine x_tr ?_
                          refine x_tr ?_
                          refine x_br ?_
                          refine x_tr ?_
                          exact x_ret _ rfl _ rfl ⟨false, rfl, H⟩
                        ·
                          refine c_skip ?_
                          refine x_seq ?_
                          refine c_seq ?_
                          refine c_seq ?_
                          refine c_region ?_
                          refine w_p tok rfl rfl rfl ?_
                          refine w_end ?_
                          refine x_seq ?_
                          refine c_block ?_
                          obtain ⟨I5, μ5, H0, HI⟩ := H
                          refine c_loop (σ := Int) (fun (s : Int) => [(18, .int .i64 s), (0, .int .u16 p0), (1, .int .u64 p1), (2, Slc.v p2), (3, Slc.v p3), (9, .int .u64 r8.1), (10, Slc.v t10_3), (11, .int .i64 t11_1), (12, .pointer r4), (15, .int .i64 t15_3), (16, .int .u64 r12.1)]) I5 μ5 0 H0 ⟨rfl, rfl, rfl, rfl, rfl, rfl, rfl, rfl, rfl, rfl, rfl, trivial⟩ ?_
                          rintro t18_5 h_5 H
                          replace H := HI t18_5 h_5 H
                          unfold law12_LeaseOnce_l5b at H
                          refine c_weak [(18, .int .i64 t18_5), (0, .int .u16 p0), (1, .int .u64 p1), (2, Slc.v p2), (3, Slc.v p3), (9, .int .u64 r8.1), (10, Slc.v t10_3), (11, .int .i64 t11_1), (12, .pointer r4), (15, .int .i64 t15_3), (16, .int .u64 r12.1)] ⟨rfl, rfl, rfl, rfl, rfl, rfl, rfl, rfl, rfl, rfl, rfl, trivial⟩ ?_
                          refine c_seq ?_
                          refine c_seq ?_
                          refine c_region ?_
                          refine w_p tok rfl rfl rfl ?_
                          refine w_p tok rfl rfl rfl ?_
                          refine w_p tok rfl rfl rfl ?_
                          refine w_p tok rfl rfl rfl ?_
                          refine w_end ?_
                          refine x_seq ?_
                          refine c_if H rfl (fun H => ?_) (fun H => ?_)
                          ·
                            refine c_skip ?_
                            refine x_seq ?_
                            refine c_seq ?_
                            refine c_block ?_
                            refine c_seq ?_
                            refine c_region ?_
                            refine w_p tok rfl rfl rfl ?_
                            refine w_p tok rfl rfl rfl ?_
                            obtain ⟨a14, ha14, la14, ua14, H⟩ := H
                            refine w_y (y_ixa' tok rfl rfl ha14 rfl rfl rfl la14 ua14) rfl rfl ?_
                            obtain ⟨v15, hv15, H⟩ := H
                            refine w_y (y_ld tok rfl rfl rfl rfl hv15) rfl rfl ?_
                            refine w_p tok rfl rfl rfl ?_
                            refine w_p tok rfl rfl rfl ?_
                            refine w_end ?_
                            refine x_seq ?_
                            refine c_weak [(18, .int .i64 t18_5), (0, .int .u16 p0), (1, .int .u64 p1), (2, Slc.v p2), (3, Slc.v p3), (9, .int .u64 r8.1), (10, Slc.v t10_3), (11, .int .i64 t11_1), (12, .pointer r4), (15, .int .i64 t15_3), (16, .int .u64 r12.1), (101, .bool (v15 == r12.1))] ⟨rfl, rfl, rfl, rfl, rfl, rfl, rfl, rfl, rfl, rfl, rfl, rfl, trivial⟩ ?_
                            refine c_if H rfl (fun H => ?_) (fun H => ?_)
                            ·
                              refine c_seq ?_
                              refine c_region ?_
                              refine w_p tok rfl rfl rfl ?_
                              refine w_end ?_
                              refine x_seq ?_
                              refine c_weak [(8, .bool false)] ⟨rfl, trivial⟩ ?_
                              refine c_ret ?_
                              refine x_br ?_
                              refine x_tr ?_
                              refine x_tr ?_
                              refine x_br ?_
                              refine x_tr ?_
                              refine x_br ?_
                              refine x_tr ?_
                              refine x_tr ?_
                              refine x_br ?_
                              refine x_br ?_
                              refine x_tr ?_
                              refine x_tr ?_
                              refine x_br ?_
                              refine x_tr ?_
                              exact x_ret _ rfl _ rfl ⟨false, rfl, H⟩
                            ·
                              refine c_skip ?_
                              refine x_blk ?_
                              refine x_seq ?_
                              refine c_region ?_
                              refine w_p tok rfl rfl rfl ?_
                              refine w_p tok rfl rfl rfl ?_
                              obtain ⟨x16, ex16, H⟩ := H
                              refine w_pe tok rfl (congrArg (fun z => (.int .i64 z : Value)) ex16) rfl rfl ?_
                              refine w_end ?_
                              exact x_join x16 H ⟨rfl, rfl, rfl, rfl, rfl, rfl, rfl, rfl, rfl, rfl, rfl, trivial⟩
                          ·
                            refine c_exit ?_
                            refine x_te ?_
                            refine x_te ?_
                            refine x_bh ?_
                            refine x_seq ?_
                            refine c_region ?_
                            refine w_p tok rfl rfl rfl ?_
                            refine w_p tok rfl rfl rfl ?_
                            obtain ⟨b17, h18, eb17, eh18, H⟩ := H
                            refine w_h (h_bs tok rfl rfl rfl rfl rfl rfl rfl eb17 eh18) rfl rfl ?_
                            refine w_a (a_app (s := t10_3) (r := (⟨some ⟨b17, 0, none⟩, 1, 1⟩ : Slc)) tok rfl rfl rfl rfl rfl (slcAt_push eb17 eh18) H) rfl rfl ?_
                            rintro _ h20 ⟨s19, rfl, H⟩
                            refine w_p tok rfl rfl rfl ?_
                            refine w_end ?_
                            refine x_blk ?_
                            refine x_seq ?_
                            refine c_weak [(0, .int .u16 p0), (1, .int .u64 p1), (2, Slc.v p2), (3, Slc.v p3), (9, .int .u64 r8.1), (10, Slc.v s19), (11, .int .i64 t11_1), (12, .pointer r4), (15, .int .i64 t15_3)] ⟨rfl, rfl, rfl, rfl, rfl, rfl, rfl, rfl, rfl, trivial⟩ ?_
                            refine c_region ?_
                            refine w_p tok rfl rfl rfl ?_
                            refine w_p tok rfl rfl rfl ?_
                            obtain ⟨x21, ex21, H⟩ := H
                            refine w_pe tok rfl (congrArg (fun z => (.int .i64 z : Value)) ex21) rfl rfl ?_
                            refine w_end ?_
                            exact x_join (s19, x21) H ⟨rfl, rfl, rfl, rfl, rfl, rfl, rfl, rfl, rfl, trivial⟩
                      ·
                        refine w_gs (d := 85) rfl (fun hb => ?_) (fun hb => ?_)
                        ·
                          refine w_skip rfl rfl ?_
                          refine w_skip rfl rfl ?_
                          refine w_skip rfl rfl ?_
                          refine w_p tok rfl rfl rfl ?_
                          refine w_jn () rfl ⟨?_, rfl, rfl, rfl, rfl, rfl, rfl, rfl, rfl, rfl, rfl, trivial⟩
                          exact congrArg (fun b => some (Value.bool b)) (or_t hb)
                        ·
                          refine w_p tok rfl rfl rfl ?_
                          refine w_p tok rfl rfl rfl ?_
                          refine w_p tok rfl rfl rfl ?_
                          refine w_p tok rfl rfl rfl ?_
                          refine w_jn () rfl ⟨?_, rfl, rfl, rfl, rfl, rfl, rfl, rfl, rfl, rfl, rfl, trivial⟩
                          exact congrArg (fun b => some (Value.bool b)) (or_f hb)
                  ·
                    refine c_exit ?_
                    refine x_te ?_
                    refine x_te ?_
                    refine x_bh ?_
                    refine x_blk ?_
                    exact x_join (r8.1, t10_3) H ⟨rfl, rfl, rfl, rfl, rfl, rfl, rfl, trivial⟩
                ·
                  refine w_gif (d := 63) H rfl (fun H => ?_) (fun H => ?_)
                  ·
                    refine w_p tok rfl rfl rfl ?_
                    refine w_p tok rfl rfl rfl ?_
                    refine w_p tok rfl rfl rfl ?_
                    obtain ⟨a22, ha22, la22, ua22, H⟩ := H
                    refine w_y (y_ixa' tok rfl rfl ha22 rfl rfl rfl la22 ua22) rfl rfl ?_
                    obtain ⟨v23, hv23, H⟩ := H
                    refine w_y (y_ld tok rfl rfl rfl rfl hv23) rfl rfl ?_
                    refine w_p tok rfl rfl rfl ?_
                    refine w_p tok rfl rfl rfl ?_
                    refine w_p tok rfl rfl rfl ?_
                    refine w_p tok rfl rfl rfl ?_
                    exact w_jn (decide (t15_3 < (IntKind.i64.wrap (Int.tmod v23 20)))) H ⟨rfl, rfl, rfl, rfl, rfl, rfl, rfl, rfl, rfl, rfl, trivial⟩
                  ·
                    refine w_skip rfl rfl ?_
                    refine w_skip rfl rfl ?_
                    refine w_skip rfl rfl ?_
                    refine w_skip rfl rfl ?_
                    refine w_skip rfl rfl ?_
                    refine w_skip rfl rfl ?_
                    refine w_skip rfl rfl ?_
                    refine w_skip rfl rfl ?_
                    refine w_p tok rfl rfl rfl ?_
                    exact w_jn false H ⟨rfl, rfl, rfl, rfl, rfl, rfl, rfl, rfl, rfl, rfl, trivial⟩
        ·
          refine c_exit ?_
          refine x_te ?_
          refine x_te ?_
          refine x_bh ?_
          refine x_seq ?_
          refine c_weak [] trivial ?_
          refine c_seq ?_
          refine c_region ?_
          refine w_call law12_awake_ok (law12_awake_ref  _ _ H) rfl rfl rfl rfl ?_
          rintro _ h25 ⟨r24, rfl, H⟩
          refine w_p tok rfl rfl rfl ?_
          refine w_end ?_
          refine x_seq ?_
          refine c_ret ?_
          exact x_ret _ rfl _ rfl ⟨r24, rfl, H⟩
    ·
      refine w_gs (d := 26) rfl (fun hb => ?_) (fun hb => ?_)
      ·
        refine w_skip rfl rfl ?_
        refine w_skip rfl rfl ?_
        refine w_skip rfl rfl ?_
        refine w_p tok rfl rfl rfl ?_
        refine w_jn () rfl ⟨?_, rfl, rfl, rfl, rfl, trivial⟩
        exact congrArg (fun b => some (Value.bool b)) (or_t hb)
      ·
        refine w_p tok rfl rfl rfl ?_
        refine w_p tok rfl rfl rfl ?_
        refine w_p tok rfl rfl rfl ?_
        refine w_p tok rfl rfl rfl ?_
        refine w_jn () rfl ⟨?_, rfl, rfl, rfl, rfl, trivial⟩
        exact congrArg (fun b => some (Value.bool b)) (or_f hb)
  ·
    refine w_gs (d := 21) rfl (fun hb => ?_) (fun hb => ?_)
    ·
      refine w_skip rfl rfl ?_
      refine w_skip rfl rfl ?_
      refine w_skip rfl rfl ?_
      refine w_p tok rfl rfl rfl ?_
      refine w_jn () rfl ⟨?_, rfl, rfl, rfl, rfl, trivial⟩
      exact congrArg (fun b => some (Value.bool b)) (or_t hb)
    ·
      refine w_p tok rfl rfl rfl ?_
      refine w_p tok rfl rfl rfl ?_
      refine w_p tok rfl rfl rfl ?_
      refine w_p tok rfl rfl rfl ?_
      refine w_jn () rfl ⟨?_, rfl, rfl, rfl, rfl, trivial⟩
      exact congrArg (fun b => some (Value.bool b)) (or_f hb)
end Go.Q.Ya

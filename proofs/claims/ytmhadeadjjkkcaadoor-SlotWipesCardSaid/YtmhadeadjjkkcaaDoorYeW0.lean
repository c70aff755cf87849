/- A part of the proof of statements of this seat: lemmas, no statement of their own. -/
import Derived.Test.YtmhadeadjjkkcaaDoorYeTab
import Derived.Test.YtmhadeadjjkkcaaDoorYeSlot
set_option linter.unusedVariables false
set_option maxRecDepth 100000
set_option maxHeartbeats 1000000
namespace Go.Q.Ye
/-- quaestor quaestorref01.Same -/
def ref01_Same_l1b (t0_1 : Slc) (t1_1 : Slc) (t5_1 : Int) (k : (Bool) → Heap → Prop) (nx1 : (Int) → Heap → Prop) (h_1 : Heap) : Prop :=
  if (decide (t5_1 < (t0_1.len : Int))) then (∃ a1 : Addr, t0_1.a = some a1 ∧ (0 : Int) ≤ t5_1 ∧ t5_1 < (t0_1.len : Int) ∧ (∃ v2 : Int, cellH h_1 (a1.add (t5_1.toNat * 1)) = some (.int .u8 v2) ∧ (∃ a3 : Addr, t1_1.a = some a3 ∧ (0 : Int) ≤ t5_1 ∧ t5_1 < (t1_1.len : Int) ∧ (∃ v4 : Int, cellH h_1 (a3.add (t5_1.toNat * 1)) = some (.int .u8 v4) ∧ (if (v2 != v4) then (k false h_1) else (∃ x5 : Int, x5 = (IntKind.i64.wrap (t5_1 + 1)) ∧ (nx1 x5 h_1))))))) else (k true h_1)
def ref01_Same_l1 (t0_1 : Slc) (t1_1 : Slc) (i5 : Int) (k : (Bool) → Heap → Prop) (h : Heap) : Prop :=
  ∃ (I : Int → Heap → Prop) (μ : Int → Heap → Nat), I i5 h ∧ ∀ (t5_1 : Int) (h : Heap), I t5_1 h → ref01_Same_l1b t0_1 t1_1 t5_1 k (fun s h' => I s h' ∧ μ s h' < μ t5_1 h) h
def ref01_Same (p0 : Slc) (p1 : Slc) (k : (Bool) → Heap → Prop) (h : Heap) : Prop :=
  if ((p0.len : Int) != (p1.len : Int)) then (k false h) else (ref01_Same_l1 p0 p1 0 k h)

/-- quaestor quaestorlaw10.SlotWhole -/
def law10_SlotWhole_j3 (t0_3 : Slc) (t1_3 : Slc) (t2_3 : Slc) (t8_3 : Option Addr) (t9_3 : Option Addr) (t13_3 : Int) (t11_3 : Slc) (t12_3 : Bool) (k : (Bool) → Heap → Prop) (nx1 : (Int) → Heap → Prop) (nx2 : (Slc × Bool × Int) → Heap → Prop) (h_3 : Heap) : Prop :=
  ∃ x12 : Int, x12 = (IntKind.i64.wrap (t13_3 + 1)) ∧ (nx2 (t11_3, t12_3, x12) h_3)
def law10_SlotWhole_g6 (t0_6 : Slc) (t1_6 : Slc) (t2_6 : Slc) (t8_6 : Option Addr) (t9_6 : Option Addr) (t11_6 : Slc) (t12_6 : Bool) (t13_6 : Int) (t16_6 : Bool) (t17_6 : Slc) (t19_6 : Int) (t20_6 : Bool) (t132_6 : Bool) (k : (Bool) → Heap → Prop) (nx1 : (Int) → Heap → Prop) (nx2 : (Slc × Bool × Int) → Heap → Prop) (h_6 : Heap) : Prop :=
  if (((!t16_6) && (!t132_6)) || ((t16_6 && (!t20_6)) && (!t132_6))) then (k false h_6) else (if (t19_6 == 0) then (law10_SlotWhole_j3 t0_6 t1_6 t2_6 t8_6 t9_6 t13_6 t17_6 true k nx1 nx2 h_6) else (law10_SlotWhole_j3 t0_6 t1_6 t2_6 t8_6 t9_6 t13_6 t11_6 t12_6 k nx1 nx2 h_6))
def law10_SlotWhole_g5 (t0_5 : Slc) (t1_5 : Slc) (t2_5 : Slc) (t8_5 : Option Addr) (t9_5 : Option Addr) (t11_5 : Slc) (t12_5 : Bool) (t13_5 : Int) (t16_5 : Bool) (t17_5 : Slc) (t19_5 : Int) (t114_5 : Bool) (k : (Bool) → Heap → Prop) (nx1 : (Int) → Heap → Prop) (nx2 : (Slc × Bool × Int) → Heap → Prop) (h_5 : Heap) : Prop :=
  if (t19_5 == 0) then (∃ a23 : Addr, t0_5.a = some a23 ∧ (0 : Int) ≤ t13_5 ∧ t13_5 < (t0_5.len : Int) ∧ (∃ v24 : Slc, cellH h_5 (a23.add (t13_5.toNat * 1)) = some (Slc.v v24) ∧ (ref01_Same t17_5 v24 (fun (r25 : Bool) h26 => law10_SlotWhole_g6 t0_5 t1_5 t2_5 t8_5 t9_5 t11_5 t12_5 t13_5 t16_5 t17_5 t19_5 (t114_5 || ((!t12_5) && (t19_5 == 6))) r25 k nx1 nx2 h26) h_5))) else (law10_SlotWhole_g6 t0_5 t1_5 t2_5 t8_5 t9_5 t11_5 t12_5 t13_5 t16_5 t17_5 t19_5 (t114_5 || ((!t12_5) && (t19_5 == 6))) false k nx1 nx2 h_5)
def law10_SlotWhole_j4 (t0_4 : Slc) (t1_4 : Slc) (t2_4 : Slc) (t8_4 : Option Addr) (t9_4 : Option Addr) (t11_4 : Slc) (t12_4 : Bool) (t13_4 : Int) (k : (Bool) → Heap → Prop) (nx1 : (Int) → Heap → Prop) (nx2 : (Slc × Bool × Int) → Heap → Prop) (h_4 : Heap) : Prop :=
  ∃ a13 : Addr, t0_4.a = some a13 ∧ (0 : Int) ≤ t13_4 ∧ t13_4 < (t0_4.len : Int) ∧ (∃ v14 : Slc, cellH h_4 (a13.add (t13_4.toNat * 1)) = some (Slc.v v14) ∧ (slot_Pair_Save t9_4 v14 (fun (r15 : Int × Int) h16 => disk_Disk_Dead t8_4 (fun (r17 : Bool) h18 => if ((((r15.2 == 0) == r17)) || ((r15.2 != 0) && (r15.2 != 10))) then (k false h18) else (disk_Disk_Boot t8_4 t2_4 (fun (r19 : Unit) h20 => slot_Pair_Load t9_4 (fun (r21 : Slc × Int × Int) h22 => if (t12_4 && (r21.2.2 == 0)) then (ref01_Same r21.1 t11_4 (fun (r27 : Bool) h28 => law10_SlotWhole_g5 t0_4 t1_4 t2_4 t8_4 t9_4 t11_4 t12_4 t13_4 r17 r21.1 r21.2.2 r27 k nx1 nx2 h28) h22) else (law10_SlotWhole_g5 t0_4 t1_4 t2_4 t8_4 t9_4 t11_4 t12_4 t13_4 r17 r21.1 r21.2.2 false k nx1 nx2 h22)) h20) h18)) h16) h_4))
def law10_SlotWhole_l2b (t0_2 : Slc) (t1_2 : Slc) (t2_2 : Slc) (t8_2 : Option Addr) (t9_2 : Option Addr) (t11_2 : Slc) (t12_2 : Bool) (t13_2 : Int) (k : (Bool) → Heap → Prop) (nx1 : (Int) → Heap → Prop) (nx2 : (Slc × Bool × Int) → Heap → Prop) (h_2 : Heap) : Prop :=
  if (decide (t13_2 < (t0_2.len : Int))) then (if (decide (t13_2 < (t1_2.len : Int))) then (∃ a29 : Addr, t1_2.a = some a29 ∧ (0 : Int) ≤ t13_2 ∧ t13_2 < (t1_2.len : Int) ∧ (∃ v30 : Int, cellH h_2 (a29.add (t13_2.toNat * 1)) = some (.int .u8 v30) ∧ (disk_Disk_Fuse t8_2 (IntKind.i64.wrap (Int.tmod v30 10)) (fun (r31 : Int) h32 => law10_SlotWhole_j4 t0_2 t1_2 t2_2 t8_2 t9_2 t11_2 t12_2 t13_2 k nx1 nx2 h32) h_2))) else (law10_SlotWhole_j4 t0_2 t1_2 t2_2 t8_2 t9_2 t11_2 t12_2 t13_2 k nx1 nx2 h_2)) else (law10_awake  (fun (r33 : Bool) h34 => k r33 h34) h_2)
def law10_SlotWhole_l2 (t0_2 : Slc) (t1_2 : Slc) (t2_2 : Slc) (t8_2 : Option Addr) (t9_2 : Option Addr) (i11 : Slc) (i12 : Bool) (i13 : Int) (k : (Bool) → Heap → Prop) (nx1 : (Int) → Heap → Prop) (h : Heap) : Prop :=
  ∃ (I : (Slc × Bool × Int) → Heap → Prop) (μ : (Slc × Bool × Int) → Heap → Nat), I (i11, i12, i13) h ∧ ∀ (t11_2 : Slc) (t12_2 : Bool) (t13_2 : Int) (h : Heap), I (t11_2, t12_2, t13_2) h → law10_SlotWhole_l2b t0_2 t1_2 t2_2 t8_2 t9_2 t11_2 t12_2 t13_2 k nx1 (fun s h' => I s h' ∧ μ s h' < μ (t11_2, t12_2, t13_2) h) h
def law10_SlotWhole_l1b (t0_1 : Slc) (t1_1 : Slc) (t2_1 : Slc) (t7_1 : Int) (k : (Bool) → Heap → Prop) (nx1 : (Int) → Heap → Prop) (h_1 : Heap) : Prop :=
  if (decide (t7_1 < (t0_1.len : Int))) then (∃ a3 : Addr, t0_1.a = some a3 ∧ (0 : Int) ≤ t7_1 ∧ t7_1 < (t0_1.len : Int) ∧ (∃ v4 : Slc, cellH h_1 (a3.add (t7_1.toNat * 1)) = some (Slc.v v4) ∧ (if (decide ((v4.len : Int) > 600)) then (law10_awake  (fun (r5 : Bool) h6 => k r5 h6) h_1) else (∃ x7 : Int, x7 = (IntKind.i64.wrap (t7_1 + 1)) ∧ (nx1 x7 h_1))))) else (disk_New  (fun (r8 : Option Addr) h9 => slot_Open r8 0 6 (fun (r10 : Option Addr × Int) h11 => law10_SlotWhole_l2 t0_1 t1_1 t2_1 r8 r10.1 (⟨none, 0, 0⟩ : Slc) false 0 k nx1 h11) h9) h_1)
def law10_SlotWhole_l1 (t0_1 : Slc) (t1_1 : Slc) (t2_1 : Slc) (i7 : Int) (k : (Bool) → Heap → Prop) (h : Heap) : Prop :=
  ∃ (I : Int → Heap → Prop) (μ : Int → Heap → Nat), I i7 h ∧ ∀ (t7_1 : Int) (h : Heap), I t7_1 h → law10_SlotWhole_l1b t0_1 t1_1 t2_1 t7_1 k (fun s h' => I s h' ∧ μ s h' < μ t7_1 h) h
def law10_SlotWhole (p0 : Slc) (p1 : Slc) (p2 : Slc) (k : (Bool) → Heap → Prop) (h : Heap) : Prop :=
  if (((decide ((p0.len : Int) > 8)) || (decide ((p1.len : Int) > 8))) || (decide ((p2.len : Int) > 20))) then (law10_awake  (fun (r1 : Bool) h2 => k r1 h2) h) else (law10_SlotWhole_l1 p0 p1 p2 0 k h)

theorem ref01_Same_ok : CallOk Go.Proofs.Tryd.prog 14 := ⟨_, Go.Proofs.Tryd.func14, by kernel_rfl, by kernel_rfl⟩
theorem ref01_Same_ref (p0 : Slc) (p1 : Slc) (k : (Bool) → Heap → Prop) (h : Heap) (H : ref01_Same p0 p1 k h) : CallsH Go.Proofs.Tryd.prog 14 #[Slc.v p0, Slc.v p1] h (fun v h' => ∃ r : Bool, v = .bool r ∧ k r h') := by
  refine f_enter (N := 26) Go.Proofs.Tryd.func14 rfl rfl rfl (fun w0 => ?_)
  unfold ref01_Same at H
  refine c_weak [(0, Slc.v p0), (1, Slc.v p1)] ⟨rfl, rfl, trivial⟩ ?_
  refine c_seq ?_
  refine c_region ?_
  refine w_p tok rfl rfl rfl ?_
  refine w_end ?_
  refine x_seq ?_
  refine c_seq ?_
  refine c_seq ?_
  refine c_region ?_
  refine w_p tok rfl rfl rfl ?_
  refine w_p tok rfl rfl rfl ?_
  refine w_p tok rfl rfl rfl ?_
  refine w_p tok rfl rfl rfl ?_
  refine w_p tok rfl rfl rfl ?_
  refine w_end ?_
  refine x_seq ?_
  refine c_if H rfl (fun H => ?_) (fun H => ?_)
  ·
    refine c_seq ?_
    refine c_region ?_
    refine w_p tok rfl rfl rfl ?_
    refine w_end ?_
    refine x_seq ?_
    refine c_weak [(4, .bool false)] ⟨rfl, trivial⟩ ?_
    refine c_ret ?_
    refine x_tr ?_
    exact x_ret _ rfl _ rfl ⟨false, rfl, H⟩
  ·
    refine c_skip ?_
    refine x_seq ?_
    refine c_seq ?_
    refine c_seq ?_
    refine c_region ?_
    refine w_p tok rfl rfl rfl ?_
    refine w_end ?_
    refine x_seq ?_
    refine c_block ?_
    obtain ⟨I1, μ1, H0, HI⟩ := H
    refine c_loop (σ := Int) (fun (s : Int) => [(5, .int .i64 s), (0, Slc.v p0), (1, Slc.v p1)]) I1 μ1 0 H0 ⟨rfl, rfl, rfl, trivial⟩ ?_
    rintro t5_1 h_1 H
    replace H := HI t5_1 h_1 H
    unfold ref01_Same_l1b at H
    refine c_weak [(5, .int .i64 t5_1), (0, Slc.v p0), (1, Slc.v p1)] ⟨rfl, rfl, rfl, trivial⟩ ?_
    refine c_seq ?_
    refine c_seq ?_
    refine c_region ?_
    refine w_p tok rfl rfl rfl ?_
    refine w_p tok rfl rfl rfl ?_
    refine w_p tok rfl rfl rfl ?_
    refine w_p tok rfl rfl rfl ?_
    refine w_end ?_
    refine x_seq ?_
    refine c_if H rfl (fun H => ?_) (fun H => ?_)
    ·
      refine c_skip ?_
      refine x_seq ?_
      refine c_seq ?_
      refine c_block ?_
      refine c_seq ?_
      refine c_draw (by kernel_rfl) (by kernel_rfl) ?_
      refine q_p tok rfl rfl rfl ?_
      refine q_p tok rfl rfl rfl ?_
      obtain ⟨a1, ha1, la1, ua1, H⟩ := H
      refine q_y (y_ixa' tok rfl rfl ha1 rfl rfl rfl la1 ua1) rfl rfl ?_
      obtain ⟨v2, hv2, H⟩ := H
      refine q_y (y_ld tok rfl rfl rfl rfl hv2) rfl rfl ?_
      refine q_p tok rfl rfl rfl ?_
      refine q_p tok rfl rfl rfl ?_
      obtain ⟨a3, ha3, la3, ua3, H⟩ := H
      refine q_y (y_ixa' tok rfl rfl ha3 rfl rfl rfl la3 ua3) rfl rfl ?_
      obtain ⟨v4, hv4, H⟩ := H
      refine q_y (y_ld tok rfl rfl rfl rfl hv4) rfl rfl ?_
      refine q_p tok rfl rfl rfl ?_
      refine q_end ?_
      refine x_seq ?_
      refine c_weak [(5, .int .i64 t5_1), (0, Slc.v p0), (1, Slc.v p1), (25, .bool (v2 != v4))] ⟨rfl, rfl, rfl, rfl, trivial⟩ ?_
      refine c_if H rfl (fun H => ?_) (fun H => ?_)
      ·
        refine c_seq ?_
        refine c_region ?_
        refine w_p tok rfl rfl rfl ?_
        refine w_end ?_
        refine x_seq ?_
        refine c_ret ?_
        refine x_br ?_
        refine x_tr ?_
        refine x_tr ?_
        refine x_br ?_
        refine x_tr ?_
        exact x_ret _ rfl _ rfl ⟨false, rfl, H⟩
      ·
        refine c_skip ?_
        refine x_blk ?_
        refine x_seq ?_
        refine c_region ?_
        refine w_p tok rfl rfl rfl ?_
        refine w_p tok rfl rfl rfl ?_
        obtain ⟨x5, ex5, H⟩ := H
        refine w_pe tok rfl (congrArg (fun z => (.int .i64 z : Value)) ex5) rfl rfl ?_
        refine w_end ?_
        exact x_join x5 H ⟨rfl, rfl, rfl, trivial⟩
    ·
      refine c_exit ?_
      refine x_te ?_
      refine x_te ?_
      refine x_bh ?_
      refine x_seq ?_
      refine c_weak [] trivial ?_
      refine c_seq ?_
      refine c_region ?_
      refine w_p tok rfl rfl rfl ?_
      refine w_end ?_
      refine x_seq ?_
      refine c_ret ?_
      exact x_ret _ rfl _ rfl ⟨true, rfl, H⟩

theorem law10_SlotWhole_ok : CallOk Go.Proofs.Tryd.prog 3 := ⟨_, Go.Proofs.Tryd.func3, by kernel_rfl, by kernel_rfl⟩
theorem law10_SlotWhole_ref (p0 : Slc) (p1 : Slc) (p2 : Slc) (k : (Bool) → Heap → Prop) (h : Heap) (H : law10_SlotWhole p0 p1 p2 k h) : CallsH Go.Proofs.Tryd.prog 3 #[Slc.v p0, Slc.v p1, Slc.v p2] h (fun v h' => ∃ r : Bool, v = .bool r ∧ k r h') := by
  refine f_enter (N := 154) Go.Proofs.Tryd.func3 rfl rfl rfl (fun w0 => ?_)
  unfold law10_SlotWhole at H
  refine c_weak [(0, Slc.v p0), (1, Slc.v p1), (2, Slc.v p2)] ⟨rfl, rfl, rfl, trivial⟩ ?_
  refine c_seq ?_
  refine c_region ?_
  refine w_p tok rfl rfl rfl ?_
  refine w_end ?_
  refine x_seq ?_
  refine c_seq ?_
  refine c_seq ?_
  refine c_region ?_
  refine w_p tok rfl rfl rfl ?_
  refine w_p tok rfl rfl rfl ?_
  refine w_p tok rfl rfl rfl ?_
  refine w_p tok rfl rfl rfl ?_
  refine w_cutU 4 [(29, .bool ((decide ((p0.len : Int) > 8)) || (decide ((p1.len : Int) > 8)))), (0, Slc.v p0), (1, Slc.v p1), (2, Slc.v p2)] ?_ ?_
  ·
    refine w_p tok rfl rfl rfl ?_
    refine w_cutU 4 [(34, .bool (((decide ((p0.len : Int) > 8)) || (decide ((p1.len : Int) > 8))) || (decide ((p2.len : Int) > 20)))), (0, Slc.v p0), (1, Slc.v p1), (2, Slc.v p2)] ?_ ?_
    ·
      refine w_end ?_
      refine x_seq ?_
      refine c_if H rfl (fun H => ?_) (fun H => ?_)
      ·
        refine c_seq ?_
        refine c_region ?_
        refine w_call law10_awake_ok (law10_awake_ref  _ _ H) rfl rfl rfl rfl ?_
        rintro _ h2 ⟨r1, rfl, H⟩
        refine w_p tok rfl rfl rfl ?_
        refine w_end ?_
        refine x_seq ?_
        refine c_ret ?_
        refine x_tr ?_
        exact x_ret _ rfl _ rfl ⟨r1, rfl, H⟩
      ·
        refine c_skip ?_
        refine x_seq ?_
        refine c_seq ?_
        refine c_seq ?_
        refine c_region ?_
        refine w_p tok rfl rfl rfl ?_
        refine w_end ?_
        refine x_seq ?_
        refine c_block ?_
        obtain ⟨I1, μ1, H0, HI⟩ := H
        refine c_loop (σ := Int) (fun (s : Int) => [(7, .int .i64 s), (0, Slc.v p0), (1, Slc.v p1), (2, Slc.v p2)]) I1 μ1 0 H0 ⟨rfl, rfl, rfl, rfl, trivial⟩ ?_
        rintro t7_1 h_1 H
        replace H := HI t7_1 h_1 H
        unfold law10_SlotWhole_l1b at H
        refine c_weak [(7, .int .i64 t7_1), (0, Slc.v p0), (1, Slc.v p1), (2, Slc.v p2)] ⟨rfl, rfl, rfl, rfl, trivial⟩ ?_
        refine c_seq ?_
        refine c_seq ?_
        refine c_region ?_
        refine w_p tok rfl rfl rfl ?_
        refine w_p tok rfl rfl rfl ?_
        refine w_p tok rfl rfl rfl ?_
        refine w_p tok rfl rfl rfl ?_
        refine w_end ?_
        refine x_seq ?_
        refine c_if H rfl (fun H => ?_) (fun H => ?_)
        ·
          refine c_skip ?_
          refine x_seq ?_
          refine c_seq ?_
          refine c_block ?_
          refine c_seq ?_
          refine c_region ?_
          refine w_p tok rfl rfl rfl ?_
          refine w_p tok rfl rfl rfl ?_
          obtain ⟨a3, ha3, la3, ua3, H⟩ := H
          refine w_y (y_ixa' tok rfl rfl ha3 rfl rfl rfl la3 ua3) rfl rfl ?_
          obtain ⟨v4, hv4, H⟩ := H
          refine w_y (y_ld tok rfl rfl rfl rfl hv4) rfl rfl ?_
          refine w_p tok rfl rfl rfl ?_
          refine w_p tok rfl rfl rfl ?_
          refine w_end ?_
          refine x_seq ?_
          refine c_weak [(7, .int .i64 t7_1), (0, Slc.v p0), (1, Slc.v p1), (2, Slc.v p2), (47, .bool (decide ((v4.len : Int) > 600)))] ⟨rfl, rfl, rfl, rfl, rfl, trivial⟩ ?_
          refine c_if H rfl (fun H => ?_) (fun H => ?_)
          ·
            refine c_seq ?_
            refine c_region ?_
            refine w_call law10_awake_ok (law10_awake_ref  _ _ H) rfl rfl rfl rfl ?_
            rintro _ h6 ⟨r5, rfl, H⟩
            refine w_p tok rfl rfl rfl ?_
            refine w_end ?_
            refine x_seq ?_
            refine c_ret ?_
            refine x_br ?_
            refine x_tr ?_
            refine x_tr ?_
            refine x_br ?_
            refine x_tr ?_
            exact x_ret _ rfl _ rfl ⟨r5, rfl, H⟩
          ·
            refine c_skip ?_
            refine x_blk ?_
            refine x_seq ?_
            refine c_region ?_
            refine w_p tok rfl rfl rfl ?_
            refine w_p tok rfl rfl rfl ?_
            obtain ⟨x7, ex7, H⟩ := H
            refine w_pe tok rfl (congrArg (fun z => (.int .i64 z : Value)) ex7) rfl rfl ?_
            refine w_end ?_
            exact x_join x7 H ⟨rfl, rfl, rfl, rfl, trivial⟩
        ·
          refine c_exit ?_
          refine x_te ?_
          refine x_te ?_
          refine x_bh ?_
          refine x_seq ?_
          refine c_seq ?_
          refine c_region ?_
          refine w_call disk_New_ok (disk_New_ref  _ _ H) rfl rfl rfl rfl ?_
          rintro _ h9 ⟨r8, rfl, H⟩
          refine w_p tok rfl rfl rfl ?_
          refine w_end ?_
          refine x_seq ?_
          refine c_seq ?_
          refine c_region ?_
          refine w_p tok rfl rfl rfl ?_
          refine w_call slot_Open_ok (slot_Open_ref _ _ _ _ _ H) rfl rfl rfl rfl ?_
          rintro _ h11 ⟨r10, rfl, H⟩
          refine w_p tok rfl rfl rfl ?_
          refine w_p tok rfl rfl rfl ?_
          refine w_p tok rfl rfl rfl ?_
          refine w_p tok rfl rfl rfl ?_
          refine w_p tok rfl rfl rfl ?_
          refine w_end ?_
          refine x_seq ?_
          refine c_weak [(0, Slc.v p0), (1, Slc.v p1), (2, Slc.v p2), (8, .pointer r8), (9, .pointer r10.1)] ⟨rfl, rfl, rfl, rfl, rfl, trivial⟩ ?_
          refine c_seq ?_
          refine c_region ?_
          refine w_p tok rfl rfl rfl ?_
          refine w_end ?_
          refine x_seq ?_
          refine c_seq ?_
          refine c_region ?_
          refine w_p tok rfl rfl rfl ?_
          refine w_end ?_
          refine x_seq ?_
          refine c_seq ?_
          refine c_seq ?_
          refine c_region ?_
          refine w_p tok rfl rfl rfl ?_
          refine w_end ?_
          refine x_seq ?_
          refine c_block ?_
          obtain ⟨I2, μ2, H0, HI⟩ := H
          refine c_loop (σ := Slc × Bool × Int) (fun (s : Slc × Bool × Int) => [(11, Slc.v s.1), (12, .bool s.2.1), (13, .int .i64 s.2.2), (0, Slc.v p0), (1, Slc.v p1), (2, Slc.v p2), (8, .pointer r8), (9, .pointer r10.1)]) I2 μ2 ((⟨none, 0, 0⟩ : Slc), false, 0) H0 ⟨rfl, rfl, rfl, rfl, rfl, rfl, rfl, rfl, trivial⟩ ?_
          rintro ⟨t11_2, t12_2, t13_2⟩ h_2 H
          replace H := HI t11_2 t12_2 t13_2 h_2 H
          unfold law10_SlotWhole_l2b at H
          refine c_weak [(11, Slc.v t11_2), (12, .bool t12_2), (13, .int .i64 t13_2), (0, Slc.v p0), (1, Slc.v p1), (2, Slc.v p2), (8, .pointer r8), (9, .pointer r10.1)] ⟨rfl, rfl, rfl, rfl, rfl, rfl, rfl, rfl, trivial⟩ ?_
          refine c_seq ?_
          refine c_seq ?_
          refine c_region ?_
          refine w_p tok rfl rfl rfl ?_
          refine w_p tok rfl rfl rfl ?_
          refine w_p tok rfl rfl rfl ?_
          refine w_p tok rfl rfl rfl ?_
          refine w_end ?_
          refine x_seq ?_
          refine c_if H rfl (fun H => ?_) (fun H => ?_)
          ·
            refine c_skip ?_
            refine x_seq ?_
            refine c_seqJ (α := Slc × Bool) (fun (s : Slc × Bool) => [(11, Slc.v s.1), (12, .bool s.2), (0, Slc.v p0), (1, Slc.v p1), (2, Slc.v p2), (8, .pointer r8), (9, .pointer r10.1), (13, .int .i64 t13_2)]) (fun (s : Slc × Bool) h => law10_SlotWhole_j3 p0 p1 p2 r8 r10.1 t13_2 s.1 s.2 k (fun s h' => I1 s h' ∧ μ1 s h' < μ1 t7_1 h_1) (fun s h' => I2 s h' ∧ μ2 s h' < μ2 (t11_2, t12_2, t13_2) h_2) h) ?_ ?_
            ·
              rintro ⟨t11_3, t12_3⟩ h_3 H
              replace H : law10_SlotWhole_j3 p0 p1 p2 r8 r10.1 t13_2 t11_3 t12_3 k (fun s h' => I1 s h' ∧ μ1 s h' < μ1 t7_1 h_1) (fun s h' => I2 s h' ∧ μ2 s h' < μ2 (t11_2, t12_2, t13_2) h_2) h_3 := H
              unfold law10_SlotWhole_j3 at H
              refine c_weak [(11, Slc.v t11_3), (12, .bool t12_3), (0, Slc.v p0), (1, Slc.v p1), (2, Slc.v p2), (8, .pointer r8), (9, .pointer r10.1), (13, .int .i64 t13_2)] ⟨rfl, rfl, rfl, rfl, rfl, rfl, rfl, rfl, trivial⟩ ?_
              refine c_region ?_
              refine w_p tok rfl rfl rfl ?_
              refine w_p tok rfl rfl rfl ?_
              obtain ⟨x12, ex12, H⟩ := H
              refine w_pe tok rfl (congrArg (fun z => (.int .i64 z : Value)) ex12) rfl rfl ?_
              refine w_end ?_
              exact x_join (t11_3, t12_3, x12) H ⟨rfl, rfl, rfl, rfl, rfl, rfl, rfl, rfl, trivial⟩
            ·
              refine c_block ?_
              refine c_seqJ (α := Unit) (fun (s : Unit) => [(0, Slc.v p0), (1, Slc.v p1), (2, Slc.v p2), (8, .pointer r8), (9, .pointer r10.1), (11, Slc.v t11_2), (12, .bool t12_2), (13, .int .i64 t13_2)]) (fun (s : Unit) h => law10_SlotWhole_j4 p0 p1 p2 r8 r10.1 t11_2 t12_2 t13_2 k (fun s h' => I1 s h' ∧ μ1 s h' < μ1 t7_1 h_1) (fun s h' => I2 s h' ∧ μ2 s h' < μ2 (t11_2, t12_2, t13_2) h_2) h) ?_ ?_
              ·
                rintro _ h_4 H
                replace H : law10_SlotWhole_j4 p0 p1 p2 r8 r10.1 t11_2 t12_2 t13_2 k (fun s h' => I1 s h' ∧ μ1 s h' < μ1 t7_1 h_1) (fun s h' => I2 s h' ∧ μ2 s h' < μ2 (t11_2, t12_2, t13_2) h_2) h_4 := H
                unfold law10_SlotWhole_j4 at H
                refine c_weak [(0, Slc.v p0), (1, Slc.v p1), (2, Slc.v p2), (8, .pointer r8), (9, .pointer r10.1), (11, Slc.v t11_2), (12, .bool t12_2), (13, .int .i64 t13_2)] ⟨rfl, rfl, rfl, rfl, rfl, rfl, rfl, rfl, trivial⟩ ?_
                refine c_seq ?_
                refine c_region ?_
                refine w_p tok rfl rfl rfl ?_
                refine w_p tok rfl rfl rfl ?_
                refine w_p tok rfl rfl rfl ?_
                obtain ⟨a13, ha13, la13, ua13, H⟩ := H
                refine w_y (y_ixa' tok rfl rfl ha13 rfl rfl rfl la13 ua13) rfl rfl ?_
                obtain ⟨v14, hv14, H⟩ := H
                refine w_y (y_ld tok rfl rfl rfl rfl hv14) rfl rfl ?_
                refine w_call slot_Pair_Save_ok (slot_Pair_Save_ref _ _ _ _ H) rfl rfl rfl rfl ?_
                rintro _ h16 ⟨r15, rfl, H⟩
                refine w_p tok rfl rfl rfl ?_
                refine w_p tok rfl rfl rfl ?_
                refine w_p tok rfl rfl rfl ?_
                refine w_p tok rfl rfl rfl ?_
                refine w_p tok rfl rfl rfl ?_
                refine w_end ?_
                refine x_seq ?_
                refine c_weak [(0, Slc.v p0), (1, Slc.v p1), (2, Slc.v p2), (8, .pointer r8), (9, .pointer r10.1), (11, Slc.v t11_2), (12, .bool t12_2), (13, .int .i64 t13_2), (15, .int .i64 r15.2)] ⟨rfl, rfl, rfl, rfl, rfl, rfl, rfl, rfl, rfl, trivial⟩ ?_
                refine c_seq ?_
                refine c_region ?_
                refine w_p tok rfl rfl rfl ?_
                refine w_call disk_Disk_Dead_ok (disk_Disk_Dead_ref _ _ _ H) rfl rfl rfl rfl ?_
                rintro _ h18 ⟨r17, rfl, H⟩
                refine w_p tok rfl rfl rfl ?_
                refine w_end ?_
                refine x_seq ?_
                refine c_seq ?_
                refine c_seq ?_
                refine c_region ?_
                refine w_p tok rfl rfl rfl ?_
                refine w_p tok rfl rfl rfl ?_
                refine w_p tok rfl rfl rfl ?_
                refine w_p tok rfl rfl rfl ?_
                refine w_p tok rfl rfl rfl ?_
                refine w_cutU 7 [(95, .bool ((((r15.2 == 0) == r17)) || ((r15.2 != 0) && (r15.2 != 10)))), (0, Slc.v p0), (1, Slc.v p1), (2, Slc.v p2), (8, .pointer r8), (9, .pointer r10.1), (11, Slc.v t11_2), (12, .bool t12_2), (13, .int .i64 t13_2), (16, .bool r17)] ?_ ?_
                ·
                  refine w_end ?_
                  refine x_seq ?_
                  refine c_if H rfl (fun H => ?_) (fun H => ?_)
                  ·
                    refine c_seq ?_
                    refine c_region ?_
                    refine w_p tok rfl rfl rfl ?_
                    refine w_end ?_
                    refine x_seq ?_
                    refine c_weak [(6, .bool false)] ⟨rfl, trivial⟩ ?_
                    refine c_ret ?_
                    refine x_tr ?_
                    refine x_br ?_
                    refine x_tr ?_
                    refine x_tr ?_
                    refine x_br ?_
                    refine x_tr ?_
                    exact x_ret _ rfl _ rfl ⟨false, rfl, H⟩
                  ·
                    refine c_skip ?_
                    refine x_seq ?_
                    refine c_seq ?_
                    refine c_region ?_
                    refine w_p tok rfl rfl rfl ?_
                    refine w_p tok rfl rfl rfl ?_
                    refine w_call disk_Disk_Boot_ok (disk_Disk_Boot_ref _ _ _ _ H) rfl rfl rfl rfl ?_
                    rintro _ h20 ⟨r19, rfl, H⟩
                    refine w_end ?_
                    refine x_seq ?_
                    refine c_seq ?_
                    refine c_region ?_
                    refine w_p tok rfl rfl rfl ?_
                    refine w_call slot_Pair_Load_ok (slot_Pair_Load_ref _ _ _ H) rfl rfl rfl rfl ?_
                    rintro _ h22 ⟨r21, rfl, H⟩
                    refine w_p tok rfl rfl rfl ?_
                    refine w_p tok rfl rfl rfl ?_
                    refine w_p tok rfl rfl rfl ?_
                    refine w_p tok rfl rfl rfl ?_
                    refine w_p tok rfl rfl rfl ?_
                    refine w_p tok rfl rfl rfl ?_
                    refine w_p tok rfl rfl rfl ?_
                    refine w_end ?_
                    refine x_seq ?_
                    refine c_weak [(0, Slc.v p0), (1, Slc.v p1), (2, Slc.v p2), (8, .pointer r8), (9, .pointer r10.1), (11, Slc.v t11_2), (12, .bool t12_2), (13, .int .i64 t13_2), (16, .bool r17), (17, Slc.v r21.1), (19, .int .i64 r21.2.2)] ⟨rfl, rfl, rfl, rfl, rfl, rfl, rfl, rfl, rfl, rfl, rfl, trivial⟩ ?_
                    refine c_seq ?_
                    refine c_region ?_
                    refine w_p tok rfl rfl rfl ?_
                    refine w_p tok rfl rfl rfl ?_
                    refine w_cutU 3 [(109, .bool (t12_2 && (r21.2.2 == 0))), (0, Slc.v p0), (1, Slc.v p1), (2, Slc.v p2), (8, .pointer r8), (9, .pointer r10.1), (11, Slc.v t11_2), (12, .bool t12_2), (13, .int .i64 t13_2), (16, .bool r17), (17, Slc.v r21.1), (19, .int .i64 r21.2.2)] ?_ ?_
                    ·
                      refine w_p tok rfl rfl rfl ?_
                      refine w_cut 4 (α := Bool) (fun (s : Bool) => [(114, .bool s), (0, Slc.v p0), (1, Slc.v p1), (2, Slc.v p2), (8, .pointer r8), (9, .pointer r10.1), (11, Slc.v t11_2), (12, .bool t12_2), (13, .int .i64 t13_2), (16, .bool r17), (17, Slc.v r21.1), (19, .int .i64 r21.2.2)]) (fun (s : Bool) h => law10_SlotWhole_g5 p0 p1 p2 r8 r10.1 t11_2 t12_2 t13_2 r17 r21.1 r21.2.2 s k (fun s h' => I1 s h' ∧ μ1 s h' < μ1 t7_1 h_1) (fun s h' => I2 s h' ∧ μ2 s h' < μ2 (t11_2, t12_2, t13_2) h_2) h) ?_ ?_
                      ·
                        rintro t114_5 h_5 H
                        replace H : law10_SlotWhole_g5 p0 p1 p2 r8 r10.1 t11_2 t12_2 t13_2 r17 r21.1 r21.2.2 t114_5 k (fun s h' => I1 s h' ∧ μ1 s h' < μ1 t7_1 h_1) (fun s h' => I2 s h' ∧ μ2 s h' < μ2 (t11_2, t12_2, t13_2) h_2) h_5 := H
                        unfold law10_SlotWhole_g5 at H
                        refine w_weak [(114, .bool t114_5), (0, Slc.v p0), (1, Slc.v p1), (2, Slc.v p2), (8, .pointer r8), (9, .pointer r10.1), (11, Slc.v t11_2), (12, .bool t12_2), (13, .int .i64 t13_2), (16, .bool r17), (17, Slc.v r21.1), (19, .int .i64 r21.2.2)] ⟨rfl, rfl, rfl, rfl, rfl, rfl, rfl, rfl, rfl, rfl, rfl, rfl, trivial⟩ ?_
                        refine w_p tok rfl rfl rfl ?_
                        refine w_cutU 7 [(122, .bool (t114_5 || ((!t12_2) && (r21.2.2 == 6)))), (0, Slc.v p0), (1, Slc.v p1), (2, Slc.v p2), (8, .pointer r8), (9, .pointer r10.1), (11, Slc.v t11_2), (12, .bool t12_2), (13, .int .i64 t13_2), (16, .bool r17), (17, Slc.v r21.1), (19, .int .i64 r21.2.2)] ?_ ?_
                        ·
                          refine w_p tok rfl rfl rfl ?_
                          refine w_end ?_
                          refine x_seq ?_
                          refine c_seq ?_
                          refine c_region ?_
                          refine w_p tok rfl rfl rfl ?_
                          refine w_p tok rfl rfl rfl ?_
                          refine w_p tok rfl rfl rfl ?_
                          refine w_cut 7 (α := Bool) (fun (s : Bool) => [(132, .bool s), (0, Slc.v p0), (1, Slc.v p1), (2, Slc.v p2), (8, .pointer r8), (9, .pointer r10.1), (11, Slc.v t11_2), (12, .bool t12_2), (13, .int .i64 t13_2), (16, .bool r17), (17, Slc.v r21.1), (19, .int .i64 r21.2.2), (20, .bool (t114_5 || ((!t12_2) && (r21.2.2 == 6))))]) (fun (s : Bool) h => law10_SlotWhole_g6 p0 p1 p2 r8 r10.1 t11_2 t12_2 t13_2 r17 r21.1 r21.2.2 (t114_5 || ((!t12_2) && (r21.2.2 == 6))) s k (fun s h' => I1 s h' ∧ μ1 s h' < μ1 t7_1 h_1) (fun s h' => I2 s h' ∧ μ2 s h' < μ2 (t11_2, t12_2, t13_2) h_2) h) ?_ ?_
                          ·
                            rintro t132_6 h_6 H
                            replace H : law10_SlotWhole_g6 p0 p1 p2 r8 r10.1 t11_2 t12_2 t13_2 r17 r21.1 r21.2.2 (t114_5 || ((!t12_2) && (r21.2.2 == 6))) t132_6 k (fun s h' => I1 s h' ∧ μ1 s h' < μ1 t7_1 h_1) (fun s h' => I2 s h' ∧ μ2 s h' < μ2 (t11_2, t12_2, t13_2) h_2) h_6 := H
                            unfold law10_SlotWhole_g6 at H
                            refine w_weak [(132, .bool t132_6), (0, Slc.v p0), (1, Slc.v p1), (2, Slc.v p2), (8, .pointer r8), (9, .pointer r10.1), (11, Slc.v t11_2), (12, .bool t12_2), (13, .int .i64 t13_2), (16, .bool r17), (17, Slc.v r21.1), (19, .int .i64 r21.2.2), (20, .bool (t114_5 || ((!t12_2) && (r21.2.2 == 6))))] ⟨rfl, rfl, rfl, rfl, rfl, rfl, rfl, rfl, rfl, rfl, rfl, rfl, rfl, trivial⟩ ?_
                            refine w_p tok rfl rfl rfl ?_
                            refine w_end ?_
                            refine x_seq ?_
                            refine c_seq ?_
                            refine c_seq ?_
                            refine c_region ?_
                            refine w_p tok rfl rfl rfl ?_
                            refine w_p tok rfl rfl rfl ?_
                            refine w_p tok rfl rfl rfl ?_
                            refine w_cutU 3 [(138, .bool ((!r17) && (!t132_6))), (0, Slc.v p0), (1, Slc.v p1), (2, Slc.v p2), (8, .pointer r8), (9, .pointer r10.1), (11, Slc.v t11_2), (12, .bool t12_2), (13, .int .i64 t13_2), (16, .bool r17), (17, Slc.v r21.1), (19, .int .i64 r21.2.2), (20, .bool (t114_5 || ((!t12_2) && (r21.2.2 == 6)))), (21, .bool t132_6)] ?_ ?_
                            ·
                              refine w_p tok rfl rfl rfl ?_
                              refine w_cutU 10 [(149, .bool (((!r17) && (!t132_6)) || ((r17 && (!(t114_5 || ((!t12_2) && (r21.2.2 == 6))))) && (!t132_6)))), (0, Slc.v p0), (1, Slc.v p1), (2, Slc.v p2), (8, .pointer r8), (9, .pointer r10.1), (11, Slc.v t11_2), (12, .bool t12_2), (13, .int .i64 t13_2), (17, Slc.v r21.1), (19, .int .i64 r21.2.2)] ?_ ?_
                              ·
                                refine w_end ?_
                                refine x_seq ?_
                                refine c_if H rfl (fun H => ?_) (fun H => ?_)
                                ·
                                  refine c_seq ?_
                                  refine c_region ?_
                                  refine w_p tok rfl rfl rfl ?_
                                  refine w_end ?_
                                  refine x_seq ?_
                                  refine c_weak [(6, .bool false)] ⟨rfl, trivial⟩ ?_
                                  refine c_ret ?_
                                  refine x_tr ?_
                                  refine x_br ?_
                                  refine x_tr ?_
                                  refine x_tr ?_
                                  refine x_br ?_
                                  refine x_tr ?_
                                  exact x_ret _ rfl _ rfl ⟨false, rfl, H⟩
                                ·
                                  refine c_skip ?_
                                  refine x_seq ?_
                                  refine c_seq ?_
                                  refine c_region ?_
                                  refine w_p tok rfl rfl rfl ?_
                                  refine w_p tok rfl rfl rfl ?_
                                  refine w_end ?_
                                  refine x_seq ?_
                                  refine c_if H rfl (fun H => ?_) (fun H => ?_)
                                  ·
                                    refine c_seq ?_
                                    refine c_region ?_
                                    refine w_p tok rfl rfl rfl ?_
                                    refine w_p tok rfl rfl rfl ?_
                                    refine w_end ?_
                                    refine x_seq ?_
                                    refine c_weak [(0, Slc.v p0), (1, Slc.v p1), (2, Slc.v p2), (8, .pointer r8), (9, .pointer r10.1), (11, Slc.v r21.1), (13, .int .i64 t13_2)] ⟨rfl, rfl, rfl, rfl, rfl, rfl, rfl, trivial⟩ ?_
                                    refine c_region ?_
                                    refine w_p tok rfl rfl rfl ?_
                                    refine w_end ?_
                                    refine x_blk ?_
                                    exact x_join (r21.1, true) H ⟨rfl, rfl, rfl, rfl, rfl, rfl, rfl, rfl, trivial⟩
                                  ·
                                    refine c_skip ?_
                                    refine x_blk ?_
                                    exact x_join (t11_2, t12_2) H ⟨rfl, rfl, rfl, rfl, rfl, rfl, rfl, rfl, trivial⟩
                              ·
                                refine w_gs (d := 139) rfl (fun hb => ?_) (fun hb => ?_)
                                ·
                                  refine w_skip rfl rfl ?_
                                  refine w_skip rfl rfl ?_
                                  refine w_skip rfl rfl ?_
                                  refine w_skip rfl rfl ?_
                                  refine w_skip rfl rfl ?_
                                  refine w_skip rfl rfl ?_
                                  refine w_skip rfl rfl ?_
                                  refine w_skip rfl rfl ?_
                                  refine w_skip rfl rfl ?_
                                  refine w_p tok rfl rfl rfl ?_
                                  refine w_jn () rfl ⟨?_, rfl, rfl, rfl, rfl, rfl, rfl, rfl, rfl, rfl, rfl, trivial⟩
                                  exact congrArg (fun b => some (Value.bool b)) (or_t hb)
                                ·
                                  refine w_p tok rfl rfl rfl ?_
                                  refine w_p tok rfl rfl rfl ?_
                                  refine w_cutU 3 [(144, .bool (r17 && (!(t114_5 || ((!t12_2) && (r21.2.2 == 6)))))), (0, Slc.v p0), (1, Slc.v p1), (2, Slc.v p2), (8, .pointer r8), (9, .pointer r10.1), (11, Slc.v t11_2), (12, .bool t12_2), (13, .int .i64 t13_2), (17, Slc.v r21.1), (19, .int .i64 r21.2.2), (21, .bool t132_6), (139, .bool false)] ?_ ?_
                                  ·
                                    refine w_p tok rfl rfl rfl ?_
                                    refine w_cutU 3 [(148, .bool ((r17 && (!(t114_5 || ((!t12_2) && (r21.2.2 == 6))))) && (!t132_6))), (0, Slc.v p0), (1, Slc.v p1), (2, Slc.v p2), (8, .pointer r8), (9, .pointer r10.1), (11, Slc.v t11_2), (12, .bool t12_2), (13, .int .i64 t13_2), (17, Slc.v r21.1), (19, .int .i64 r21.2.2), (139, .bool false)] ?_ ?_
                                    ·
                                      refine w_p tok rfl rfl rfl ?_
                                      refine w_jn () rfl ⟨?_, rfl, rfl, rfl, rfl, rfl, rfl, rfl, rfl, rfl, rfl, trivial⟩
                                      exact congrArg (fun b => some (Value.bool b)) (or_f hb)
                                    ·
                                      refine w_gs (d := 145) rfl (fun hb => ?_) (fun hb => ?_)
                                      ·
                                        refine w_p tok rfl rfl rfl ?_
                                        refine w_p tok rfl rfl rfl ?_
                                        refine w_p tok rfl rfl rfl ?_
                                        refine w_jn () rfl ⟨?_, rfl, rfl, rfl, rfl, rfl, rfl, rfl, rfl, rfl, rfl, rfl, trivial⟩
                                        exact congrArg (fun b => some (Value.bool b)) (and_t hb)
                                      ·
                                        refine w_skip rfl rfl ?_
                                        refine w_skip rfl rfl ?_
                                        refine w_p tok rfl rfl rfl ?_
                                        refine w_jn () rfl ⟨?_, rfl, rfl, rfl, rfl, rfl, rfl, rfl, rfl, rfl, rfl, rfl, trivial⟩
                                        exact congrArg (fun b => some (Value.bool b)) (and_f hb)
                                  ·
                                    refine w_gs (d := 141) rfl (fun hb => ?_) (fun hb => ?_)
                                    ·
                                      refine w_p tok rfl rfl rfl ?_
                                      refine w_p tok rfl rfl rfl ?_
                                      refine w_p tok rfl rfl rfl ?_
                                      refine w_jn () rfl ⟨?_, rfl, rfl, rfl, rfl, rfl, rfl, rfl, rfl, rfl, rfl, rfl, rfl, trivial⟩
                                      exact congrArg (fun b => some (Value.bool b)) (and_t hb)
                                    ·
                                      refine w_skip rfl rfl ?_
                                      refine w_skip rfl rfl ?_
                                      refine w_p tok rfl rfl rfl ?_
                                      refine w_jn () rfl ⟨?_, rfl, rfl, rfl, rfl, rfl, rfl, rfl, rfl, rfl, rfl, rfl, rfl, trivial⟩
                                      exact congrArg (fun b => some (Value.bool b)) (and_f hb)
                            ·
                              refine w_gs (d := 135) rfl (fun hb => ?_) (fun hb => ?_)
                              ·
                                refine w_p tok rfl rfl rfl ?_
                                refine w_p tok rfl rfl rfl ?_
                                refine w_p tok rfl rfl rfl ?_
                                refine w_jn () rfl ⟨?_, rfl, rfl, rfl, rfl, rfl, rfl, rfl, rfl, rfl, rfl, rfl, rfl, rfl, trivial⟩
                                exact congrArg (fun b => some (Value.bool b)) (and_t hb)
                              ·
                                refine w_skip rfl rfl ?_
                                refine w_skip rfl rfl ?_
                                refine w_p tok rfl rfl rfl ?_
                                refine w_jn () rfl ⟨?_, rfl, rfl, rfl, rfl, rfl, rfl, rfl, rfl, rfl, rfl, rfl, rfl, rfl, trivial⟩
                                exact congrArg (fun b => some (Value.bool b)) (and_f hb)
                          ·
                            refine w_gif (d := 125) H rfl (fun H => ?_) (fun H => ?_)
                            ·
                              refine w_p tok rfl rfl rfl ?_
                              refine w_p tok rfl rfl rfl ?_
                              refine w_p tok rfl rfl rfl ?_
                              obtain ⟨a23, ha23, la23, ua23, H⟩ := H
                              refine w_y (y_ixa' tok rfl rfl ha23 rfl rfl rfl la23 ua23) rfl rfl ?_
                              obtain ⟨v24, hv24, H⟩ := H
                              refine w_y (y_ld tok rfl rfl rfl rfl hv24) rfl rfl ?_
                              refine w_call ref01_Same_ok (ref01_Same_ref _ _ _ _ H) rfl rfl rfl rfl ?_
                              rintro _ h26 ⟨r25, rfl, H⟩
                              refine w_p tok rfl rfl rfl ?_
                              exact w_jn r25 H ⟨rfl, rfl, rfl, rfl, rfl, rfl, rfl, rfl, rfl, rfl, rfl, rfl, rfl, trivial⟩
                            ·
                              refine w_skip rfl rfl ?_
                              refine w_skip rfl rfl ?_
                              refine w_skip rfl rfl ?_
                              refine w_skip rfl rfl ?_
                              refine w_skip rfl rfl ?_
                              refine w_skip rfl rfl ?_
                              refine w_p tok rfl rfl rfl ?_
                              exact w_jn false H ⟨rfl, rfl, rfl, rfl, rfl, rfl, rfl, rfl, rfl, rfl, rfl, rfl, rfl, trivial⟩
                        ·
                          refine w_gs (d := 115) rfl (fun hb => ?_) (fun hb => ?_)
                          ·
                            refine w_skip rfl rfl ?_
                            refine w_skip rfl rfl ?_
                            refine w_skip rfl rfl ?_
                            refine w_skip rfl rfl ?_
                            refine w_skip rfl rfl ?_
                            refine w_skip rfl rfl ?_
                            refine w_p tok rfl rfl rfl ?_
                            refine w_jn () rfl ⟨?_, rfl, rfl, rfl, rfl, rfl, rfl, rfl, rfl, rfl, rfl, rfl, trivial⟩
                            exact congrArg (fun b => some (Value.bool b)) (or_t hb)
                          ·
                            refine w_p tok rfl rfl rfl ?_
                            refine w_p tok rfl rfl rfl ?_
                            refine w_p tok rfl rfl rfl ?_
                            refine w_cutU 3 [(121, .bool ((!t12_2) && (r21.2.2 == 6))), (0, Slc.v p0), (1, Slc.v p1), (2, Slc.v p2), (8, .pointer r8), (9, .pointer r10.1), (11, Slc.v t11_2), (12, .bool t12_2), (13, .int .i64 t13_2), (16, .bool r17), (17, Slc.v r21.1), (19, .int .i64 r21.2.2), (115, .bool false)] ?_ ?_
                            ·
                              refine w_p tok rfl rfl rfl ?_
                              refine w_jn () rfl ⟨?_, rfl, rfl, rfl, rfl, rfl, rfl, rfl, rfl, rfl, rfl, rfl, trivial⟩
                              exact congrArg (fun b => some (Value.bool b)) (or_f hb)
                            ·
                              refine w_gs (d := 118) rfl (fun hb => ?_) (fun hb => ?_)
                              ·
                                refine w_p tok rfl rfl rfl ?_
                                refine w_p tok rfl rfl rfl ?_
                                refine w_p tok rfl rfl rfl ?_
                                refine w_jn () rfl ⟨?_, rfl, rfl, rfl, rfl, rfl, rfl, rfl, rfl, rfl, rfl, rfl, rfl, trivial⟩
                                exact congrArg (fun b => some (Value.bool b)) (and_t hb)
                              ·
                                refine w_skip rfl rfl ?_
                                refine w_skip rfl rfl ?_
                                refine w_p tok rfl rfl rfl ?_
                                refine w_jn () rfl ⟨?_, rfl, rfl, rfl, rfl, rfl, rfl, rfl, rfl, rfl, rfl, rfl, rfl, trivial⟩
                                exact congrArg (fun b => some (Value.bool b)) (and_f hb)
                      ·
                        refine w_gif (d := 110) H rfl (fun H => ?_) (fun H => ?_)
                        ·
                          refine w_p tok rfl rfl rfl ?_
                          refine w_p tok rfl rfl rfl ?_
                          refine w_call ref01_Same_ok (ref01_Same_ref _ _ _ _ H) rfl rfl rfl rfl ?_
                          rintro _ h28 ⟨r27, rfl, H⟩
                          refine w_p tok rfl rfl rfl ?_
                          exact w_jn r27 H ⟨rfl, rfl, rfl, rfl, rfl, rfl, rfl, rfl, rfl, rfl, rfl, rfl, trivial⟩
                        ·
                          refine w_skip rfl rfl ?_
                          refine w_skip rfl rfl ?_
                          refine w_skip rfl rfl ?_
                          refine w_p tok rfl rfl rfl ?_
                          exact w_jn false H ⟨rfl, rfl, rfl, rfl, rfl, rfl, rfl, rfl, rfl, rfl, rfl, rfl, trivial⟩
                    ·
                      refine w_gs (d := 106) rfl (fun hb => ?_) (fun hb => ?_)
                      ·
                        refine w_p tok rfl rfl rfl ?_
                        refine w_p tok rfl rfl rfl ?_
                        refine w_p tok rfl rfl rfl ?_
                        refine w_jn () rfl ⟨?_, rfl, rfl, rfl, rfl, rfl, rfl, rfl, rfl, rfl, rfl, rfl, trivial⟩
                        exact congrArg (fun b => some (Value.bool b)) (and_t hb)
                      ·
                        refine w_skip rfl rfl ?_
                        refine w_skip rfl rfl ?_
                        refine w_p tok rfl rfl rfl ?_
                        refine w_jn () rfl ⟨?_, rfl, rfl, rfl, rfl, rfl, rfl, rfl, rfl, rfl, rfl, rfl, trivial⟩
                        exact congrArg (fun b => some (Value.bool b)) (and_f hb)
                ·
                  refine w_gs (d := 88) rfl (fun hb => ?_) (fun hb => ?_)
                  ·
                    refine w_skip rfl rfl ?_
                    refine w_skip rfl rfl ?_
                    refine w_skip rfl rfl ?_
                    refine w_skip rfl rfl ?_
                    refine w_skip rfl rfl ?_
                    refine w_skip rfl rfl ?_
                    refine w_p tok rfl rfl rfl ?_
                    refine w_jn () rfl ⟨?_, rfl, rfl, rfl, rfl, rfl, rfl, rfl, rfl, rfl, trivial⟩
                    exact congrArg (fun b => some (Value.bool b)) (or_t hb)
                  ·
                    refine w_p tok rfl rfl rfl ?_
                    refine w_p tok rfl rfl rfl ?_
                    refine w_p tok rfl rfl rfl ?_
                    refine w_cutU 3 [(94, .bool ((r15.2 != 0) && (r15.2 != 10))), (0, Slc.v p0), (1, Slc.v p1), (2, Slc.v p2), (8, .pointer r8), (9, .pointer r10.1), (11, Slc.v t11_2), (12, .bool t12_2), (13, .int .i64 t13_2), (16, .bool r17), (88, .bool false)] ?_ ?_
                    ·
                      refine w_p tok rfl rfl rfl ?_
                      refine w_jn () rfl ⟨?_, rfl, rfl, rfl, rfl, rfl, rfl, rfl, rfl, rfl, trivial⟩
                      exact congrArg (fun b => some (Value.bool b)) (or_f hb)
                    ·
                      refine w_gs (d := 91) rfl (fun hb => ?_) (fun hb => ?_)
                      ·
                        refine w_p tok rfl rfl rfl ?_
                        refine w_p tok rfl rfl rfl ?_
                        refine w_p tok rfl rfl rfl ?_
                        refine w_jn () rfl ⟨?_, rfl, rfl, rfl, rfl, rfl, rfl, rfl, rfl, rfl, rfl, trivial⟩
                        exact congrArg (fun b => some (Value.bool b)) (and_t hb)
                      ·
                        refine w_skip rfl rfl ?_
                        refine w_skip rfl rfl ?_
                        refine w_p tok rfl rfl rfl ?_
                        refine w_jn () rfl ⟨?_, rfl, rfl, rfl, rfl, rfl, rfl, rfl, rfl, rfl, rfl, trivial⟩
                        exact congrArg (fun b => some (Value.bool b)) (and_f hb)
              ·
                refine c_seq ?_
                refine c_region ?_
                refine w_p tok rfl rfl rfl ?_
                refine w_p tok rfl rfl rfl ?_
                refine w_p tok rfl rfl rfl ?_
                refine w_p tok rfl rfl rfl ?_
                refine w_end ?_
                refine x_seq ?_
                refine c_weak [(11, Slc.v t11_2), (12, .bool t12_2), (13, .int .i64 t13_2), (0, Slc.v p0), (1, Slc.v p1), (2, Slc.v p2), (8, .pointer r8), (9, .pointer r10.1), (64, .bool (decide (t13_2 < (p1.len : Int))))] ⟨rfl, rfl, rfl, rfl, rfl, rfl, rfl, rfl, rfl, trivial⟩ ?_
                refine c_if H rfl (fun H => ?_) (fun H => ?_)
                ·
                  refine c_region ?_
                  refine w_p tok rfl rfl rfl ?_
                  refine w_p tok rfl rfl rfl ?_
                  refine w_p tok rfl rfl rfl ?_
                  obtain ⟨a29, ha29, la29, ua29, H⟩ := H
                  refine w_y (y_ixa' tok rfl rfl ha29 rfl rfl rfl la29 ua29) rfl rfl ?_
                  obtain ⟨v30, hv30, H⟩ := H
                  refine w_y (y_ld tok rfl rfl rfl rfl hv30) rfl rfl ?_
                  refine w_p tok rfl rfl rfl ?_
                  refine w_p tok rfl rfl rfl ?_
                  refine w_call disk_Disk_Fuse_ok (disk_Disk_Fuse_ref _ _ _ _ H) rfl rfl rfl rfl ?_
                  rintro _ h32 ⟨r31, rfl, H⟩
                  refine w_end ?_
                  exact x_join () H ⟨rfl, rfl, rfl, rfl, rfl, rfl, rfl, rfl, trivial⟩
                ·
                  refine c_skip ?_
                  exact x_join () H ⟨rfl, rfl, rfl, rfl, rfl, rfl, rfl, rfl, trivial⟩
          ·
            refine c_exit ?_
            refine x_te ?_
            refine x_te ?_
            refine x_bh ?_
            refine x_seq ?_
            refine c_weak [] trivial ?_
            refine c_seq ?_
            refine c_region ?_
            refine w_call law10_awake_ok (law10_awake_ref  _ _ H) rfl rfl rfl rfl ?_
            rintro _ h34 ⟨r33, rfl, H⟩
            refine w_p tok rfl rfl rfl ?_
            refine w_end ?_
            refine x_seq ?_
            refine c_ret ?_
            exact x_ret _ rfl _ rfl ⟨r33, rfl, H⟩
    ·
      refine w_gs (d := 30) rfl (fun hb => ?_) (fun hb => ?_)
      ·
        refine w_skip rfl rfl ?_
        refine w_skip rfl rfl ?_
        refine w_skip rfl rfl ?_
        refine w_p tok rfl rfl rfl ?_
        refine w_jn () rfl ⟨?_, rfl, rfl, rfl, trivial⟩
        exact congrArg (fun b => some (Value.bool b)) (or_t hb)
      ·
        refine w_p tok rfl rfl rfl ?_
        refine w_p tok rfl rfl rfl ?_
        refine w_p tok rfl rfl rfl ?_
        refine w_p tok rfl rfl rfl ?_
        refine w_jn () rfl ⟨?_, rfl, rfl, rfl, trivial⟩
        exact congrArg (fun b => some (Value.bool b)) (or_f hb)
  ·
    refine w_gs (d := 25) rfl (fun hb => ?_) (fun hb => ?_)
    ·
      refine w_skip rfl rfl ?_
      refine w_skip rfl rfl ?_
      refine w_skip rfl rfl ?_
      refine w_p tok rfl rfl rfl ?_
      refine w_jn () rfl ⟨?_, rfl, rfl, rfl, trivial⟩
      exact congrArg (fun b => some (Value.bool b)) (or_t hb)
    ·
      refine w_p tok rfl rfl rfl ?_
      refine w_p tok rfl rfl rfl ?_
      refine w_p tok rfl rfl rfl ?_
      refine w_p tok rfl rfl rfl ?_
      refine w_jn () rfl ⟨?_, rfl, rfl, rfl, trivial⟩
      exact congrArg (fun b => some (Value.bool b)) (or_f hb)
end Go.Q.Ye

/- A part of the proof of statements of this seat: lemmas, no statement of their own. -/
import Derived.Test.YtidhlagdagbggaaDoorYfTab
import Derived.Test.YtidhlagdagbggaaDoorYfSlot
set_option linter.unusedVariables false
set_option maxRecDepth 100000
set_option maxHeartbeats 1000000
namespace Go.Q.Yf
/-- quaestor quaestorref01.Same -/
def ref01_Same_l1b (t0_1 : Slc) (t1_1 : Slc) (t5_1 : Int) (k : (Bool) → Heap → Prop) (nx1 : (Int) → Heap → Prop) (h_1 : Heap) : Prop :=
  if (decide (t5_1 < (t0_1.len : Int))) then (∃ a1 : Addr, t0_1.a = some a1 ∧ (0 : Int) ≤ t5_1 ∧ t5_1 < (t0_1.len : Int) ∧ (∃ v2 : Int, cellH h_1 (a1.add (t5_1.toNat * 1)) = some (.int .u8 v2) ∧ (∃ a3 : Addr, t1_1.a = some a3 ∧ (0 : Int) ≤ t5_1 ∧ t5_1 < (t1_1.len : Int) ∧ (∃ v4 : Int, cellH h_1 (a3.add (t5_1.toNat * 1)) = some (.int .u8 v4) ∧ (if (v2 != v4) then (k false h_1) else (∃ x5 : Int, x5 = (IntKind.i64.wrap (t5_1 + 1)) ∧ (nx1 x5 h_1))))))) else (k true h_1)
def ref01_Same_l1 (t0_1 : Slc) (t1_1 : Slc) (i5 : Int) (k : (Bool) → Heap → Prop) (h : Heap) : Prop :=
  ∃ (I : Int → Heap → Prop) (μ : Int → Heap → Nat), I i5 h ∧ ∀ (t5_1 : Int) (h : Heap), I t5_1 h → ref01_Same_l1b t0_1 t1_1 t5_1 k (fun s h' => I s h' ∧ μ s h' < μ t5_1 h) h
def ref01_Same (p0 : Slc) (p1 : Slc) (k : (Bool) → Heap → Prop) (h : Heap) : Prop :=
  if ((p0.len : Int) != (p1.len : Int)) then (k false h) else (ref01_Same_l1 p0 p1 0 k h)

theorem ref01_Same_ok : CallOk Go.Proofs.Tryd.prog 14 := ⟨_, Go.Proofs.Tryd.func14, by kernel_rfl, by kernel_rfl⟩
theorem ref01_Same_ref (p0 : Slc) (p1 : Slc) (k : (Bool) → Heap → Prop) (h : Heap) (H : ref01_Same p0 p1 k h) : CallsH Go.Proofs.Tryd.prog 14 #[Slc.v p0, Slc.v p1] h (fun v h' => ∃ r : Bool, v = .bool r ∧ k r h') := by
  refine f_enter (N := 26) Go.Proofs.Tryd.func14 rfl rfl rfl (fun w0 => ?_)
  unfold ref01_Same at H
  refine c_weak [(0, Slc.v p0), (1, Slc.v p1)] ⟨rfl, rfl, trivial⟩ ?_
  refine c_seq ?_
  refine c_region ?_
  refine w_p tok rfl rfl rfl ?_
  refine w_end ?_
  refine x_seq ?_
  refine c_seq ?_
  refine c_seq ?_
  refine c_region ?_
  refine w_p tok rfl rfl rfl ?_
  refine w_p tok rfl rfl rfl ?_
  refine w_p tok rfl rfl rfl ?_
  refine w_p tok rfl rfl rfl ?_
  refine w_p tok rfl rfl rfl ?_
  refine w_end ?_
  refine x_seq ?_
  refine c_if H rfl (fun H => ?_) (fun H => ?_)
  ·
    refine c_seq ?_
    refine c_region ?_
    refine w_p tok rfl rfl rfl ?_
    refine w_end ?_
    refine x_seq ?_
    refine c_weak [(4, .bool false)] ⟨rfl, trivial⟩ ?_
    refine c_ret ?_
    refine x_tr ?_
    exact x_ret _ rfl _ rfl ⟨false, rfl, H⟩
  ·
    refine c_skip ?_
    refine x_seq ?_
    refine c_seq ?_
    refine c_seq ?_
    refine c_region ?_
    refine w_p tok rfl rfl rfl ?_
    refine w_end ?_
    refine x_seq ?_
    refine c_block ?_
    obtain ⟨I1, μ1, H0, HI⟩ := H
    refine c_loop (σ := Int) (fun (s : Int) => [(5, .int .i64 s), (0, Slc.v p0), (1, Slc.v p1)]) I1 μ1 0 H0 ⟨rfl, rfl, rfl, trivial⟩ ?_
    rintro t5_1 h_1 H
    replace H := HI t5_1 h_1 H
    unfold ref01_Same_l1b at H
    refine c_weak [(5, .int .i64 t5_1), (0, Slc.v p0), (1, Slc.v p1)] ⟨rfl, rfl, rfl, trivial⟩ ?_
    refine c_seq ?_
    refine c_seq ?_
    refine c_region ?_
    refine w_p tok rfl rfl rfl ?_
    refine w_p tok rfl rfl rfl ?_
    refine w_p tok rfl rfl rfl ?_
    refine w_p tok rfl rfl rfl ?_
    refine w_end ?_
    refine x_seq ?_
    refine c_if H rfl (fun H => ?_) (fun H => ?_)
    ·
      refine c_skip ?_
      refine x_seq ?_
      refine c_seq ?_
      refine c_block ?_
      refine c_seq ?_
      refine c_draw (by kernel_rfl) (by kernel_rfl) ?_
      refine q_p tok rfl rfl rfl ?_
      refine q_p tok rfl rfl rfl ?_
      obtain ⟨a1, ha1, la1, ua1, H⟩ := H
      refine q_y (y_ixa' tok rfl rfl ha1 rfl rfl rfl la1 ua1) rfl rfl ?_
      obtain ⟨v2, hv2, H⟩ := H
      refine q_y (y_ld tok rfl rfl rfl rfl hv2) rfl rfl ?_
      refine q_p tok rfl rfl rfl ?_
      refine q_p tok rfl rfl rfl ?_
      obtain ⟨a3, ha3, la3, ua3, H⟩ := H
      refine q_y (y_ixa' tok rfl rfl ha3 rfl rfl rfl la3 ua3) rfl rfl ?_
      obtain ⟨v4, hv4, H⟩ := H
      refine q_y (y_ld tok rfl rfl rfl rfl hv4) rfl rfl ?_
      refine q_p tok rfl rfl rfl ?_
      refine q_end ?_
      refine x_seq ?_
      refine c_weak [(5, .int .i64 t5_1), (0, Slc.v p0), (1, Slc.v p1), (25, .bool (v2 != v4))] ⟨rfl, rfl, rfl, rfl, trivial⟩ ?_
      refine c_if H rfl (fun H => ?_) (fun H => ?_)
      ·
        refine c_seq ?_
        refine c_region ?_
        refine w_p tok rfl rfl rfl ?_
        refine w_end ?_
        refine x_seq ?_
        refine c_ret ?_
        refine x_br ?_
        refine x_tr ?_
        refine x_tr ?_
        refine x_br ?_
        refine x_tr ?_
        exact x_ret _ rfl _ rfl ⟨false, rfl, H⟩
      ·
        refine c_skip ?_
        refine x_blk ?_
        refine x_seq ?_
        refine c_region ?_
        refine w_p tok rfl rfl rfl ?_
        refine w_p tok rfl rfl rfl ?_
        obtain ⟨x5, ex5, H⟩ := H
        refine w_pe tok rfl (congrArg (fun z => (.int .i64 z : Value)) ex5) rfl rfl ?_
        refine w_end ?_
        exact x_join x5 H ⟨rfl, rfl, rfl, trivial⟩
    ·
      refine c_exit ?_
      refine x_te ?_
      refine x_te ?_
      refine x_bh ?_
      refine x_seq ?_
      refine c_weak [] trivial ?_
      refine c_seq ?_
      refine c_region ?_
      refine w_p tok rfl rfl rfl ?_
      refine w_end ?_
      refine x_seq ?_
      refine c_ret ?_
      exact x_ret _ rfl _ rfl ⟨true, rfl, H⟩
end Go.Q.Yf

/- A part of the proof of statements of this seat: lemmas, no statement of their own. -/
import Derived.Test.YtcmbgfmbmbgbiaaYbTab
import Derived.Test.YtcmbgfmbmbgbiaaYbVtB
set_option linter.unusedVariables false
set_option maxRecDepth 100000
set_option maxHeartbeats 1000000
namespace Go.Q.Yb
/-- slices.pdqsortOrdered uint64  -/
def slices_pdqsortOrdered_uint64_j2 (t0_2 : Slc) (t1_2 : Int) (t2_2 : Int) (t8_2 : Bool) (t9_2 : Bool) (t10_2 : Int) (t3_2 : Int) (k : (Unit) → Heap → Prop) (nx1 : (Int × Int × Int × Bool × Bool) → Heap → Prop) (h_2 : Heap) : Prop :=
  False
def slices_pdqsortOrdered_uint64_l1b (t0_1 : Slc) (t1_1 : Int) (t2_1 : Int) (t3_1 : Int) (t8_1 : Bool) (t9_1 : Bool) (k : (Unit) → Heap → Prop) (nx1 : (Int × Int × Int × Bool × Bool) → Heap → Prop) (h_1 : Heap) : Prop :=
  ∃ x1 : Int, x1 = (IntKind.i64.wrap (t2_1 - t1_1)) ∧ (if (decide (x1 ≤ 12)) then (slices_insertionSortOrdered_uint64 t0_1 t1_1 t2_1 (fun (r2 : Unit) h3 => k () h3) h_1) else (if (t3_1 == 0) then (False) else (if (!t8_1) then (False) else (slices_pdqsortOrdered_uint64_j2 t0_1 t1_1 t2_1 t8_1 t9_1 x1 t3_1 k nx1 h_1))))
def slices_pdqsortOrdered_uint64_l1 (t0_1 : Slc) (i1 : Int) (i2 : Int) (i3 : Int) (i8 : Bool) (i9 : Bool) (k : (Unit) → Heap → Prop) (h : Heap) : Prop :=
  ∃ (I : (Int × Int × Int × Bool × Bool) → Heap → Prop) (μ : (Int × Int × Int × Bool × Bool) → Heap → Nat), I (i1, i2, i3, i8, i9) h ∧ ∀ (t1_1 : Int) (t2_1 : Int) (t3_1 : Int) (t8_1 : Bool) (t9_1 : Bool) (h : Heap), I (t1_1, t2_1, t3_1, t8_1, t9_1) h → slices_pdqsortOrdered_uint64_l1b t0_1 t1_1 t2_1 t3_1 t8_1 t9_1 k (fun s h' => I s h' ∧ μ s h' < μ (t1_1, t2_1, t3_1, t8_1, t9_1) h) h
def slices_pdqsortOrdered_uint64 (p0 : Slc) (p1 : Int) (p2 : Int) (p3 : Int) (k : (Unit) → Heap → Prop) (h : Heap) : Prop :=
  slices_pdqsortOrdered_uint64_l1 p0 p1 p2 p3 true true k h

theorem slices_pdqsortOrdered_uint64_ok : CallOk Go.Proofs.Try.prog 207 := ⟨_, Go.Proofs.Try.func207, by kernel_rfl, by kernel_rfl⟩
theorem slices_pdqsortOrdered_uint64_ref (p0 : Slc) (p1 : Int) (p2 : Int) (p3 : Int) (k : (Unit) → Heap → Prop) (h : Heap) (H : slices_pdqsortOrdered_uint64 p0 p1 p2 p3 k h) : CallsH Go.Proofs.Try.prog 207 #[Slc.v p0, .int .i64 p1, .int .i64 p2, .int .i64 p3] h (fun v h' => ∃ r : Unit, v = .tuple #[] ∧ k r h') := by
  refine f_enter (N := 134) Go.Proofs.Try.func207 rfl rfl rfl (fun w0 => ?_)
  unfold slices_pdqsortOrdered_uint64 at H
  refine c_weak [(0, Slc.v p0), (1, .int .i64 p1), (2, .int .i64 p2), (3, .int .i64 p3)] ⟨rfl, rfl, rfl, rfl, trivial⟩ ?_
  refine c_seq ?_
  refine c_region ?_
  refine w_p tok rfl rfl rfl ?_
  refine w_end ?_
  refine x_seq ?_
  refine c_seq ?_
  refine c_region ?_
  refine w_p tok rfl rfl rfl ?_
  refine w_end ?_
  refine x_seq ?_
  refine c_block ?_
  obtain ⟨I1, μ1, H0, HI⟩ := H
  refine c_loop (σ := Int × Int × Int × Bool × Bool) (fun (s : Int × Int × Int × Bool × Bool) => [(1, .int .i64 s.1), (2, .int .i64 s.2.1), (3, .int .i64 s.2.2.1), (8, .bool s.2.2.2.1), (9, .bool s.2.2.2.2), (0, Slc.v p0)]) I1 μ1 (p1, p2, p3, true, true) H0 ⟨rfl, rfl, rfl, rfl, rfl, rfl, trivial⟩ ?_
  rintro ⟨t1_1, t2_1, t3_1, t8_1, t9_1⟩ h_1 H
  replace H := HI t1_1 t2_1 t3_1 t8_1 t9_1 h_1 H
  unfold slices_pdqsortOrdered_uint64_l1b at H
  refine c_weak [(1, .int .i64 t1_1), (2, .int .i64 t2_1), (3, .int .i64 t3_1), (8, .bool t8_1), (9, .bool t9_1), (0, Slc.v p0)] ⟨rfl, rfl, rfl, rfl, rfl, rfl, trivial⟩ ?_
  refine c_block ?_
  refine c_seq ?_
  refine c_region ?_
  refine w_p tok rfl rfl rfl ?_
  refine w_p tok rfl rfl rfl ?_
  refine w_p tok rfl rfl rfl ?_
  obtain ⟨x1, ex1, H⟩ := H
  refine w_pe tok rfl (congrArg (fun z => (.int .i64 z : Value)) ex1) rfl rfl ?_
  refine w_end ?_
  refine x_seq ?_
  refine c_seq ?_
  refine c_seq ?_
  refine c_region ?_
  refine w_p tok rfl rfl rfl ?_
  refine w_p tok rfl rfl rfl ?_
  refine w_end ?_
  refine x_seq ?_
  refine c_if H rfl (fun H => ?_) (fun H => ?_)
  ·
    refine c_seq ?_
    refine c_region ?_
    refine w_p tok rfl rfl rfl ?_
    refine w_p tok rfl rfl rfl ?_
    refine w_p tok rfl rfl rfl ?_
    refine w_call slices_insertionSortOrdered_uint64_ok (slices_insertionSortOrdered_uint64_ref _ _ _ _ _ H) rfl rfl rfl rfl ?_
    rintro _ h3 ⟨r2, rfl, H⟩
    refine w_end ?_
    refine x_seq ?_
    refine c_weak [] trivial ?_
    refine c_ret ?_
    refine x_tr ?_
    refine x_br ?_
    refine x_tr ?_
    refine x_br ?_
    exact x_ret _ rfl _ rfl ⟨(), rfl, H⟩
  ·
    refine c_skip ?_
    refine x_seq ?_
    refine c_seq ?_
    refine c_seq ?_
    refine c_region ?_
    refine w_p tok rfl rfl rfl ?_
    refine w_p tok rfl rfl rfl ?_
    refine w_end ?_
    refine x_seq ?_
    refine c_if H rfl (fun H => ?_) (fun H => ?_)
    ·
      refine c_seq ?_
      refine c_region ?_
      refine w_p tok rfl rfl rfl ?_
      refine w_p tok rfl rfl rfl ?_
      refine w_p tok rfl rfl rfl ?_
      exact H.elim
    ·
      refine c_skip ?_
      refine x_seq ?_
      refine c_weak [(1, .int .i64 t1_1), (2, .int .i64 t2_1), (3, .int .i64 t3_1), (8, .bool t8_1), (9, .bool t9_1), (0, Slc.v p0), (10, .int .i64 x1)] ⟨rfl, rfl, rfl, rfl, rfl, rfl, rfl, trivial⟩ ?_
      refine c_seqJ (α := Int) (fun (s : Int) => [(3, .int .i64 s), (0, Slc.v p0), (1, .int .i64 t1_1), (2, .int .i64 t2_1), (8, .bool t8_1), (9, .bool t9_1), (10, .int .i64 x1)]) (fun (s : Int) h => slices_pdqsortOrdered_uint64_j2 p0 t1_1 t2_1 t8_1 t9_1 x1 s k (fun s h' => I1 s h' ∧ μ1 s h' < μ1 (t1_1, t2_1, t3_1, t8_1, t9_1) h_1) h) ?_ ?_
      ·
        rintro t3_2 h_2 H
        replace H : slices_pdqsortOrdered_uint64_j2 p0 t1_1 t2_1 t8_1 t9_1 x1 t3_2 k (fun s h' => I1 s h' ∧ μ1 s h' < μ1 (t1_1, t2_1, t3_1, t8_1, t9_1) h_1) h_2 := H
        unfold slices_pdqsortOrdered_uint64_j2 at H
        refine c_weak [(3, .int .i64 t3_2), (0, Slc.v p0), (1, .int .i64 t1_1), (2, .int .i64 t2_1), (8, .bool t8_1), (9, .bool t9_1), (10, .int .i64 x1)] ⟨rfl, rfl, rfl, rfl, rfl, rfl, rfl, trivial⟩ ?_
        refine c_seq ?_
        refine c_region ?_
        refine w_p tok rfl rfl rfl ?_
        refine w_p tok rfl rfl rfl ?_
        refine w_p tok rfl rfl rfl ?_
        exact H.elim
      ·
        refine c_seq ?_
        refine c_region ?_
        refine w_p tok rfl rfl rfl ?_
        refine w_p tok rfl rfl rfl ?_
        refine w_end ?_
        refine x_seq ?_
        refine c_if H rfl (fun H => ?_) (fun H => ?_)
        ·
          refine c_seq ?_
          refine c_region ?_
          refine w_p tok rfl rfl rfl ?_
          refine w_p tok rfl rfl rfl ?_
          refine w_p tok rfl rfl rfl ?_
          exact H.elim
        ·
          refine c_skip ?_
          exact x_join t3_1 H ⟨rfl, rfl, rfl, rfl, rfl, rfl, rfl, trivial⟩
end Go.Q.Yb

/- A part of the proof of statements of this seat: lemmas, no statement of their own. -/
import Derived.Test.YthjafnfadiijgaaYhTab
import Derived.Test.YthjafnfadiijgaaYhVt1
-- squeezed
set_option linter.unusedVariables false
set_option maxRecDepth 100000
set_option maxHeartbeats 1000000
namespace Go.Q.Yh
/-- what a call of itself is taken to do -/
structure PdqR where
 R : Slc → Int → Int → Int → (Unit → Heap → Prop) → Heap → Prop
 R_ref : ∀ (p0 : Slc) (p1 p2 p3 : Int) (k : Unit → Heap → Prop) (h : Heap), R p0 p1 p2 p3 k h → CallsH Go.Proofs.Try.prog 95 #[Slc.v p0, .int .i64 p1, .int .i64 p2, .int .i64 p3] h (fun v h' => ∃ r : Unit, v = .tuple #[] ∧ k r h')
/-- slices.pdqsortOrdered uint64  -/
def slices_pdqsortOrdered_uint64_j5 (Q : PdqR) (t0_5 : Slc) (t1_5 : Int) (t2_5 : Int) (t3_5 : Int) (t8_5 : Bool) (t9_5 : Bool) (t10_5 : Int) (t11_5 : Int) (t87_5 : Bool) (k : (Unit) → Heap → Prop) (nx1 : (Int × Int × Int × Bool × Bool) → Heap → Prop) (h_5 : Heap) : Prop :=
 if t87_5 then (slices_partitionEqualOrdered_uint64 t0_5 t1_5 t2_5 t11_5 (fun (r8 : Int) h9 => nx1 (r8, t2_5, t3_5, t8_5, t9_5) h9) h_5) else (slices_partitionOrdered_uint64 t0_5 t1_5 t2_5 t11_5 (fun (r10 : Int × Bool) h11 => ∃ x12 : Int, x12 = (IntKind.i64.wrap (r10.1 - t1_5)) ∧ (∃ x13 : Int, x13 = (IntKind.i64.wrap (t2_5 - r10.1)) ∧ (∃ x14 : Int, x14 = (IntKind.i64.wrap (Int.tdiv t10_5 8)) ∧ (if (decide (x12 < x13)) then (Q.R t0_5 t1_5 r10.1 t3_5 (fun (r15 : Unit) h16 => ∃ x17 : Int, x17 = (IntKind.i64.wrap (r10.1 + 1)) ∧ (nx1 (x17, t2_5, t3_5, (decide (x12 ≥ x14)), r10.2) h16)) h11) else (Q.R t0_5 (IntKind.i64.wrap (r10.1 + 1)) t2_5 t3_5 (fun (r18 : Unit) h19 => nx1 (t1_5, r10.1, t3_5, (decide (x13 ≥ x14)), r10.2) h19) h11))))) h_5)
def slices_pdqsortOrdered_uint64_j4 (Q : PdqR) (t0_4 : Slc) (t1_4 : Int) (t2_4 : Int) (t3_4 : Int) (t8_4 : Bool) (t9_4 : Bool) (t10_4 : Int) (t11_4 : Int) (k : (Unit) → Heap → Prop) (nx1 : (Int × Int × Int × Bool × Bool) → Heap → Prop) (h_4 : Heap) : Prop :=
 if (decide (t1_4 > 0)) then (∃ a20 : Addr, t0_4.a = some a20 ∧ (0 : Int) ≤ (IntKind.i64.wrap (t1_4 - 1)) ∧ (IntKind.i64.wrap (t1_4 - 1)) < (t0_4.len : Int) ∧ (∃ v21 : Int, cellH h_4 (a20.add ((IntKind.i64.wrap (t1_4 - 1)).toNat * 1)) = some (.int .u64 v21) ∧ (∃ a22 : Addr, t0_4.a = some a22 ∧ (0 : Int) ≤ t11_4 ∧ t11_4 < (t0_4.len : Int) ∧ (∃ v23 : Int, cellH h_4 (a22.add (t11_4.toNat * 1)) = some (.int .u64 v23) ∧ (cmp_Less_uint64 v21 v23 (fun (r24 : Bool) h25 => slices_pdqsortOrdered_uint64_j5 Q t0_4 t1_4 t2_4 t3_4 t8_4 t9_4 t10_4 t11_4 (!r24) k nx1 h25) h_4))))) else (slices_pdqsortOrdered_uint64_j5 Q t0_4 t1_4 t2_4 t3_4 t8_4 t9_4 t10_4 t11_4 false k nx1 h_4)
def slices_pdqsortOrdered_uint64_j3 (Q : PdqR) (t0_3 : Slc) (t1_3 : Int) (t2_3 : Int) (t3_3 : Int) (t8_3 : Bool) (t9_3 : Bool) (t10_3 : Int) (t11_3 : Int) (t12_3 : Int) (k : (Unit) → Heap → Prop) (nx1 : (Int × Int × Int × Bool × Bool) → Heap → Prop) (h_3 : Heap) : Prop :=
 if ((t8_3 && t9_3) && (t12_3 == 1)) then (slices_partialInsertionSortOrdered_uint64 t0_3 t1_3 t2_3 (fun (r26 : Bool) h27 => if r26 then (k () h27) else (slices_pdqsortOrdered_uint64_j4 Q t0_3 t1_3 t2_3 t3_3 t8_3 t9_3 t10_3 t11_3 k nx1 h27)) h_3) else (slices_pdqsortOrdered_uint64_j4 Q t0_3 t1_3 t2_3 t3_3 t8_3 t9_3 t10_3 t11_3 k nx1 h_3)
def slices_pdqsortOrdered_uint64_j2 (Q : PdqR) (t0_2 : Slc) (t1_2 : Int) (t2_2 : Int) (t8_2 : Bool) (t9_2 : Bool) (t10_2 : Int) (t3_2 : Int) (k : (Unit) → Heap → Prop) (nx1 : (Int × Int × Int × Bool × Bool) → Heap → Prop) (h_2 : Heap) : Prop :=
 slices_choosePivotOrdered_uint64 t0_2 t1_2 t2_2 (fun (r6 : Int × Int) h7 => if (r6.2 == 2) then (slices_reverseRangeOrdered_uint64 t0_2 t1_2 t2_2 (fun (r28 : Unit) h29 => ∃ x30 : Int, x30 = (IntKind.i64.wrap ((IntKind.i64.wrap (t2_2 - 1)) - (IntKind.i64.wrap (r6.1 - t1_2)))) ∧ (slices_pdqsortOrdered_uint64_j3 Q t0_2 t1_2 t2_2 t3_2 t8_2 t9_2 t10_2 x30 1 k nx1 h29)) h7) else (slices_pdqsortOrdered_uint64_j3 Q t0_2 t1_2 t2_2 t3_2 t8_2 t9_2 t10_2 r6.1 r6.2 k nx1 h7)) h_2
def slices_pdqsortOrdered_uint64_l1b (Q : PdqR) (t0_1 : Slc) (t1_1 : Int) (t2_1 : Int) (t3_1 : Int) (t8_1 : Bool) (t9_1 : Bool) (k : (Unit) → Heap → Prop) (nx1 : (Int × Int × Int × Bool × Bool) → Heap → Prop) (h_1 : Heap) : Prop :=
 ∃ x1 : Int, x1 = (IntKind.i64.wrap (t2_1 - t1_1)) ∧ (if (decide (x1 ≤ 12)) then (slices_insertionSortOrdered_uint64 t0_1 t1_1 t2_1 (fun (r2 : Unit) h3 => k () h3) h_1) else (if (t3_1 == 0) then (slices_heapSortOrdered_uint64 t0_1 t1_1 t2_1 (fun (r4 : Unit) h5 => k () h5) h_1) else (if (!t8_1) then (slices_breakPatternsOrdered_uint64 t0_1 t1_1 t2_1 (fun (r31 : Unit) h32 => ∃ x33 : Int, x33 = (IntKind.i64.wrap (t3_1 - 1)) ∧ (slices_pdqsortOrdered_uint64_j2 Q t0_1 t1_1 t2_1 t8_1 t9_1 x1 x33 k nx1 h32)) h_1) else (slices_pdqsortOrdered_uint64_j2 Q t0_1 t1_1 t2_1 t8_1 t9_1 x1 t3_1 k nx1 h_1))))
def slices_pdqsortOrdered_uint64_l1 (Q : PdqR) (t0_1 : Slc) (i1 : Int) (i2 : Int) (i3 : Int) (i8 : Bool) (i9 : Bool) (k : (Unit) → Heap → Prop) (h : Heap) : Prop :=
 ∃ (I : (Int × Int × Int × Bool × Bool) → Heap → Prop) (μ : (Int × Int × Int × Bool × Bool) → Heap → Nat), I (i1, i2, i3, i8, i9) h ∧ ∀ (t1_1 : Int) (t2_1 : Int) (t3_1 : Int) (t8_1 : Bool) (t9_1 : Bool) (h : Heap), I (t1_1, t2_1, t3_1, t8_1, t9_1) h → slices_pdqsortOrdered_uint64_l1b Q t0_1 t1_1 t2_1 t3_1 t8_1 t9_1 k (fun s h' => I s h' ∧ μ s h' < μ (t1_1, t2_1, t3_1, t8_1, t9_1) h) h
def slices_pdqsortOrdered_uint64 (Q : PdqR) (p0 : Slc) (p1 : Int) (p2 : Int) (p3 : Int) (k : (Unit) → Heap → Prop) (h : Heap) : Prop :=
 slices_pdqsortOrdered_uint64_l1 Q p0 p1 p2 p3 true true k h

theorem slices_pdqsortOrdered_uint64_ok : CallOk Go.Proofs.Try.prog 95 := ⟨_, Go.Proofs.Try.func95, by kernel_rfl, by kernel_rfl⟩
theorem slices_pdqsortOrdered_uint64_ref (Q : PdqR) (p0 : Slc) (p1 : Int) (p2 : Int) (p3 : Int) (k : (Unit) → Heap → Prop) (h : Heap) (H : slices_pdqsortOrdered_uint64 Q p0 p1 p2 p3 k h) : CallsH Go.Proofs.Try.prog 95 #[Slc.v p0, .int .i64 p1, .int .i64 p2, .int .i64 p3] h (fun v h' => ∃ r : Unit, v = .tuple #[] ∧ k r h') := by
 refine f_enter (N := 134) Go.Proofs.Try.func95 rfl rfl rfl (fun w0 => ?_)
 unfold slices_pdqsortOrdered_uint64 at H
 refine c_weak [(0, Slc.v p0), (1, .int .i64 p1), (2, .int .i64 p2), (3, .int .i64 p3)] ⟨rfl, rfl, rfl, rfl, trivial⟩ ?_
 refine c_seq (c_region ?_)
 refine wP tok ?_
 refine w_end (x_seq ?_)
 refine c_seq (c_region ?_)
 refine wP tok ?_
 refine w_end (x_seq (c_block ?_))
 obtain ⟨I1, μ1, H0, HI⟩ := H
 refine c_loop (σ := Int × Int × Int × Bool × Bool) (fun (s : Int × Int × Int × Bool × Bool) => [(1, .int .i64 s.1), (2, .int .i64 s.2.1), (3, .int .i64 s.2.2.1), (8, .bool s.2.2.2.1), (9, .bool s.2.2.2.2), (0, Slc.v p0)]) I1 μ1 (p1, p2, p3, true, true) H0 ⟨rfl, rfl, rfl, rfl, rfl, rfl, trivial⟩ ?_
 rintro ⟨t1_1, t2_1, t3_1, t8_1, t9_1⟩ h_1 H
 replace H := HI t1_1 t2_1 t3_1 t8_1 t9_1 h_1 H
 unfold slices_pdqsortOrdered_uint64_l1b at H
 refine c_weak [(1, .int .i64 t1_1), (2, .int .i64 t2_1), (3, .int .i64 t3_1), (8, .bool t8_1), (9, .bool t9_1), (0, Slc.v p0)] ⟨rfl, rfl, rfl, rfl, rfl, rfl, trivial⟩ ?_
 refine c_block (c_seq (c_region ?_))
 iterate 3 refine wP tok ?_
 obtain ⟨x1, ex1, H⟩ := H
 refine w_pe tok rfl (congrArg (fun z => (.int .i64 z : Value)) ex1) rfl rfl ?_
 refine w_end (x_seq ?_)
 refine c_seq (c_seq (c_region ?_))
 iterate 2 refine wP tok ?_
 refine w_end (x_seq ?_)
 refine c_if H rfl (fun H => ?_) (fun H => ?_)
 ·
  refine c_seq (c_region ?_)
  iterate 3 refine wP tok ?_
  refine w_call slices_insertionSortOrdered_uint64_ok (slices_insertionSortOrdered_uint64_ref _ _ _ _ _ H) rfl rfl rfl rfl ?_
  rintro _ h3 ⟨r2, rfl, H⟩
  refine w_end (x_seq ?_)
  refine c_weak [] trivial ?_
  refine c_ret (x_tr ?_)
  refine x_br ?_
  refine x_tr ?_
  refine x_br ?_
  exact x_ret _ rfl _ rfl ⟨(), rfl, H⟩
 ·
  refine c_skip (x_seq ?_)
  refine c_seq (c_seq (c_region ?_))
  iterate 2 refine wP tok ?_
  refine w_end (x_seq ?_)
  refine c_if H rfl (fun H => ?_) (fun H => ?_)
  ·
   refine c_seq (c_region ?_)
   iterate 3 refine wP tok ?_
   refine w_call slices_heapSortOrdered_uint64_ok (slices_heapSortOrdered_uint64_ref _ _ _ _ _ H) rfl rfl rfl rfl ?_
   rintro _ h5 ⟨r4, rfl, H⟩
   refine w_end (x_seq ?_)
   refine c_weak [] trivial ?_
   refine c_ret (x_tr ?_)
   refine x_br ?_
   refine x_tr ?_
   refine x_br ?_
   exact x_ret _ rfl _ rfl ⟨(), rfl, H⟩
  ·
   refine c_skip (x_seq ?_)
   refine c_weak [(1, .int .i64 t1_1), (2, .int .i64 t2_1), (3, .int .i64 t3_1), (8, .bool t8_1), (9, .bool t9_1), (0, Slc.v p0), (10, .int .i64 x1)] ⟨rfl, rfl, rfl, rfl, rfl, rfl, rfl, trivial⟩ ?_
   refine c_seqJ (α := Int) (fun (s : Int) => [(3, .int .i64 s), (0, Slc.v p0), (1, .int .i64 t1_1), (2, .int .i64 t2_1), (8, .bool t8_1), (9, .bool t9_1), (10, .int .i64 x1)]) (fun (s : Int) h => slices_pdqsortOrdered_uint64_j2 Q p0 t1_1 t2_1 t8_1 t9_1 x1 s k (fun s h' => I1 s h' ∧ μ1 s h' < μ1 (t1_1, t2_1, t3_1, t8_1, t9_1) h_1) h) ?_ ?_
   ·
    rintro t3_2 h_2 H
    replace H : slices_pdqsortOrdered_uint64_j2 Q p0 t1_1 t2_1 t8_1 t9_1 x1 t3_2 k (fun s h' => I1 s h' ∧ μ1 s h' < μ1 (t1_1, t2_1, t3_1, t8_1, t9_1) h_1) h_2 := H
    unfold slices_pdqsortOrdered_uint64_j2 at H
    refine c_weak [(3, .int .i64 t3_2), (0, Slc.v p0), (1, .int .i64 t1_1), (2, .int .i64 t2_1), (8, .bool t8_1), (9, .bool t9_1), (10, .int .i64 x1)] ⟨rfl, rfl, rfl, rfl, rfl, rfl, rfl, trivial⟩ ?_
    refine c_seq (c_region ?_)
    iterate 3 refine wP tok ?_
    refine w_call slices_choosePivotOrdered_uint64_ok (slices_choosePivotOrdered_uint64_ref _ _ _ _ _ H) rfl rfl rfl rfl ?_
    rintro _ h7 ⟨r6, rfl, H⟩
    iterate 5 refine wP tok ?_
    refine w_end (x_seq ?_)
    refine c_weak [(3, .int .i64 t3_2), (0, Slc.v p0), (1, .int .i64 t1_1), (2, .int .i64 t2_1), (8, .bool t8_1), (9, .bool t9_1), (10, .int .i64 x1), (11, .int .i64 r6.1), (12, .int .i64 r6.2)] ⟨rfl, rfl, rfl, rfl, rfl, rfl, rfl, rfl, rfl, trivial⟩ ?_
    refine c_seqJ (α := Int × Int) (fun (s : Int × Int) => [(11, .int .i64 s.1), (12, .int .i64 s.2), (0, Slc.v p0), (1, .int .i64 t1_1), (2, .int .i64 t2_1), (3, .int .i64 t3_2), (8, .bool t8_1), (9, .bool t9_1), (10, .int .i64 x1)]) (fun (s : Int × Int) h => slices_pdqsortOrdered_uint64_j3 Q p0 t1_1 t2_1 t3_2 t8_1 t9_1 x1 s.1 s.2 k (fun s h' => I1 s h' ∧ μ1 s h' < μ1 (t1_1, t2_1, t3_1, t8_1, t9_1) h_1) h) ?_ ?_
    ·
     rintro ⟨t11_3, t12_3⟩ h_3 H
     replace H : slices_pdqsortOrdered_uint64_j3 Q p0 t1_1 t2_1 t3_2 t8_1 t9_1 x1 t11_3 t12_3 k (fun s h' => I1 s h' ∧ μ1 s h' < μ1 (t1_1, t2_1, t3_1, t8_1, t9_1) h_1) h_3 := H
     unfold slices_pdqsortOrdered_uint64_j3 at H
     refine c_weak [(11, .int .i64 t11_3), (12, .int .i64 t12_3), (0, Slc.v p0), (1, .int .i64 t1_1), (2, .int .i64 t2_1), (3, .int .i64 t3_2), (8, .bool t8_1), (9, .bool t9_1), (10, .int .i64 x1)] ⟨rfl, rfl, rfl, rfl, rfl, rfl, rfl, rfl, rfl, trivial⟩ ?_
     refine c_seqJ (α := Unit) (fun (s : Unit) => [(0, Slc.v p0), (1, .int .i64 t1_1), (2, .int .i64 t2_1), (3, .int .i64 t3_2), (8, .bool t8_1), (9, .bool t9_1), (10, .int .i64 x1), (11, .int .i64 t11_3)]) (fun (s : Unit) h => slices_pdqsortOrdered_uint64_j4 Q p0 t1_1 t2_1 t3_2 t8_1 t9_1 x1 t11_3 k (fun s h' => I1 s h' ∧ μ1 s h' < μ1 (t1_1, t2_1, t3_1, t8_1, t9_1) h_1) h) ?_ ?_
     ·
      rintro _ h_4 H
      replace H : slices_pdqsortOrdered_uint64_j4 Q p0 t1_1 t2_1 t3_2 t8_1 t9_1 x1 t11_3 k (fun s h' => I1 s h' ∧ μ1 s h' < μ1 (t1_1, t2_1, t3_1, t8_1, t9_1) h_1) h_4 := H
      unfold slices_pdqsortOrdered_uint64_j4 at H
      refine c_weak [(0, Slc.v p0), (1, .int .i64 t1_1), (2, .int .i64 t2_1), (3, .int .i64 t3_2), (8, .bool t8_1), (9, .bool t9_1), (10, .int .i64 x1), (11, .int .i64 t11_3)] ⟨rfl, rfl, rfl, rfl, rfl, rfl, rfl, rfl, trivial⟩ ?_
      refine c_seq ?_
      refine c_seqJ (α := Bool) (fun (s : Bool) => [(87, .bool s), (0, Slc.v p0), (1, .int .i64 t1_1), (2, .int .i64 t2_1), (3, .int .i64 t3_2), (8, .bool t8_1), (9, .bool t9_1), (10, .int .i64 x1), (11, .int .i64 t11_3)]) (fun (s : Bool) h => slices_pdqsortOrdered_uint64_j5 Q p0 t1_1 t2_1 t3_2 t8_1 t9_1 x1 t11_3 s k (fun s h' => I1 s h' ∧ μ1 s h' < μ1 (t1_1, t2_1, t3_1, t8_1, t9_1) h_1) h) ?_ ?_
      ·
       rintro t87_5 h_5 H
       replace H : slices_pdqsortOrdered_uint64_j5 Q p0 t1_1 t2_1 t3_2 t8_1 t9_1 x1 t11_3 t87_5 k (fun s h' => I1 s h' ∧ μ1 s h' < μ1 (t1_1, t2_1, t3_1, t8_1, t9_1) h_1) h_5 := H
       unfold slices_pdqsortOrdered_uint64_j5 at H
       refine c_weak [(87, .bool t87_5), (0, Slc.v p0), (1, .int .i64 t1_1), (2, .int .i64 t2_1), (3, .int .i64 t3_2), (8, .bool t8_1), (9, .bool t9_1), (10, .int .i64 x1), (11, .int .i64 t11_3)] ⟨rfl, rfl, rfl, rfl, rfl, rfl, rfl, rfl, rfl, trivial⟩ ?_
       refine c_if H rfl (fun H => ?_) (fun H => ?_)
       ·
        refine c_seq (c_region ?_)
        iterate 4 refine wP tok ?_
        refine w_call slices_partitionEqualOrdered_uint64_ok (slices_partitionEqualOrdered_uint64_ref _ _ _ _ _ _ H) rfl rfl rfl rfl ?_
        rintro _ h9 ⟨r8, rfl, H⟩
        refine wP tok ?_
        refine w_end (x_seq ?_)
        refine c_weak [(0, Slc.v p0), (2, .int .i64 t2_1), (3, .int .i64 t3_2), (8, .bool t8_1), (9, .bool t9_1), (13, .int .i64 r8)] ⟨rfl, rfl, rfl, rfl, rfl, rfl, trivial⟩ ?_
        refine c_seq (c_region ?_)
        iterate 2 refine wP tok ?_
        refine w_end (x_seq ?_)
        refine c_exit ?_
        refine x_te ?_
        refine x_bh ?_
        exact x_join (r8, t2_1, t3_2, t8_1, t9_1) H ⟨rfl, rfl, rfl, rfl, rfl, rfl, trivial⟩
       ·
        refine c_skip (x_seq ?_)
        refine c_seq (c_region ?_)
        iterate 4 refine wP tok ?_
        refine w_call slices_partitionOrdered_uint64_ok (slices_partitionOrdered_uint64_ref _ _ _ _ _ _ H) rfl rfl rfl rfl ?_
        rintro _ h11 ⟨r10, rfl, H⟩
        iterate 5 refine wP tok ?_
        refine w_end (x_seq ?_)
        refine c_weak [(0, Slc.v p0), (1, .int .i64 t1_1), (2, .int .i64 t2_1), (3, .int .i64 t3_2), (10, .int .i64 x1), (14, .int .i64 r10.1), (15, .bool r10.2)] ⟨rfl, rfl, rfl, rfl, rfl, rfl, rfl, trivial⟩ ?_
        refine c_seq (c_region ?_)
        iterate 2 refine wP tok ?_
        refine w_end (x_seq ?_)
        refine c_seq (c_region ?_)
        iterate 6 refine wP tok ?_
        obtain ⟨x12, ex12, H⟩ := H
        refine w_pe tok rfl (congrArg (fun z => (.int .i64 z : Value)) ex12) rfl rfl ?_
        obtain ⟨x13, ex13, H⟩ := H
        refine w_pe tok rfl (congrArg (fun z => (.int .i64 z : Value)) ex13) rfl rfl ?_
        refine w_end (x_seq ?_)
        refine c_weak [(0, Slc.v p0), (1, .int .i64 t1_1), (2, .int .i64 t2_1), (3, .int .i64 t3_2), (10, .int .i64 x1), (14, .int .i64 r10.1), (9, .bool r10.2), (16, .int .i64 x12), (17, .int .i64 x13)] ⟨rfl, rfl, rfl, rfl, rfl, rfl, rfl, rfl, rfl, trivial⟩ ?_
        refine c_seq (c_region ?_)
        iterate 2 refine wP tok ?_
        obtain ⟨x14, ex14, H⟩ := H
        refine w_pe tok rfl (congrArg (fun z => (.int .i64 z : Value)) ex14) rfl rfl ?_
        refine w_end (x_seq ?_)
        refine c_seq (c_region ?_)
        iterate 3 refine wP tok ?_
        refine w_end (x_seq ?_)
        refine c_if H rfl (fun H => ?_) (fun H => ?_)
        ·
         refine c_seq (c_region ?_)
         iterate 4 refine wP tok ?_
         refine w_end (x_seq ?_)
         refine c_weak [(0, Slc.v p0), (1, .int .i64 t1_1), (2, .int .i64 t2_1), (3, .int .i64 t3_2), (14, .int .i64 r10.1), (9, .bool r10.2), (8, .bool (decide (x12 ≥ x14)))] ⟨rfl, rfl, rfl, rfl, rfl, rfl, rfl, trivial⟩ ?_
         refine c_seq (c_region ?_)
         iterate 4 refine wP tok ?_
         refine w_call slices_pdqsortOrdered_uint64_ok (Q.R_ref _ _ _ _ _ _ H) rfl rfl rfl rfl ?_
         rintro _ h16 ⟨r15, rfl, H⟩
         refine w_end (x_seq (c_region ?_))
         iterate 2 refine wP tok ?_
         obtain ⟨x17, ex17, H⟩ := H
         refine w_pe tok rfl (congrArg (fun z => (.int .i64 z : Value)) ex17) rfl rfl ?_
         refine w_end ?_
         refine x_blk ?_
         exact x_join (x17, t2_1, t3_2, (decide (x12 ≥ x14)), r10.2) H ⟨rfl, rfl, rfl, rfl, rfl, rfl, trivial⟩
        ·
         refine c_seq (c_region ?_)
         iterate 4 refine wP tok ?_
         refine w_end (x_seq ?_)
         refine c_weak [(0, Slc.v p0), (1, .int .i64 t1_1), (2, .int .i64 t2_1), (3, .int .i64 t3_2), (14, .int .i64 r10.1), (9, .bool r10.2), (8, .bool (decide (x13 ≥ x14)))] ⟨rfl, rfl, rfl, rfl, rfl, rfl, rfl, trivial⟩ ?_
         refine c_seq (c_region ?_)
         iterate 5 refine wP tok ?_
         refine w_call slices_pdqsortOrdered_uint64_ok (Q.R_ref _ _ _ _ _ _ H) rfl rfl rfl rfl ?_
         rintro _ h19 ⟨r18, rfl, H⟩
         refine w_end (x_seq ?_)
         refine c_weak [(0, Slc.v p0), (1, .int .i64 t1_1), (3, .int .i64 t3_2), (14, .int .i64 r10.1), (9, .bool r10.2), (8, .bool (decide (x13 ≥ x14)))] ⟨rfl, rfl, rfl, rfl, rfl, rfl, trivial⟩ ?_
         refine c_region ?_
         iterate 2 refine wP tok ?_
         refine w_end ?_
         refine x_blk ?_
         exact x_join (t1_1, r10.1, t3_2, (decide (x13 ≥ x14)), r10.2) H ⟨rfl, rfl, rfl, rfl, rfl, rfl, trivial⟩
      ·
       refine c_sim [(0, Slc.v p0), (1, .int .i64 t1_1), (2, .int .i64 t2_1), (3, .int .i64 t3_2), (8, .bool t8_1), (9, .bool t9_1), (10, .int .i64 x1), (11, .int .i64 t11_3)] (by kernel_rfl) (by kernel_rfl) ⟨rfl, rfl, rfl, rfl, rfl, rfl, rfl, rfl, trivial⟩ (fun wf => ?_)
       refine sQ 0 [(1, .int .i64 t1_1)] (some 73) tok wf ⟨rfl, trivial⟩ (fun P_0 => ?_)
       refine sQ 1 [(73, .int .i64 t1_1)] (some 74) tok wf ⟨rfl, trivial⟩ (fun P_1 => ?_)
       refine sQ 2 [(74, .bool (decide (t1_1 > 0)))] (some 75) tok wf ⟨rfl, trivial⟩ (fun P_2 => ?_)
       refine sim_gif 75 H rfl (fun hb H => ?_) (fun hb H => ?_)
       ·
        refine sQ 3 [(0, Slc.v p0), (75, .bool true)] (some 76) tok wf ⟨rfl, rfl, trivial⟩ (fun P_3 => ?_)
        refine sQ 4 [(1, .int .i64 t1_1), (75, .bool true)] (some 77) tok wf ⟨rfl, rfl, trivial⟩ (fun P_4 => ?_)
        refine sQ 5 [(75, .bool true), (77, .int .i64 t1_1)] (some 78) tok wf ⟨rfl, rfl, trivial⟩ (fun P_5 => ?_)
        obtain ⟨a20, ha20, la20, ua20, H⟩ := H
        refine sP 6 [(75, .bool true), (76, Slc.v p0), (78, .int .i64 (IntKind.i64.wrap (t1_1 - 1)))] (some 79) wf ⟨rfl, rfl, rfl, trivial⟩ (fun _ => pf_y rfl rfl rfl (y_ixa' tok rfl rfl ha20 rfl rfl rfl la20 ua20)) (fun P_6 => ?_)
        obtain ⟨v21, hv21, H⟩ := H
        refine sL 7 [(75, .bool true), (79, .pointer (some (a20.add ((IntKind.i64.wrap (t1_1 - 1)).toNat * 1))))] (some 80) wf ⟨rfl, rfl, trivial⟩ (pf_y rfl rfl rfl (y_ld tok rfl rfl rfl rfl hv21)) (fun P_7 => ?_)
        refine sQ 8 [(0, Slc.v p0), (75, .bool true)] (some 81) tok wf ⟨rfl, rfl, trivial⟩ (fun P_8 => ?_)
        refine sQ 9 [(11, .int .i64 t11_3), (75, .bool true)] (some 82) tok wf ⟨rfl, rfl, trivial⟩ (fun P_9 => ?_)
        obtain ⟨a22, ha22, la22, ua22, H⟩ := H
        refine sP 10 [(75, .bool true), (81, Slc.v p0), (82, .int .i64 t11_3)] (some 83) wf ⟨rfl, rfl, rfl, trivial⟩ (fun _ => pf_y rfl rfl rfl (y_ixa' tok rfl rfl ha22 rfl rfl rfl la22 ua22)) (fun P_10 => ?_)
        obtain ⟨v23, hv23, H⟩ := H
        refine sL 11 [(75, .bool true), (83, .pointer (some (a22.add (t11_3.toNat * 1))))] (some 84) wf ⟨rfl, rfl, trivial⟩ (pf_y rfl rfl rfl (y_ld tok rfl rfl rfl rfl hv23)) (fun P_11 => ?_)
        refine sim_c 12 [0, 1, 2, 3, 4, 5, 6, 7, 8, 9, 10, 11] [0, 1, 2, 3, 4, 5, 6, 7, 8, 9, 10, 11] (ei := [(75, .bool true), (80, .int .u64 v21), (84, .int .u64 v23)]) cmp_Less_uint64_ok (cmp_Less_uint64_ref _ _ _ _ H) wf ⟨P_11, P_10 _, P_9 _, P_8 _, P_7, P_6 _, P_5 _, P_4 _, P_3 _, P_2 _, P_1 _, P_0 _, trivial⟩ (by kernel_rfl) ⟨rfl, rfl, rfl, trivial⟩ (by kernel_rfl) rfl rfl rfl rfl rfl ?_
        rintro _ h25 ⟨r24, rfl, H⟩
        refine sQ 13 [(75, .bool true), (85, .bool r24)] (some 86) tok wf ⟨rfl, rfl, trivial⟩ (fun P_13 => ?_)
        refine sQ 14 [(75, .bool true), (86, .bool (!r24))] (some 87) tok wf ⟨rfl, rfl, trivial⟩ (fun P_14 => ?_)
        refine sim_end wf ⟨P_14 _, P_13 _, trivial, trivial, trivial, trivial, trivial, trivial, trivial, trivial, trivial, trivial, trivial, trivial, trivial⟩ (by kernel_rfl) ?_
        clear wf P_0 P_1 P_10 P_11 P_13 P_14 P_2 P_3 P_4 P_5 P_6 P_7 P_8 P_9
        exact x_join (!r24) H ⟨rfl, rfl, rfl, rfl, rfl, rfl, rfl, rfl, rfl, trivial⟩
       ·
        refine sim_p 3 (v := undef) (ei := [(0, Slc.v p0), (75, .bool false)]) (d := (some 76)) wf (by kernel_rfl) ⟨rfl, rfl, trivial⟩ (by kernel_rfl) (by kernel_rfl) (fun _ => pf_s rfl rfl rfl) (fun P_3 => ?_)
        refine sim_p 4 (v := undef) (ei := [(1, .int .i64 t1_1), (75, .bool false)]) (d := (some 77)) wf (by kernel_rfl) ⟨rfl, rfl, trivial⟩ (by kernel_rfl) (by kernel_rfl) (fun _ => pf_s rfl rfl rfl) (fun P_4 => ?_)
        refine sim_p 5 (v := undef) (ei := [(75, .bool false), (77, undef)]) (d := (some 78)) wf (by kernel_rfl) ⟨rfl, rfl, trivial⟩ (by kernel_rfl) (by kernel_rfl) (fun _ => pf_s rfl rfl rfl) (fun P_5 => ?_)
        refine sim_p 6 (v := undef) (ei := [(75, .bool false), (76, undef), (78, undef)]) (d := (some 79)) wf (by kernel_rfl) ⟨rfl, rfl, rfl, trivial⟩ (by kernel_rfl) (by kernel_rfl) (fun _ => pf_s rfl rfl rfl) (fun P_6 => ?_)
        refine sim_p 7 (v := undef) (ei := [(75, .bool false), (79, undef)]) (d := (some 80)) wf (by kernel_rfl) ⟨rfl, rfl, trivial⟩ (by kernel_rfl) (by kernel_rfl) (fun _ => pf_s rfl rfl rfl) (fun P_7 => ?_)
        refine sim_p 8 (v := undef) (ei := [(0, Slc.v p0), (75, .bool false)]) (d := (some 81)) wf (by kernel_rfl) ⟨rfl, rfl, trivial⟩ (by kernel_rfl) (by kernel_rfl) (fun _ => pf_s rfl rfl rfl) (fun P_8 => ?_)
        refine sim_p 9 (v := undef) (ei := [(11, .int .i64 t11_3), (75, .bool false)]) (d := (some 82)) wf (by kernel_rfl) ⟨rfl, rfl, trivial⟩ (by kernel_rfl) (by kernel_rfl) (fun _ => pf_s rfl rfl rfl) (fun P_9 => ?_)
        refine sim_p 10 (v := undef) (ei := [(75, .bool false), (81, undef), (82, undef)]) (d := (some 83)) wf (by kernel_rfl) ⟨rfl, rfl, rfl, trivial⟩ (by kernel_rfl) (by kernel_rfl) (fun _ => pf_s rfl rfl rfl) (fun P_10 => ?_)
        refine sim_p 11 (v := undef) (ei := [(75, .bool false), (83, undef)]) (d := (some 84)) wf (by kernel_rfl) ⟨rfl, rfl, trivial⟩ (by kernel_rfl) (by kernel_rfl) (fun _ => pf_s rfl rfl rfl) (fun P_11 => ?_)
        refine sim_p 12 (v := undef) (ei := [(75, .bool false), (80, undef), (84, undef)]) (d := (some 85)) wf (by kernel_rfl) ⟨rfl, rfl, rfl, trivial⟩ (by kernel_rfl) (by kernel_rfl) (fun _ => pf_s rfl rfl rfl) (fun P_12 => ?_)
        refine sim_p 13 (v := undef) (ei := [(75, .bool false), (85, undef)]) (d := (some 86)) wf (by kernel_rfl) ⟨rfl, rfl, trivial⟩ (by kernel_rfl) (by kernel_rfl) (fun _ => pf_s rfl rfl rfl) (fun P_13 => ?_)
        refine sQ 14 [(75, .bool false), (86, undef)] (some 87) tok wf ⟨rfl, rfl, trivial⟩ (fun P_14 => ?_)
        refine sim_end wf ⟨P_14 _, P_13 _, P_12 _, P_11 _, P_10 _, P_9 _, P_8 _, P_7 _, P_6 _, P_5 _, P_4 _, P_3 _, P_2 _, P_1 _, P_0 _, trivial⟩ (by kernel_rfl) ?_
        clear wf P_0 P_1 P_10 P_11 P_12 P_13 P_14 P_2 P_3 P_4 P_5 P_6 P_7 P_8 P_9
        exact x_join false H ⟨rfl, rfl, rfl, rfl, rfl, rfl, rfl, rfl, rfl, trivial⟩
     ·
      refine c_seq (c_region ?_)
      iterate 2 refine wP tok ?_
      refine w_cutU 2 [(64, .bool (t8_1 && t9_1)), (0, Slc.v p0), (1, .int .i64 t1_1), (2, .int .i64 t2_1), (3, .int .i64 t3_2), (8, .bool t8_1), (9, .bool t9_1), (10, .int .i64 x1), (11, .int .i64 t11_3), (12, .int .i64 t12_3)] ?_ ?_
      ·
       refine wP tok ?_
       refine w_cutU 3 [(68, .bool ((t8_1 && t9_1) && (t12_3 == 1))), (0, Slc.v p0), (1, .int .i64 t1_1), (2, .int .i64 t2_1), (3, .int .i64 t3_2), (8, .bool t8_1), (9, .bool t9_1), (10, .int .i64 x1), (11, .int .i64 t11_3)] ?_ ?_
       ·
        refine w_end (x_seq ?_)
        refine c_if H rfl (fun H => ?_) (fun H => ?_)
        ·
         refine c_seq (c_region ?_)
         iterate 3 refine wP tok ?_
         refine w_call slices_partialInsertionSortOrdered_uint64_ok (slices_partialInsertionSortOrdered_uint64_ref _ _ _ _ _ H) rfl rfl rfl rfl ?_
         rintro _ h27 ⟨r26, rfl, H⟩
         refine w_end (x_seq ?_)
         refine c_if H rfl (fun H => ?_) (fun H => ?_)
         ·
          refine c_ret (x_tr ?_)
          refine x_br ?_
          refine x_tr ?_
          refine x_br ?_
          exact x_ret _ rfl _ rfl ⟨(), rfl, H⟩
         ·
          refine c_skip ?_
          exact x_join () H ⟨rfl, rfl, rfl, rfl, rfl, rfl, rfl, rfl, trivial⟩
        ·
         refine c_skip ?_
         exact x_join () H ⟨rfl, rfl, rfl, rfl, rfl, rfl, rfl, rfl, trivial⟩
       ·
        refine w_gs (d := 65) rfl (fun hb => ?_) (fun hb => ?_)
        ·
         iterate 3 refine wP tok ?_
         refine w_jn () rfl ⟨?_, rfl, rfl, rfl, rfl, rfl, rfl, rfl, rfl, trivial⟩
         exact congrArg (fun b => some (Value.bool b)) (and_t hb)
        ·
         iterate 2 refine w_skip rfl rfl ?_
         refine wP tok ?_
         refine w_jn () rfl ⟨?_, rfl, rfl, rfl, rfl, rfl, rfl, rfl, rfl, trivial⟩
         exact congrArg (fun b => some (Value.bool b)) (and_f hb)
      ·
       refine w_gs (d := 62) rfl (fun hb => ?_) (fun hb => ?_)
       ·
        iterate 2 refine wP tok ?_
        refine w_jn () rfl ⟨?_, rfl, rfl, rfl, rfl, rfl, rfl, rfl, rfl, rfl, trivial⟩
        exact congrArg (fun b => some (Value.bool b)) (and_t hb)
       ·
        refine w_skip rfl rfl ?_
        refine wP tok ?_
        refine w_jn () rfl ⟨?_, rfl, rfl, rfl, rfl, rfl, rfl, rfl, rfl, rfl, trivial⟩
        exact congrArg (fun b => some (Value.bool b)) (and_f hb)
    ·
     refine c_seq (c_region ?_)
     iterate 2 refine wP tok ?_
     refine w_end (x_seq ?_)
     refine c_if H rfl (fun H => ?_) (fun H => ?_)
     ·
      refine c_seq (c_region ?_)
      iterate 3 refine wP tok ?_
      refine w_call slices_reverseRangeOrdered_uint64_ok (slices_reverseRangeOrdered_uint64_ref _ _ _ _ _ H) rfl rfl rfl rfl ?_
      rintro _ h29 ⟨r28, rfl, H⟩
      refine w_end (x_seq ?_)
      refine c_weak [(3, .int .i64 t3_2), (0, Slc.v p0), (1, .int .i64 t1_1), (2, .int .i64 t2_1), (8, .bool t8_1), (9, .bool t9_1), (10, .int .i64 x1), (11, .int .i64 r6.1)] ⟨rfl, rfl, rfl, rfl, rfl, rfl, rfl, rfl, trivial⟩ ?_
      refine c_seq (c_region ?_)
      iterate 6 refine wP tok ?_
      obtain ⟨x30, ex30, H⟩ := H
      refine w_pe tok rfl (congrArg (fun z => (.int .i64 z : Value)) ex30) rfl rfl ?_
      refine w_end (x_seq (c_region ?_))
      refine wP tok ?_
      refine w_end ?_
      exact x_join (x30, 1) H ⟨rfl, rfl, rfl, rfl, rfl, rfl, rfl, rfl, rfl, trivial⟩
     ·
      refine c_skip ?_
      exact x_join (r6.1, r6.2) H ⟨rfl, rfl, rfl, rfl, rfl, rfl, rfl, rfl, rfl, trivial⟩
   ·
    refine c_seq (c_region ?_)
    iterate 2 refine wP tok ?_
    refine w_end (x_seq ?_)
    refine c_if H rfl (fun H => ?_) (fun H => ?_)
    ·
     refine c_seq (c_region ?_)
     iterate 3 refine wP tok ?_
     refine w_call slices_breakPatternsOrdered_uint64_ok (slices_breakPatternsOrdered_uint64_ref _ _ _ _ _ H) rfl rfl rfl rfl ?_
     rintro _ h32 ⟨r31, rfl, H⟩
     refine w_end (x_seq (c_region ?_))
     iterate 2 refine wP tok ?_
     obtain ⟨x33, ex33, H⟩ := H
     refine w_pe tok rfl (congrArg (fun z => (.int .i64 z : Value)) ex33) rfl rfl ?_
     refine w_end ?_
     exact x_join x33 H ⟨rfl, rfl, rfl, rfl, rfl, rfl, rfl, trivial⟩
    ·
     refine c_skip ?_
     exact x_join t3_1 H ⟨rfl, rfl, rfl, rfl, rfl, rfl, rfl, trivial⟩
end Go.Q.Yh

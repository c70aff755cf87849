/- A part of the proof of statements of this seat: lemmas, no statement of their own. -/
import Derived.Test.YthjafnfadiijgaaYhTab
import Derived.Test.YthjafnfadiijgaaYhVtI
-- squeezed
set_option linter.unusedVariables false
set_option maxRecDepth 100000
set_option maxHeartbeats 1000000
namespace Go.Q.Yh
/-- slices.Sort   uint64 uint64  -/
def slices_Sort_uint64_uint64 (p0 : Slc) (k : (Unit) → Heap → Prop) (h : Heap) : Prop :=
 ∃ x1 : Int, x1 = (p0.len : Int) ∧ (math_bits_Len (IntKind.u64.wrap x1) (fun (r2 : Int) h3 => slices_pdqsortOrdered_uint64 (pdqQ 40) p0 0 x1 r2 (fun (r4 : Unit) h5 => k () h5) h3) h)

/-- slices.Sorted uint64  -/
def slices_Sorted_uint64 (p0 : Value) (k : (Slc) → Heap → Prop) (h : Heap) : Prop :=
 slices_Collect_uint64 p0 (fun (r1 : Slc) h2 => slices_Sort_uint64_uint64 r1 (fun (r3 : Unit) h4 => k r1 h4) h2) h

/-- quaestor vote.Commit -/
def vote_Commit (p0 : Slc) (k : (Int) → Heap → Prop) (h : Heap) : Prop :=
 if ((p0.len : Int) == 0) then (k 0 h) else (slices_Values_uint64_uint64 p0 (fun (r1 : Value) h2 => slices_Sorted_uint64 r1 (fun (r3 : Slc) h4 => vote_Half (r3.len : Int) (fun (r5 : Int) h6 => ∃ a7 : Addr, r3.a = some a7 ∧ (0 : Int) ≤ (IntKind.i64.wrap ((r3.len : Int) - r5)) ∧ (IntKind.i64.wrap ((r3.len : Int) - r5)) < (r3.len : Int) ∧ (∃ v8 : Int, cellH h6 (a7.add ((IntKind.i64.wrap ((r3.len : Int) - r5)).toNat * 1)) = some (.int .u64 v8) ∧ (k v8 h6))) h4) h2) h)

theorem slices_Sort_uint64_uint64_ok : CallOk Go.Proofs.Try.prog 92 := ⟨_, Go.Proofs.Try.func92, by kernel_rfl, by kernel_rfl⟩
theorem slices_Sort_uint64_uint64_ref (p0 : Slc) (k : (Unit) → Heap → Prop) (h : Heap) (H : slices_Sort_uint64_uint64 p0 k h) : CallsH Go.Proofs.Try.prog 92 #[Slc.v p0] h (fun v h' => ∃ r : Unit, v = .tuple #[] ∧ k r h') := by
 refine f_enter (N := 11) Go.Proofs.Try.func92 rfl rfl rfl (fun w0 => ?_)
 unfold slices_Sort_uint64_uint64 at H
 refine c_weak [(0, Slc.v p0)] ⟨rfl, trivial⟩ ?_
 refine c_seq (c_region ?_)
 iterate 2 refine wP tok ?_
 obtain ⟨x1, ex1, H⟩ := H
 refine w_pe tok rfl (congrArg (fun z => (.int .i64 z : Value)) ex1) rfl rfl ?_
 refine w_end (x_seq (c_region ?_))
 iterate 4 refine wP tok ?_
 refine w_call math_bits_Len_ok (math_bits_Len_ref _ _ _ H) rfl rfl rfl rfl ?_
 rintro _ h3 ⟨r2, rfl, H⟩
 refine w_call slices_pdqsortOrdered_uint64_ok (slices_pdqsortOrdered_uint64_ref (pdqQ 40) _ _ _ _ _ _ H) rfl rfl rfl rfl ?_
 rintro _ h5 ⟨r4, rfl, H⟩
 refine w_end ?_
 exact x_end _ rfl _ rfl ⟨(), rfl, H⟩

theorem slices_Sorted_uint64_ok : CallOk Go.Proofs.Try.prog 88 := ⟨_, Go.Proofs.Try.func88, by kernel_rfl, by kernel_rfl⟩
theorem slices_Sorted_uint64_ref (p0 : Value) (k : (Slc) → Heap → Prop) (h : Heap) (H : slices_Sorted_uint64 p0 k h) : CallsH Go.Proofs.Try.prog 88 #[p0] h (fun v h' => ∃ r : Slc, v = Slc.v r ∧ k r h') := by
 refine f_enter (N := 9) Go.Proofs.Try.func88 rfl rfl rfl (fun w0 => ?_)
 unfold slices_Sorted_uint64 at H
 refine c_weak [(0, p0)] ⟨rfl, trivial⟩ ?_
 refine c_seq (c_region ?_)
 refine wP tok ?_
 refine w_end (x_seq ?_)
 refine c_seq (c_region ?_)
 refine wP tok ?_
 refine w_call slices_Collect_uint64_ok (slices_Collect_uint64_ref _ _ _ H) rfl rfl rfl rfl ?_
 rintro _ h2 ⟨r1, rfl, H⟩
 refine wP tok ?_
 refine w_end (x_seq ?_)
 refine c_seq (c_region ?_)
 refine wP tok ?_
 refine w_call slices_Sort_uint64_uint64_ok (slices_Sort_uint64_uint64_ref _ _ _ H) rfl rfl rfl rfl ?_
 rintro _ h4 ⟨r3, rfl, H⟩
 refine w_end (x_seq ?_)
 refine c_seq (c_region ?_)
 iterate 2 refine wP tok ?_
 refine w_end (x_seq ?_)
 refine c_weak [(2, Slc.v r1)] ⟨rfl, trivial⟩ ?_
 refine c_ret ?_
 exact x_ret _ rfl _ rfl ⟨r1, rfl, H⟩

theorem vote_Commit_ok : CallOk Go.Proofs.Try.prog 83 := ⟨_, Go.Proofs.Try.func83, by kernel_rfl, by kernel_rfl⟩
theorem vote_Commit_ref (p0 : Slc) (k : (Int) → Heap → Prop) (h : Heap) (H : vote_Commit p0 k h) : CallsH Go.Proofs.Try.prog 83 #[Slc.v p0] h (fun v h' => ∃ r : Int, v = .int .u64 r ∧ k r h') := by
 refine f_enter (N := 19) Go.Proofs.Try.func83 rfl rfl rfl (fun w0 => ?_)
 unfold vote_Commit at H
 refine c_weak [(0, Slc.v p0)] ⟨rfl, trivial⟩ ?_
 refine c_seq (c_region ?_)
 refine wP tok ?_
 refine w_end (x_seq ?_)
 refine c_seq (c_seq (c_region ?_))
 iterate 3 refine wP tok ?_
 refine w_end (x_seq ?_)
 refine c_if H rfl (fun H => ?_) (fun H => ?_)
 ·
  refine c_seq (c_region ?_)
  refine wP tok ?_
  refine w_end (x_seq ?_)
  refine c_ret (x_tr ?_)
  exact x_ret _ rfl _ rfl ⟨0, rfl, H⟩
 ·
  refine c_skip (x_seq ?_)
  refine c_seq (c_region ?_)
  refine wP tok ?_
  refine w_call slices_Values_uint64_uint64_ok (slices_Values_uint64_uint64_ref _ _ _ H) rfl rfl rfl rfl ?_
  rintro _ h2 ⟨r1, rfl, H⟩
  refine w_call slices_Sorted_uint64_ok (slices_Sorted_uint64_ref _ _ _ H) rfl rfl rfl rfl ?_
  rintro _ h4 ⟨r3, rfl, H⟩
  refine wP tok ?_
  refine w_end (x_seq ?_)
  refine c_weak [(3, Slc.v r3)] ⟨rfl, trivial⟩ ?_
  refine c_seq (c_region ?_)
  iterate 5 refine wP tok ?_
  refine w_call vote_Half_ok (vote_Half_ref _ _ _ H) rfl rfl rfl rfl ?_
  rintro _ h6 ⟨r5, rfl, H⟩
  refine wP tok ?_
  obtain ⟨a7, ha7, la7, ua7, H⟩ := H
  refine w_y (y_ixa' tok rfl rfl ha7 rfl rfl rfl la7 ua7) rfl rfl ?_
  obtain ⟨v8, hv8, H⟩ := H
  refine w_y (y_ld tok rfl rfl rfl rfl hv8) rfl rfl ?_
  refine wP tok ?_
  refine w_end (x_seq ?_)
  refine c_weak [(2, .int .u64 v8)] ⟨rfl, trivial⟩ ?_
  refine c_ret ?_
  exact x_ret _ rfl _ rfl ⟨v8, rfl, H⟩
end Go.Q.Yh
